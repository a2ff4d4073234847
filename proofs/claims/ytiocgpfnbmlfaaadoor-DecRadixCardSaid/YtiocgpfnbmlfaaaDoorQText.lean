/- What the program's Print and PrintReal write, in plain words (for the tied seat: the reference's Print isn't reached here). -/
import Derived.Test.YtiocgpfnbmlfaaaDoorPQx2
import Derived.Test.YtiocgpfnbmlfaaaDoorGPl
import Derived.Test.YtiocgpfnbmlfaaaDoorQS
namespace Go.Proofs.YtiocgpfnbmlfaaaDoor.QD
open Go Go.RowKit Go.Proofs.YtiocgpfnbmlfaaaDoor.PQ Go.Proofs.YtiocgpfnbmlfaaaDoorW.PrintWords Go.Proofs.YtiocgpfnbmlfaaaDoorW.PrintLast

/-- what stands behind the whole part -/
def tail : List UInt8 → List UInt8
  | [] => []
  | r => 46 :: r
def text (z : Int) : List UInt8 := signL (clip z) ++ digs ((clip z).natAbs / 65536) ++ tail (fracs 16 ((clip z).natAbs % 65536))
/-- .. with a point in any case -/
def tailR : List UInt8 → List UInt8
  | [] => [46, 48]
  | r => 46 :: r
def textR (z : Int) : List UInt8 := signL (clip z) ++ digs ((clip z).natAbs / 65536) ++ tailR (fracs 16 ((clip z).natAbs % 65536))

theorem fracs_len (k : Nat) : ∀ f, (fracs k f).length ≤ k := by
  induction k with
  | zero => intro f; simp [fracs]
  | succ k ih =>
    intro f
    by_cases h : f = 0
    · rw [h, fracs_zero]; simp
    · rw [fracs_succ h]; have := ih (f * 10 % 65536); simp; omega

theorem clip_lt (z : Int) : (clip z).natAbs ≤ 2147483648 := by
  unfold clip fitsB
  split
  · rename_i h
    simp at h
    omega
  · simp

theorem sign_len (z : Int) : (signL z).length ≤ 1 := by unfold signL; split <;> simp

theorem whole_len (z : Int) : (digs ((clip z).natAbs / 65536)).length ≤ 6 := digs_len _ (by have := clip_lt z; omega)

theorem dec_Print_f (z : Int) : dec_Print.f z = some (S (text z)) := by
  have h1 := sign_len (clip z)
  have h2 := whole_len z
  have h3 := fracs_len 16 ((clip z).natAbs % 65536)
  unfold dec_Print.f dec_parts.f
  simp only [Option.bind_some]
  show (if (S (fracs 16 ((clip z).natAbs % 65536))).toList = [] then if (S (signL (clip z))).size + (S (digs ((clip z).natAbs / 65536))).size ≤ 9223372036854775807 then some (S (signL (clip z)) ++ S (digs ((clip z).natAbs / 65536))) else none
    else if (S (signL (clip z))).size + (S (digs ((clip z).natAbs / 65536))).size ≤ 9223372036854775807 then
      if (S (signL (clip z)) ++ S (digs ((clip z).natAbs / 65536))).size + 1 ≤ 9223372036854775807 then
        if (S (signL (clip z)) ++ S (digs ((clip z).natAbs / 65536)) ++ S [46]).size + (S (fracs 16 ((clip z).natAbs % 65536))).size ≤ 9223372036854775807 then
          some (S (signL (clip z)) ++ S (digs ((clip z).natAbs / 65536)) ++ S [46] ++ S (fracs 16 ((clip z).natAbs % 65536)))
        else none else none else none) = _
  simp only [S_append, S_size, S_list]
  unfold text
  generalize fracs 16 ((clip z).natAbs % 65536) = r at *
  generalize digs ((clip z).natAbs / 65536) = d at *
  generalize signL (clip z) = s at *
  cases r with
  | nil => rw [if_pos rfl, if_pos (by omega)]; simp [tail]
  | cons c r =>
    simp only [List.length_cons] at h3
    rw [if_neg (by simp), if_pos (by omega), if_pos (by simp; omega), if_pos (by simp; omega)]
    simp [tail]

theorem dec_PrintReal_f (z : Int) : dec_PrintReal.f z = some (S (textR z)) := by
  have h1 := sign_len (clip z)
  have h2 := whole_len z
  have h3 := fracs_len 16 ((clip z).natAbs % 65536)
  unfold dec_PrintReal.f dec_parts.f
  simp only [Option.bind_some]
  show (if (S (fracs 16 ((clip z).natAbs % 65536))).toList = [] then
      if (S (signL (clip z))).size + (S (digs ((clip z).natAbs / 65536))).size ≤ 9223372036854775807 then
      if (S (signL (clip z)) ++ S (digs ((clip z).natAbs / 65536))).size + 1 ≤ 9223372036854775807 then
        if (S (signL (clip z)) ++ S (digs ((clip z).natAbs / 65536)) ++ S [46]).size + 1 ≤ 9223372036854775807 then
          some (S (signL (clip z)) ++ S (digs ((clip z).natAbs / 65536)) ++ S [46] ++ S [48])
        else none else none else none
    else if (S (signL (clip z))).size + (S (digs ((clip z).natAbs / 65536))).size ≤ 9223372036854775807 then
      if (S (signL (clip z)) ++ S (digs ((clip z).natAbs / 65536))).size + 1 ≤ 9223372036854775807 then
        if (S (signL (clip z)) ++ S (digs ((clip z).natAbs / 65536)) ++ S [46]).size + (S (fracs 16 ((clip z).natAbs % 65536))).size ≤ 9223372036854775807 then
          some (S (signL (clip z)) ++ S (digs ((clip z).natAbs / 65536)) ++ S [46] ++ S (fracs 16 ((clip z).natAbs % 65536)))
        else none else none else none) = _
  simp only [S_append, S_size, S_list]
  unfold textR
  generalize fracs 16 ((clip z).natAbs % 65536) = r at *
  generalize digs ((clip z).natAbs / 65536) = d at *
  generalize signL (clip z) = s at *
  cases r with
  | nil => rw [if_pos rfl, if_pos (by omega), if_pos (by simp; omega), if_pos (by simp; omega)]; simp [tailR]
  | cons c r =>
    simp only [List.length_cons] at h3
    rw [if_neg (by simp), if_pos (by omega), if_pos (by simp; omega), if_pos (by simp; omega)]
    simp [tailR]

theorem text_len (z : Int) : (text z).length ≤ 24 := by
  have h1 := sign_len (clip z)
  have h2 := whole_len z
  have h3 := fracs_len 16 ((clip z).natAbs % 65536)
  unfold text
  have h4 : (tail (fracs 16 ((clip z).natAbs % 65536))).length ≤ 17 := by
    cases h : fracs 16 ((clip z).natAbs % 65536) with
    | nil => simp [tail]
    | cons c r => rw [h] at h3; simp [tail] at *; omega
  simp
  omega

theorem answers_f : mezzotintlaw02_answers.f = some true := by
  unfold mezzotintlaw02_answers.f
  rw [dec_Print_f, dec_PrintReal_f]
  simp only [Option.bind_some, S_list]
  have h1 : text 32768 = [48, 46, 53] := by
    have : clip 32768 = 32768 := by decide
    unfold text
    rw [this, digs_small (by decide)]
    decide
  have h2 : textR 65536 = [49, 46, 48] := by
    have : clip 65536 = 65536 := by decide
    unfold textR
    rw [this, digs_small (by decide)]
    decide
  rw [h1, h2]
  rfl

end Go.Proofs.YtiocgpfnbmlfaaaDoor.QD
