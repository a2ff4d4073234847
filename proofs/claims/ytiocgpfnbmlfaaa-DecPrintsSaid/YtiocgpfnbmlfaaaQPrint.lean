/- Print and PrintReal: the program's and the reference's come to one text. -/
import Derived.Test.YtiocgpfnbmlfaaaQDec
namespace Go.Proofs.Ytiocgpfnbmlfaaa.QD
open Go Go.RowKit Go.Proofs.Ytiocgpfnbmlfaaa.PQ Go.Proofs.YtiocgpfnbmlfaaaW.PrintWords Go.Proofs.YtiocgpfnbmlfaaaW.PrintLast

/-- what stands behind the whole part -/
def tail : List UInt8 → List UInt8
  | [] => []
  | r => 46 :: r
def text (z : Int) : List UInt8 := signL (clip z) ++ digs ((clip z).natAbs / 65536) ++ tail (fracs 16 ((clip z).natAbs % 65536))
/-- .. with a point in any case -/
def tailR : List UInt8 → List UInt8
  | [] => [46, 48]
  | r => 46 :: r
def textR (z : Int) : List UInt8 := signL (clip z) ++ digs ((clip z).natAbs / 65536) ++ tailR (fracs 16 ((clip z).natAbs % 65536))

theorem fracs_len (k : Nat) : ∀ f, (fracs k f).length ≤ k := by
  induction k with
  | zero => intro f; simp [fracs]
  | succ k ih =>
    intro f
    by_cases h : f = 0
    · rw [h, fracs_zero]; simp
    · rw [fracs_succ h]; have := ih (f * 10 % 65536); simp; omega

theorem clip_lt (z : Int) : (clip z).natAbs ≤ 2147483648 := by
  unfold clip fitsB
  split
  · rename_i h
    simp at h
    omega
  · simp

theorem sign_len (z : Int) : (signL z).length ≤ 1 := by unfold signL; split <;> simp

theorem whole_len (z : Int) : (digs ((clip z).natAbs / 65536)).length ≤ 6 := digs_len _ (by have := clip_lt z; omega)

theorem dec_Print_f (z : Int) : dec_Print.f z = some (S (text z)) := by
  have h1 := sign_len (clip z)
  have h2 := whole_len z
  have h3 := fracs_len 16 ((clip z).natAbs % 65536)
  unfold dec_Print.f dec_parts.f
  simp only [Option.bind_some]
  show (if (S (fracs 16 ((clip z).natAbs % 65536))).toList = [] then if (S (signL (clip z))).size + (S (digs ((clip z).natAbs / 65536))).size ≤ 9223372036854775807 then some (S (signL (clip z)) ++ S (digs ((clip z).natAbs / 65536))) else none
    else if (S (signL (clip z))).size + (S (digs ((clip z).natAbs / 65536))).size ≤ 9223372036854775807 then
      if (S (signL (clip z)) ++ S (digs ((clip z).natAbs / 65536))).size + 1 ≤ 9223372036854775807 then
        if (S (signL (clip z)) ++ S (digs ((clip z).natAbs / 65536)) ++ S [46]).size + (S (fracs 16 ((clip z).natAbs % 65536))).size ≤ 9223372036854775807 then
          some (S (signL (clip z)) ++ S (digs ((clip z).natAbs / 65536)) ++ S [46] ++ S (fracs 16 ((clip z).natAbs % 65536)))
        else none else none else none) = _
  simp only [S_append, S_size, S_list]
  unfold text
  generalize fracs 16 ((clip z).natAbs % 65536) = r at *
  generalize digs ((clip z).natAbs / 65536) = d at *
  generalize signL (clip z) = s at *
  cases r with
  | nil => rw [if_pos rfl, if_pos (by omega)]; simp [tail]
  | cons c r =>
    simp only [List.length_cons] at h3
    rw [if_neg (by simp), if_pos (by omega), if_pos (by simp; omega), if_pos (by simp; omega)]
    simp [tail]

theorem dec_PrintReal_f (z : Int) : dec_PrintReal.f z = some (S (textR z)) := by
  have h1 := sign_len (clip z)
  have h2 := whole_len z
  have h3 := fracs_len 16 ((clip z).natAbs % 65536)
  unfold dec_PrintReal.f dec_parts.f
  simp only [Option.bind_some]
  show (if (S (fracs 16 ((clip z).natAbs % 65536))).toList = [] then
      if (S (signL (clip z))).size + (S (digs ((clip z).natAbs / 65536))).size ≤ 9223372036854775807 then
      if (S (signL (clip z)) ++ S (digs ((clip z).natAbs / 65536))).size + 1 ≤ 9223372036854775807 then
        if (S (signL (clip z)) ++ S (digs ((clip z).natAbs / 65536)) ++ S [46]).size + 1 ≤ 9223372036854775807 then
          some (S (signL (clip z)) ++ S (digs ((clip z).natAbs / 65536)) ++ S [46] ++ S [48])
        else none else none else none
    else if (S (signL (clip z))).size + (S (digs ((clip z).natAbs / 65536))).size ≤ 9223372036854775807 then
      if (S (signL (clip z)) ++ S (digs ((clip z).natAbs / 65536))).size + 1 ≤ 9223372036854775807 then
        if (S (signL (clip z)) ++ S (digs ((clip z).natAbs / 65536)) ++ S [46]).size + (S (fracs 16 ((clip z).natAbs % 65536))).size ≤ 9223372036854775807 then
          some (S (signL (clip z)) ++ S (digs ((clip z).natAbs / 65536)) ++ S [46] ++ S (fracs 16 ((clip z).natAbs % 65536)))
        else none else none else none) = _
  simp only [S_append, S_size, S_list]
  unfold textR
  generalize fracs 16 ((clip z).natAbs % 65536) = r at *
  generalize digs ((clip z).natAbs / 65536) = d at *
  generalize signL (clip z) = s at *
  cases r with
  | nil => rw [if_pos rfl, if_pos (by omega), if_pos (by simp; omega), if_pos (by simp; omega)]; simp [tailR]
  | cons c r =>
    simp only [List.length_cons] at h3
    rw [if_neg (by simp), if_pos (by omega), if_pos (by simp; omega), if_pos (by simp; omega)]
    simp [tailR]

theorem ref_Fits_f (z : Int) : mezzotintref01_Fits.f z = some (fitsB z) := by
  unfold mezzotintref01_Fits.f fitsB
  by_cases h : -2147483648 ≤ z
  · rw [if_pos (by omega)]; simp [h]
  · rw [if_neg (by omega)]; simp [h]

/-- behind the sign -/
theorem ref_tail_ev (m : Nat) (hm : m ≤ 2147483648) (s : List UInt8) (hs : s.length ≤ 1) :
    Ev (fun r => mezzotintref01_Print.j0 r m (S s)) (S (s ++ digs (m / 65536) ++ tail (fracs 16 (m % 65536)))) := by
  have hD := Dec_ev (m / 65536) (by omega)
  have hl := digs_len (m / 65536) (by omega)
  by_cases h0 : m % 65536 = 0
  · have hF := frac_ev 16 0 (s ++ digs (m / 65536)) (by omega) (by simp) (by omega) (by simp; omega)
    rw [fracs_zero, List.append_nil] at hF
    rw [h0, fracs_zero, tail, List.append_nil]
    refine Ev.step (fun r => ?_) (Ev.bind hD (f := fun r t => if (S s).size + t.size ≤ 9223372036854775807 then mezzotintref01_Print.j1 r (S s ++ t) 0 else none) ?_)
    · simp only [mezzotintref01_Print.j0]
      rw [show wrap64 ((m : Int).tdiv 65536) = ((m / 65536 : Nat) : Int) from by rw [td _ _ (by omega)]; unfold wrap64; omega, show (m : Int).tmod 65536 = 0 from by rw [tm _ _ (by omega)]; omega]
      simp only [gt_iff_lt, Int.lt_irrefl, if_false]
    · refine Ev.congr (fun r => by rw [if_pos (by rw [S_size, S_size]; omega), S_append]) (Ev.step (fun r => ?_) hF)
      simp only [mezzotintref01_Print.j1]
      rfl
  · have hF := frac_ev 16 (m % 65536) (s ++ digs (m / 65536) ++ [46]) (by omega) (by simp) (by omega) (by simp; omega)
    have ht : tail (fracs 16 (m % 65536)) = [46] ++ fracs 16 (m % 65536) := by rw [fracs_succ h0]; rfl
    rw [ht, ← List.append_assoc]
    refine Ev.step (fun r => ?_) (Ev.bind hD (f := fun r t => if (S s).size + t.size ≤ 9223372036854775807 then if (S s ++ t).size + 1 ≤ 9223372036854775807 then mezzotintref01_Print.j1 r (S s ++ t ++ S [46]) ((m % 65536 : Nat) : Int) else none else none) ?_)
    · simp only [mezzotintref01_Print.j0]
      rw [show wrap64 ((m : Int).tdiv 65536) = ((m / 65536 : Nat) : Int) from by rw [td _ _ (by omega)]; unfold wrap64; omega, show (m : Int).tmod 65536 = ((m % 65536 : Nat) : Int) from by rw [tm _ _ (by omega)]; omega]
      simp only [if_pos (show ((m % 65536 : Nat) : Int) > 0 by omega)]
      rfl
    · refine Ev.congr (fun r => by rw [if_pos (by rw [S_size, S_size]; omega), S_append, if_pos (by rw [S_size]; simp; omega), S_append]) (Ev.step (fun r => ?_) hF)
      simp only [mezzotintref01_Print.j1]

theorem ref_Print_ev (z : Int) : Ev (fun r => mezzotintref01_Print.f r z) (S (text z)) := by
  unfold mezzotintref01_Print.f
  rw [ref_Fits_f]
  simp only [Option.bind_some]
  by_cases hf : fitsB z = true
  · have hb : -2147483648 ≤ z ∧ z ≤ 2147483647 := by simpa [fitsB] using hf
    have hc : clip z = z := by simp [clip, hf]
    rw [text, hc]
    simp only [if_pos hf]
    by_cases h0 : z < 0
    · simp only [if_pos h0, signL]
      have := ref_tail_ev z.natAbs (by omega) [45] (by simp)
      rw [show wrap64 (-z) = (z.natAbs : Int) from by unfold wrap64; omega]
      exact this
    · simp only [if_neg h0, signL]
      have := ref_tail_ev z.natAbs (by omega) [] (by simp)
      rw [show (z.natAbs : Int) = z from by omega] at this
      exact this
  · have hc : clip z = 0 := by simp [clip, hf]
    rw [text, hc]
    simp only [if_neg hf]
    have : signL 0 ++ digs (Int.natAbs 0 / 65536) ++ tail (fracs 16 (Int.natAbs 0 % 65536)) = [48] := by
      simp only [Int.natAbs_zero, Nat.zero_div, Nat.zero_mod, fracs_zero]
      rw [digs_small (by omega)]
      rfl
    rw [this]
    exact Ev.now _

theorem text_len (z : Int) : (text z).length ≤ 24 := by
  have h1 := sign_len (clip z)
  have h2 := whole_len z
  have h3 := fracs_len 16 ((clip z).natAbs % 65536)
  unfold text
  have h4 : (tail (fracs 16 ((clip z).natAbs % 65536))).length ≤ 17 := by
    cases h : fracs 16 ((clip z).natAbs % 65536) with
    | nil => simp [tail]
    | cons c r => rw [h] at h3; simp [tail] at *; omega
  simp
  omega

theorem ref_real_ev (z : Int) (hf : fitsB z = true) : Ev (fun r => mezzotintref01_PrintReal.j0 r z) (S (textR z)) := by
  have hb : -2147483648 ≤ z ∧ z ≤ 2147483647 := by simpa [fitsB] using hf
  have hc : clip z = z := by simp [clip, hf]
  have hP := ref_Print_ev z
  have hl := text_len z
  by_cases h0 : z.tmod 65536 = 0
  · have hz : z.natAbs % 65536 = 0 := by
      have : (z.tmod 65536).natAbs = 0 := by rw [h0]; rfl
      rw [Int.natAbs_tmod] at this
      exact this
    have hR : textR z = text z ++ [46, 48] := by
      unfold textR text
      rw [hc, hz, fracs_zero]
      simp [tail, tailR]
    rw [hR]
    refine Ev.step (fun r => ?_) (Ev.bind hP (f := fun _ t => if t.size + 2 ≤ 9223372036854775807 then some (t ++ S [46, 48]) else none) ?_)
    · simp only [mezzotintref01_PrintReal.j0]
      rw [if_pos h0]
      rfl
    · rw [S_size, S_append]
      exact Ev.congr (fun r => by rw [if_pos (by omega)]) (Ev.now _)
  · have hz : z.natAbs % 65536 ≠ 0 := by
      intro h
      apply h0
      have : (z.tmod 65536).natAbs = 0 := by rw [Int.natAbs_tmod]; exact h
      omega
    have hR : textR z = text z := by
      unfold textR text
      rw [hc, fracs_succ hz]
      simp [tail, tailR]
    rw [hR]
    refine Ev.step (fun r => ?_) (Ev.bind hP (f := fun _ t => some t) (Ev.now _))
    simp only [mezzotintref01_PrintReal.j0]
    rw [if_neg h0]

theorem ref_PrintReal_ev (z : Int) : Ev (fun r => mezzotintref01_PrintReal.f r z) (S (textR z)) := by
  unfold mezzotintref01_PrintReal.f
  rw [ref_Fits_f]
  simp only [Option.bind_some]
  by_cases hf : fitsB z = true
  · simp only [if_pos hf]
    exact ref_real_ev z hf
  · simp only [if_neg hf]
    have hc : clip z = 0 := by simp [clip, hf]
    have : textR z = textR 0 := by unfold textR; rw [hc]; rfl
    rw [this]
    exact ref_real_ev 0 (by decide)

theorem answers_f : mezzotintlaw02_answers.f = some true := by
  unfold mezzotintlaw02_answers.f
  rw [dec_Print_f, dec_PrintReal_f]
  simp only [Option.bind_some, S_list]
  have h1 : text 32768 = [48, 46, 53] := by
    have : clip 32768 = 32768 := by decide
    unfold text
    rw [this, digs_small (by decide)]
    decide
  have h2 : textR 65536 = [49, 46, 48] := by
    have : clip 65536 = 65536 := by decide
    unfold textR
    rw [this, digs_small (by decide)]
    decide
  rw [h1, h2]
  rfl

end Go.Proofs.Ytiocgpfnbmlfaaa.QD
