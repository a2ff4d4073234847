/- The value of decimal digits, exactly: what doubling them 17 times counts. The reference's scaled, whole and signed, in plain words. The reference's Token: its walks, one for each way through it. The reference's Token: its walks where no radix and no whole number is told. The reference's Token: its walks where an e stands in the text. The reference's Token: its walk through a number with a base. The reference's Token answers what dec.Token answers. Made by a program of this session (wip/given.py) out of the translation: Lean functions for the Go functions, with the walks that show it; of a law: its row, at every input, no condition of its own. Made by a program of this session (wip/given.py) out of the translation: Lean functions for the Go functions, with the walks that show it; of a law: its row, at every input, no condition of its own. -/
import Derived.Test.YtiocgpfnbmlfaaaDoorBTk2
import Derived.Deep.DeepCutAuto
import Derived.Deep.LoopGhost
import Derived.Test.YtiocgpfnbmlfaaaDoorProg
import Derived.Below
import Derived.Deep.Draws
import Derived.Deep.AppendLies
import Derived.Maps.AppendAt
import Derived.OwnWalk
import Derived.Laws.BytesArg
import Derived.Laws.MakeOwn
import Derived.Laws.OwnMore
import Derived.Deep.OwnRows
import Derived.Tactics
import Derived.Lib.ConvBytes
import Derived.Laws.Slices
import Derived.WalkKit
import Derived.KernelRfl
import Derived.RowKit3
import Derived.Deep.QuietTactic
import Derived.BigQuiet
import Derived.WideLaws
import Derived.Deep.CutBlock
import Derived.Deep.RegionHeld3
import Derived.Laws.Rows
import Derived.Lib.AppendStr
import Derived.ArgAppend
import Derived.Laws.IdiomCopy
import Derived.OrdersHeld
import Derived.Laws.BitsLemmas
import Derived.RowKit
import Derived.Test.YtiocgpfnbmlfaaaDoorBTk0
import Derived.Test.YtiocgpfnbmlfaaaDoorBTk1
import Derived.Test.YtiocgpfnbmlfaaaDoorWWords
import Derived.Test.YtiocgpfnbmlfaaaDoorWLast
import Derived.Test.YtiocgpfnbmlfaaaDoorWTab
import Derived.Test.YtiocgpfnbmlfaaaDoorWFour
import Derived.Test.YtiocgpfnbmlfaaaDoorWQPut
import Derived.Test.YtiocgpfnbmlfaaaDoorWApart
import Derived.Test.YtiocgpfnbmlfaaaDoorWArr
import Derived.Test.YtiocgpfnbmlfaaaDoorWZeros
import Derived.Test.YtiocgpfnbmlfaaaDoorWFoot
import Derived.Test.YtiocgpfnbmlfaaaDoorWKept
import Derived.Test.YtiocgpfnbmlfaaaDoorWShare
import Derived.Test.YtiocgpfnbmlfaaaDoorWN
import Derived.Test.YtiocgpfnbmlfaaaDoorWFootNe
import Derived.Test.YtiocgpfnbmlfaaaDoorWAt
import Derived.Test.YtiocgpfnbmlfaaaDoorWEqStruct
import Derived.Test.YtiocgpfnbmlfaaaDoorWRepsOne
import Derived.Test.YtiocgpfnbmlfaaaDoorWInv
import Derived.Test.YtiocgpfnbmlfaaaDoorWInvWords
import Derived.Test.YtiocgpfnbmlfaaaDoorWGuard
import Derived.Test.YtiocgpfnbmlfaaaDoorWNEv
import Derived.Test.YtiocgpfnbmlfaaaDoorWMore

/-! ## QV -/
namespace Go.Proofs.YtiocgpfnbmlfaaaDoor.QD
open Go Go.RowKit Go.Proofs.YtiocgpfnbmlfaaaDoor Go.Proofs.YtiocgpfnbmlfaaaDoorW.PrintWords

theorem digs9 (b : List UInt8) (hb : b.all isDig = true) : ∀ d ∈ digsOf b, d ≤ 9 := by
  intro d hd
  unfold digsOf at hd
  obtain ⟨c, hc, rfl⟩ := List.mem_map.1 hd
  have := (isDig_iff c).1 (List.all_eq_true.1 hb c hc)
  omega
theorem digsOf_len (b : List UInt8) : (digsOf b).length = b.length := by simp [digsOf]
theorem digsOf_append (a b : List UInt8) : digsOf (a ++ b) = digsOf a ++ digsOf b := by simp [digsOf]
theorem digsOf_zeros (m : Nat) : digsOf (List.replicate m 48) = List.replicate m 0 := by simp [digsOf]

def valN : List Nat → Nat
  | [] => 0
  | d :: ds => d * 10 ^ ds.length + valN ds
theorem valN_lt : ∀ ds : List Nat, (∀ d ∈ ds, d ≤ 9) → valN ds < 10 ^ ds.length
  | [], _ => by simp [valN]
  | d :: ds, h => by
    have ih := valN_lt ds (fun x hx => h x (by simp [hx]))
    have hd := h d (by simp)
    simp only [valN, List.length_cons, Nat.pow_succ]
    have : d * 10 ^ ds.length ≤ 9 * 10 ^ ds.length := Nat.mul_le_mul_right _ hd
    omega
theorem valN_append (a b : List Nat) : valN (a ++ b) = valN a * 10 ^ b.length + valN b := by
  induction a with
  | nil => simp [valN]
  | cons d a ih =>
    simp only [List.cons_append, valN, List.length_append, ih, Nat.pow_add, Nat.add_mul, Nat.mul_assoc]
    omega
theorem valN_zeros (n : Nat) : valN (List.replicate n 0) = 0 := by
  induction n with
  | zero => rfl
  | succ n ih => simp [List.replicate_succ, valN, ih]
theorem dbl_val : ∀ ds : List Nat, (dbl ds).1 * 10 ^ ds.length + valN (dbl ds).2 = 2 * valN ds
  | [] => by simp [dbl, valN]
  | d :: ds => by
    have ih := dbl_val ds
    simp only [dbl, valN, List.length_cons, dbl_len, Nat.pow_succ]
    generalize (dbl ds).1 = c at *
    generalize valN (dbl ds).2 = v at *
    generalize valN ds = u at *
    generalize 10 ^ ds.length = P at *
    have h1 : (2 * d + c) / 10 * (P * 10) + (2 * d + c) % 10 * P = (2 * d + c) * P := by
      rw [Nat.mul_comm P 10, ← Nat.mul_assoc, ← Nat.add_mul]
      congr 1
      omega
    have h2 : (2 * d + c) * P = 2 * (d * P) + c * P := by rw [Nat.add_mul, Nat.mul_assoc]
    omega
theorem iterD_val (k : Nat) : ∀ (n : Nat) (ds : List Nat), (iterD k n ds).1 * 10 ^ ds.length + valN (iterD k n ds).2 = 2 ^ k * (n * 10 ^ ds.length + valN ds) := by
  induction k with
  | zero => intro n ds; simp [iterD]
  | succ k ih =>
    intro n ds
    have h := ih (2 * n + (dbl ds).1) (dbl ds).2
    rw [dbl_len] at h
    rw [iterD, h, Nat.pow_succ, Nat.mul_assoc]
    congr 1
    have hd := dbl_val ds
    rw [Nat.add_mul, Nat.mul_assoc]
    omega
/-- digits that are f parts of 65536, exactly: 17 doublings count 2 f -/
theorem iterD_exact (ds : List Nat) (f : Nat) (hd : ∀ d ∈ ds, d ≤ 9) (h : valN ds * 65536 = f * 10 ^ ds.length) : (iterD 17 0 ds).1 = 2 * f := by
  have hv := iterD_val 17 0 ds
  have hl := (iterD_ok 17 0 ds hd)
  have hlt := valN_lt (iterD 17 0 ds).2 hl.2.1
  rw [hl.1] at hlt
  generalize (iterD 17 0 ds).1 = B at *
  generalize valN (iterD 17 0 ds).2 = v at *
  generalize 10 ^ ds.length = P at *
  have h2 : B * P + v = 2 * f * P := by
    rw [hv, Nat.zero_mul, Nat.zero_add, show (2 : Nat) ^ 17 = 2 * 65536 from rfl, Nat.mul_assoc, Nat.mul_comm 65536, h, Nat.mul_assoc]
  have hP : 0 < P := by omega
  have h3 : (B * P + v) / P = B := by rw [Nat.mul_comm, Nat.mul_add_div hP, Nat.div_eq_of_lt hlt]; rfl
  rw [h2, Nat.mul_div_cancel _ hP] at h3
  exact h3.symm

theorem digsOf_cons (c : UInt8) (l : List UInt8) : digsOf (c :: l) = (c.toNat - 48) :: digsOf l := rfl
theorem digB (d : Nat) (h : d ≤ 9) : (UInt8.ofNat (48 + d)).toNat = 48 + d := by
  rw [UInt8.toNat_ofNat']; omega
theorem fracs_val (k : Nat) : ∀ f, f < 65536 → 2 ^ (16 - k) ∣ f → k ≤ 16 → valN (digsOf (fracs k f)) * 65536 = f * 10 ^ (fracs k f).length ∧ (fracs k f).all isDig = true := by
  induction k with
  | zero =>
    intro f hf hd _
    have h0 : f = 0 := by
      rcases Nat.eq_zero_or_pos f with h | h
      · exact h
      · have := Nat.le_of_dvd h hd; omega
    subst h0
    simp [fracs, digsOf, valN]
  | succ k ih =>
    intro f hf hd hk
    by_cases h0 : f = 0
    · subst h0; simp [fracs_zero, digsOf, valN]
    · have hs := frac_step (j := 16 - (k + 1)) (k := k + 1) (by omega) hd hf h0
      obtain ⟨h1, h2⟩ := ih (f * 10 % 65536) (by omega) (by rw [show 16 - k = 16 - (k + 1) + 1 from by omega]; exact hs.2) (by omega)
      have hdl : f * 10 / 65536 ≤ 9 := by omega
      rw [fracs_succ h0, digsOf_cons, digB _ hdl]
      refine ⟨?_, ?_⟩
      · simp only [valN, digsOf_len, List.length_cons, Nat.pow_succ]
        generalize (fracs k (f * 10 % 65536)).length = L at *
        generalize valN (digsOf (fracs k (f * 10 % 65536))) = V at *
        have e1 : (48 + f * 10 / 65536 - 48) = f * 10 / 65536 := by omega
        have e2 : f * 10 = f * 10 / 65536 * 65536 + f * 10 % 65536 := by omega
        rw [e1, Nat.add_mul, h1, Nat.mul_assoc, Nat.mul_comm (10 ^ L) 65536, ← Nat.mul_assoc, ← Nat.add_mul, ← e2, Nat.mul_assoc, Nat.mul_comm 10]
      · rw [List.all_cons, h2, Bool.and_true, isDig_iff, digB _ hdl]
        omega
theorem digs_val (k : Nat) : ∀ n, n < 10 ^ (k + 1) → valD (digs n) = n ∧ (digs n).all isDig = true ∧ digs n ≠ [] := by
  induction k with
  | zero =>
    intro n hn
    have hn : n < 10 := by omega
    rw [digs_small hn]
    refine ⟨?_, ?_, by simp⟩
    · simp only [valD, List.foldl_cons, List.foldl_nil, digB n (by omega)]; omega
    · simp only [List.all_cons, List.all_nil, Bool.and_true, isDig_iff, digB n (by omega)]; omega
  | succ k ih =>
    intro n hn
    by_cases h : n < 10
    · rw [digs_small h]
      refine ⟨?_, ?_, by simp⟩
      · simp only [valD, List.foldl_cons, List.foldl_nil, digB n (by omega)]; omega
      · simp only [List.all_cons, List.all_nil, Bool.and_true, isDig_iff, digB n (by omega)]; omega
    · obtain ⟨h1, h2, _⟩ := ih (n / 10) (by rw [Nat.pow_succ] at hn; omega)
      rw [digs_big h]
      refine ⟨?_, ?_, by simp⟩
      · rw [valD_snoc, h1, digB _ (by omega)]; omega
      · rw [List.all_append, h2]
        simp only [List.all_cons, List.all_nil, Bool.and_true, Bool.true_and, isDig_iff, digB (n % 10) (by omega)]; omega

end Go.Proofs.YtiocgpfnbmlfaaaDoor.QD

/-! ## RS -/
namespace Go.Proofs.YtiocgpfnbmlfaaaDoor.QT
open Go Go.RowKit Go.Proofs.YtiocgpfnbmlfaaaDoor Go.Proofs.YtiocgpfnbmlfaaaDoor.PT Go.Proofs.YtiocgpfnbmlfaaaDoor.QD Go.Proofs.YtiocgpfnbmlfaaaDoorW.PrintWords Go.Proofs.YtiocgpfnbmlfaaaDoorW.PrintLast

theorem ref_plain_f (l : List UInt8) (h : l.length ≤ 100000000) :
    mezzotintref01_plain.f (S l) = some ((sgnL l).1, S (plainL (sgnL l).2).1, ((plainL (sgnL l).2).2.1 : Int), (plainL (sgnL l).2).2.2.1, (plainL (sgnL l).2).2.2.2) := by
  unfold mezzotintref01_plain.f
  rw [S_data, if_pos (by rw [S_size]; exact h)]

/-! ### scaled -/
def ints (l : List Nat) : List Int := l.map (fun (n : Nat) => (n : Int))
theorem ints_len (l : List Nat) : (ints l).length = l.length := by simp [ints]
theorem ints_rd (l : List Nat) (i : Nat) (h : i < l.length) : rd (ints l) (i : Int) = (l.getD i 0 : Nat) := by
  unfold rd ints
  rw [Int.toNat_natCast]
  simp [List.getD, h]
theorem ints_set (l : List Nat) (i v : Nat) : (ints l).set i (v : Int) = ints (l.set i v) := by simp [ints, List.map_set]
theorem ints_snoc (l : List Nat) (v : Nat) : ints l ++ [(v : Int)] = ints (l ++ [v]) := by simp [ints]

theorem l4_ev (V bits kk : Int) (ds : List Nat) (hd : ∀ d ∈ ds, d ≤ 9) (hlen : ds.length < 1000000000) (R : Int × Bool)
    (H : Ev (fun r => mezzotintref01_scaled.l3 r V (ints (dbl ds).2) (wrap64 (wrap64 (bits * 2) + ((dbl ds).1 : Nat))) (wrap64 (kk + 1))) R) :
    ∀ k, k ≤ ds.length → Ev (fun r => mezzotintref01_scaled.l4 r V (ints (mid ds k)) bits kk ((dbl (ds.drop k)).1 : Nat) ((k : Int) - 1)) R := by
  intro k
  induction k with
  | zero =>
    intro _
    refine Ev.step (fun r => ?_) H
    rw [mezzotintref01_scaled.l4, if_neg (by omega), mid_zero, List.drop_zero]
  | succ m ih =>
    intro hm
    obtain ⟨h1, h2, h3⟩ := mid_step ds m hm
    have hml := mid_len ds (m + 1) hm
    have ih' := ih (by omega)
    have hx : ds[m] ≤ 9 := hd _ (by simp)
    have hc := (dbl_le (ds.drop (m + 1)) (fun d hd' => hd d (List.mem_of_mem_drop hd'))).1
    refine Ev.step (fun r => ?_) ih'
    rw [show (((m + 1 : Nat) : Int) - 1) = (m : Int) from by omega]
    rw [mezzotintref01_scaled.l4, if_pos (by omega), if_pos (by omega), if_pos (by rw [ints_len, hml]; omega), ints_rd _ _ (by rw [hml]; omega), h1, h2, ← h3, Int.toNat_natCast]
    generalize ds[m] = x at *
    generalize (dbl (ds.drop (m + 1))).1 = c at *
    have hw : wrap64 (wrap64 ((x : Int) * 2) + (c : Int)) = ((2 * x + c : Nat) : Int) := by rw [w64 ((x : Int) * 2) (by omega) (by omega), w64 _ (by omega) (by omega)]; omega
    rw [hw, td _ _ (by omega), tm _ _ (by omega), w64 ((m : Int) - 1) (by omega) (by omega)]
    rw [show (((2 * x + c : Nat) : Int) % 10) = (((2 * x + c) % 10 : Nat) : Int) from by omega, ints_set, show (((2 * x + c : Nat) : Int) / 10) = (((2 * x + c) / 10 : Nat) : Int) from by omega, w64 _ (by omega) (by omega)]

theorem l3_ev (V : Nat) (hV : V ≤ 99999) (ds : List Nat) (hd : ∀ d ∈ ds, d ≤ 9) (hlen : ds.length < 1000000000) :
    ∀ j kk, kk + j = 17 → Ev (fun r => mezzotintref01_scaled.l3 r V (ints (iterD kk 0 ds).2) ((iterD kk 0 ds).1 : Nat) (kk : Int)) (((V * 65536 + ((iterD 17 0 ds).1 + 1) / 2 : Nat) : Int), true) := by
  intro j
  induction j with
  | zero =>
    intro kk hk
    obtain rfl : kk = 17 := by omega
    have hb := (iterD_ok 17 0 ds hd).2.2
    refine Ev.step (f := fun _ => some (((V * 65536 + ((iterD 17 0 ds).1 + 1) / 2 : Nat) : Int), true)) (fun r => ?_) (Ev.now _)
    rw [mezzotintref01_scaled.l3, if_neg (by omega)]
    generalize (iterD 17 0 ds).1 = B at *
    rw [w64 ((B : Int) + 1) (by omega) (by omega), td _ _ (by omega), w64 ((V : Int) * 65536) (by omega) (by omega), w64 (((B : Int) + 1) / 2) (by omega) (by omega), w64 _ (by omega) (by omega)]
    rw [show ((V : Int) * 65536 + ((B : Int) + 1) / 2) = ((V * 65536 + (B + 1) / 2 : Nat) : Int) from by omega]
  | succ j ih =>
    intro kk hk
    obtain ⟨hl, h9, hb⟩ := iterD_ok kk 0 ds hd
    have hp : (0 + 1) * 2 ^ kk ≤ 1 * 2 ^ 17 := Nat.mul_le_mul_left _ (Nat.pow_le_pow_right (by omega) (by omega))
    have hle := (dbl_le _ h9).1
    have ih' := ih (kk + 1) (by omega)
    rw [iterD_succ] at ih'
    have H := l4_ev (V : Int) ((iterD kk 0 ds).1 : Nat) (kk : Int) (iterD kk 0 ds).2 h9 (by rw [hl]; exact hlen) _ (by
      refine Ev.congr (fun r => ?_) ih'
      rw [w64 (((iterD kk 0 ds).1 : Int) * 2) (by omega) (by omega), w64 _ (by omega) (by omega), w64 _ (by omega) (by omega)]
      rw [show (((iterD kk 0 ds).1 : Int) * 2 + ((dbl (iterD kk 0 ds).2).1 : Int)) = ((2 * (iterD kk 0 ds).1 + (dbl (iterD kk 0 ds).2).1 : Nat) : Int) from by omega]
      rfl) _ (Nat.le_refl _)
    refine Ev.step (fun r => ?_) H
    rw [mezzotintref01_scaled.l3, if_pos (by omega), mid_all, ints_len, List.drop_length, w64 _ (by omega) (by omega)]
    rfl

theorem l2_ev (p : Int) (n : Nat) (hp : ∀ i : Nat, (i : Int) ≥ p ↔ n ≤ i) (V : Int) (D : List UInt8) (hD : D.all isDig = true) (hlen : D.length ≤ 1000000) (R0 : List Nat) (hR0 : R0.length ≤ 1000000) (R : Int × Bool)
    (H : Ev (fun r => mezzotintref01_scaled.l3 r V (ints (R0 ++ digsOf (D.drop n))) 0 0) R) :
    ∀ suf pre : List UInt8, pre ++ suf = D → Ev (fun r => mezzotintref01_scaled.l2 r (S D) p V (ints (R0 ++ digsOf (pre.drop n))) (pre.length : Int)) R := by
  intro suf
  induction suf with
  | nil =>
    intro pre h
    rw [List.append_nil] at h
    subst h
    refine Ev.step (fun r => ?_) H
    rw [mezzotintref01_scaled.l2, if_neg (by rw [S_size]; omega)]
  | cons c suf ih =>
    intro pre h
    have ih' := ih (pre ++ [c]) (by simpa using h)
    have hl : D.length = pre.length + (suf.length + 1) := by rw [← h]; simp
    have hbt := S_bt pre suf c
    rw [h] at hbt
    have hc := (isDig_iff c).1 (List.all_eq_true.1 hD c (by rw [← h]; simp))
    rw [show ((pre ++ [c]).length : Int) = (pre.length : Int) + 1 from by simp] at ih'
    refine Ev.step (fun r => ?_) ih'
    rw [mezzotintref01_scaled.l2, if_pos (by rw [S_size]; omega), w64 _ (by omega) (by omega)]
    by_cases hn : n ≤ pre.length
    · rw [if_pos ((hp _).2 hn), if_pos (by omega), if_pos (by rw [ints_len, List.length_append, digsOf_len, List.length_drop]; omega), hbt]
      rw [show (((c.toNat : Int) - 48) % 256) = ((c.toNat - 48 : Nat) : Int) from by omega, ints_snoc, List.drop_append_of_le_length hn, digsOf_append, List.append_assoc]
      rfl
    · rw [if_neg (fun h => hn ((hp _).1 h)), List.drop_eq_nil_of_le (by omega : pre.length ≤ n), List.drop_eq_nil_of_le (by simp; omega : (pre ++ [c]).length ≤ n)]

theorem l1_ev (m : Nat) (hm : m ≤ 1000000) (V : Int) (D : List UInt8) (R : Int × Bool)
    (H : Ev (fun r => mezzotintref01_scaled.l2 r (S D) (-(m : Int)) V (ints (List.replicate m 0)) 0) R) :
    ∀ j i, i + j = m → Ev (fun r => mezzotintref01_scaled.l1 r (S D) (-(m : Int)) V (ints (List.replicate i 0)) (-(m : Int) + i)) R := by
  intro j
  induction j with
  | zero =>
    intro i h
    obtain rfl : i = m := by omega
    refine Ev.step (fun r => ?_) H
    rw [mezzotintref01_scaled.l1, if_neg (by omega)]
  | succ j ih =>
    intro i h
    refine Ev.step (fun r => ?_) (ih (i + 1) (by omega))
    rw [mezzotintref01_scaled.l1, if_pos (by omega), if_pos (by rw [ints_len, List.length_replicate]; omega), w64 _ (by omega) (by omega)]
    rw [show ints (List.replicate i 0) ++ [(0 : Int)] = ints (List.replicate i 0 ++ [0]) from ints_snoc _ 0, ← List.replicate_succ', show (-(m : Int) + (i : Int) + 1) = -(m : Int) + ((i + 1 : Nat) : Int) from by omega]

theorem valD_mono (a b : List UInt8) : valD a ≤ valD (a ++ b) := by
  rw [valD_append]
  have : valD a * 1 ≤ valD a * 10 ^ b.length := Nat.mul_le_mul_left _ (Nat.pow_pos (by omega))
  omega

theorem l0_ev (p : Int) (n : Nat) (hn : n ≤ 1000000) (hp : ∀ i : Nat, (i : Int) < p ↔ i < n) (D : List UInt8) (hD : D.all isDig = true) (R : Int × Bool)
    (H : valD (aOf D n) ≤ 99999 → Ev (fun r => mezzotintref01_scaled.l1 r (S D) p (valD (aOf D n) : Nat) [] p) R) :
    ∀ j i, i + j = n → valD ((aOf D n).take i) ≤ 99999 →
      Ev (fun r => mezzotintref01_scaled.l0 r (S D) p (valD ((aOf D n).take i) : Nat) (i : Int)) (if 99999 < valD (aOf D n) then (0, false) else R) := by
  have hA := aOf_len D n
  have hAll := aOf_all D n hD
  intro j
  induction j with
  | zero =>
    intro i h hv
    obtain rfl : i = n := by omega
    rw [List.take_of_length_le (by omega)] at hv ⊢
    rw [if_neg (by omega)]
    refine Ev.step (fun r => ?_) (H hv)
    rw [mezzotintref01_scaled.l0, if_neg (fun h => by have := (hp _).1 h; omega)]
  | succ j ih =>
    intro i h hv
    have hi : i < (aOf D n).length := by omega
    have htk : (aOf D n).take (i + 1) = (aOf D n).take i ++ [(aOf D n)[i]] := by rw [List.take_succ_eq_append_getElem hi]
    have hval := valD_snoc ((aOf D n).take i) ((aOf D n)[i])
    rw [← htk] at hval
    have hc := (isDig_iff _).1 (List.all_eq_true.1 hAll _ (List.getElem_mem hi))
    have hmono : valD ((aOf D n).take (i + 1)) ≤ valD (aOf D n) := by
      have := valD_mono ((aOf D n).take (i + 1)) ((aOf D n).drop (i + 1))
      rwa [List.take_append_drop] at this
    -- the two ways in which the reference reads a digit
    have key : ∀ r : Nat, mezzotintref01_scaled.l0 (r + 1) (S D) p (valD ((aOf D n).take i) : Nat) (i : Int) =
        (if (valD ((aOf D n).take (i + 1)) : Int) > 99999 then some (0, false) else mezzotintref01_scaled.l0 r (S D) p (valD ((aOf D n).take (i + 1)) : Nat) (((i + 1 : Nat) : Int))) := by
      intro r
      rw [mezzotintref01_scaled.l0, if_pos ((hp _).2 (by omega)), w64 ((i : Int) + 1) (by omega) (by omega), show ((i : Int) + 1) = ((i + 1 : Nat) : Int) from by omega]
      by_cases hd : i < D.length
      · have hx : (aOf D n)[i] = D[i] := by simp [aOf, List.getElem_append_left hd]
        have hbt : bt (S D) (i : Int) = ((D[i]).toNat : Int) := by
          have := bt_nat (S D) i (by rw [S_size]; exact hd)
          rw [this]; simp [S]
        rw [hx] at hval hc
        rw [if_pos (by rw [S_size]; omega), if_pos (by omega), hbt, w64 ((valD ((aOf D n).take i) : Int) * 10) (by omega) (by omega), w64 _ (by omega) (by omega)]
        rw [show ((valD ((aOf D n).take i) : Int) * 10 + (((D[i]).toNat : Int) - 48) % 256) = (valD ((aOf D n).take (i + 1)) : Int) from by omega]
      · have hx : (aOf D n)[i] = 48 := by simp [aOf, List.getElem_append_right (by omega : D.length ≤ i)]
        rw [hx] at hval
        rw [if_neg (by rw [S_size]; omega), w64 ((valD ((aOf D n).take i) : Int) * 10) (by omega) (by omega), w64 _ (by omega) (by omega)]
        rw [show ((valD ((aOf D n).take i) : Int) * 10 + 0) = (valD ((aOf D n).take (i + 1)) : Int) from by rw [hval]; simp; omega]
    by_cases hv' : valD ((aOf D n).take (i + 1)) ≤ 99999
    · refine Ev.step (fun r => ?_) (ih (i + 1) (by omega) hv')
      rw [key, if_neg (by omega)]
    · rw [if_pos (by omega)]
      refine Ev.step (f := fun _ => some (0, false)) (fun r => ?_) (Ev.now _)
      rw [key, if_pos (by omega)]

theorem scaled_ev (D : List UInt8) (p : Int) (hD : D.all isDig = true) (hlen : D.length ≤ 1000000) (h1 : -1000000 ≤ p) (h2 : p ≤ 1000000) :
    Ev (fun r => mezzotintref01_scaled.f r (S D) p) (sclL (aOf D p.toNat) (bOf D p)) := by
  have hlt : ∀ i : Nat, (i : Int) < p ↔ i < p.toNat := fun i => by omega
  have hge : ∀ i : Nat, (i : Int) ≥ p ↔ p.toNat ≤ i := fun i => by omega
  have hall : (D.drop p.toNat).all isDig = true := by
    rw [List.all_eq_true] at *
    exact fun x hx => hD x (List.mem_of_mem_drop hx)
  have hz : ∀ d ∈ List.replicate (-p).toNat 0 ++ digsOf (D.drop p.toNat), d ≤ 9 := by
    intro d hd
    rcases List.mem_append.1 hd with h | h
    · rw [(List.mem_replicate.1 h).2]; omega
    · exact digs9 _ hall d h
  have hzl : (List.replicate (-p).toNat 0 ++ digsOf (D.drop p.toNat)).length < 1000000000 := by
    rw [List.length_append, List.length_replicate, digsOf_len, List.length_drop]; omega
  have hb : digsOf (bOf D p) = List.replicate (-p).toNat 0 ++ digsOf (D.drop p.toNat) := by rw [bOf, digsOf_append, digsOf_zeros]
  have key : ∀ (V : Int) (R : Int × Bool), Ev (fun r => mezzotintref01_scaled.l3 r V (ints (List.replicate (-p).toNat 0 ++ digsOf (D.drop p.toNat))) 0 0) R → Ev (fun r => mezzotintref01_scaled.l1 r (S D) p V [] p) R := by
    intro V R h3
    have h20 := l2_ev p p.toNat hge V D hD hlen (List.replicate (-p).toNat 0) (by simp; omega) R h3 D [] rfl
    rw [List.drop_nil, show digsOf [] = [] from rfl, List.append_nil, show (([] : List UInt8).length : Int) = 0 from rfl] at h20
    by_cases hp : p < 0
    · have hp' : p = -(((-p).toNat : Nat) : Int) := by omega
      have h1' := l1_ev (-p).toNat (by omega) V D R (by rw [← hp']; exact h20) (-p).toNat 0 (by omega)
      rw [← hp', List.replicate_zero, show ints [] = [] from rfl, show (p + ((0 : Nat) : Int)) = p from by omega] at h1'
      exact h1'
    · have h0 : (-p).toNat = 0 := by omega
      rw [h0, List.replicate_zero, show ints [] = [] from rfl] at h20
      refine Ev.step (fun r => ?_) h20
      rw [mezzotintref01_scaled.l1, if_neg hp]
  unfold sclL
  rw [hb]
  have H := l0_ev p p.toNat (by omega) hlt D hD (((valD (aOf D p.toNat) * 65536 + ((iterD 17 0 (List.replicate (-p).toNat 0 ++ digsOf (D.drop p.toNat))).1 + 1) / 2 : Nat) : Int), true)
    (fun hv => key _ _ (l3_ev (valD (aOf D p.toNat)) hv _ hz hzl 17 0 rfl)) p.toNat 0 (by omega) (by simp [valD])
  rw [List.take_zero, show ((valD [] : Nat) : Int) = 0 from rfl] at H
  exact H

/-! ### signed, whole -/
theorem rfits_f (n : Int) : mezzotintref01_Fits.f n = some (fitsB n) := by
  unfold mezzotintref01_Fits.f fitsB
  split
  · rename_i h; rw [decide_eq_true (show -2147483648 ≤ n from h)]; rfl
  · rename_i h; rw [decide_eq_false (show ¬ -2147483648 ≤ n from h)]; rfl
theorem rsmall_f (n : Int) : mezzotintref01_Small.f n = some (fitsB n) := by
  unfold mezzotintref01_Small.f
  rw [rfits_f]; rfl
theorem rsigned_f (n : Int) (m : Bool) (h1 : -1000000000000 < n) (h2 : n < 1000000000000) : mezzotintref01_signed.f n m = some (sgnR n m) := by
  unfold mezzotintref01_signed.f sgnR
  rw [rfits_f, rfits_f, w64 (-n) (by omega) (by omega)]
  cases m <;> simp only [Option.bind_some, if_true, Bool.false_eq_true, if_false] <;> split <;> simp_all

def wholeE (m : Bool) (D : List UInt8) : Int × Bool :=
  if 4294967296 < valD D then (0, false) else (if m then -(valD D : Int) else valD D, fitsB (if m then -(valD D : Int) else valD D))
def wholeR (l : List UInt8) : Int × Bool :=
  if (sgnL l).2 = [] ∨ (sgnL l).2.all isDig = false then (0, false) else wholeE (sgnL l).1 (sgnL l).2

theorem wl0_ev (m : Bool) (D : List UInt8) (hD : D.all isDig = true) (hlen : D.length ≤ 1000000) : ∀ suf pre : List UInt8, pre ++ suf = D → valD pre ≤ 4294967296 →
    Ev (fun r => mezzotintref01_whole.l0 r m (S D) (valD pre : Nat) (pre.length : Int)) (wholeE m D) := by
  intro suf
  induction suf with
  | nil =>
    intro pre h hv
    rw [List.append_nil] at h
    subst h
    refine Ev.step (f := fun _ => some (wholeE m pre)) (fun r => ?_) (Ev.now _)
    rw [mezzotintref01_whole.l0, if_neg (by rw [S_size]; omega), rsmall_f, rsmall_f, w64 _ (by omega) (by omega)]
    have hw : wholeE m pre = (if m then -(valD pre : Int) else valD pre, fitsB (if m then -(valD pre : Int) else valD pre)) := by unfold wholeE; exact if_neg (by omega)
    rw [hw]
    cases m <;> rfl
  | cons c suf ih =>
    intro pre h hv
    have hl : D.length = pre.length + (suf.length + 1) := by rw [← h]; simp
    have hbt := S_bt pre suf c
    rw [h] at hbt
    have hc := (isDig_iff c).1 (List.all_eq_true.1 hD c (by rw [← h]; simp))
    have hvs := valD_snoc pre c
    have hmono : valD (pre ++ [c]) ≤ valD D := by
      rw [← h, show pre ++ c :: suf = (pre ++ [c]) ++ suf from by simp]
      exact valD_mono _ _
    have key : ∀ r : Nat, mezzotintref01_whole.l0 (r + 1) m (S D) (valD pre : Nat) (pre.length : Int) =
        (if (valD (pre ++ [c]) : Int) > 4294967296 then some (0, false) else mezzotintref01_whole.l0 r m (S D) (valD (pre ++ [c]) : Nat) ((pre ++ [c]).length : Int)) := by
      intro r
      rw [mezzotintref01_whole.l0, if_pos (by rw [S_size]; omega), if_pos (by omega), hbt, w64 ((pre.length : Int) + 1) (by omega) (by omega), w64 ((valD pre : Int) * 10) (by omega) (by omega), w64 _ (by omega) (by omega)]
      rw [show ((valD pre : Int) * 10 + ((c.toNat : Int) - 48) % 256) = (valD (pre ++ [c]) : Int) from by rw [hvs]; omega, show ((pre.length : Int) + 1) = ((pre ++ [c]).length : Int) from by simp]
    by_cases hb : valD (pre ++ [c]) ≤ 4294967296
    · refine Ev.step (fun r => ?_) (ih (pre ++ [c]) (by simpa using h) hb)
      rw [key, if_neg (by omega)]
    · refine Ev.step (f := fun _ => some (wholeE m D)) (fun r => ?_) (Ev.now _)
      rw [key, if_pos (by omega)]
      unfold wholeE
      rw [if_pos (by omega)]

theorem plainL_whole (r : List UInt8) : ((plainL r).2.2.2 = true ∧ (plainL r).2.2.1 = false ↔ ¬ (r = [] ∨ r.all isDig = false)) ∧ (¬ (r = [] ∨ r.all isDig = false) → (plainL r).1 = r) := by
  have hr := (List.takeWhile_append_dropWhile (p := isDig) (l := r)).symm
  have hnil := dropW_nil r
  have hid := takeW_id r
  have h46 : r.all isDig = true → ¬ (ptL (r.dropWhile isDig)).1 = true := by
    intro h; rw [hnil.2 h]; simp [ptL]
  unfold plainL
  by_cases hall : r.all isDig = true
  · rw [if_neg (h46 hall), hid hall, hnil.2 hall]
    refine ⟨?_, fun _ => rfl⟩
    cases r <;> simp [hall]
  · have hd : ¬ r.dropWhile isDig = [] := fun h => hall (hnil.1 h)
    refine ⟨⟨fun h => ?_, fun h => absurd (Or.inr (by simpa using hall)) h⟩, fun h => absurd (Or.inr (by simpa using hall)) h⟩
    split at h
    · simp at h
    · simp [hd] at h

theorem whole_ev (l : List UInt8) (h : l.length ≤ 1000000) : Ev (fun r => mezzotintref01_whole.f r (S l)) (wholeR l) := by
  have hle := sgnL_len l
  obtain ⟨h1, h2⟩ := plainL_whole (sgnL l).2
  have hf : ∀ r, mezzotintref01_whole.f r (S l) = if (plainL (sgnL l).2).2.2.2 = true then mezzotintref01_whole.j0 r (sgnL l).1 (S (plainL (sgnL l).2).1) (plainL (sgnL l).2).2.2.1 else mezzotintref01_whole.j0 r (sgnL l).1 (S (plainL (sgnL l).2).1) true := by
    intro r
    unfold mezzotintref01_whole.f
    rw [ref_plain_f l (by omega)]
    rfl
  refine Ev.congr (fun r => hf r) ?_
  unfold wholeR
  generalize (sgnL l).1 = m at *
  generalize (sgnL l).2 = r at *
  by_cases hb : r = [] ∨ r.all isDig = false
  · rw [if_pos hb]
    have hn := fun hh => (h1.1 hh) hb
    refine Ev.step (f := fun _ => some (0, false)) (fun q => ?_) (Ev.now _)
    by_cases hok : (plainL r).2.2.2 = true
    · have hh : (plainL r).2.2.1 = true := by
        cases hx : (plainL r).2.2.1 with
        | true => rfl
        | false => exact absurd ⟨hok, hx⟩ hn
      rw [if_pos hok, hh, mezzotintref01_whole.j0, if_pos rfl]
    · rw [if_neg hok, mezzotintref01_whole.j0, if_pos rfl]
  · rw [if_neg hb]
    obtain ⟨g1, g2⟩ := h1.2 hb
    rw [g1, g2, h2 hb]
    have hall : r.all isDig = true := by
      cases hx : r.all isDig with
      | true => rfl
      | false => exact absurd (Or.inr hx) hb
    refine Ev.step (fun q => ?_) (wl0_ev m r hall (by omega) r [] rfl (by simp [valD]))
    rw [if_pos rfl, mezzotintref01_whole.j0, if_neg (by decide)]
    rfl

/-! ### the contracts -/
theorem whole_call (l : List UInt8) (h : l.length ≤ 1000000) (w : World) : Calls Tryd.prog 45 #[.string (S l)] w fun e w' => e = .returned (.tuple #[.int .i64 (wholeR l).1, .bool (wholeR l).2]) ∧ Below w.heap.size w w' := by
  obtain ⟨k, hk⟩ := (whole_ev l h).rounds
  refine (mezzotintref01_whole.calls k (S l) _ _ w hk).mono ?_
  rintro e w' ⟨he, hd⟩
  exact ⟨he, by first | exact hd.below | exact hd⟩
theorem scaled_call (D : List UInt8) (p : Int) (hD : D.all isDig = true) (hlen : D.length ≤ 1000000) (h1 : -1000000 ≤ p) (h2 : p ≤ 1000000) (w : World) :
    Calls Tryd.prog 36 #[.string (S D), .int .i64 p] w fun e w' => e = .returned (.tuple #[.int .i64 (sclL (aOf D p.toNat) (bOf D p)).1, .bool (sclL (aOf D p.toNat) (bOf D p)).2]) ∧ Below w.heap.size w w' := by
  obtain ⟨k, hk⟩ := (scaled_ev D p hD hlen h1 h2).rounds
  refine (mezzotintref01_scaled.calls k (S D) p _ _ w hk).mono ?_
  rintro e w' ⟨he, hd⟩
  exact ⟨he, by first | exact hd.below | exact hd⟩
theorem signed_call (n : Int) (m : Bool) (h1 : -1000000000000 < n) (h2 : n < 1000000000000) (w : World) :
    Calls Tryd.prog 37 #[.int .i64 n, .bool m] w fun e w' => e = .returned (.tuple #[.int .i64 (sgnR n m).1, .bool (sgnR n m).2]) ∧ Below w.heap.size w w' := by
  refine (mezzotintref01_signed.calls n m _ _ w (rsigned_f n m h1 h2)).mono ?_
  rintro e w' ⟨he, hd⟩
  exact ⟨he, by first | exact hd.below | exact hd⟩

end Go.Proofs.YtiocgpfnbmlfaaaDoor.QT

/-! ## RT -/
namespace Go.Proofs.YtiocgpfnbmlfaaaDoor.QT
open Go Go.RowKit Go.Proofs.YtiocgpfnbmlfaaaDoor Go.Proofs.YtiocgpfnbmlfaaaDoor.PT Go.Proofs.YtiocgpfnbmlfaaaDoor.QD Go.Proofs.YtiocgpfnbmlfaaaDoorW.PrintWords Go.Proofs.YtiocgpfnbmlfaaaDoorW.PrintLast

/-- no radix: a digits begin the text -/
def NoRad (s : ByteArray) (a : Nat) : Prop :=
  a < 1 ∨ 2 < a ∨ (1 ≤ a ∧ a ≤ 2 ∧ s.size ≤ a + 1) ∨ (∃ (_ : 1 ≤ a) (_ : a ≤ 2) (_ : a + 1 < s.size) (h : a < s.size), (((s[a]'h).toNat : Int) == 35) = false)
theorem NoRad.ways {s : ByteArray} {a : Nat} (h : NoRad s a) :
    (decide (1 ≤ (a : Int)) = false) ∨ (decide (1 ≤ (a : Int)) = true ∧ decide ((a : Int) ≤ 2) = false) ∨
    (decide (1 ≤ (a : Int)) = true ∧ decide ((a : Int) ≤ 2) = true ∧ decide ((a : Int) + 1 < (s.size : Int)) = false) ∨
    (∃ (h : a < s.size), decide (1 ≤ (a : Int)) = true ∧ decide ((a : Int) ≤ 2) = true ∧ decide ((a : Int) + 1 < (s.size : Int)) = true ∧ (((s[a]'h).toNat : Int) == 35) = false) := by
  rcases h with h | h | ⟨h1, h2, h3⟩ | ⟨h1, h2, h3, h, h4⟩
  · exact .inl (by simp; omega)
  · exact .inr (.inl ⟨by simp; omega, by simp; omega⟩)
  · exact .inr (.inr (.inl ⟨by simp; omega, by simp; omega, by simp; omega⟩))
  · exact .inr (.inr (.inr ⟨h, by simp; omega, by simp; omega, by simp; omega, h4⟩))

set_option maxHeartbeats 4000000 in
set_option maxRecDepth 100000 in
theorem rt_long (s : ByteArray) (w : World) (hs : 64 < s.size) :
    Calls Tryd.prog 18 #[.string s] w (RQ 0 0 false 0 w) := by
  have hT := TokBlk.new w
  have hlt := hT.lt
  obtain ⟨⟨c0, c1, c2⟩, f0, f1, f2⟩ := hT.facts
  have hsz : (64 : Int) < (s.size : Int) := by omega
  clear hT
  go_enter Tryd.func18, Tryd.ntmps18
  go_wp2_with fail
  refine bodyPost_ret (v := .tuple #[.agg #[.int .i64 0, .int .i64 0, .string ⟨#[]⟩], .bool false, .int .i64 0]) (by simp [results, Tryd.results18, go_sem, c0, c1, c2]) rfl ⟨rfl, ?_⟩
  exact (Below.refl _ _).alloc (Nat.le_refl _) _

set_option maxHeartbeats 4000000 in
set_option maxRecDepth 100000 in
theorem rt_whole (s : ByteArray) (w : World) (hs : s.size ≤ 64) (a : Nat) (ha : a ≤ 64) (hD : ∀ w, Calls Tryd.prog 43 #[.string s] w fun e w' => e = .returned (.int .i64 (a : Int)) ∧ Below w.heap.size w w') (hno : NoRad s a)
    (n : Int) (hW : ∀ w, Calls Tryd.prog 45 #[.string s] w fun e w' => e = .returned (.tuple #[.int .i64 n, .bool true]) ∧ Below w.heap.size w w') :
    Calls Tryd.prog 18 #[.string s] w (RQ 1 n true 0 w) := by
  have HD := Lib.hid hD
  have HW := Lib.hid hW
  have HN := Lib.hid hno
  have HT := Lib.hid (TokBlk.new w)
  have hsz : ¬ ((64 : Int) < (s.size : Int)) := by omega
  have ha0 : (0 : Int) ≤ (a : Int) := by omega
  have ha1 : (a : Int) ≤ 64 := by omega
  clear hD hW hno
  go_enter Tryd.func18, Tryd.ntmps18
  go_wp2_with fail
  refine (HD.out _).mono ?_
  rintro e w1 ⟨rfl, hb⟩
  have K := Lib.hid (Kept.first HT.out hb)
  clear hb HT
  go_upto_region 4 with fail
  go_cut [51] (fun b wx => b = .bool false ∧ Hid (Kept w wx))
  case first =>
    rcases HN.out.ways with h1 | ⟨h1, h2⟩ | ⟨h1, h2, h3⟩ | ⟨h, h1, h2, h3, h4⟩
    all_goals
      clear HN
      go_wp2_with fail
      go_meet
      exact ⟨rfl, K⟩
  case rest =>
    clear K HN
    obtain ⟨rfl, K⟩ := hcut
    go_wp2_with fail
    refine (HW.out _).mono ?_
    rintro e w2 ⟨rfl, hb⟩
    replace K := Lib.hid (K.out.step hb)
    clear hb
    obtain ⟨⟨c0, c1, c2⟩, f0, f1, f2⟩ := K.out.1.facts
    have hlt := K.out.1.lt
    go_wp2_with fail
    refine bodyPost_ret (v := .tuple #[.agg #[.int .i64 1, .int .i64 n, .string ⟨#[]⟩], .bool true, .int .i64 0]) (by simp [results, Tryd.results18, go_sem, c0, c1, c2]) rfl ⟨rfl, ?_⟩
    exact K.out.done rfl rfl rfl

end Go.Proofs.YtiocgpfnbmlfaaaDoor.QT

/-! ## RU -/
namespace Go.Proofs.YtiocgpfnbmlfaaaDoor.QT
open Go Go.RowKit Go.Proofs.YtiocgpfnbmlfaaaDoor Go.Proofs.YtiocgpfnbmlfaaaDoor.PT Go.Proofs.YtiocgpfnbmlfaaaDoor.QD Go.Proofs.YtiocgpfnbmlfaaaDoorW.PrintWords Go.Proofs.YtiocgpfnbmlfaaaDoorW.PrintLast

/-- an e stands at i, and nowhere ahead -/
def IsE (c : UInt8) : Bool := (c == 101) || (c == 69)
def FirstE (s : ByteArray) (i : Nat) : Prop := (∀ j (h : j < s.size), j < i → IsE (s[j]'h) = false) ∧ (∀ h : i < s.size, IsE (s[i]'h) = true) ∧ i ≤ s.size
theorem FirstE.no {s : ByteArray} {i j : Nat} (H : FirstE s i) (h : j < s.size) (hj : j < i) : (((s[j]'h).toNat : Int) == 101) = false ∧ (((s[j]'h).toNat : Int) == 69) = false := by
  have := H.1 j h hj
  unfold IsE at this
  simp only [Bool.or_eq_false_iff, beq_eq_false_iff_ne, ne_eq] at this
  refine ⟨beq_eq_false_iff_ne.2 fun e => this.1 (UInt8.toNat_inj.1 (by show (s[j]'h).toNat = 101; omega)), beq_eq_false_iff_ne.2 fun e => this.2 (UInt8.toNat_inj.1 (by show (s[j]'h).toNat = 69; omega))⟩
theorem FirstE.yes {s : ByteArray} {i : Nat} (H : FirstE s i) (h : i < s.size) : (s[i]'h) = 101 ∨ (s[i]'h) = 69 := by
  have := H.2.1 h
  unfold IsE at this
  simpa only [Bool.or_eq_true, beq_iff_eq] using this

/-- what comes of a mantissa: kind, number, is it one, error -/
def TailIs (fine fits fits2 : Bool) (v2 : Int) (r : Int × Int × Bool × Int) : Prop :=
  (fine = false ∧ r = (0, 0, false, 0)) ∨ (fine = true ∧ fits = false ∧ r = (0, 0, true, 9)) ∨ (fine = true ∧ fits = true ∧ fits2 = false ∧ r = (0, 0, true, 9)) ∨ (fine = true ∧ fits = true ∧ fits2 = true ∧ r = (2, v2, true, 0))

set_option maxHeartbeats 8000000 in
set_option maxRecDepth 100000 in
theorem rt_noexp (s : ByteArray) (w : World) (hs : s.size ≤ 64) (a : Nat) (ha : a ≤ 64) (hD : ∀ w, Calls Tryd.prog 43 #[.string s] w fun e w' => e = .returned (.int .i64 (a : Int)) ∧ Below w.heap.size w w') (hno : NoRad s a)
    (n : Int) (hW : ∀ w, Calls Tryd.prog 45 #[.string s] w fun e w' => e = .returned (.tuple #[.int .i64 n, .bool false]) ∧ Below w.heap.size w w')
    (i : Nat) (hE : FirstE s i) (x D : ByteArray) (hx : s.extract 0 i = x) (m has fine : Bool) (pt : Int) (hpt : 0 ≤ pt) (hpt2 : pt ≤ 64)
    (hP : ∀ w, Calls Tryd.prog 35 #[.string x] w fun e w' => e = .returned (.tuple #[.bool m, .string D, .int .i64 pt, .bool has, .bool fine]) ∧ Below w.heap.size w w')
    (v v2 : Int) (fits fits2 : Bool)
    (hS : ∀ w, Calls Tryd.prog 36 #[.string D, .int .i64 pt] w fun e w' => e = .returned (.tuple #[.int .i64 v, .bool fits]) ∧ Below w.heap.size w w')
    (hG : ∀ w, Calls Tryd.prog 37 #[.int .i64 v, .bool m] w fun e w' => e = .returned (.tuple #[.int .i64 v2, .bool fits2]) ∧ Below w.heap.size w w')
    (k0 n0 e0 : Int) (ok0 : Bool) (hT : TailIs fine fits fits2 v2 (k0, n0, ok0, e0)) (hi0 : i = s.size) :
    Calls Tryd.prog 18 #[.string s] w (RQ k0 n0 ok0 e0 w) := by
  have HD := Lib.hid hD
  have HW := Lib.hid hW
  have HP := Lib.hid hP
  have HS := Lib.hid hS
  have HG := Lib.hid hG
  have HN := Lib.hid hno
  have HE := Lib.hid hE
  have HR := Lib.hid hT
  have HX := Lib.hid hx
  have HT := Lib.hid (TokBlk.new w)
  have hsz : ¬ ((64 : Int) < (s.size : Int)) := by omega
  have ha0 : (0 : Int) ≤ (a : Int) := by omega
  have ha1 : (a : Int) ≤ 64 := by omega
  have hil := hE.2.2
  have hi := Lib.hid hi0
  clear hD hW hno hP hS hG hE hT hx hi0
  go_enter Tryd.func18, Tryd.ntmps18
  go_wp2_with fail
  refine (HD.out _).mono ?_
  rintro e w1 ⟨rfl, hb⟩
  have K := Lib.hid (Kept.first HT.out hb)
  clear hb HT
  go_upto_region 4 with fail
  go_cut [51] (fun b wx => b = .bool false ∧ Hid (Kept w wx))
  case first =>
    rcases HN.out.ways with h1 | ⟨h1, h2⟩ | ⟨h1, h2, h3⟩ | ⟨h, h1, h2, h3, h4⟩
    all_goals
      clear HN
      go_wp2_with fail
      go_meet
      exact ⟨rfl, K⟩
  clear K HN
  obtain ⟨rfl, K⟩ := hcut
  go_wp2_with fail
  refine (HW.out _).mono ?_
  rintro e w2 ⟨rfl, hb⟩
  replace K := Lib.hid (K.out.step hb)
  clear hb
  go_upto_block 2 with fail
  go_cut [14] (fun v wx => v = .int .i64 (i : Int) ∧ Hid (Kept w wx))
  case first =>
    go_wp2_with fail
    go_loop [14, 15] (fun v p => ∃ k : Nat, k ≤ i ∧ v = .int .i64 (s.size : Int) ∧ p = .int .i64 (k : Int)) (fun _ p => s.size - (intOf p).toNat)
    case atStart => exact ⟨0, Nat.zero_le _, rfl, rfl⟩
    case round =>
      obtain ⟨k, hk, rfl, rfl⟩ := hrel
      by_cases hlt : k < i
      · have hks : k < s.size := by omega
        have hki : (k : Int) < (s.size : Int) := by omega
        obtain ⟨g1, g2⟩ := HE.out.no hks hlt
        go_wp2_with fail
        go_round
        case rel => exact ⟨k + 1, by omega, rfl, by go_num⟩
        case measure => simp [intOf]; omega
      · obtain rfl : k = i := by omega
        clear hlt hk
        have hki : ¬ ((k : Int) < (s.size : Int)) := by have := hi.out; omega
        go_wp2_with fail
        go_meet
        exact ⟨by rw [hi.out], K⟩
  clear K
  obtain ⟨rfl, K⟩ := hcut
  have hi1 : ¬ ((i : Int) < (s.size : Int)) := by have := hi.out; omega
  have hi2 : (0 : Int) ≤ (i : Int) := by omega
  have hi3 : (i : Int) ≤ (s.size : Int) := by omega
  have hx := HX.out
  go_wp2_with fail
  refine (HP.out _).mono ?_
  rintro e w3 ⟨rfl, hb⟩
  replace K := Lib.hid (K.out.step hb)
  clear hb
  clear hx
  rcases HR.out with ⟨rfl, hr⟩ | ⟨rfl, rfl, hr⟩ | ⟨rfl, rfl, rfl, hr⟩ | ⟨rfl, rfl, rfl, hr⟩
  · cases hr
    clear HR
    obtain ⟨⟨c0, c1, c2⟩, f0, f1, f2⟩ := K.out.1.facts
    have hlt := K.out.1.lt
    go_wp2_with fail
    refine bodyPost_ret (v := .tuple #[.agg #[.int .i64 0, .int .i64 0, .string ⟨#[]⟩], .bool false, .int .i64 0]) (by simp [results, Tryd.results18, go_sem, c0, c1, c2]) rfl ⟨rfl, ?_⟩
    exact K.out.done rfl rfl rfl
  · cases hr
    clear HR
    go_wp2_with fail
    refine (HS.out _).mono ?_
    rintro e w4 ⟨rfl, hb⟩
    replace K := Lib.hid (K.out.step hb)
    clear hb
    obtain ⟨⟨c0, c1, c2⟩, f0, f1, f2⟩ := K.out.1.facts
    have hlt := K.out.1.lt
    go_wp2_with fail
    refine bodyPost_ret (v := .tuple #[.agg #[.int .i64 0, .int .i64 0, .string ⟨#[]⟩], .bool true, .int .i64 9]) (by simp [results, Tryd.results18, go_sem, c0, c1, c2]) rfl ⟨rfl, ?_⟩
    exact K.out.done rfl rfl rfl
  · cases hr
    clear HR
    go_wp2_with fail
    refine (HS.out _).mono ?_
    rintro e w4 ⟨rfl, hb⟩
    replace K := Lib.hid (K.out.step hb)
    clear hb
    go_wp2_with fail
    refine (HG.out _).mono ?_
    rintro e w5 ⟨rfl, hb⟩
    replace K := Lib.hid (K.out.step hb)
    clear hb
    obtain ⟨⟨c0, c1, c2⟩, f0, f1, f2⟩ := K.out.1.facts
    have hlt := K.out.1.lt
    go_wp2_with fail
    refine bodyPost_ret (v := .tuple #[.agg #[.int .i64 0, .int .i64 0, .string ⟨#[]⟩], .bool true, .int .i64 9]) (by simp [results, Tryd.results18, go_sem, c0, c1, c2]) rfl ⟨rfl, ?_⟩
    exact K.out.done rfl rfl rfl
  · cases hr
    clear HR
    go_wp2_with fail
    refine (HS.out _).mono ?_
    rintro e w4 ⟨rfl, hb⟩
    replace K := Lib.hid (K.out.step hb)
    clear hb
    go_wp2_with fail
    refine (HG.out _).mono ?_
    rintro e w5 ⟨rfl, hb⟩
    replace K := Lib.hid (K.out.step hb)
    clear hb
    obtain ⟨⟨c0, c1, c2⟩, f0, f1, f2⟩ := K.out.1.facts
    have hlt := K.out.1.lt
    go_wp2_with fail
    refine bodyPost_ret (v := .tuple #[.agg #[.int .i64 2, .int .i64 v2, .string ⟨#[]⟩], .bool true, .int .i64 0]) (by simp [results, Tryd.results18, go_sem, c0, c1, c2]) rfl ⟨rfl, ?_⟩
    exact K.out.done rfl rfl rfl

end Go.Proofs.YtiocgpfnbmlfaaaDoor.QT

/-! ## RV -/
namespace Go.Proofs.YtiocgpfnbmlfaaaDoor.QT
open Go Go.RowKit Go.Proofs.YtiocgpfnbmlfaaaDoor Go.Proofs.YtiocgpfnbmlfaaaDoor.PT Go.Proofs.YtiocgpfnbmlfaaaDoor.QD Go.Proofs.YtiocgpfnbmlfaaaDoorW.PrintWords Go.Proofs.YtiocgpfnbmlfaaaDoorW.PrintLast

/-- p begins with a sign or with none; q is the rest -/
def SignAt (p q : ByteArray) (m sg : Bool) : Prop :=
  (p.size = 0 ∧ q = p ∧ m = false ∧ sg = false) ∨ (∃ (h : 0 < p.size), (p[0]'h) = 45 ∧ p.extract 1 p.size = q ∧ m = true ∧ sg = true) ∨ (∃ (h : 0 < p.size), (p[0]'h) = 43 ∧ p.extract 1 p.size = q ∧ m = false ∧ sg = true) ∨
  (∃ (h : 0 < p.size) (x : UInt8), (p[0]'h) = x ∧ ((x.toNat : Int) == 45) = false ∧ ((x.toNat : Int) == 43) = false ∧ q = p ∧ m = false ∧ sg = false)
theorem num10 (V c : Nat) (hV : V ≤ 1000) (h1 : 48 ≤ c) (h2 : c ≤ 57) : wrap64 (wrap64 ((V : Int) * 10) + ((c : Int) - 48) % 256) = ((10 * V + (c - 48) : Nat) : Int) := by
  rw [w64 ((V : Int) * 10) (by omega) (by omega), w64 _ (by omega) (by omega)]; omega
theorem dig_at (q : ByteArray) (k : Nat) (h : k < q.size) (hq : q.data.toList.all isDig = true) : 48 ≤ (q[k]'h).toNat ∧ (q[k]'h).toNat ≤ 57 :=
  (isDig_iff _).1 (List.all_eq_true.1 hq _ (List.getElem_mem (l := q.data.toList) (n := k) (by rw [← Lib.size_eq]; exact h)))
theorem take_snoc' (q : ByteArray) (k : Nat) (h : k < q.size) : valD (q.data.toList.take (k + 1)) = 10 * valD (q.data.toList.take k) + ((q[k]'h).toNat - 48) := by
  have hl : k < q.data.toList.length := by rw [← Lib.size_eq]; exact h
  rw [List.take_succ_eq_append_getElem hl, valD_snoc]
  rfl

set_option maxHeartbeats 8000000 in
set_option maxRecDepth 100000 in
theorem rt_badexp (s : ByteArray) (w : World) (hs : s.size ≤ 64) (a : Nat) (ha : a ≤ 64) (hD : ∀ w, Calls Tryd.prog 43 #[.string s] w fun e w' => e = .returned (.int .i64 (a : Int)) ∧ Below w.heap.size w w') (hno : NoRad s a)
    (n : Int) (hW : ∀ w, Calls Tryd.prog 45 #[.string s] w fun e w' => e = .returned (.tuple #[.int .i64 n, .bool false]) ∧ Below w.heap.size w w')
    (i : Nat) (p q : ByteArray) (mp sg : Bool) (hi0 : i < s.size) (hp : s.extract (i + 1) s.size = p) (hpq : SignAt p q mp sg) (hE : FirstE s i) (dq : Int) (hQ : ∀ w, Calls Tryd.prog 43 #[.string q] w fun e w' => e = .returned (.int .i64 dq) ∧ Below w.heap.size w w') (hbad : q.size < 1 ∨ (1 ≤ q.size ∧ 3 < q.size) ∨ (1 ≤ q.size ∧ q.size ≤ 3 ∧ ¬ dq = (q.size : Int))) :
    Calls Tryd.prog 18 #[.string s] w (RQ 0 0 false 0 w) := by
  have HD := Lib.hid hD
  have HW := Lib.hid hW
  have HQ := Lib.hid hQ
  have HBA := Lib.hid hbad
  have HN := Lib.hid hno
  have HE := Lib.hid hE
  have HT := Lib.hid (TokBlk.new w)
  have hsz : ¬ ((64 : Int) < (s.size : Int)) := by omega
  have ha0 : (0 : Int) ≤ (a : Int) := by omega
  have ha1 : (a : Int) ≤ 64 := by omega
  have hil := hE.2.2
  have hi := Lib.hid hi0
  have HPP := Lib.hid hp
  have HSG := Lib.hid hpq
  clear hp hpq
  clear hD hW hno hQ hE hbad hi0
  go_enter Tryd.func18, Tryd.ntmps18
  go_wp2_with fail
  refine (HD.out _).mono ?_
  rintro e w1 ⟨rfl, hb⟩
  have K := Lib.hid (Kept.first HT.out hb)
  clear hb HT
  go_upto_region 4 with fail
  go_cut [51] (fun b wx => b = .bool false ∧ Hid (Kept w wx))
  case first => as_aux_lemma =>
    rcases HN.out.ways with h1 | ⟨h1, h2⟩ | ⟨h1, h2, h3⟩ | ⟨h, h1, h2, h3, h4⟩
    all_goals
      clear HN
      go_wp2_with fail
      go_meet
      exact ⟨rfl, K⟩
  clear K HN
  obtain ⟨rfl, K⟩ := hcut
  go_wp2_with fail
  refine (HW.out _).mono ?_
  rintro e w2 ⟨rfl, hb⟩
  replace K := Lib.hid (K.out.step hb)
  clear hb
  go_upto_block 2 with fail
  go_cut [14] (fun v wx => v = .int .i64 (i : Int) ∧ Hid (Kept w wx))
  case first => as_aux_lemma =>
    go_wp2_with fail
    go_loop [14, 15] (fun v p => ∃ k : Nat, k ≤ i ∧ v = .int .i64 (s.size : Int) ∧ p = .int .i64 (k : Int)) (fun _ p => s.size - (intOf p).toNat)
    case atStart => exact ⟨0, Nat.zero_le _, rfl, rfl⟩
    case round =>
      obtain ⟨k, hk, rfl, rfl⟩ := hrel
      by_cases hlt : k < i
      · have hks : k < s.size := by omega
        have hki : (k : Int) < (s.size : Int) := by omega
        obtain ⟨g1, g2⟩ := HE.out.no hks hlt
        go_wp2_with fail
        go_round
        case rel => exact ⟨k + 1, by omega, rfl, by go_num⟩
        case measure => simp [intOf]; omega
      · obtain rfl : k = i := by omega
        clear hlt hk
        have hki : (k : Int) < (s.size : Int) := by have := hi.out; omega
        have hks : k < s.size := by omega
        rcases HE.out.yes hks with g1 | g1
        all_goals
          go_wp2_with fail
          go_meet
          exact ⟨rfl, K⟩
  clear K
  obtain ⟨rfl, K⟩ := hcut
  have hi1 : (i : Int) < (s.size : Int) := by have := hi.out; omega
  have hi2 : (0 : Int) ≤ (i : Int) := by omega
  have hi3 : (i : Int) ≤ (s.size : Int) := by omega
  have hi4 : (0 : Int) ≤ (i : Int) + 1 := by omega
  have hi5 : (i : Int) + 1 ≤ (s.size : Int) := by omega
  have hp := HPP.out
  go_upto_region 40 with fail
  clear hp
  go_cut [159] (fun b wx => b = .bool sg ∧ Hid (Kept w wx))
  case first => as_aux_lemma =>
    rcases HSG.out with ⟨h1, rfl, rfl, rfl⟩ | ⟨h1, h2, h3, rfl, rfl⟩ | ⟨h1, h2, h3, rfl, rfl⟩ | ⟨h1, x, h2, h3, h4, rfl, rfl, rfl⟩
    all_goals
      go_wp2_with fail
      go_meet
      exact ⟨rfl, K⟩
  clear K
  obtain ⟨rfl, K⟩ := hcut
  go_upto_if 159 with fail
  go_cut [17, 18] (fun a b wx => a = .string q ∧ b = .bool mp ∧ Hid (Kept w wx))
  case first => as_aux_lemma =>
    rcases HSG.out with ⟨h1, rfl, rfl, rfl⟩ | ⟨h1, h2, h3, rfl, rfl⟩ | ⟨h1, h2, h3, rfl, rfl⟩ | ⟨h1, x, h2, h3, h4, rfl, rfl, rfl⟩
    all_goals
      go_wp2_with fail
      go_meet
      exact ⟨rfl, rfl, K⟩
  clear K
  obtain ⟨rfl, rfl, K⟩ := hcut
  rcases HBA.out with hb | ⟨hb0, hb⟩ | ⟨hb0, hb1, hb⟩
  · as_aux_lemma =>
    have hb' : decide ((q.size : Int) < 1) = true := decide_eq_true (by omega)
    clear hb HBA
    obtain ⟨⟨c0, c1, c2⟩, f0, f1, f2⟩ := K.out.1.facts
    have hlt := K.out.1.lt
    go_wp2_with fail
    refine bodyPost_ret (v := .tuple #[.agg #[.int .i64 0, .int .i64 0, .string ⟨#[]⟩], .bool false, .int .i64 0]) (by simp [results, Tryd.results18, go_sem, c0, c1, c2]) rfl ⟨rfl, ?_⟩
    exact K.out.done rfl rfl rfl
  · as_aux_lemma =>
    have hb' : decide ((3 : Int) < (q.size : Int)) = true := decide_eq_true (by omega)
    have hb'' : decide ((q.size : Int) < 1) = false := decide_eq_false (by omega)
    clear hb hb0 HBA
    obtain ⟨⟨c0, c1, c2⟩, f0, f1, f2⟩ := K.out.1.facts
    have hlt := K.out.1.lt
    go_wp2_with fail
    refine bodyPost_ret (v := .tuple #[.agg #[.int .i64 0, .int .i64 0, .string ⟨#[]⟩], .bool false, .int .i64 0]) (by simp [results, Tryd.results18, go_sem, c0, c1, c2]) rfl ⟨rfl, ?_⟩
    exact K.out.done rfl rfl rfl
  · as_aux_lemma =>
    have hb' : decide ((3 : Int) < (q.size : Int)) = false := decide_eq_false (by omega)
    have hb'' : decide ((q.size : Int) < 1) = false := decide_eq_false (by omega)
    have hb3 : (dq != (q.size : Int)) = true := by simpa using hb
    clear hb hb0 hb1 HBA
    go_wp2_with fail
    refine (HQ.out _).mono ?_
    rintro e w3 ⟨rfl, hb⟩
    replace K := Lib.hid (K.out.step hb)
    clear hb
    obtain ⟨⟨c0, c1, c2⟩, f0, f1, f2⟩ := K.out.1.facts
    have hlt := K.out.1.lt
    go_wp2_with fail
    refine bodyPost_ret (v := .tuple #[.agg #[.int .i64 0, .int .i64 0, .string ⟨#[]⟩], .bool false, .int .i64 0]) (by simp [results, Tryd.results18, go_sem, c0, c1, c2]) rfl ⟨rfl, ?_⟩
    exact K.out.done rfl rfl rfl

set_option maxHeartbeats 8000000 in
set_option maxRecDepth 100000 in
theorem rt_exp (s : ByteArray) (w : World) (hs : s.size ≤ 64) (a : Nat) (ha : a ≤ 64) (hD : ∀ w, Calls Tryd.prog 43 #[.string s] w fun e w' => e = .returned (.int .i64 (a : Int)) ∧ Below w.heap.size w w') (hno : NoRad s a)
    (n : Int) (hW : ∀ w, Calls Tryd.prog 45 #[.string s] w fun e w' => e = .returned (.tuple #[.int .i64 n, .bool false]) ∧ Below w.heap.size w w')
    (i : Nat) (hE : FirstE s i) (x D : ByteArray) (hx : s.extract 0 i = x) (m has fine : Bool) (pt pw : Int) (hpt : 0 ≤ pt) (hpt2 : pt ≤ 64)
    (hP : ∀ w, Calls Tryd.prog 35 #[.string x] w fun e w' => e = .returned (.tuple #[.bool m, .string D, .int .i64 pt, .bool has, .bool fine]) ∧ Below w.heap.size w w')
    (hpw1 : -1000 < pw) (hpw2 : pw < 1000) (v v2 : Int) (fits fits2 : Bool)
    (hS : ∀ w, Calls Tryd.prog 36 #[.string D, .int .i64 (pt + pw)] w fun e w' => e = .returned (.tuple #[.int .i64 v, .bool fits]) ∧ Below w.heap.size w w')
    (hG : ∀ w, Calls Tryd.prog 37 #[.int .i64 v, .bool m] w fun e w' => e = .returned (.tuple #[.int .i64 v2, .bool fits2]) ∧ Below w.heap.size w w')
    (k0 n0 e0 : Int) (ok0 : Bool) (hT : TailIs fine fits fits2 v2 (k0, n0, ok0, e0)) (hi0 : i < s.size) (p q : ByteArray) (mp sg : Bool) (hp : s.extract (i + 1) s.size = p) (hpq : SignAt p q mp sg) (hQ : ∀ w, Calls Tryd.prog 43 #[.string q] w fun e w' => e = .returned (.int .i64 (q.size : Int)) ∧ Below w.heap.size w w') (hq1 : 1 ≤ q.size) (hq3 : q.size ≤ 3) (hqd : q.data.toList.all isDig = true) (hpw : (if mp = true then -(valD q.data.toList : Int) else (valD q.data.toList : Int)) = pw) :
    Calls Tryd.prog 18 #[.string s] w (RQ k0 n0 ok0 e0 w) := by
  have HD := Lib.hid hD
  have HW := Lib.hid hW
  have HP := Lib.hid hP
  have HS := Lib.hid hS
  have HG := Lib.hid hG
  have HN := Lib.hid hno
  have HE := Lib.hid hE
  have HR := Lib.hid hT
  have HX := Lib.hid hx
  have HT := Lib.hid (TokBlk.new w)
  have hsz : ¬ ((64 : Int) < (s.size : Int)) := by omega
  have ha0 : (0 : Int) ≤ (a : Int) := by omega
  have ha1 : (a : Int) ≤ 64 := by omega
  have hil := hE.2.2
  have hi := Lib.hid hi0
  have HPP := Lib.hid hp
  have HSG := Lib.hid hpq
  clear hp hpq
  have HQ := Lib.hid hQ
  have HQD := Lib.hid hqd
  have HPW := Lib.hid hpw
  clear hQ hqd hpw
  clear hD hW hno hP hS hG hE hT hx hi0
  go_enter Tryd.func18, Tryd.ntmps18
  go_wp2_with fail
  refine (HD.out _).mono ?_
  rintro e w1 ⟨rfl, hb⟩
  have K := Lib.hid (Kept.first HT.out hb)
  clear hb HT
  go_upto_region 4 with fail
  go_cut [51] (fun b wx => b = .bool false ∧ Hid (Kept w wx))
  case first => as_aux_lemma =>
    rcases HN.out.ways with h1 | ⟨h1, h2⟩ | ⟨h1, h2, h3⟩ | ⟨h, h1, h2, h3, h4⟩
    all_goals
      clear HN
      go_wp2_with fail
      go_meet
      exact ⟨rfl, K⟩
  clear K HN
  obtain ⟨rfl, K⟩ := hcut
  go_wp2_with fail
  refine (HW.out _).mono ?_
  rintro e w2 ⟨rfl, hb⟩
  replace K := Lib.hid (K.out.step hb)
  clear hb
  go_upto_block 2 with fail
  go_cut [14] (fun v wx => v = .int .i64 (i : Int) ∧ Hid (Kept w wx))
  case first => as_aux_lemma =>
    go_wp2_with fail
    go_loop [14, 15] (fun v p => ∃ k : Nat, k ≤ i ∧ v = .int .i64 (s.size : Int) ∧ p = .int .i64 (k : Int)) (fun _ p => s.size - (intOf p).toNat)
    case atStart => exact ⟨0, Nat.zero_le _, rfl, rfl⟩
    case round =>
      obtain ⟨k, hk, rfl, rfl⟩ := hrel
      by_cases hlt : k < i
      · have hks : k < s.size := by omega
        have hki : (k : Int) < (s.size : Int) := by omega
        obtain ⟨g1, g2⟩ := HE.out.no hks hlt
        go_wp2_with fail
        go_round
        case rel => exact ⟨k + 1, by omega, rfl, by go_num⟩
        case measure => simp [intOf]; omega
      · obtain rfl : k = i := by omega
        clear hlt hk
        have hki : (k : Int) < (s.size : Int) := by have := hi.out; omega
        have hks : k < s.size := by omega
        rcases HE.out.yes hks with g1 | g1
        all_goals
          go_wp2_with fail
          go_meet
          exact ⟨rfl, K⟩
  clear K
  obtain ⟨rfl, K⟩ := hcut
  have hi1 : (i : Int) < (s.size : Int) := by have := hi.out; omega
  have hi2 : (0 : Int) ≤ (i : Int) := by omega
  have hi3 : (i : Int) ≤ (s.size : Int) := by omega
  have hi4 : (0 : Int) ≤ (i : Int) + 1 := by omega
  have hi5 : (i : Int) + 1 ≤ (s.size : Int) := by omega
  have hp := HPP.out
  go_upto_region 40 with fail
  clear hp
  go_cut [159] (fun b wx => b = .bool sg ∧ Hid (Kept w wx))
  case first => as_aux_lemma =>
    rcases HSG.out with ⟨h1, rfl, rfl, rfl⟩ | ⟨h1, h2, h3, rfl, rfl⟩ | ⟨h1, h2, h3, rfl, rfl⟩ | ⟨h1, x, h2, h3, h4, rfl, rfl, rfl⟩
    all_goals
      go_wp2_with fail
      go_meet
      exact ⟨rfl, K⟩
  clear K
  obtain ⟨rfl, K⟩ := hcut
  go_upto_if 159 with fail
  go_cut [17, 18] (fun a b wx => a = .string q ∧ b = .bool mp ∧ Hid (Kept w wx))
  case first => as_aux_lemma =>
    rcases HSG.out with ⟨h1, rfl, rfl, rfl⟩ | ⟨h1, h2, h3, rfl, rfl⟩ | ⟨h1, h2, h3, rfl, rfl⟩ | ⟨h1, x, h2, h3, h4, rfl, rfl, rfl⟩
    all_goals
      go_wp2_with fail
      go_meet
      exact ⟨rfl, rfl, K⟩
  clear K
  obtain ⟨rfl, rfl, K⟩ := hcut
  have hb' : decide ((3 : Int) < (q.size : Int)) = false := decide_eq_false (by omega)
  have hb'' : decide ((q.size : Int) < 1) = false := decide_eq_false (by omega)
  have hb4 : decide (3 < q.size) = false := decide_eq_false (by omega)
  have hb5 : decide (q.size < 1) = false := decide_eq_false (by omega)
  go_wp2_with fail
  refine (HQ.out _).mono ?_
  rintro e w3 ⟨rfl, hb⟩
  replace K := Lib.hid (K.out.step hb)
  clear hb
  have HQ1 := Lib.hid hq1
  clear hb' hb'' hb4 hb5 hq1
  go_upto_block 4 with fail
  go_cut [16] (fun v wx => v = .int .i64 (valD q.data.toList : Int) ∧ Hid (Kept w wx))
  case first => as_aux_lemma =>
    go_wp2_with fail
    go_loop [16, 19] (fun v p => ∃ k : Nat, k ≤ q.size ∧ v = .int .i64 (valD (q.data.toList.take k) : Int) ∧ p = .int .i64 (k : Int)) (fun _ p => q.size - (intOf p).toNat)
    case atStart => exact ⟨0, Nat.zero_le _, rfl, rfl⟩
    case round =>
      obtain ⟨k, hk, rfl, rfl⟩ := hrel
      by_cases hlt : k < q.size
      · have hki : (k : Int) < (q.size : Int) := by omega
        have HV := Lib.hid (take_snoc' q k hlt)
        have hb2 := valD_1000 q HQD.out (by omega) k (by omega)
        have HC := Lib.hid (dig_at q k hlt HQD.out)
        have HB2 := Lib.hid hb2
        clear hb2
        go_wp2_with fail
        go_round
        case rel => exact ⟨k + 1, by omega, by rw [HV.out, ← num10 _ _ (by have := HB2.out; omega) HC.out.1 HC.out.2], by go_num⟩
        case measure => simp [intOf]; omega
      · obtain rfl : k = q.size := by omega
        have hki : ¬ ((q.size : Int) < (q.size : Int)) := by omega
        go_wp2_with fail
        go_meet
        exact ⟨by rw [List.take_of_length_le (by rw [← Lib.size_eq]; exact Nat.le_refl _)], K⟩
  clear K
  obtain ⟨rfl, K⟩ := hcut
  have hV := valD_1000 q HQD.out (by omega) q.size (Nat.le_refl _)
  rw [List.take_of_length_le (by rw [← Lib.size_eq]; exact Nat.le_refl _)] at hV
  have HPW' := HPW.out
  clear HPW
  generalize valD q.data.toList = V at *
  go_upto_if 195 with fail
  go_cut [16] (fun v wx => v = .int .i64 pw ∧ Hid (Kept w wx))
  case first => as_aux_lemma =>
    cases mp
    · have HPW := Lib.hid HPW'
      clear HPW'
      go_wp2_with fail
      go_meet
      exact ⟨by rw [← HPW.out]; rfl, K⟩
    · have HPW := Lib.hid HPW'
      clear HPW'
      go_wp2_with fail
      go_meet
      exact ⟨by rw [← HPW.out]; rfl, K⟩
  clear K HPW' hV
  obtain ⟨rfl, K⟩ := hcut
  have hx := HX.out
  go_wp2_with fail
  refine (HP.out _).mono ?_
  rintro e w3 ⟨rfl, hb⟩
  replace K := Lib.hid (K.out.step hb)
  clear hb
  clear hx
  rcases HR.out with ⟨rfl, hr⟩ | ⟨rfl, rfl, hr⟩ | ⟨rfl, rfl, rfl, hr⟩ | ⟨rfl, rfl, rfl, hr⟩
  · cases hr
    clear HR
    obtain ⟨⟨c0, c1, c2⟩, f0, f1, f2⟩ := K.out.1.facts
    have hlt := K.out.1.lt
    go_wp2_with fail
    refine bodyPost_ret (v := .tuple #[.agg #[.int .i64 0, .int .i64 0, .string ⟨#[]⟩], .bool false, .int .i64 0]) (by simp [results, Tryd.results18, go_sem, c0, c1, c2]) rfl ⟨rfl, ?_⟩
    exact K.out.done rfl rfl rfl
  · cases hr
    clear HR
    go_wp2_with fail
    refine (HS.out _).mono ?_
    rintro e w4 ⟨rfl, hb⟩
    replace K := Lib.hid (K.out.step hb)
    clear hb
    obtain ⟨⟨c0, c1, c2⟩, f0, f1, f2⟩ := K.out.1.facts
    have hlt := K.out.1.lt
    go_wp2_with fail
    refine bodyPost_ret (v := .tuple #[.agg #[.int .i64 0, .int .i64 0, .string ⟨#[]⟩], .bool true, .int .i64 9]) (by simp [results, Tryd.results18, go_sem, c0, c1, c2]) rfl ⟨rfl, ?_⟩
    exact K.out.done rfl rfl rfl
  · cases hr
    clear HR
    go_wp2_with fail
    refine (HS.out _).mono ?_
    rintro e w4 ⟨rfl, hb⟩
    replace K := Lib.hid (K.out.step hb)
    clear hb
    go_wp2_with fail
    refine (HG.out _).mono ?_
    rintro e w5 ⟨rfl, hb⟩
    replace K := Lib.hid (K.out.step hb)
    clear hb
    obtain ⟨⟨c0, c1, c2⟩, f0, f1, f2⟩ := K.out.1.facts
    have hlt := K.out.1.lt
    go_wp2_with fail
    refine bodyPost_ret (v := .tuple #[.agg #[.int .i64 0, .int .i64 0, .string ⟨#[]⟩], .bool true, .int .i64 9]) (by simp [results, Tryd.results18, go_sem, c0, c1, c2]) rfl ⟨rfl, ?_⟩
    exact K.out.done rfl rfl rfl
  · cases hr
    clear HR
    go_wp2_with fail
    refine (HS.out _).mono ?_
    rintro e w4 ⟨rfl, hb⟩
    replace K := Lib.hid (K.out.step hb)
    clear hb
    go_wp2_with fail
    refine (HG.out _).mono ?_
    rintro e w5 ⟨rfl, hb⟩
    replace K := Lib.hid (K.out.step hb)
    clear hb
    obtain ⟨⟨c0, c1, c2⟩, f0, f1, f2⟩ := K.out.1.facts
    have hlt := K.out.1.lt
    go_wp2_with fail
    refine bodyPost_ret (v := .tuple #[.agg #[.int .i64 2, .int .i64 v2, .string ⟨#[]⟩], .bool true, .int .i64 0]) (by simp [results, Tryd.results18, go_sem, c0, c1, c2]) rfl ⟨rfl, ?_⟩
    exact K.out.done rfl rfl rfl

end Go.Proofs.YtiocgpfnbmlfaaaDoor.QT

/-! ## RW -/
namespace Go.Proofs.YtiocgpfnbmlfaaaDoor.QT
open Go Go.RowKit Go.Proofs.YtiocgpfnbmlfaaaDoor Go.Proofs.YtiocgpfnbmlfaaaDoor.PT Go.Proofs.YtiocgpfnbmlfaaaDoor.QD Go.Proofs.YtiocgpfnbmlfaaaDoorW.PrintWords Go.Proofs.YtiocgpfnbmlfaaaDoorW.PrintLast

theorem Hex_fin : ∀ c : Fin 256, PE.mezzotintref01_Hex.f 5 (c.val : Int) = some (digV c.val : Int) := by decide +kernel
theorem Hex_any (c : UInt8) (w : World) : Calls Tryd.prog 44 #[.int .u8 c.toNat] w fun e w' => e = .returned (.int .i64 (digV c.toNat : Nat)) ∧ Below w.heap.size w w' := by
  refine (PE.mezzotintref01_Hex.calls 5 _ _ w (Hex_fin ⟨c.toNat, c.toNat_lt⟩)).mono ?_
  rintro e w' ⟨rfl, hd⟩
  exact ⟨rfl, by first | exact hd.below | exact hd⟩

/-- the loop's head: behind k digits -/
def RL (base : Nat) (r : List UInt8) (k : Nat) (z : Int) (ov gd : Bool) : Prop :=
  (gd = true ∧ 2 ≤ base ∧ base ≤ 36 ∧ (∀ j, j < k → digV (r.getD j 0).toNat < base) ∧ z = ((radFold base (r.take k)).1 : Nat) ∧ ov = (radFold base (r.take k)).2) ∨ (gd = false ∧ radTail base r = (0, 0, false, 0))
theorem RL.next {base : Nat} {r : List UInt8} {k : Nat} {z : Int} {ov : Bool} (h : RL base r k z ov true) (hk : k < r.length) (d : Nat) (hd : digV (r.getD k 0).toNat = d) (hlt : d < base) (n : Nat) (hn : (n : Int) = z) (st : Nat × Bool)
    (hs : (if 4294967296 ≤ n * base + d then (0, true) else (n * base + d, ov)) = st) : RL base r (k + 1) (st.1 : Int) st.2 true := by
  rcases h with ⟨_, h1, h2, h3, h4, h5⟩ | ⟨h, _⟩
  · refine .inl ⟨rfl, h1, h2, ?_, ?_, ?_⟩
    · intro j hj
      by_cases e : j = k
      · subst e; omega
      · exact h3 j (by omega)
    all_goals
      have hn' : n = (radFold base (r.take k)).1 := by omega
      have hg : r.getD k 0 = r[k] := by rw [List.getD, List.getElem?_eq_getElem hk]; rfl
      rw [List.take_succ_eq_append_getElem hk, radFold_snoc, radStep, ← hg, hd, ← hn', ← h5, ← hs]
  · cases h
theorem RL.bad {base : Nat} {r : List UInt8} {k : Nat} (hk : k < r.length) (d : Nat) (hd : digV (r.getD k 0).toNat = d) (hge : base ≤ d) (k' : Nat) (z' : Int) (ov' : Bool) : RL base r k' z' ov' false := by
  refine .inr ⟨rfl, ?_⟩
  unfold radTail
  rw [if_pos]
  refine .inr (.inr ?_)
  rw [List.any_eq_true]
  have hg : r.getD k 0 = r[k] := by rw [List.getD, List.getElem?_eq_getElem hk]; rfl
  exact ⟨r[k], List.getElem_mem hk, by rw [← hg, hd]; simpa using hge⟩
theorem RL.done {base : Nat} {r : List UInt8} {k : Nat} {z : Int} {ov : Bool} (h : RL base r k z ov true) (hk : k = r.length) : ∃ n : Nat, z = n ∧ n < 4294967296 ∧ radTail base r = radEnd (n, ov) := by
  rcases h with ⟨_, h1, h2, h3, h4, h5⟩ | ⟨h, _⟩
  · subst hk
    rw [List.take_of_length_le (Nat.le_refl _)] at h4 h5
    refine ⟨_, h4, radFold_lt _ _, ?_⟩
    unfold radTail
    rw [if_neg, h5]
    rintro (hh | hh | hh)
    · omega
    · omega
    · rw [List.any_eq_true] at hh
      obtain ⟨c, hc, hcb⟩ := hh
      obtain ⟨j, hj, rfl⟩ := List.mem_iff_getElem.1 hc
      have := h3 j hj
      rw [List.getD, List.getElem?_eq_getElem hj] at this
      simp only [Option.getD_some, decide_eq_true_eq] at this hcb
      omega
  · cases h

set_option maxHeartbeats 8000000 in
set_option maxRecDepth 100000 in
theorem rt_radix (s : ByteArray) (w : World) (hs : s.size ≤ 64) (a : Nat) (ha1 : 1 ≤ a) (ha2 : a ≤ 2) (hD : ∀ w, Calls Tryd.prog 43 #[.string s] w fun e w' => e = .returned (.int .i64 (a : Int)) ∧ Below w.heap.size w w')
    (hsz1 : a + 1 < s.size) (has : a < s.size) (h35 : (s[a]'has) = 35) (h0 : 0 < s.size) (c0 : UInt8) (hc0 : (s[0]'h0) = c0) (b0 base : Nat) (hb0 : ((c0.toNat : Int) - 48) % 256 = (b0 : Int)) (hb09 : b0 ≤ 9)
    (hbase : (a = 1 ∧ base = b0) ∨ (a = 2 ∧ ∃ (h1 : 1 < s.size) (c1 : UInt8) (b1 : Nat), (s[1]'h1) = c1 ∧ ((c1.toNat : Int) - 48) % 256 = (b1 : Int) ∧ b1 ≤ 9 ∧ base = 10 * b0 + b1))
    (r : List UInt8) (hr : r.length + (a + 1) = s.size) (hrs : ∀ j, j < r.length → ∀ h : a + 1 + j < s.size, (s[a + 1 + j]'h) = r.getD j 0)
    (k0 n0 e0 : Int) (ok0 : Bool) (hres : radTail base r = (k0, n0, ok0, e0)) :
    Calls Tryd.prog 18 #[.string s] w (RQ k0 n0 ok0 e0 w) := by
  have HD := Lib.hid hD
  have HB := Lib.hid hbase
  have HRS := Lib.hid hrs
  have HRL := Lib.hid hr
  have HR := Lib.hid hres
  have HT := Lib.hid (TokBlk.new w)
  have hsz : ¬ ((64 : Int) < (s.size : Int)) := by omega
  have g1 : decide ((1 : Int) ≤ (a : Int)) = true := decide_eq_true (by omega)
  have g2 : decide ((a : Int) ≤ 2) = true := decide_eq_true (by omega)
  have g3 : decide ((a : Int) + 1 < (s.size : Int)) = true := decide_eq_true (by omega)
  have g4 : (0 : Int) ≤ (a : Int) := by omega
  have g5 : (a : Int) < (s.size : Int) := by omega
  clear hD hbase hrs hr hres
  go_enter Tryd.func18, Tryd.ntmps18
  go_wp2_with fail
  refine (HD.out _).mono ?_
  rintro e w1 ⟨rfl, hb⟩
  have K := Lib.hid (Kept.first HT.out hb)
  clear hb HT
  go_upto_if 57 with fail
  clear h35 g1 g2
  go_cut [6] (fun v wx => v = .int .i64 (base : Int) ∧ Hid (QD.Kept w wx))
  case first => as_aux_lemma =>
    rcases HB.out with ⟨h1, h2⟩ | ⟨h1, hh1, c1, b1, hc1, hb1, hb19, hb2⟩
    · have H2 := Lib.hid h2
      have h3 : ((a : Int) == 2) = false := beq_eq_false_iff_ne.2 (by omega)
      clear h1 h2
      go_wp2_with fail
      go_meet
      exact ⟨by rw [H2.out], K⟩
    · have H2 := Lib.hid hb2
      have h3 : ((a : Int) == 2) = true := beq_iff_eq.2 (by omega)
      clear h1 hb2
      go_wp2_with fail
      go_meet
      exact ⟨by rw [H2.out]; push_cast; rw [Int.mul_comm], K⟩
  clear K hc0 hb0
  obtain ⟨rfl, K⟩ := hcut
  have hbd : base ≤ 99 := by rcases HB.out with ⟨_, h⟩ | ⟨_, _, _, _, _, _, _, h⟩ <;> omega
  clear HB
  go_upto_region 8 with fail
  go_cut [7] (fun v wx => (∃ g : Bool, v = .bool g ∧ Hid (RL base r 0 0 false g)) ∧ Hid (QD.Kept w wx))
  case first => as_aux_lemma =>
    by_cases hb1 : 2 ≤ base
    · have hd1 : decide ((2 : Int) ≤ (base : Int)) = true := decide_eq_true (by omega)
      by_cases hb2 : base ≤ 36
      · have hd2 : decide ((base : Int) ≤ 36) = true := decide_eq_true (by omega)
        have HX := Lib.hid (show RL base r 0 0 false true from .inl ⟨rfl, hb1, hb2, fun _ h => absurd h (Nat.not_lt_zero _), rfl, rfl⟩)
        clear hb1 hb2
        go_wp2_with fail
        go_meet
        exact ⟨⟨true, rfl, HX⟩, K⟩
      · have hd2 : decide ((base : Int) ≤ 36) = false := decide_eq_false (by omega)
        have HX := Lib.hid (show RL base r 0 0 false false from .inr ⟨rfl, by unfold radTail; rw [if_pos (.inr (.inl (by omega)))]⟩)
        clear hb1 hb2
        go_wp2_with fail
        go_meet
        exact ⟨⟨false, rfl, HX⟩, K⟩
    · have hd1 : decide ((2 : Int) ≤ (base : Int)) = false := decide_eq_false (by omega)
      have HX := Lib.hid (show RL base r 0 0 false false from .inr ⟨rfl, by unfold radTail; rw [if_pos (.inl (by omega))]⟩)
      clear hb1
      go_wp2_with fail
      go_meet
      exact ⟨⟨false, rfl, HX⟩, K⟩
  clear K
  obtain ⟨⟨g, rfl, HI⟩, K⟩ := hcut
  have hbd1 : (0 : Int) ≤ (base : Int) := by omega
  have hbd2 : (base : Int) ≤ 99 := by omega
  clear hbd has hsz1 g3 g4 g5 h0
  go_upto_block 0 with fail
  go_cut [7, 8, 9] (fun v7 v8 v9 wx => (∃ (g : Bool) (z : Int) (ov : Bool), v7 = .bool g ∧ v8 = .int .i64 z ∧ v9 = .bool ov ∧ Hid (∃ k, RL base r k z ov g ∧ (g = true → k = r.length))) ∧ Hid (QD.Kept w wx))
  case first => as_aux_lemma =>
    go_wp2_with fail
    go_loopw [7, 8, 9, 10] (fun v7 v8 v9 v10 wx => ∃ (k : Nat) (g : Bool) (z : Int) (ov : Bool), k ≤ r.length ∧ v7 = .bool g ∧ v8 = .int .i64 z ∧ v9 = .bool ov ∧ v10 = .int .i64 ((a : Int) + 1 + (k : Int)) ∧ Hid (RL base r k z ov g) ∧ Hid (QD.Kept w wx)) (fun _ _ _ p _ => s.size - (intOf p).toNat)
    case atStart => exact ⟨0, g, 0, false, Nat.zero_le _, rfl, rfl, rfl, by simp, HI, K⟩
    case round =>
      clear HI K
      obtain ⟨k, g, z, ov, hk, rfl, rfl, rfl, rfl, HI, K⟩ := hrel
      have hal : a + 1 + r.length = s.size := by have := HRL.out; omega
      cases g with
      | false =>
        by_cases hlt : k < r.length
        · have hd : decide ((a : Int) + 1 + (k : Int) < (s.size : Int)) = true := decide_eq_true (by omega)
          clear hlt hal hk
          go_wp2_with fail
          go_meet
          exact ⟨⟨false, z, ov, rfl, rfl, rfl, ⟨k, HI.out, fun h => by cases h⟩⟩, K⟩
        · have hd : decide ((a : Int) + 1 + (k : Int) < (s.size : Int)) = false := decide_eq_false (by omega)
          clear hlt hal hk
          go_wp2_with fail
          go_meet
          exact ⟨⟨false, z, ov, rfl, rfl, rfl, ⟨k, HI.out, fun h => by cases h⟩⟩, K⟩
      | true =>
        by_cases hlt : k < r.length
        · have hd : decide ((a : Int) + 1 + (k : Int) < (s.size : Int)) = true := decide_eq_true (by omega)
          have hd0 : (0 : Int) ≤ (a : Int) + 1 + (k : Int) := by omega
          have hd1 : (a : Int) + 1 + (k : Int) < (s.size : Int) := by omega
          have hks : a + 1 + k < s.size := by omega
          have hm : s.size - ((a : Int) + 1 + (k : Int) + 1).toNat < s.size - ((a : Int) + 1 + (k : Int)).toNat := by omega
          have HM := Lib.hid hm
          have hc := HRS.out k hlt hks
          obtain ⟨nj, hz, hnj⟩ : ∃ n : Nat, z = n ∧ n < 4294967296 := by
            rcases HI.out with ⟨_, _, _, _, h4, _⟩ | ⟨h, _⟩
            · exact ⟨_, h4, radFold_lt _ _⟩
            · cases h
          subst hz
          have hb36 : base ≤ 36 := by
            rcases HI.out with ⟨_, _, h2, _, _, _⟩ | ⟨h, _⟩
            · exact h2
            · cases h
          generalize hcc : r.getD k 0 = c at *
          have HCC := Lib.hid (show digV (r.getD k 0).toNat = digV c.toNat by rw [hcc])
          have hpr := prod_le nj base hnj hb36
          have hp0 := prod_ge nj base
          have hd99 := digV_le c.toNat
          have HL := Lib.hid hlt
          have HN := Lib.hid hnj
          clear hcc hlt hal hk hm hnj hb36
          go_wp2_with fail
          refine (Hex_any c _).mono ?_
          rintro e wx ⟨rfl, hb⟩
          replace K := Lib.hid (K.out.step hb)
          clear hb
          generalize digV c.toNat = d at *
          by_cases hge : base ≤ d
          · have hdd : decide ((d : Int) < (base : Int)) = false := decide_eq_false (by omega)
            have HX := fun k' z' ov' => RL.bad HL.out d HCC.out hge k' z' ov'
            have HX := Lib.hid HX
            have hdn : decide (d < base) = false := decide_eq_false (by omega)
            by_cases hbig : 4294967296 ≤ nj * base + d
            · have hbb : decide ((4294967296 : Int) ≤ (nj : Int) * (base : Int) + (d : Int)) = true := prod_dec_true hbig
              clear hbig hge
              go_wp2_with fail
              go_roundw
              case rel => exact ⟨k + 1, false, _, _, HL.out, rfl, rfl, rfl, by rw [show (a : Int) + 1 + ((k + 1 : Nat) : Int) = (a : Int) + 1 + (k : Int) + 1 from by omega], HX.out _ _ _, K⟩
              case measure => simpa [intOf] using HM.out
            · have hbb : decide ((4294967296 : Int) ≤ (nj : Int) * (base : Int) + (d : Int)) = false := prod_dec_false hbig
              clear hbig hge
              go_wp2_with fail
              go_roundw
              case rel => exact ⟨k + 1, false, _, _, HL.out, rfl, rfl, rfl, by rw [show (a : Int) + 1 + ((k + 1 : Nat) : Int) = (a : Int) + 1 + (k : Int) + 1 from by omega], HX.out _ _ _, K⟩
              case measure => simpa [intOf] using HM.out
          · have hdd : decide ((d : Int) < (base : Int)) = true := decide_eq_true (by omega)
            have hdn : decide (d < base) = true := decide_eq_true (by omega)
            by_cases hbig : 4294967296 ≤ nj * base + d
            · have hbb : decide ((4294967296 : Int) ≤ (nj : Int) * (base : Int) + (d : Int)) = true := prod_dec_true hbig
              have HX := Lib.hid (HI.out.next HL.out d HCC.out (by omega) nj rfl (0, true) (by rw [if_pos hbig]))
              clear hbig hge
              go_wp2_with fail
              go_roundw
              case rel => exact ⟨k + 1, true, 0, true, HL.out, rfl, rfl, rfl, by rw [show (a : Int) + 1 + ((k + 1 : Nat) : Int) = (a : Int) + 1 + (k : Int) + 1 from by omega], HX, K⟩
              case measure => simpa [intOf] using HM.out
            · have hbb : decide ((4294967296 : Int) ≤ (nj : Int) * (base : Int) + (d : Int)) = false := prod_dec_false hbig
              have HX := Lib.hid (HI.out.next HL.out d HCC.out (by omega) nj rfl (nj * base + d, ov) (by rw [if_neg hbig]))
              clear hbig hge
              go_wp2_with fail
              go_roundw
              case rel => exact ⟨k + 1, true, _, ov, HL.out, rfl, by push_cast; rfl, rfl, by rw [show (a : Int) + 1 + ((k + 1 : Nat) : Int) = (a : Int) + 1 + (k : Int) + 1 from by omega], HX, K⟩
              case measure => simpa [intOf] using HM.out
        · have hd : decide ((a : Int) + 1 + (k : Int) < (s.size : Int)) = false := decide_eq_false (by omega)
          have HKR := Lib.hid (show k = r.length by omega)
          clear hlt hal hk
          go_wp2_with fail
          go_meet
          exact ⟨⟨true, z, ov, rfl, rfl, rfl, ⟨k, HI.out, fun _ => HKR.out⟩⟩, K⟩
  clear K HI
  obtain ⟨⟨gd, z, ov, rfl, rfl, rfl, HI⟩, K⟩ := hcut
  cases gd with
  | false =>
    have hr : (k0, n0, ok0, e0) = ((0 : Int), (0 : Int), false, (0 : Int)) := by
      obtain ⟨k, h, _⟩ := HI.out
      rcases h with ⟨h, _⟩ | ⟨_, h⟩
      · cases h
      · rw [← HR.out, h]
    cases hr
    clear HI HR
    obtain ⟨⟨c0, c1, c2⟩, f0, f1, f2⟩ := K.out.1.facts
    have hlt := K.out.1.lt
    go_wp2_with fail
    refine bodyPost_ret (v := .tuple #[.agg #[.int .i64 0, .int .i64 0, .string ⟨#[]⟩], .bool false, .int .i64 0]) (by simp [results, Tryd.results18, go_sem, c0, c1, c2]) rfl ⟨rfl, ?_⟩
    exact K.out.done rfl rfl rfl
  | true =>
    obtain ⟨n, hz, hn, hres⟩ : ∃ n : Nat, z = n ∧ n < 4294967296 ∧ (k0, n0, ok0, e0) = radEnd (n, ov) := by
      obtain ⟨k, h, hk⟩ := HI.out
      obtain ⟨n, h1, h2, h3⟩ := h.done (hk rfl)
      exact ⟨n, h1, h2, by rw [← h3, HR.out]⟩
    subst hz
    clear HI HR
    cases ov with
    | true =>
      have hr : (k0, n0, ok0, e0) = ((0 : Int), (0 : Int), true, (9 : Int)) := by rw [hres]; rfl
      cases hr
      clear hres hn
      obtain ⟨⟨c0, c1, c2⟩, f0, f1, f2⟩ := K.out.1.facts
      have hlt := K.out.1.lt
      go_wp2_with fail
      refine bodyPost_ret (v := .tuple #[.agg #[.int .i64 0, .int .i64 0, .string ⟨#[]⟩], .bool true, .int .i64 9]) (by simp [results, Tryd.results18, go_sem, c0, c1, c2]) rfl ⟨rfl, ?_⟩
      exact K.out.done rfl rfl rfl
    | false =>
      by_cases hbig : 2147483648 ≤ n
      · have hbb : decide ((2147483648 : Int) ≤ (n : Int)) = true := decide_eq_true (by omega)
        have hr : (k0, n0, ok0, e0) = ((1 : Int), (n : Int) - 4294967296, true, (0 : Int)) := by rw [hres]; simp [radEnd, hbig]
        cases hr
        clear hres hbig
        obtain ⟨⟨c0, c1, c2⟩, f0, f1, f2⟩ := K.out.1.facts
        have hlt := K.out.1.lt
        go_wp2_with fail
        refine bodyPost_ret (v := .tuple #[.agg #[.int .i64 1, .int .i64 ((n : Int) - 4294967296), .string ⟨#[]⟩], .bool true, .int .i64 0]) (by simp [results, Tryd.results18, go_sem, c0, c1, c2]) rfl ⟨rfl, ?_⟩
        exact K.out.done rfl rfl rfl
      · have hbb : decide ((2147483648 : Int) ≤ (n : Int)) = false := decide_eq_false (by omega)
        have hr : (k0, n0, ok0, e0) = ((1 : Int), (n : Int), true, (0 : Int)) := by rw [hres]; simp [radEnd, hbig]
        cases hr
        clear hres hbig
        obtain ⟨⟨c0, c1, c2⟩, f0, f1, f2⟩ := K.out.1.facts
        have hlt := K.out.1.lt
        go_wp2_with fail
        refine bodyPost_ret (v := .tuple #[.agg #[.int .i64 1, .int .i64 (n : Int), .string ⟨#[]⟩], .bool true, .int .i64 0]) (by simp [results, Tryd.results18, go_sem, c0, c1, c2]) rfl ⟨rfl, ?_⟩
        exact K.out.done rfl rfl rfl

end Go.Proofs.YtiocgpfnbmlfaaaDoor.QT

/-! ## RX -/
namespace Go.Proofs.YtiocgpfnbmlfaaaDoor.QT
open Go Go.RowKit Go.Proofs.YtiocgpfnbmlfaaaDoor Go.Proofs.YtiocgpfnbmlfaaaDoor.PT Go.Proofs.YtiocgpfnbmlfaaaDoor.QD Go.Proofs.YtiocgpfnbmlfaaaDoorW.PrintWords Go.Proofs.YtiocgpfnbmlfaaaDoorW.PrintLast

theorem isE_iff (c : UInt8) : ([101, 69] : List UInt8).contains c = IsE c := by
  unfold IsE
  simp only [List.contains_cons, List.contains_nil, Bool.or_false]
theorem noAny_find (r : List UInt8) : ∀ n, n ≤ r.findIdx IsE → Lib.NoAny r [101, 69] n := by
  intro n hn j hj x hx
  obtain ⟨hlt, rfl⟩ := List.getElem?_eq_some_iff.1 hx
  rw [isE_iff]
  have := List.not_of_lt_findIdx (p := IsE) (xs := r) (i := j) (by omega)
  simpa using this
theorem index_find (r : List UInt8) : (r.findIdx IsE < r.length → Lib.indexAny r [101, 69] = (r.findIdx IsE : Nat)) ∧ (r.findIdx IsE = r.length → Lib.indexAny r [101, 69] = -1) := by
  refine ⟨fun h => ?_, fun h => ?_⟩
  · exact Lib.indexAny_hit (noAny_find r _ (Nat.le_refl _)) (List.getElem?_eq_getElem h) (by rw [isE_iff]; exact List.findIdx_getElem)
  · exact Lib.indexAny_none (by rw [← h]; exact noAny_find r _ (Nat.le_refl _))

/-- a text by its sign and the rest -/
theorem sgn_parts (l : List UInt8) : ∃ g : List UInt8, l = g ++ (sgnL l).2 ∧ (∀ c ∈ g, c = 45 ∨ c = 43) ∧ g.length ≤ 1 ∧ ∀ n, sgnL (g ++ (sgnL l).2.take n) = ((sgnL l).1, (sgnL l).2.take n) := by
  match l with
  | [] => exact ⟨[], rfl, by simp, by simp, fun n => by simp [sgnL]⟩
  | b :: t =>
    by_cases h1 : b = 45
    · subst h1
      exact ⟨[45], rfl, by simp, by simp, fun n => by simp [sgnL]⟩
    · by_cases h2 : b = 43
      · subst h2
        exact ⟨[43], rfl, by simp, by simp, fun n => by simp [sgnL]⟩
      · have hs : sgnL (b :: t) = (false, b :: t) := by simp [sgnL, h1, h2]
        refine ⟨[], by rw [hs]; rfl, by simp, by simp, fun n => ?_⟩
        rw [hs, List.nil_append]
        cases n with
        | zero => simp [sgnL]
        | succ n => simp [sgnL, h1, h2]
theorem firstE (l : List UInt8) : FirstE (S l) (l.findIdx IsE) := by
  refine ⟨?_, ?_, ?_⟩
  · intro j h hj
    have := List.not_of_lt_findIdx (p := IsE) (xs := l) (i := j) hj
    have h2 : IsE (l[j]'(by rw [S_size] at h; exact h)) = false := this
    exact h2
  · intro h
    exact List.findIdx_getElem (p := IsE) (xs := l) (w := by rw [S_size] at h; exact h)
  · rw [S_size]; exact List.findIdx_le_length
theorem find_app (g r : List UInt8) (h : ∀ c ∈ g, c = 45 ∨ c = 43) : (g ++ r).findIdx IsE = g.length + r.findIdx IsE := by
  induction g with
  | nil => simp
  | cons c g ih =>
    have hc : IsE c = false := by rcases h c (by simp) with rfl | rfl <;> decide
    rw [List.cons_append, List.findIdx_cons, hc, ih (fun x hx => h x (by simp [hx]))]
    simp; omega

/-! ### sums of bounded numbers -/
theorem plainL_dig (r : List UInt8) : (plainL r).1.all isDig = true ∧ (plainL r).1.length ≤ r.length ∧ (plainL r).2.1 ≤ r.length := by
  have h1 := takeW_all r
  have hr := (List.takeWhile_append_dropWhile (p := isDig) (l := r)).symm
  have hl : r.length = (r.takeWhile isDig).length + (r.dropWhile isDig).length := by rw [← List.length_append, ← hr]
  have hp : ∀ q : List UInt8, (ptL q).2.length ≤ q.length := by
    intro q
    cases q with
    | nil => simp [ptL]
    | cons c q => simp only [ptL]; split <;> simp
  have := hp (r.dropWhile isDig)
  have ht := (List.takeWhile_sublist (p := isDig) (l := (ptL (r.dropWhile isDig)).2)).length_le
  unfold plainL
  split
  · refine ⟨?_, ?_, ?_⟩
    · simp only [List.all_append, h1, takeW_all, Bool.and_self]
    · simp only [List.length_append]; omega
    · simp only; omega
  · exact ⟨h1, by simp only; omega, by simp only; omega⟩
theorem scl_bound (a b : List UInt8) (hb : b.all isDig = true) : -1000000000000 < (sclL a b).1 ∧ (sclL a b).1 < 1000000000000 := by
  unfold sclL
  have := (iterD_ok 17 0 (digsOf b) (digs9 b hb)).2.2
  split
  · simp
  · simp only
    have : (0 + 1) * 2 ^ 17 = 131072 := rfl
    omega

theorem tail_is (m : Bool) (r : List UInt8) (k : Int) :
    TailIs (plainL r).2.2.2 (sclL (aOf (plainL r).1 (((plainL r).2.1 : Int) + k).toNat) (bOf (plainL r).1 (((plainL r).2.1 : Int) + k))).2
      (sgnR (sclL (aOf (plainL r).1 (((plainL r).2.1 : Int) + k).toNat) (bOf (plainL r).1 (((plainL r).2.1 : Int) + k))).1 m).2
      (sgnR (sclL (aOf (plainL r).1 (((plainL r).2.1 : Int) + k).toNat) (bOf (plainL r).1 (((plainL r).2.1 : Int) + k))).1 m).1
      ((realL m r k).1, (realL m r k).2.1, (realL m r k).2.2.1, (realL m r k).2.2.2) := by
  obtain ⟨h1, h2⟩ := plain_mant r
  unfold realL
  rw [h1]
  cases hm : (mantL r).2.2.2 with
  | false => exact .inl ⟨rfl, rfl⟩
  | true =>
    obtain ⟨g1, g2, g3, g4, _⟩ := h2 hm
    rw [g1, g2, if_pos rfl]
    have hD : ((mantL r).1 ++ (mantL r).2.1).all isDig = true := by rw [List.all_append, g3, g4]; rfl
    have hv := val_agree m (shiftL (mantL r).1 (mantL r).2.1 k).1 (shiftL (mantL r).1 (mantL r).2.1 k).2 (aOf_all _ _ hD) (bOf_all _ _ hD)
    change TailIs true (sclL (shiftL (mantL r).1 (mantL r).2.1 k).1 (shiftL (mantL r).1 (mantL r).2.1 k).2).2 (sgnR (sclL (shiftL (mantL r).1 (mantL r).2.1 k).1 (shiftL (mantL r).1 (mantL r).2.1 k).2).1 m).2 (sgnR (sclL (shiftL (mantL r).1 (mantL r).2.1 k).1 (shiftL (mantL r).1 (mantL r).2.1 k).2).1 m).1 _
    generalize sclL (shiftL (mantL r).1 (mantL r).2.1 k).1 (shiftL (mantL r).1 (mantL r).2.1 k).2 = sc at *
    generalize valueL m (shiftL (mantL r).1 (mantL r).2.1 k).1 (shiftL (mantL r).1 (mantL r).2.1 k).2 = vl at *
    obtain ⟨sv, sok⟩ := sc
    obtain ⟨vv, vok⟩ := vl
    cases sok with
    | false =>
      cases vok with
      | false => exact .inr (.inl ⟨rfl, rfl, rfl⟩)
      | true => simp at hv
    | true =>
      simp only [if_true] at hv ⊢
      cases vok with
      | false =>
        simp only [Bool.false_eq_true, if_false] at hv
        rw [← hv]
        exact .inr (.inr (.inl ⟨rfl, rfl, rfl, rfl⟩))
      | true =>
        simp only [if_true] at hv
        rw [← hv]
        exact .inr (.inr (.inr ⟨rfl, rfl, rfl, rfl⟩))

theorem whole_same (l : List UInt8) : (wholeR l).2 = (wholeL l).2 ∧ ((wholeL l).2 = true → (wholeR l).1 = (wholeL l).1) := by
  unfold wholeR wholeL
  by_cases hb : (sgnL l).2 = [] ∨ (sgnL l).2.all isDig = false
  · rw [if_pos hb, if_pos hb]; simp
  · rw [if_neg hb, if_neg hb]
    unfold wholeE fitsB capM
    generalize valD (sgnL l).2 = V
    by_cases hV : 4294967296 < V
    · rw [if_pos hV]
      have hm : ∃ M : Nat, min V 1099511627776 = M ∧ 4294967296 < M := ⟨_, rfl, by omega⟩
      obtain ⟨M, hM, hM2⟩ := hm
      rw [hM]
      have h2 : ((decide (-2147483648 ≤ (if (sgnL l).1 then -(M : Int) else (M : Int))) && decide ((if (sgnL l).1 then -(M : Int) else (M : Int)) ≤ 2147483647))) = false := by
        cases (sgnL l).1
        · simp; omega
        · simp; omega
      simp only [h2]
      simp
    · rw [if_neg hV]
      have hm : min V 1099511627776 = V := by omega
      rw [hm]
      exact ⟨rfl, fun _ => rfl⟩

/-! ### digits, a #, and no number with a base -/
theorem cut1_mem (x : List UInt8) (c : UInt8) (hc : c ≠ 46) (h : c ∈ x) : c ∈ (cut1 46 x).1 ∨ c ∈ (cut1 46 x).2.1 := by
  induction x with
  | nil => cases h
  | cons b x ih =>
    rw [cut1]
    by_cases hb : b = 46
    · rw [if_pos hb]
      rcases List.mem_cons.1 h with e | e
      · exact absurd (e.trans hb) hc
      · exact .inr e
    · rw [if_neg hb]
      rcases List.mem_cons.1 h with e | e
      · exact .inl (by rw [e]; simp)
      · rcases ih e with h1 | h1
        · exact .inl (List.mem_cons_of_mem _ h1)
        · exact .inr h1
theorem mant_no (x : List UInt8) (c : UInt8) (hc : c ≠ 46) (hd : isDig c = false) (h : c ∈ x) : (mantL x).2.2.2 = false := by
  have hall : ∀ l : List UInt8, c ∈ l → l.all isDig = false := by
    intro l hl
    rw [List.all_eq_false]
    exact ⟨c, hl, by rw [hd]; decide⟩
  unfold mantL
  rcases cut1_mem x c hc h with h1 | h1
  · simp only [hall _ h1, Bool.false_and]
  · simp only [hall _ h1, Bool.false_and, Bool.and_false]
theorem real_no (m : Bool) (x : List UInt8) (k : Int) (h : (mantL x).2.2.2 = false) : realL m x k = (0, 0, false, 0) := by
  unfold realL
  rw [h, if_neg Bool.false_ne_true]
theorem sgn_dig (c : UInt8) (t : List UInt8) (h : isDig c = true) : sgnL (c :: t) = (false, c :: t) := by
  have := (isDig_iff c).1 h
  have h1 : c ≠ 45 := fun e => by rw [e] at this; revert this; decide
  have h2 : c ≠ 43 := fun e => by rw [e] at this; revert this; decide
  simp [sgnL, h1, h2]
theorem dig_notE (c : UInt8) (h : isDig c = true) : IsE c = false := by
  have := (isDig_iff c).1 h
  have h1 : c ≠ 101 := fun e => by rw [e] at this; revert this; decide
  have h2 : c ≠ 69 := fun e => by rw [e] at this; revert this; decide
  simp [IsE, h1, h2]
theorem find_dig (h r : List UInt8) (hd : h.all isDig = true) : (h ++ r).findIdx IsE = h.length + r.findIdx IsE := by
  induction h with
  | nil => simp
  | cons c g ih =>
    simp only [List.all_cons, Bool.and_eq_true] at hd
    rw [List.cons_append, List.findIdx_cons, dig_notE c hd.1, ih hd.2]
    simp; omega
theorem tok_norad (l h r : List UInt8) (hl : l = h ++ 35 :: r) (hs : ¬ 64 < l.length) (hd : h.all isDig = true) (h0 : h ≠ []) (hno : (radixL l).2.2.1 = false) : tokL l = (0, 0, false, 0) := by
  have hsg : sgnL l = (false, l) := by
    obtain ⟨c, t, rfl⟩ := List.exists_cons_of_ne_nil h0
    simp only [List.all_cons, Bool.and_eq_true] at hd
    rw [hl, List.cons_append, sgn_dig c _ hd.1]
  have h35 : isDig 35 = false := by decide
  have hmem : (35 : UInt8) ∈ l := by rw [hl]; simp
  have hw : (wholeL l).2 = false := by
    unfold wholeL
    rw [hsg, if_pos (.inr (by rw [List.all_eq_false]; exact ⟨35, hmem, by decide⟩))]
  unfold tokL
  rw [if_neg hs, hno, hw, hsg]
  simp only [Bool.false_eq_true, if_false]
  obtain ⟨f1, f2⟩ := index_find l
  have hfl : l.findIdx IsE ≤ l.length := List.findIdx_le_length
  have hfi : h.length + 1 ≤ l.findIdx IsE := by
    rw [hl, find_dig h _ hd, List.findIdx_cons, show IsE 35 = false from rfl]
    simp
  by_cases hlt : l.findIdx IsE < l.length
  · have he : expL l = (l.take (l.findIdx IsE), (powL (l.drop (l.findIdx IsE + 1))).1, (powL (l.drop (l.findIdx IsE + 1))).2) := by
      unfold expL
      rw [f1 hlt, if_neg (by omega), Int.toNat_natCast]
    rw [he]
    split
    · refine real_no _ _ _ (mant_no _ 35 (by decide) (by decide) ?_)
      rw [hl] at hfi ⊢
      rw [List.take_append, List.take_of_length_le (by omega)]
      refine List.mem_append_right _ ?_
      obtain ⟨n, hn⟩ : ∃ n, List.findIdx IsE (h ++ 35 :: r) - h.length = n + 1 := ⟨List.findIdx IsE (h ++ 35 :: r) - h.length - 1, by omega⟩
      rw [hn, List.take_succ_cons]
      exact List.mem_cons_self
    · rfl
  · have he : expL l = (l, 0, true) := by
      unfold expL
      rw [f2 (by omega), if_pos (by omega)]
    rw [he]
    simp only [if_true]
    exact real_no _ _ _ (mant_no _ 35 (by decide) (by decide) hmem)
theorem cut35 (h r : List UInt8) (hd : h.all isDig = true) : cut1 35 (h ++ 35 :: r) = (h, r, true) := by
  induction h with
  | nil => simp [cut1]
  | cons c a ih =>
    simp only [List.all_cons, Bool.and_eq_true] at hd
    have hc : c ≠ 35 := fun e => by have h1 := hd.1; rw [e] at h1; revert h1; decide
    rw [List.cons_append, cut1, if_neg hc, ih hd.2]
theorem rad_end (base : Nat) (r : List UInt8) : (radTail base r).2.2.1 = true ∨ radTail base r = (0, 0, false, 0) := by
  unfold radTail radEnd
  split
  · exact .inr rfl
  · split <;> exact .inl rfl
theorem tok_rad (l h r : List UInt8) (hl : l = h ++ 35 :: r) (hs : ¬ 64 < l.length) (hd : h.all isDig = true) (h0 : h ≠ []) (h2 : h.length ≤ 2) (hr : r ≠ []) : tokL l = radTail (valD h) r := by
  have hrad : radixL l = radTail (valD h) r := by
    unfold radixL
    rw [hl, cut35 h r hd]
    refine if_neg ?_
    rintro (e | e | e | e | e)
    · cases e
    · exact h0 e
    · simp only at e; omega
    · rw [hd] at e; cases e
    · exact hr e
  rcases rad_end (valD h) r with e | e
  · unfold tokL
    rw [if_neg hs, hrad, if_pos e, ← e]
  · rw [e]
    exact tok_norad l h r hl hs hd h0 (by rw [hrad, e])
/-- where the reference reads no number with a base, the program reads none -/
theorem no_rad (l : List UInt8) (hno : ¬ (1 ≤ (l.takeWhile isDig).length ∧ (l.takeWhile isDig).length ≤ 2 ∧ (l.takeWhile isDig).length + 1 < l.length ∧ l[(l.takeWhile isDig).length]? = some 35)) : (radixL l).2.2.1 = false := by
  rcases radix_cases l with ⟨_, h⟩ | ⟨_, _, h⟩ | ⟨_, _, _, _, h⟩ | ⟨h1, h2, h3, h4, h5, h⟩
  · rw [h]
  · rw [h]
  · rw [h]
  · exfalso
    have hsplit : l = (cut1 35 l).1 ++ 35 :: (cut1 35 l).2.1 := by
      clear hno h h2 h3 h4 h5
      induction l with
      | nil => simp [cut1] at h1
      | cons c l ih =>
        rw [cut1] at h1 ⊢
        by_cases hc : c = 35
        · rw [if_pos hc]; simp [hc]
        · rw [if_neg hc] at h1 ⊢
          simp only at h1 ⊢
          rw [List.cons_append, ← ih h1]
    generalize (cut1 35 l).1 = a at *
    generalize (cut1 35 l).2.1 = b at *
    have ht : l.takeWhile isDig = a := by
      rw [hsplit, List.takeWhile_append_of_pos (fun x hx => List.all_eq_true.1 h4 x hx), List.takeWhile_cons, if_neg (by decide), List.append_nil]
    have hbl := List.length_pos_iff.2 h5
    have hal := List.length_pos_iff.2 h2
    refine hno ?_
    rw [ht]
    refine ⟨by omega, by omega, ?_, ?_⟩
    · rw [hsplit]; simp; omega
    · rw [hsplit]; simp

theorem digits_call (l : List UInt8) (n : Nat) (hl : l.length ≤ 100) (hn : (l.takeWhile isDig).length = n) (w : World) :
    Calls Tryd.prog 43 #[.string (S l)] w fun e w' => e = .returned (.int .i64 (n : Int)) ∧ Below w.heap.size w w' := by
  refine (QE.Digits_any (S l) n (by rw [S_size]; omega) (by rw [S_data]; exact hn) w).mono ?_
  rintro e w' ⟨he, hd⟩
  exact ⟨he, hd.below⟩
theorem plain_call (l : List UInt8) (m : Bool) (r : List UInt8) (hl : l.length ≤ 100) (hs : sgnL l = (m, r)) (w : World) :
    Calls Tryd.prog 35 #[.string (S l)] w fun e w' =>
      e = .returned (.tuple #[.bool m, .string (S (plainL r).1), .int .i64 ((plainL r).2.1 : Int), .bool (plainL r).2.2.1, .bool (plainL r).2.2.2]) ∧ Below w.heap.size w w' := by
  refine (QE.plain_any l (by omega) w).mono ?_
  rintro e w' ⟨he, hd⟩
  rw [hs] at he
  exact ⟨he, hd.below⟩

theorem refTok_any (l : List UInt8) (w : World) : Calls Tryd.prog 18 #[.string (S l)] w (RQ (tokL l).1 (tokL l).2.1 (tokL l).2.2.1 (tokL l).2.2.2 w) := by
  by_cases hlong : 64 < l.length
  · rw [show tokL l = (0, 0, false, 0) from by unfold tokL; rw [if_pos hlong]]
    exact rt_long (S l) w (by rw [S_size]; exact hlong)
  have hs : (S l).size ≤ 64 := by rw [S_size]; omega
  have hsplit := (List.takeWhile_append_dropWhile (p := isDig) (l := l)).symm
  have hD := digits_call l _ (by omega) rfl
  have hal : (l.takeWhile isDig).length ≤ l.length := (List.takeWhile_sublist _).length_le
  by_cases hrad : 1 ≤ (l.takeWhile isDig).length ∧ (l.takeWhile isDig).length ≤ 2 ∧ (l.takeWhile isDig).length + 1 < l.length ∧ l[(l.takeWhile isDig).length]? = some 35
  · -- a base
    obtain ⟨h1, h2, h3, h4⟩ := hrad
    have hall := takeW_all l
    generalize hh : l.takeWhile isDig = h at *
    have hlr : l = h ++ 35 :: l.drop (h.length + 1) := by
      have hlt : h.length < l.length := by omega
      have e1 : l.drop h.length = 35 :: l.drop (h.length + 1) := by
        rw [List.drop_eq_getElem_cons hlt]
        congr 1
        rw [List.getElem?_eq_getElem hlt] at h4
        exact Option.some.inj h4
      have e2 : l.take h.length = h := by
        have := (QE.split_at l).2.1
        rw [hh] at this
        exact this
      rw [← e1, ← e2, List.length_take, Nat.min_eq_left (by omega), List.take_append_drop]
    have hne : h ≠ [] := fun e => by rw [e] at h1; simp at h1
    have hrn : l.drop (h.length + 1) ≠ [] := fun e => by
      have := congrArg List.length e
      simp at this; omega
    have htok := tok_rad l h _ hlr hlong hall hne h2 hrn
    have hrl : (l.drop (h.length + 1)).length + (h.length + 1) = (S l).size := by rw [S_size, List.length_drop]; omega
    have hdig : ∀ j (hj : j < h.length), ∃ c : UInt8, l[j]? = some c ∧ h[j] = c ∧ 48 ≤ c.toNat ∧ c.toNat ≤ 57 := by
      intro j hj
      refine ⟨h[j], ?_, rfl, (isDig_iff _).1 (List.all_eq_true.1 hall _ (List.getElem_mem hj))⟩
      rw [hlr, List.getElem?_append_left hj, List.getElem?_eq_getElem hj]
    have hget : ∀ j (hj : j < (S l).size) c, l[j]? = some c → (S l)[j]'hj = c := by
      intro j hj c hc
      have hj' : j < l.length := by rw [S_size] at hj; exact hj
      rw [List.getElem?_eq_getElem hj'] at hc
      exact Option.some.inj hc
    obtain ⟨c0, g1, g2, g3, g4⟩ := hdig 0 (by omega)
    have hrs : ∀ j, j < (l.drop (h.length + 1)).length → ∀ hb : h.length + 1 + j < (S l).size, ((S l)[h.length + 1 + j]'hb) = (l.drop (h.length + 1)).getD j 0 := by
      intro j hj hb
      refine hget _ _ _ ?_
      rw [List.getD, List.getElem?_drop, List.getElem?_eq_getElem (by rw [S_size] at hb; exact hb)]
      rfl
    have hbase : (h.length = 1 ∧ valD h = c0.toNat - 48) ∨ (h.length = 2 ∧ ∃ (hb : 1 < (S l).size) (c1 : UInt8) (b1 : Nat), ((S l)[1]'hb) = c1 ∧ ((c1.toNat : Int) - 48) % 256 = (b1 : Int) ∧ b1 ≤ 9 ∧ valD h = 10 * (c0.toNat - 48) + b1) := by
      match h, h1, h2, hdig, g2 with
      | [x], _, _, _, g2 =>
        left
        simp only [List.getElem_cons_zero] at g2
        exact ⟨rfl, by rw [g2]; simp [valD]⟩
      | [x, y], _, _, hdig, g2 =>
        right
        simp only [List.getElem_cons_zero] at g2
        obtain ⟨c1, k1, k2, k3, k4⟩ := hdig 1 (by simp)
        simp only [List.getElem_cons_succ, List.getElem_cons_zero] at k2
        exact ⟨rfl, by rw [S_size]; simp at h3; omega, c1, c1.toNat - 48, hget _ _ _ k1, by omega, by omega, by rw [g2, k2]; simp [valD]⟩
    rw [htok]
    exact rt_radix (S l) w hs h.length h1 h2 hD (by rw [S_size]; exact h3) (by rw [S_size]; omega) (hget _ _ _ h4) (by rw [S_size]; omega) c0 (hget _ _ _ g1) (c0.toNat - 48) (valD h) (by omega) (by omega) hbase
      (l.drop (h.length + 1)) hrl hrs _ _ _ _ rfl
  · have hno : NoRad (S l) (l.takeWhile isDig).length := by
      unfold NoRad
      by_cases e1 : (l.takeWhile isDig).length < 1
      · exact .inl e1
      by_cases e2 : 2 < (l.takeWhile isDig).length
      · exact .inr (.inl e2)
      by_cases e3 : (S l).size ≤ (l.takeWhile isDig).length + 1
      · exact .inr (.inr (.inl ⟨by omega, by omega, e3⟩))
      rw [S_size] at e3
      refine .inr (.inr (.inr ⟨by omega, by omega, by rw [S_size]; omega, by rw [S_size]; omega, ?_⟩))
      refine beq_eq_false_iff_ne.2 fun e => hrad ⟨by omega, by omega, by omega, ?_⟩
      have hlt : (l.takeWhile isDig).length < l.length := by omega
      rw [List.getElem?_eq_getElem hlt]
      congr 1
      exact UInt8.toNat_inj.1 (by have h2 : ((l[(l.takeWhile isDig).length]'hlt).toNat : Int) = 35 := e; show _ = 35; omega)
    have hnr := no_rad l hrad
    have hW := whole_call l (by omega)
    obtain ⟨hw1, hw2⟩ := whole_same l
    have htok : tokL l = if (wholeL l).2 = true then (1, (wholeL l).1, true, 0)
        else if (expL (sgnL l).2).2.2 = true then realL (sgnL l).1 (expL (sgnL l).2).1 (expL (sgnL l).2).2.1 else (0, 0, false, 0) := by
      unfold tokL; rw [if_neg hlong, hnr, if_neg Bool.false_ne_true]
    rw [htok]
    clear hrad htok
    cases hokw : (wholeL l).2 with
    | true =>
      rw [hw2 hokw, hw1, hokw] at hW
      exact rt_whole (S l) w hs _ (by omega) hD hno _ hW
    | false =>
    rw [hw1, hokw] at hW
    rw [if_neg Bool.false_ne_true]
    -- the e
    obtain ⟨g, hg1, hg2, hg3, hg4⟩ := sgn_parts l
    have hE := firstE l
    obtain ⟨f1, f2⟩ := index_find (sgnL l).2
    have hlr : l.length = g.length + (sgnL l).2.length := by rw [← List.length_append, ← hg1]
    have hfind : l.findIdx IsE = g.length + (sgnL l).2.findIdx IsE := (congrArg (List.findIdx IsE) hg1).trans (find_app g _ hg2)
    have hfl : (sgnL l).2.findIdx IsE ≤ (sgnL l).2.length := List.findIdx_le_length
    generalize (wholeR l).1 = nw at hW
    generalize hm : (sgnL l).1 = m at *
    generalize hr : (sgnL l).2 = r at *
    generalize hj : r.findIdx IsE = j at *
    have hslm : sgnL l = (m, r) := by rw [← hm, ← hr]
    by_cases hje : j = r.length
    · -- none
      have he : expL r = (r, 0, true) := by
        unfold expL
        rw [f2 hje, if_pos (by omega)]
      rw [he, if_pos rfl]
      obtain ⟨p1, p2, p3⟩ := plainL_dig r
      have hP := plain_call l m r (by omega) hslm
      have hx : (S l).extract 0 (l.findIdx IsE) = S l := by rw [S_to, List.take_of_length_le (by omega)]
      have hSc := scaled_call (plainL r).1 ((plainL r).2.1 : Int) p1 (by omega) (by omega) (by omega)
      have hBall : (bOf (plainL r).1 ((plainL r).2.1 : Int)).all isDig = true := bOf_all _ _ p1
      obtain ⟨b1, b2⟩ := scl_bound (aOf (plainL r).1 ((plainL r).2.1 : Int).toNat) _ hBall
      have hSg := signed_call (sclL (aOf (plainL r).1 ((plainL r).2.1 : Int).toNat) (bOf (plainL r).1 ((plainL r).2.1 : Int))).1 m b1 b2
      have hT := tail_is m r 0
      rw [Int.add_zero] at hT
      exact rt_noexp (S l) w hs _ (by omega) hD hno nw hW _ hE (S l) _ hx m _ _ _ (by omega) (by omega) hP _ _ _ _ hSc hSg _ _ _ _ hT (by rw [S_size]; omega)
    · have hjlt : j < r.length := by omega
      have he : expL r = (r.take j, (powL (r.drop (j + 1))).1, (powL (r.drop (j + 1))).2) := by
        unfold expL
        rw [f1 hjlt, if_neg (by omega), Int.toNat_natCast]
      rw [he]
      have hp : (S l).extract (l.findIdx IsE + 1) (S l).size = S (r.drop (j + 1)) := by
        rw [S_from, hfind]
        conv => lhs; rw [hg1]
        rw [show g.length + j + 1 = g.length + (j + 1) from by omega, List.drop_append, List.drop_eq_nil_of_le (by omega), Nat.add_sub_cancel_left]
        rfl
      have hx : (S l).extract 0 (l.findIdx IsE) = S (g ++ r.take j) := by
        rw [S_to, hfind]
        conv => lhs; rw [hg1]
        rw [List.take_append, List.take_of_length_le (by omega), Nat.add_sub_cancel_left]
      have hil : l.findIdx IsE < (S l).size := by rw [S_size]; omega
      have hsgn : ∃ sg : Bool, SignAt (S (r.drop (j + 1))) (S (sgnL (r.drop (j + 1))).2) (sgnL (r.drop (j + 1))).1 sg := by
        rcases QE.signIs (r.drop (j + 1)) with ⟨h1, h2, h3⟩ | ⟨h1, h2, h3, h4⟩ | ⟨h1, h2, h3, h4⟩ | ⟨h1, x, h2, h3, h4, h5, h6⟩
        · exact ⟨false, .inl ⟨h1, h2, h3, rfl⟩⟩
        · exact ⟨true, .inr (.inl ⟨h1, h2, h3, h4, rfl⟩)⟩
        · exact ⟨true, .inr (.inr (.inl ⟨h1, h2, h3, h4, rfl⟩))⟩
        · exact ⟨false, .inr (.inr (.inr ⟨h1, x, h2, h3, h4, h5, h6, rfl⟩))⟩
      obtain ⟨sg, hsg⟩ := hsgn
      have hql := sgnL_len (r.drop (j + 1))
      rw [List.length_drop] at hql
      obtain ⟨k1, k2⟩ := powL_bound (r.drop (j + 1))
      have hpc := powL_cases (r.drop (j + 1))
      generalize r.drop (j + 1) = p at *
      generalize hq : (sgnL p).2 = q at *
      generalize (sgnL p).1 = mp at *
      have hQ := digits_call q _ (by omega) rfl
      rcases hpc with ⟨hbad, hpw⟩ | ⟨⟨c1, c2, c3⟩, hpw⟩
      · rw [hpw, if_neg Bool.false_ne_true]
        refine rt_badexp (S l) w hs _ (by omega) hD hno nw hW _ (S p) (S q) mp sg hil hp hsg hE _ hQ ?_
        rw [S_size]
        rcases hbad with e | ⟨e1, e2⟩ | ⟨e1, e2, e3⟩
        · exact .inl (by rw [e]; simp)
        · exact .inr (.inl ⟨List.length_pos_iff.2 e1, e2⟩)
        · refine .inr (.inr ⟨List.length_pos_iff.2 e1, e2, fun e => ?_⟩)
          have hw : q.takeWhile isDig = q := List.IsPrefix.eq_of_length (List.takeWhile_prefix _) (by omega)
          have := takeW_all q
          rw [hw, e3] at this
          cases this
      · rw [hpw, if_pos rfl]
        rw [hpw] at k1 k2
        rw [takeW_id q c3] at hQ
        simp only at k1 k2
        have hsl : sgnL (g ++ r.take j) = (m, r.take j) := hg4 j
        have htl : (r.take j).length ≤ 64 := by rw [List.length_take]; omega
        have hP := plain_call (g ++ r.take j) m (r.take j) (by rw [List.length_append, List.length_take]; omega) hsl
        obtain ⟨p1, p2, p3⟩ := plainL_dig (r.take j)
        generalize hpv : (if mp = true then -(valD q : Int) else (valD q : Int)) = pw at *
        have hT := tail_is m (r.take j) pw
        have hSc := scaled_call (plainL (r.take j)).1 (((plainL (r.take j)).2.1 : Int) + pw) p1 (by omega) (by omega) (by omega)
        have hBall : (bOf (plainL (r.take j)).1 (((plainL (r.take j)).2.1 : Int) + pw)).all isDig = true := bOf_all _ _ p1
        obtain ⟨b1, b2⟩ := scl_bound (aOf (plainL (r.take j)).1 (((plainL (r.take j)).2.1 : Int) + pw).toNat) _ hBall
        have hSg := signed_call (sclL (aOf (plainL (r.take j)).1 (((plainL (r.take j)).2.1 : Int) + pw).toNat) (bOf (plainL (r.take j)).1 (((plainL (r.take j)).2.1 : Int) + pw))).1 m b1 b2
        exact rt_exp (S l) w hs _ (by omega) hD hno nw hW _ hE (S (g ++ r.take j)) _ hx m _ _ _ pw (by omega) (by omega) hP k1 k2 _ _ _ _ hSc hSg _ _ _ _ hT hil (S p) (S q) mp sg hp hsg (by rw [S_size]; exact hQ) (by rw [S_size]; exact List.length_pos_iff.2 c1) (by rw [S_size]; exact c2) (by rw [S_data]; exact c3) (by rw [S_data]; exact hpv)

end Go.Proofs.YtiocgpfnbmlfaaaDoor.QT
namespace Go.Proofs.YtiocgpfnbmlfaaaDoor
open Go Go.RowKit Go.Proofs.YtiocgpfnbmlfaaaDoorW.PrintWords

def mezzotintref01_Token.f (a0 : ByteArray) : Option (Int × Int × ByteArray × Bool × Int) :=
  some ((QD.tokL a0.data.toList).1, (QD.tokL a0.data.toList).2.1, ⟨#[]⟩, (QD.tokL a0.data.toList).2.2.1, (QD.tokL a0.data.toList).2.2.2)
theorem mezzotintref01_Token.calls (a0 : ByteArray) (r1 r2 : Int) (r3 : ByteArray) (r4 : Bool) (r5 : Int) (w : World) (h : mezzotintref01_Token.f a0 = some (r1, r2, r3, r4, r5)) :
    Calls Tryd.prog 18 #[.string a0] w fun e w' => e = .returned (.tuple #[.agg #[.int .i64 r1, .int .i64 r2, .string r3], .bool r4, .int .i64 r5]) ∧ Below w.heap.size w w' := by
  unfold mezzotintref01_Token.f at h
  simp only [Option.some.injEq, Prod.mk.injEq] at h
  obtain ⟨rfl, rfl, rfl, rfl, rfl⟩ := h
  have := QT.refTok_any a0.data.toList w
  rw [← QD.S_of] at this
  exact this

end Go.Proofs.YtiocgpfnbmlfaaaDoor

/-! ## PQx0 -/
namespace Go.Proofs.YtiocgpfnbmlfaaaDoor.PQ
open Go.RowKit Go.Proofs.YtiocgpfnbmlfaaaDoorW.PrintWords Go.Proofs.YtiocgpfnbmlfaaaDoorW.PrintLast Go.Proofs.YtiocgpfnbmlfaaaDoorW.PrintMore
attribute [local go_sem] max2_int min2_int max_two min_two max_three min_three max_four min_four   -- for this text's walks alone
set_option linter.unusedVariables false
set_option linter.unusedSimpArgs false



def errW : Option Int → Value
  | none => .nilIface
  | some c => .iface 0 (.int .i64 c)
theorem errW_none : errW none = .nilIface := rfl
theorem errW_some (c : Int) : errW (some c) = .iface 0 (.int .i64 c) := rfl

-- the values' own types

end Go.Proofs.YtiocgpfnbmlfaaaDoor.PQ

/-! ## PQx1 -/
namespace Go.Proofs.YtiocgpfnbmlfaaaDoor.PQ
open Go.RowKit Go.Proofs.YtiocgpfnbmlfaaaDoorW.PrintWords Go.Proofs.YtiocgpfnbmlfaaaDoorW.PrintLast Go.Proofs.YtiocgpfnbmlfaaaDoorW.PrintMore
attribute [local go_sem] max2_int min2_int max_two min_two max_three min_three max_four min_four   -- for this text's walks alone
set_option linter.unusedVariables false
set_option linter.unusedSimpArgs false

theorem eqA27 (d : Nat) (w : World) (x0 y0 : Int) (x1 y1 : Int) (x2 y2 : ByteArray) :
    (Op.equalIn (d + 2) 27 (.agg #[.int .i64 x0, .int .i64 x1, .string x2]) (.agg #[.int .i64 y0, .int .i64 y1, .string y2])).run Tryd.prog w = .ok (x0 == y0 && (x1 == y1 && (x2.toList == y2.toList))) w := by
  refine eqA_of Tryd.underlying27 (by kernel_rfl) ?_
  refine eqf_cons (by rfl) (by go_simp; rfl) (by go_simp; rfl) (by go_simp) ?_
  refine eqf_cons (by rfl) (by go_simp; rfl) (by go_simp; rfl) (by go_simp) ?_
  exact eqf_last (by rfl) (by go_simp; rfl) (by go_simp; rfl) (by go_simp)
end Go.Proofs.YtiocgpfnbmlfaaaDoor.PQ
