/- The value of decimal digits, exactly: what doubling them 17 times counts. -/
import Derived.Test.YtiocgpfnbmlfaaaDoorGO
namespace Go.Proofs.YtiocgpfnbmlfaaaDoor.QD
open Go Go.RowKit Go.Proofs.YtiocgpfnbmlfaaaDoor Go.Proofs.YtiocgpfnbmlfaaaDoorW.PrintWords

theorem digs9 (b : List UInt8) (hb : b.all isDig = true) : ∀ d ∈ digsOf b, d ≤ 9 := by
  intro d hd
  unfold digsOf at hd
  obtain ⟨c, hc, rfl⟩ := List.mem_map.1 hd
  have := (isDig_iff c).1 (List.all_eq_true.1 hb c hc)
  omega
theorem digsOf_len (b : List UInt8) : (digsOf b).length = b.length := by simp [digsOf]
theorem digsOf_append (a b : List UInt8) : digsOf (a ++ b) = digsOf a ++ digsOf b := by simp [digsOf]
theorem digsOf_zeros (m : Nat) : digsOf (List.replicate m 48) = List.replicate m 0 := by simp [digsOf]

def valN : List Nat → Nat
  | [] => 0
  | d :: ds => d * 10 ^ ds.length + valN ds
theorem valN_lt : ∀ ds : List Nat, (∀ d ∈ ds, d ≤ 9) → valN ds < 10 ^ ds.length
  | [], _ => by simp [valN]
  | d :: ds, h => by
    have ih := valN_lt ds (fun x hx => h x (by simp [hx]))
    have hd := h d (by simp)
    simp only [valN, List.length_cons, Nat.pow_succ]
    have : d * 10 ^ ds.length ≤ 9 * 10 ^ ds.length := Nat.mul_le_mul_right _ hd
    omega
theorem valN_append (a b : List Nat) : valN (a ++ b) = valN a * 10 ^ b.length + valN b := by
  induction a with
  | nil => simp [valN]
  | cons d a ih =>
    simp only [List.cons_append, valN, List.length_append, ih, Nat.pow_add, Nat.add_mul, Nat.mul_assoc]
    omega
theorem valN_zeros (n : Nat) : valN (List.replicate n 0) = 0 := by
  induction n with
  | zero => rfl
  | succ n ih => simp [List.replicate_succ, valN, ih]
theorem dbl_val : ∀ ds : List Nat, (dbl ds).1 * 10 ^ ds.length + valN (dbl ds).2 = 2 * valN ds
  | [] => by simp [dbl, valN]
  | d :: ds => by
    have ih := dbl_val ds
    simp only [dbl, valN, List.length_cons, dbl_len, Nat.pow_succ]
    generalize (dbl ds).1 = c at *
    generalize valN (dbl ds).2 = v at *
    generalize valN ds = u at *
    generalize 10 ^ ds.length = P at *
    have h1 : (2 * d + c) / 10 * (P * 10) + (2 * d + c) % 10 * P = (2 * d + c) * P := by
      rw [Nat.mul_comm P 10, ← Nat.mul_assoc, ← Nat.add_mul]
      congr 1
      omega
    have h2 : (2 * d + c) * P = 2 * (d * P) + c * P := by rw [Nat.add_mul, Nat.mul_assoc]
    omega
theorem iterD_val (k : Nat) : ∀ (n : Nat) (ds : List Nat), (iterD k n ds).1 * 10 ^ ds.length + valN (iterD k n ds).2 = 2 ^ k * (n * 10 ^ ds.length + valN ds) := by
  induction k with
  | zero => intro n ds; simp [iterD]
  | succ k ih =>
    intro n ds
    have h := ih (2 * n + (dbl ds).1) (dbl ds).2
    rw [dbl_len] at h
    rw [iterD, h, Nat.pow_succ, Nat.mul_assoc]
    congr 1
    have hd := dbl_val ds
    rw [Nat.add_mul, Nat.mul_assoc]
    omega
/-- digits that are f parts of 65536, exactly: 17 doublings count 2 f -/
theorem iterD_exact (ds : List Nat) (f : Nat) (hd : ∀ d ∈ ds, d ≤ 9) (h : valN ds * 65536 = f * 10 ^ ds.length) : (iterD 17 0 ds).1 = 2 * f := by
  have hv := iterD_val 17 0 ds
  have hl := (iterD_ok 17 0 ds hd)
  have hlt := valN_lt (iterD 17 0 ds).2 hl.2.1
  rw [hl.1] at hlt
  generalize (iterD 17 0 ds).1 = B at *
  generalize valN (iterD 17 0 ds).2 = v at *
  generalize 10 ^ ds.length = P at *
  have h2 : B * P + v = 2 * f * P := by
    rw [hv, Nat.zero_mul, Nat.zero_add, show (2 : Nat) ^ 17 = 2 * 65536 from rfl, Nat.mul_assoc, Nat.mul_comm 65536, h, Nat.mul_assoc]
  have hP : 0 < P := by omega
  have h3 : (B * P + v) / P = B := by rw [Nat.mul_comm, Nat.mul_add_div hP, Nat.div_eq_of_lt hlt]; rfl
  rw [h2, Nat.mul_div_cancel _ hP] at h3
  exact h3.symm

theorem digsOf_cons (c : UInt8) (l : List UInt8) : digsOf (c :: l) = (c.toNat - 48) :: digsOf l := rfl
theorem digB (d : Nat) (h : d ≤ 9) : (UInt8.ofNat (48 + d)).toNat = 48 + d := by
  rw [UInt8.toNat_ofNat']; omega
theorem fracs_val (k : Nat) : ∀ f, f < 65536 → 2 ^ (16 - k) ∣ f → k ≤ 16 → valN (digsOf (fracs k f)) * 65536 = f * 10 ^ (fracs k f).length ∧ (fracs k f).all isDig = true := by
  induction k with
  | zero =>
    intro f hf hd _
    have h0 : f = 0 := by
      rcases Nat.eq_zero_or_pos f with h | h
      · exact h
      · have := Nat.le_of_dvd h hd; omega
    subst h0
    simp [fracs, digsOf, valN]
  | succ k ih =>
    intro f hf hd hk
    by_cases h0 : f = 0
    · subst h0; simp [fracs_zero, digsOf, valN]
    · have hs := frac_step (j := 16 - (k + 1)) (k := k + 1) (by omega) hd hf h0
      obtain ⟨h1, h2⟩ := ih (f * 10 % 65536) (by omega) (by rw [show 16 - k = 16 - (k + 1) + 1 from by omega]; exact hs.2) (by omega)
      have hdl : f * 10 / 65536 ≤ 9 := by omega
      rw [fracs_succ h0, digsOf_cons, digB _ hdl]
      refine ⟨?_, ?_⟩
      · simp only [valN, digsOf_len, List.length_cons, Nat.pow_succ]
        generalize (fracs k (f * 10 % 65536)).length = L at *
        generalize valN (digsOf (fracs k (f * 10 % 65536))) = V at *
        have e1 : (48 + f * 10 / 65536 - 48) = f * 10 / 65536 := by omega
        have e2 : f * 10 = f * 10 / 65536 * 65536 + f * 10 % 65536 := by omega
        rw [e1, Nat.add_mul, h1, Nat.mul_assoc, Nat.mul_comm (10 ^ L) 65536, ← Nat.mul_assoc, ← Nat.add_mul, ← e2, Nat.mul_assoc, Nat.mul_comm 10]
      · rw [List.all_cons, h2, Bool.and_true, isDig_iff, digB _ hdl]
        omega
theorem digs_val (k : Nat) : ∀ n, n < 10 ^ (k + 1) → valD (digs n) = n ∧ (digs n).all isDig = true ∧ digs n ≠ [] := by
  induction k with
  | zero =>
    intro n hn
    have hn : n < 10 := by omega
    rw [digs_small hn]
    refine ⟨?_, ?_, by simp⟩
    · simp only [valD, List.foldl_cons, List.foldl_nil, digB n (by omega)]; omega
    · simp only [List.all_cons, List.all_nil, Bool.and_true, isDig_iff, digB n (by omega)]; omega
  | succ k ih =>
    intro n hn
    by_cases h : n < 10
    · rw [digs_small h]
      refine ⟨?_, ?_, by simp⟩
      · simp only [valD, List.foldl_cons, List.foldl_nil, digB n (by omega)]; omega
      · simp only [List.all_cons, List.all_nil, Bool.and_true, isDig_iff, digB n (by omega)]; omega
    · obtain ⟨h1, h2, _⟩ := ih (n / 10) (by rw [Nat.pow_succ] at hn; omega)
      rw [digs_big h]
      refine ⟨?_, ?_, by simp⟩
      · rw [valD_snoc, h1, digB _ (by omega)]; omega
      · rw [List.all_append, h2]
        simp only [List.all_cons, List.all_nil, Bool.and_true, Bool.true_and, isDig_iff, digB (n % 10) (by omega)]; omega

end Go.Proofs.YtiocgpfnbmlfaaaDoor.QD
