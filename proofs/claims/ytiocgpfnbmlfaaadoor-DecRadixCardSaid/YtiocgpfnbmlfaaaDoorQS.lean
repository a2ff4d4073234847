/- Strings by their bytes; the digits of a text; the value of digits, as the program and as the reference reckon it. -/
import Derived.Test.YtiocgpfnbmlfaaaDoorGU
namespace Go.Proofs.YtiocgpfnbmlfaaaDoor.QD
open Go Go.RowKit Go.Proofs.YtiocgpfnbmlfaaaDoor Go.Proofs.YtiocgpfnbmlfaaaDoorW.PrintWords

/-- a string by its bytes -/
def S (l : List UInt8) : ByteArray := ⟨l.toArray⟩
theorem S_append (a b : List UInt8) : S a ++ S b = S (a ++ b) := by apply ByteArray.ext; simp [S]
theorem S_size (a : List UInt8) : (S a).size = a.length := by simp [S, ByteArray.size]
theorem S_list (a : List UInt8) : (S a).toList = a := by rw [Lib.toList_data]; simp [S]
theorem S_data (a : List UInt8) : (S a).data.toList = a := by simp [S]
theorem S_of (s : ByteArray) : s = S s.data.toList := by apply ext_list; rw [S_data]
theorem S_to (l : List UInt8) (n : Nat) : (S l).extract 0 n = S (l.take n) := by rw [Lib.extract_eq]; simp [S]
theorem S_from (l : List UInt8) (n : Nat) : (S l).extract n (S l).size = S (l.drop n) := by
  rw [Lib.extract_eq, S_data, List.take_of_length_le (by rw [S_size, List.length_drop]; omega)]
  rfl
theorem S_bt (pre suf : List UInt8) (c : UInt8) : bt (S (pre ++ c :: suf)) (pre.length : Int) = (c.toNat : Int) := by
  rw [bt_nat _ _ (by rw [S_size]; simp)]
  simp [S]
theorem S_bt0 (suf : List UInt8) (c : UInt8) : bt (S (c :: suf)) 0 = (c.toNat : Int) := S_bt [] suf c

theorem tm (a b : Int) (h : 0 ≤ a) : a.tmod b = a % b := Int.tmod_eq_emod_of_nonneg h
theorem td (a b : Int) (h : 0 ≤ a) : a.tdiv b = a / b := Int.tdiv_eq_ediv_of_nonneg h
theorem w64 (n : Int) (h : -9223372036854775808 ≤ n) (h2 : n < 9223372036854775808) : wrap64 n = n := by unfold wrap64; omega

theorem isDig_iff (c : UInt8) : isDig c = true ↔ 48 ≤ c.toNat ∧ c.toNat ≤ 57 := by simp [isDig]

/-! ### what the digits come to -/
theorem valD_from (n : Nat) : ∀ l : List UInt8, l.foldl (fun n b => 10 * n + (b.toNat - 48)) n = n * 10 ^ l.length + valD l := by
  intro l
  induction l generalizing n with
  | nil => simp [valD]
  | cons c l ih =>
    show List.foldl _ (10 * n + (c.toNat - 48)) l = n * 10 ^ (l.length + 1) + List.foldl _ (10 * 0 + (c.toNat - 48)) l
    rw [ih, ih (10 * 0 + (c.toNat - 48)), Nat.pow_succ]
    have h : (10 * n + (c.toNat - 48)) * 10 ^ l.length = n * (10 ^ l.length * 10) + (c.toNat - 48) * 10 ^ l.length := by
      rw [Nat.add_mul, Nat.mul_comm 10 n, Nat.mul_assoc, Nat.mul_comm 10]
    rw [h]; simp; omega
theorem valD_cons (c : UInt8) (l : List UInt8) : valD (c :: l) = (c.toNat - 48) * 10 ^ l.length + valD l := by
  show List.foldl _ (10 * 0 + (c.toNat - 48)) l = _
  rw [valD_from]; simp
theorem valD_append (a b : List UInt8) : valD (a ++ b) = valD a * 10 ^ b.length + valD b := by
  show List.foldl _ 0 (a ++ b) = _
  rw [List.foldl_append, valD_from]
  rfl
theorem valD_lt10 : ∀ l : List UInt8, l.all isDig = true → valD l < 10 ^ l.length
  | [], _ => by simp [valD]
  | c :: l, h => by
    simp only [List.all_cons, Bool.and_eq_true] at h
    have ih := valD_lt10 l h.2
    have hc := (isDig_iff c).1 h.1
    rw [valD_cons, List.length_cons, Nat.pow_succ]
    have : (c.toNat - 48) * 10 ^ l.length ≤ 9 * 10 ^ l.length := Nat.mul_le_mul_right _ (by omega)
    omega
theorem strip0_cons (c : UInt8) (l : List UInt8) : strip0 (c :: l) = if c = 48 then strip0 l else c :: l := by
  unfold strip0 Lib.trimLeftS
  by_cases h : c = 48
  · subst h; simp
  · rw [if_neg h, List.dropWhile_cons, if_neg (by simpa using h)]
theorem strip0_val : ∀ l : List UInt8, valD (strip0 l) = valD l
  | [] => rfl
  | c :: l => by
    rw [strip0_cons]
    split
    · rename_i h; subst h; rw [strip0_val l, valD_cons]; simp
    · rfl
theorem strip0_len : ∀ l : List UInt8, l.all isDig = true → (5 < (strip0 l).length ↔ 99999 < valD l)
  | [], _ => by simp [strip0, Lib.trimLeftS, valD]
  | c :: l, h => by
    have h0 := h
    simp only [List.all_cons, Bool.and_eq_true] at h
    rw [strip0_cons]
    split
    · rename_i hc; subst hc; rw [valD_cons]; simpa using strip0_len l h.2
    · rename_i hc
      have hd := (isDig_iff c).1 h.1
      have hc' : c.toNat ≠ 48 := fun e => hc (UInt8.toNat_inj.1 (by rw [e]; rfl))
      have hlt := valD_lt10 _ h0
      rw [valD_cons] at hlt ⊢
      simp only [List.length_cons] at hlt ⊢
      have hge : 1 * 10 ^ l.length ≤ (c.toNat - 48) * 10 ^ l.length := Nat.mul_le_mul_right _ (by omega)
      constructor
      · intro h5
        have : 10 ^ 5 ≤ 10 ^ l.length := Nat.pow_le_pow_right (by omega) (by omega)
        omega
      · intro h5
        rcases Nat.lt_or_ge 5 (l.length + 1) with hh | hh
        · exact hh
        · have : 10 ^ (l.length + 1) ≤ 10 ^ 5 := Nat.pow_le_pow_right (by omega) hh
          omega

/-! ### the bits behind the point -/
theorem iterD_from (k : Nat) : ∀ n ds, iterD k n ds = (2 ^ k * n + (iterD k 0 ds).1, (iterD k 0 ds).2) := by
  induction k with
  | zero => intro n ds; simp [iterD]
  | succ k ih =>
    intro n ds
    rw [iterD, ih, iterD, ih (2 * 0 + (dbl ds).1)]
    have : 2 ^ (k + 1) * n = 2 ^ k * (2 * n) := by rw [Nat.pow_succ, Nat.mul_assoc]
    have h2 := Nat.mul_add (2 ^ k) (2 * n) (dbl ds).1
    have h3 := Nat.mul_add (2 ^ k) (2 * 0) (dbl ds).1
    refine Prod.ext ?_ rfl
    show 2 ^ k * (2 * n + (dbl ds).1) + (iterD k 0 (dbl ds).2).1 = 2 ^ (k + 1) * n + (2 ^ k * (2 * 0 + (dbl ds).1) + (iterD k 0 (dbl ds).2).1)
    omega

/-- the reference's number of digits ahead of and behind the point -/
def sclL (a b : List UInt8) : Int × Bool :=
  if 99999 < valD a then (0, false) else (((valD a * 65536 + ((iterD 17 0 (digsOf b)).1 + 1) / 2 : Nat) : Int), true)
def sgnR (n : Int) (m : Bool) : Int × Bool := if fitsB (if m then -n else n) then (if m then -n else n, true) else (0, false)

theorem mag_scl (a b : List UInt8) (hb : b.all isDig = true) : magL a b = valD a * 65536 + ((iterD 17 0 (digsOf b)).1 + 1) / 2 := by
  unfold magL
  have e17 : iterD 17 0 (digsOf b) = _ := iterD_succ 16 0 (digsOf b)
  rw [iterD_from 16 (valD (strip0 a)), e17, strip0_val]
  have hd : ∀ d ∈ digsOf b, d ≤ 9 := by
    intro d hd
    unfold digsOf at hd
    obtain ⟨c, hc, rfl⟩ := List.mem_map.1 hd
    have := (isDig_iff c).1 (List.all_eq_true.1 hb c hc)
    omega
  have h := (dbl_le _ (iterD_ok 16 0 (digsOf b) hd).2.1).1
  generalize (iterD 16 0 (digsOf b)).1 = B at *
  generalize (dbl (iterD 16 0 (digsOf b)).2).1 = c at *
  simp only
  omega

theorem val_agree (m : Bool) (a b : List UInt8) (ha : a.all isDig = true) (hb : b.all isDig = true) :
    (if (valueL m a b).2 = true then ((valueL m a b).1, true) else (0, false)) = (if (sclL a b).2 = true then sgnR (sclL a b).1 m else (0, false)) := by
  have h5 := strip0_len a ha
  by_cases h : 99999 < valD a
  · have hv : valueL m a b = (0, false) := by unfold valueL; rw [if_pos (h5.2 h)]
    have hs : sclL a b = (0, false) := by unfold sclL; rw [if_pos h]
    rw [hv, hs]
    simp
  · have hv : valueL m a b = (if m then -(magL a b : Int) else magL a b, fitsB (if m then -(magL a b : Int) else magL a b)) := by unfold valueL; rw [if_neg (fun h' => h (h5.1 h'))]
    have hs : sclL a b = ((magL a b : Int), true) := by unfold sclL; rw [if_neg h, mag_scl a b hb]
    rw [hv, hs]
    simp only [sgnR, if_true]

/-! ### sign, digits, point -/
def ptL : List UInt8 → Bool × List UInt8
  | [] => (false, [])
  | b :: t => if b = 46 then (true, t) else (false, b :: t)
/-- ahead of the point, behind it, is there one, are all others digits (and is there one at least) -/
def mantL (r : List UInt8) : List UInt8 × List UInt8 × Bool × Bool :=
  ((cut1 46 r).1, (cut1 46 r).2.1, (cut1 46 r).2.2, (cut1 46 r).1.all isDig && (cut1 46 r).2.1.all isDig && decide (0 < (cut1 46 r).1.length + (cut1 46 r).2.1.length))

theorem cut1_split (a q : List UInt8) (h : ∀ x ∈ a, x ≠ 46) : cut1 46 (a ++ q) = (a ++ (cut1 46 q).1, (cut1 46 q).2.1, (cut1 46 q).2.2) := by
  induction a with
  | nil => rfl
  | cons c a ih =>
    have hc : c ≠ 46 := h c (by simp)
    rw [List.cons_append, cut1, if_neg hc, ih (fun x hx => h x (by simp [hx]))]
    rfl

/-- the reference's reading of digits and a point -/
def plainL (r : List UInt8) : List UInt8 × Nat × Bool × Bool :=
  if (ptL (r.dropWhile isDig)).1 = true then
    (r.takeWhile isDig ++ (ptL (r.dropWhile isDig)).2.takeWhile isDig, (r.takeWhile isDig).length, true,
      decide ((ptL (r.dropWhile isDig)).2.dropWhile isDig = []) && decide (0 < (r.takeWhile isDig ++ (ptL (r.dropWhile isDig)).2.takeWhile isDig).length))
  else (r.takeWhile isDig, (r.takeWhile isDig).length, false, decide (r.dropWhile isDig = []) && decide (0 < (r.takeWhile isDig).length))

theorem not46 (a : List UInt8) (h : a.all isDig = true) : ∀ x ∈ a, x ≠ 46 := by
  intro x hx e
  have := (isDig_iff x).1 (List.all_eq_true.1 h x hx)
  rw [e] at this
  revert this; decide
theorem takeW_all (r : List UInt8) : (r.takeWhile isDig).all isDig = true := by
  exact List.all_takeWhile
theorem dropW_nil (t : List UInt8) : t.dropWhile isDig = [] ↔ t.all isDig = true := by
  rw [dropWhile_nil, List.all_eq_true]
theorem takeW_id (t : List UInt8) (h : t.all isDig = true) : t.takeWhile isDig = t := by
  have := List.takeWhile_append_dropWhile (p := isDig) (l := t)
  rw [(dropW_nil t).2 h, List.append_nil] at this
  exact this

/-- the two agree -/
theorem plain_mant (r : List UInt8) : (plainL r).2.2.2 = (mantL r).2.2.2 ∧
    ((mantL r).2.2.2 = true → (plainL r).1 = (mantL r).1 ++ (mantL r).2.1 ∧ (plainL r).2.1 = (mantL r).1.length ∧ (mantL r).1.all isDig = true ∧ (mantL r).2.1.all isDig = true ∧ (plainL r).2.2.1 = (mantL r).2.2.1) := by
  have hr := (List.takeWhile_append_dropWhile (p := isDig) (l := r)).symm
  have ha := takeW_all r
  unfold plainL
  generalize hA : r.takeWhile isDig = a at *
  generalize hQ : r.dropWhile isDig = q at *
  have hn := not46 a ha
  have hc := cut1_split a q hn
  rw [← hr] at hc
  unfold mantL
  rw [hc]
  match q, hQ with
  | [], _ => simp [ptL, cut1, ha]
  | c :: t, hQ =>
    by_cases h46 : c = 46
    · subst h46
      simp only [ptL, cut1, if_true, List.append_nil, ha, Bool.true_and]
      by_cases ht : t.all isDig = true
      · simp [ht, takeW_id t ht, (dropW_nil t).2 ht]
      · have h1 : ¬ t.dropWhile isDig = [] := fun h => ht ((dropW_nil t).1 h)
        simp [ht, h1]
    · have hcd : isDig c = false := by
        rcases hcc : isDig c with _ | _
        · rfl
        · have := List.head?_dropWhile_not (p := isDig) r
          rw [hQ] at this
          simp [hcc] at this
      simp only [ptL, cut1, if_neg h46]
      simp [hcd]

/-- the program's answer -/
def parseL (l : List UInt8) : Int × Bool :=
  if 64 < l.length then (0, false)
  else if (mantL (sgnL l).2).2.2.2 = true then
    (if (valueL (sgnL l).1 (mantL (sgnL l).2).1 (mantL (sgnL l).2).2.1).2 = true then ((valueL (sgnL l).1 (mantL (sgnL l).2).1 (mantL (sgnL l).2).2.1).1, true) else (0, false))
  else (0, false)

end Go.Proofs.YtiocgpfnbmlfaaaDoor.QD
