/- Parse: the program's and the reference's, in plain words. -/
import Derived.Test.YtiocgpfnbmlfaaaDoorPQx3
import Derived.Test.YtiocgpfnbmlfaaaDoorQV
import Derived.Test.YtiocgpfnbmlfaaaDoorQText
namespace Go.Proofs.YtiocgpfnbmlfaaaDoor.QD
open Go Go.RowKit Go.Proofs.YtiocgpfnbmlfaaaDoor Go.Proofs.YtiocgpfnbmlfaaaDoor.PQ Go.Proofs.YtiocgpfnbmlfaaaDoorW.PrintWords Go.Proofs.YtiocgpfnbmlfaaaDoorW.PrintLast

theorem ref_plain_f (l : List UInt8) (h : l.length ≤ 100000000) :
    mezzotintref01_plain.f (S l) = some ((sgnL l).1, S (plainL (sgnL l).2).1, ((plainL (sgnL l).2).2.1 : Int), (plainL (sgnL l).2).2.2.1, (plainL (sgnL l).2).2.2.2) := by
  unfold mezzotintref01_plain.f
  rw [S_data, if_pos (by rw [S_size]; exact h)]

/-! ### scaled -/
def ints (l : List Nat) : List Int := l.map (fun (n : Nat) => (n : Int))
theorem ints_len (l : List Nat) : (ints l).length = l.length := by simp [ints]
theorem ints_rd (l : List Nat) (i : Nat) (h : i < l.length) : rd (ints l) (i : Int) = (l.getD i 0 : Nat) := by
  unfold rd ints
  rw [Int.toNat_natCast]
  simp [List.getD, h]
theorem ints_set (l : List Nat) (i v : Nat) : (ints l).set i (v : Int) = ints (l.set i v) := by simp [ints, List.map_set]
theorem ints_snoc (l : List Nat) (v : Nat) : ints l ++ [(v : Int)] = ints (l ++ [v]) := by simp [ints]

theorem l4_ev (V bits kk : Int) (ds : List Nat) (hd : ∀ d ∈ ds, d ≤ 9) (hlen : ds.length < 1000000000) (R : Int × Bool)
    (H : Ev (fun r => mezzotintref01_scaled.l3 r V (ints (dbl ds).2) (wrap64 (wrap64 (bits * 2) + ((dbl ds).1 : Nat))) (wrap64 (kk + 1))) R) :
    ∀ k, k ≤ ds.length → Ev (fun r => mezzotintref01_scaled.l4 r V (ints (mid ds k)) bits kk ((dbl (ds.drop k)).1 : Nat) ((k : Int) - 1)) R := by
  intro k
  induction k with
  | zero =>
    intro _
    refine Ev.step (fun r => ?_) H
    rw [mezzotintref01_scaled.l4, if_neg (by omega), mid_zero, List.drop_zero]
  | succ m ih =>
    intro hm
    obtain ⟨h1, h2, h3⟩ := mid_step ds m hm
    have hml := mid_len ds (m + 1) hm
    have ih' := ih (by omega)
    have hx : ds[m] ≤ 9 := hd _ (by simp)
    have hc := (dbl_le (ds.drop (m + 1)) (fun d hd' => hd d (List.mem_of_mem_drop hd'))).1
    refine Ev.step (fun r => ?_) ih'
    rw [show (((m + 1 : Nat) : Int) - 1) = (m : Int) from by omega]
    rw [mezzotintref01_scaled.l4, if_pos (by omega), if_pos (by omega), if_pos (by rw [ints_len, hml]; omega), ints_rd _ _ (by rw [hml]; omega), h1, h2, ← h3, Int.toNat_natCast]
    generalize ds[m] = x at *
    generalize (dbl (ds.drop (m + 1))).1 = c at *
    have hw : wrap64 (wrap64 ((x : Int) * 2) + (c : Int)) = ((2 * x + c : Nat) : Int) := by rw [w64 ((x : Int) * 2) (by omega) (by omega), w64 _ (by omega) (by omega)]; omega
    rw [hw, td _ _ (by omega), tm _ _ (by omega), w64 ((m : Int) - 1) (by omega) (by omega)]
    rw [show (((2 * x + c : Nat) : Int) % 10) = (((2 * x + c) % 10 : Nat) : Int) from by omega, ints_set, show (((2 * x + c : Nat) : Int) / 10) = (((2 * x + c) / 10 : Nat) : Int) from by omega, w64 _ (by omega) (by omega)]

theorem l3_ev (V : Nat) (hV : V ≤ 99999) (ds : List Nat) (hd : ∀ d ∈ ds, d ≤ 9) (hlen : ds.length < 1000000000) :
    ∀ j kk, kk + j = 17 → Ev (fun r => mezzotintref01_scaled.l3 r V (ints (iterD kk 0 ds).2) ((iterD kk 0 ds).1 : Nat) (kk : Int)) (((V * 65536 + ((iterD 17 0 ds).1 + 1) / 2 : Nat) : Int), true) := by
  intro j
  induction j with
  | zero =>
    intro kk hk
    obtain rfl : kk = 17 := by omega
    have hb := (iterD_ok 17 0 ds hd).2.2
    refine Ev.step (f := fun _ => some (((V * 65536 + ((iterD 17 0 ds).1 + 1) / 2 : Nat) : Int), true)) (fun r => ?_) (Ev.now _)
    rw [mezzotintref01_scaled.l3, if_neg (by omega)]
    generalize (iterD 17 0 ds).1 = B at *
    rw [w64 ((B : Int) + 1) (by omega) (by omega), td _ _ (by omega), w64 ((V : Int) * 65536) (by omega) (by omega), w64 (((B : Int) + 1) / 2) (by omega) (by omega), w64 _ (by omega) (by omega)]
    rw [show ((V : Int) * 65536 + ((B : Int) + 1) / 2) = ((V * 65536 + (B + 1) / 2 : Nat) : Int) from by omega]
  | succ j ih =>
    intro kk hk
    obtain ⟨hl, h9, hb⟩ := iterD_ok kk 0 ds hd
    have hp : (0 + 1) * 2 ^ kk ≤ 1 * 2 ^ 17 := Nat.mul_le_mul_left _ (Nat.pow_le_pow_right (by omega) (by omega))
    have hle := (dbl_le _ h9).1
    have ih' := ih (kk + 1) (by omega)
    rw [iterD_succ] at ih'
    have H := l4_ev (V : Int) ((iterD kk 0 ds).1 : Nat) (kk : Int) (iterD kk 0 ds).2 h9 (by rw [hl]; exact hlen) _ (by
      refine Ev.congr (fun r => ?_) ih'
      rw [w64 (((iterD kk 0 ds).1 : Int) * 2) (by omega) (by omega), w64 _ (by omega) (by omega), w64 _ (by omega) (by omega)]
      rw [show (((iterD kk 0 ds).1 : Int) * 2 + ((dbl (iterD kk 0 ds).2).1 : Int)) = ((2 * (iterD kk 0 ds).1 + (dbl (iterD kk 0 ds).2).1 : Nat) : Int) from by omega]
      rfl) _ (Nat.le_refl _)
    refine Ev.step (fun r => ?_) H
    rw [mezzotintref01_scaled.l3, if_pos (by omega), mid_all, ints_len, List.drop_length, w64 _ (by omega) (by omega)]
    rfl

theorem l2_ev (p : Int) (n : Nat) (hp : ∀ i : Nat, (i : Int) ≥ p ↔ n ≤ i) (V : Int) (D : List UInt8) (hD : D.all isDig = true) (hlen : D.length ≤ 1000000) (R0 : List Nat) (hR0 : R0.length ≤ 1000000) (R : Int × Bool)
    (H : Ev (fun r => mezzotintref01_scaled.l3 r V (ints (R0 ++ digsOf (D.drop n))) 0 0) R) :
    ∀ suf pre : List UInt8, pre ++ suf = D → Ev (fun r => mezzotintref01_scaled.l2 r (S D) p V (ints (R0 ++ digsOf (pre.drop n))) (pre.length : Int)) R := by
  intro suf
  induction suf with
  | nil =>
    intro pre h
    rw [List.append_nil] at h
    subst h
    refine Ev.step (fun r => ?_) H
    rw [mezzotintref01_scaled.l2, if_neg (by rw [S_size]; omega)]
  | cons c suf ih =>
    intro pre h
    have ih' := ih (pre ++ [c]) (by simpa using h)
    have hl : D.length = pre.length + (suf.length + 1) := by rw [← h]; simp
    have hbt := S_bt pre suf c
    rw [h] at hbt
    have hc := (isDig_iff c).1 (List.all_eq_true.1 hD c (by rw [← h]; simp))
    rw [show ((pre ++ [c]).length : Int) = (pre.length : Int) + 1 from by simp] at ih'
    refine Ev.step (fun r => ?_) ih'
    rw [mezzotintref01_scaled.l2, if_pos (by rw [S_size]; omega), w64 _ (by omega) (by omega)]
    by_cases hn : n ≤ pre.length
    · rw [if_pos ((hp _).2 hn), if_pos (by omega), if_pos (by rw [ints_len, List.length_append, digsOf_len, List.length_drop]; omega), hbt]
      rw [show (((c.toNat : Int) - 48) % 256) = ((c.toNat - 48 : Nat) : Int) from by omega, ints_snoc, List.drop_append_of_le_length hn, digsOf_append, List.append_assoc]
      rfl
    · rw [if_neg (fun h => hn ((hp _).1 h)), List.drop_eq_nil_of_le (by omega : pre.length ≤ n), List.drop_eq_nil_of_le (by simp; omega : (pre ++ [c]).length ≤ n)]

theorem l1_ev (m : Nat) (hm : m ≤ 1000000) (V : Int) (D : List UInt8) (R : Int × Bool)
    (H : Ev (fun r => mezzotintref01_scaled.l2 r (S D) (-(m : Int)) V (ints (List.replicate m 0)) 0) R) :
    ∀ j i, i + j = m → Ev (fun r => mezzotintref01_scaled.l1 r (S D) (-(m : Int)) V (ints (List.replicate i 0)) (-(m : Int) + i)) R := by
  intro j
  induction j with
  | zero =>
    intro i h
    obtain rfl : i = m := by omega
    refine Ev.step (fun r => ?_) H
    rw [mezzotintref01_scaled.l1, if_neg (by omega)]
  | succ j ih =>
    intro i h
    refine Ev.step (fun r => ?_) (ih (i + 1) (by omega))
    rw [mezzotintref01_scaled.l1, if_pos (by omega), if_pos (by rw [ints_len, List.length_replicate]; omega), w64 _ (by omega) (by omega)]
    rw [show ints (List.replicate i 0) ++ [(0 : Int)] = ints (List.replicate i 0 ++ [0]) from ints_snoc _ 0, ← List.replicate_succ', show (-(m : Int) + (i : Int) + 1) = -(m : Int) + ((i + 1 : Nat) : Int) from by omega]

theorem valD_mono (a b : List UInt8) : valD a ≤ valD (a ++ b) := by
  rw [valD_append]
  have : valD a * 1 ≤ valD a * 10 ^ b.length := Nat.mul_le_mul_left _ (Nat.pow_pos (by omega))
  omega

theorem l0_ev (p : Int) (n : Nat) (hn : n ≤ 1000000) (hp : ∀ i : Nat, (i : Int) < p ↔ i < n) (D : List UInt8) (hD : D.all isDig = true) (R : Int × Bool)
    (H : valD (aOf D n) ≤ 99999 → Ev (fun r => mezzotintref01_scaled.l1 r (S D) p (valD (aOf D n) : Nat) [] p) R) :
    ∀ j i, i + j = n → valD ((aOf D n).take i) ≤ 99999 →
      Ev (fun r => mezzotintref01_scaled.l0 r (S D) p (valD ((aOf D n).take i) : Nat) (i : Int)) (if 99999 < valD (aOf D n) then (0, false) else R) := by
  have hA := aOf_len D n
  have hAll := aOf_all D n hD
  intro j
  induction j with
  | zero =>
    intro i h hv
    obtain rfl : i = n := by omega
    rw [List.take_of_length_le (by omega)] at hv ⊢
    rw [if_neg (by omega)]
    refine Ev.step (fun r => ?_) (H hv)
    rw [mezzotintref01_scaled.l0, if_neg (fun h => by have := (hp _).1 h; omega)]
  | succ j ih =>
    intro i h hv
    have hi : i < (aOf D n).length := by omega
    have htk : (aOf D n).take (i + 1) = (aOf D n).take i ++ [(aOf D n)[i]] := by rw [List.take_succ_eq_append_getElem hi]
    have hval := valD_snoc ((aOf D n).take i) ((aOf D n)[i])
    rw [← htk] at hval
    have hc := (isDig_iff _).1 (List.all_eq_true.1 hAll _ (List.getElem_mem hi))
    have hmono : valD ((aOf D n).take (i + 1)) ≤ valD (aOf D n) := by
      have := valD_mono ((aOf D n).take (i + 1)) ((aOf D n).drop (i + 1))
      rwa [List.take_append_drop] at this
    -- the two ways in which the reference reads a digit
    have key : ∀ r : Nat, mezzotintref01_scaled.l0 (r + 1) (S D) p (valD ((aOf D n).take i) : Nat) (i : Int) =
        (if (valD ((aOf D n).take (i + 1)) : Int) > 99999 then some (0, false) else mezzotintref01_scaled.l0 r (S D) p (valD ((aOf D n).take (i + 1)) : Nat) (((i + 1 : Nat) : Int))) := by
      intro r
      rw [mezzotintref01_scaled.l0, if_pos ((hp _).2 (by omega)), w64 ((i : Int) + 1) (by omega) (by omega), show ((i : Int) + 1) = ((i + 1 : Nat) : Int) from by omega]
      by_cases hd : i < D.length
      · have hx : (aOf D n)[i] = D[i] := by simp [aOf, List.getElem_append_left hd]
        have hbt : bt (S D) (i : Int) = ((D[i]).toNat : Int) := by
          have := bt_nat (S D) i (by rw [S_size]; exact hd)
          rw [this]; simp [S]
        rw [hx] at hval hc
        rw [if_pos (by rw [S_size]; omega), if_pos (by omega), hbt, w64 ((valD ((aOf D n).take i) : Int) * 10) (by omega) (by omega), w64 _ (by omega) (by omega)]
        rw [show ((valD ((aOf D n).take i) : Int) * 10 + (((D[i]).toNat : Int) - 48) % 256) = (valD ((aOf D n).take (i + 1)) : Int) from by omega]
      · have hx : (aOf D n)[i] = 48 := by simp [aOf, List.getElem_append_right (by omega : D.length ≤ i)]
        rw [hx] at hval
        rw [if_neg (by rw [S_size]; omega), w64 ((valD ((aOf D n).take i) : Int) * 10) (by omega) (by omega), w64 _ (by omega) (by omega)]
        rw [show ((valD ((aOf D n).take i) : Int) * 10 + 0) = (valD ((aOf D n).take (i + 1)) : Int) from by rw [hval]; simp; omega]
    by_cases hv' : valD ((aOf D n).take (i + 1)) ≤ 99999
    · refine Ev.step (fun r => ?_) (ih (i + 1) (by omega) hv')
      rw [key, if_neg (by omega)]
    · rw [if_pos (by omega)]
      refine Ev.step (f := fun _ => some (0, false)) (fun r => ?_) (Ev.now _)
      rw [key, if_pos (by omega)]

theorem scaled_ev (D : List UInt8) (p : Int) (hD : D.all isDig = true) (hlen : D.length ≤ 1000000) (h1 : -1000000 ≤ p) (h2 : p ≤ 1000000) :
    Ev (fun r => mezzotintref01_scaled.f r (S D) p) (sclL (aOf D p.toNat) (bOf D p)) := by
  have hlt : ∀ i : Nat, (i : Int) < p ↔ i < p.toNat := fun i => by omega
  have hge : ∀ i : Nat, (i : Int) ≥ p ↔ p.toNat ≤ i := fun i => by omega
  have hall : (D.drop p.toNat).all isDig = true := by
    rw [List.all_eq_true] at *
    exact fun x hx => hD x (List.mem_of_mem_drop hx)
  have hz : ∀ d ∈ List.replicate (-p).toNat 0 ++ digsOf (D.drop p.toNat), d ≤ 9 := by
    intro d hd
    rcases List.mem_append.1 hd with h | h
    · rw [(List.mem_replicate.1 h).2]; omega
    · exact digs9 _ hall d h
  have hzl : (List.replicate (-p).toNat 0 ++ digsOf (D.drop p.toNat)).length < 1000000000 := by
    rw [List.length_append, List.length_replicate, digsOf_len, List.length_drop]; omega
  have hb : digsOf (bOf D p) = List.replicate (-p).toNat 0 ++ digsOf (D.drop p.toNat) := by rw [bOf, digsOf_append, digsOf_zeros]
  have key : ∀ (V : Int) (R : Int × Bool), Ev (fun r => mezzotintref01_scaled.l3 r V (ints (List.replicate (-p).toNat 0 ++ digsOf (D.drop p.toNat))) 0 0) R → Ev (fun r => mezzotintref01_scaled.l1 r (S D) p V [] p) R := by
    intro V R h3
    have h20 := l2_ev p p.toNat hge V D hD hlen (List.replicate (-p).toNat 0) (by simp; omega) R h3 D [] rfl
    rw [List.drop_nil, show digsOf [] = [] from rfl, List.append_nil, show (([] : List UInt8).length : Int) = 0 from rfl] at h20
    by_cases hp : p < 0
    · have hp' : p = -(((-p).toNat : Nat) : Int) := by omega
      have h1' := l1_ev (-p).toNat (by omega) V D R (by rw [← hp']; exact h20) (-p).toNat 0 (by omega)
      rw [← hp', List.replicate_zero, show ints [] = [] from rfl, show (p + ((0 : Nat) : Int)) = p from by omega] at h1'
      exact h1'
    · have h0 : (-p).toNat = 0 := by omega
      rw [h0, List.replicate_zero, show ints [] = [] from rfl] at h20
      refine Ev.step (fun r => ?_) h20
      rw [mezzotintref01_scaled.l1, if_neg hp]
  unfold sclL
  rw [hb]
  have H := l0_ev p p.toNat (by omega) hlt D hD (((valD (aOf D p.toNat) * 65536 + ((iterD 17 0 (List.replicate (-p).toNat 0 ++ digsOf (D.drop p.toNat))).1 + 1) / 2 : Nat) : Int), true)
    (fun hv => key _ _ (l3_ev (valD (aOf D p.toNat)) hv _ hz hzl 17 0 rfl)) p.toNat 0 (by omega) (by simp [valD])
  rw [List.take_zero, show ((valD [] : Nat) : Int) = 0 from rfl] at H
  exact H

/-! ### Parse -/
theorem signed_same (s : ByteArray) : dec_signed.f s = some ((sgnL s.data.toList).1, S (sgnL s.data.toList).2) := signed_f s
theorem cut_size (s : ByteArray) (hs : s.size ≤ 140737488351232) :
    strings_Cut.f s ⟨#[46]⟩ = some (S (cut1 46 s.data.toList).1, S (cut1 46 s.data.toList).2.1, (cut1 46 s.data.toList).2.2) := by
  unfold strings_Cut.f
  rw [if_pos ⟨by decide, hs⟩]
  rfl
theorem plain_same (s : ByteArray) (hs : s.size ≤ 140737488351232) : dec_plain.f s = some (s.data.toList.all isDig) := plain_f s hs
theorem mantissa_f (l : List UInt8) (hs : l.length ≤ 1000000) : dec_mantissa.f (S l) = some (S (mantL l).1, S (mantL l).2.1, (mantL l).2.2.1, (mantL l).2.2.2) := by
  have hc := cut1_len 46 l
  unfold dec_mantissa.f mantL
  rw [cut_size _ (by rw [S_size]; omega)]
  simp only [Option.bind_some, S_data]
  rw [plain_same _ (by rw [S_size]; omega), plain_same _ (by rw [S_size]; omega)]
  simp only [Option.bind_some, S_data, S_size]
  rw [w64 _ (by omega) (by omega)]
  cases (cut1 46 l).1.all isDig <;> cases (cut1 46 l).2.1.all isDig <;> simp
  omega

theorem sgn_len (l : List UInt8) : (sgnL l).2.length ≤ l.length := sgnL_len l

theorem dec_Parse_f (l : List UInt8) (hs : l.length ≤ 1000000) : dec_Parse.f (S l) = some (parseL l) := by
  unfold dec_Parse.f parseL
  rw [S_size]
  by_cases h : 64 < l.length
  · rw [if_pos (by omega), if_pos h]
  · rw [if_neg (by omega), if_neg h, signed_same, S_data]
    simp only [Option.bind_some]
    have hl := sgn_len l
    generalize (sgnL l).2 = r at *
    rw [mantissa_f r (by omega)]
    simp only [Option.bind_some]
    by_cases hm : (mantL r).2.2.2 = true
    · obtain ⟨h1, h2⟩ := mant_all r hm
      obtain ⟨h3, h4⟩ := mant_len r
      rw [if_pos hm, if_pos hm]
      unfold dec_value.f
      rw [S_data, S_data, if_pos ⟨h1, h2, by rw [S_size]; omega⟩]
      simp only [Option.bind_some]
      split <;> rfl
    · rw [if_neg hm, if_neg hm]

theorem ref_Fits_f (z : Int) : mezzotintref01_Fits.f z = some (fitsB z) := by
  unfold mezzotintref01_Fits.f fitsB
  by_cases h : -2147483648 ≤ z
  · rw [if_pos h]; simp [h]
  · rw [if_neg h]; simp [h]
theorem ref_signed_f (n : Int) (m : Bool) (h1 : -1000000000000 < n) (h2 : n < 1000000000000) : mezzotintref01_signed.f n m = some (sgnR n m) := by
  unfold mezzotintref01_signed.f sgnR
  rw [w64 (-n) (by omega) (by omega), ref_Fits_f, ref_Fits_f]
  simp only [Option.bind_some]
  cases m <;> simp <;> split <;> rfl

theorem scl_bound (a b : List UInt8) (hb : b.all isDig = true) : 0 ≤ (sclL a b).1 ∧ (sclL a b).1 < 1000000000000 := by
  unfold sclL
  split
  · simp
  · have := (iterD_ok 17 0 (digsOf b) (digs9 b hb)).2.2
    simp only
    omega

/-- scaled at the digits of a mantissa -/
theorem aOf_at (a b : List UInt8) : aOf (a ++ b) a.length = a := by
  unfold aOf
  rw [List.append_assoc, List.take_left' rfl]
theorem bOf_at (a b : List UInt8) : bOf (a ++ b) (a.length : Int) = b := by
  unfold bOf
  rw [show (-(a.length : Int)).toNat = 0 from by omega, Int.toNat_natCast, List.drop_left' rfl]
  rfl

theorem ref_Parse_ev (l : List UInt8) (hs : l.length ≤ 1000000) : Ev (fun k => mezzotintref01_Parse.f k (S l)) (parseL l) := by
  unfold mezzotintref01_Parse.f parseL
  rw [S_size]
  by_cases h : 64 < l.length
  · rw [if_pos h]
    refine Ev.congr (fun k => ?_) (Ev.now _)
    rw [if_pos (by omega)]
  · have hl := sgn_len l
    rw [if_neg h]
    have hn : ¬ ((l.length : Int) > 64) := by omega
    simp only [if_neg hn, ref_plain_f l (by omega), Option.bind_some]
    generalize (sgnL l).1 = m at *
    generalize (sgnL l).2 = r at *
    obtain ⟨h1, h2⟩ := plain_mant r
    simp only [h1]
    by_cases hm : (mantL r).2.2.2 = true
    · obtain ⟨h3, h4, h5, h6, _⟩ := h2 hm
      obtain ⟨h7, h8⟩ := mant_len r
      simp only [hm, if_true, h3, h4]
      generalize (mantL r).1 = a at *
      generalize (mantL r).2.1 = b at *
      have hsc := scaled_ev (a ++ b) (a.length : Int) (by rw [List.all_append, h5, h6]; rfl) (by rw [List.length_append]; omega) (by omega) (by omega)
      rw [Int.toNat_natCast, aOf_at, bOf_at] at hsc
      refine Ev.bind hsc ?_
      rw [val_agree m a b h5 h6]
      have hb := scl_bound a b h6
      refine Ev.congr (fun k => ?_) (Ev.now _)
      by_cases hs2 : (sclL a b).2 = true
      · rw [if_pos hs2, if_pos hs2, ref_signed_f _ _ (by omega) (by omega)]
        rfl
      · rw [if_neg hs2, if_neg hs2]
    · simp only [if_neg hm]
      exact Ev.now _

end Go.Proofs.YtiocgpfnbmlfaaaDoor.QD
