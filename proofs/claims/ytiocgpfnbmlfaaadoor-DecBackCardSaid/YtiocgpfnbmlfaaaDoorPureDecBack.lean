/- A number's text is read as it: the plain law of DecBack. -/
import Derived.Test.YtiocgpfnbmlfaaaDoorPQx4
import Derived.Test.YtiocgpfnbmlfaaaDoorQParse
namespace Go.Proofs.YtiocgpfnbmlfaaaDoor.QD
open Go Go.RowKit Go.Proofs.YtiocgpfnbmlfaaaDoor Go.Proofs.YtiocgpfnbmlfaaaDoor.PQ Go.Proofs.YtiocgpfnbmlfaaaDoorW.PrintWords Go.Proofs.YtiocgpfnbmlfaaaDoorW.PrintLast

theorem value_back (m : Bool) (a b : List UInt8) (W F : Nat) (ha : a.all isDig = true) (hb : b.all isDig = true) (hW : valD a = W) (hW2 : W ≤ 99999) (hF : valN (digsOf b) * 65536 = F * 10 ^ (digsOf b).length) :
    valueL m a b = (if m then -((W * 65536 + F : Nat) : Int) else ((W * 65536 + F : Nat) : Int), fitsB (if m then -((W * 65536 + F : Nat) : Int) else ((W * 65536 + F : Nat) : Int))) := by
  have h5 := strip0_len a ha
  have hmag : magL a b = W * 65536 + F := by
    rw [mag_scl a b hb, hW, iterD_exact (digsOf b) F (digs9 b hb) hF]
    clear hF h5
    omega
  unfold valueL
  rw [if_neg (fun h => by have := h5.1 h; omega), hmag]

theorem mant_point (a b : List UInt8) (ha : a.all isDig = true) (hb : b.all isDig = true) (h0 : a ≠ []) : mantL (a ++ 46 :: b) = (a, b, true, true) := by
  have hc := cut1_split a (46 :: b) (not46 a ha)
  have h1 : 0 < a.length := List.length_pos_iff.2 h0
  unfold mantL
  rw [hc]
  simp [cut1, ha, hb]
  omega
theorem mant_plain (a : List UInt8) (ha : a.all isDig = true) (h0 : a ≠ []) : mantL a = (a, [], false, true) := by
  have hc := cut1_split a [] (not46 a ha)
  have h1 : 0 < a.length := List.length_pos_iff.2 h0
  rw [List.append_nil] at hc
  unfold mantL
  rw [hc]
  simp [cut1, ha]
  omega

theorem valD_zeros (n : Nat) : valD (List.replicate n 48) = 0 := by
  induction n with
  | zero => rfl
  | succ n ih => rw [List.replicate_succ, valD_cons, ih]; simp
theorem zeros_all (n : Nat) : (List.replicate n (48 : UInt8)).all isDig = true := by
  rw [List.all_eq_true]; intro x hx; rw [(List.mem_replicate.1 hx).2]; decide
theorem sgn_dig (x : List UInt8) (h : ∃ c t, x = c :: t ∧ isDig c = true) : sgnL x = (false, x) := by
  obtain ⟨c, t, rfl, hc⟩ := h
  have := (isDig_iff c).1 hc
  have h45 : c ≠ 45 := fun e => by subst e; revert this; decide
  have h43 : c ≠ 43 := fun e => by subst e; revert this; decide
  simp [sgnL, h45, h43]
theorem head_dig (a x : List UInt8) (ha : a.all isDig = true) (h0 : a ≠ []) : ∃ c t, a ++ x = c :: t ∧ isDig c = true := by
  match a, h0 with
  | c :: t, _ => exact ⟨c, t ++ x, rfl, by simp only [List.all_cons, Bool.and_eq_true] at ha; exact ha.1⟩

theorem frac_zeros (b : List UInt8) (F j : Nat) (h : valN (digsOf b) * 65536 = F * 10 ^ (digsOf b).length) :
    valN (digsOf (b ++ List.replicate j 48)) * 65536 = F * 10 ^ (digsOf (b ++ List.replicate j 48)).length := by
  rw [digsOf_append, digsOf_zeros, valN_append, valN_zeros, List.length_append, List.length_replicate, Nat.pow_add, Nat.add_zero, Nat.mul_right_comm, h, Nat.mul_assoc]

theorem parse_point (sg a b : List UInt8) (m : Bool) (W F : Nat) (z : Int) (hs : sgnL (sg ++ (a ++ 46 :: b)) = (m, a ++ 46 :: b)) (hl : (sg ++ (a ++ 46 :: b)).length ≤ 64) (ha : a.all isDig = true) (h0 : a ≠ []) (hb : b.all isDig = true)
    (hW : valD a = W) (hW2 : W ≤ 99999) (hF : valN (digsOf b) * 65536 = F * 10 ^ (digsOf b).length) (hz : (if m then -((W * 65536 + F : Nat) : Int) else ((W * 65536 + F : Nat) : Int)) = z) (hf : fitsB z = true) :
    parseL (sg ++ (a ++ 46 :: b)) = (z, true) := by
  unfold parseL
  rw [if_neg (by omega), hs]
  simp only [mant_point a b ha hb h0, if_true]
  rw [value_back m a b W F ha hb hW hW2 hF, hz, hf]
  rfl
theorem parse_plain (sg a : List UInt8) (m : Bool) (W : Nat) (z : Int) (hs : sgnL (sg ++ a) = (m, a)) (hl : (sg ++ a).length ≤ 64) (ha : a.all isDig = true) (h0 : a ≠ [])
    (hW : valD a = W) (hW2 : W ≤ 99999) (hz : (if m then -((W * 65536 + 0 : Nat) : Int) else ((W * 65536 + 0 : Nat) : Int)) = z) (hf : fitsB z = true) :
    parseL (sg ++ a) = (z, true) := by
  unfold parseL
  rw [if_neg (by omega), hs]
  simp only [mant_plain a ha h0, if_true]
  rw [value_back m a [] W 0 ha rfl hW hW2 (by simp [digsOf, valN]), hz, hf]
  rfl

theorem cut1_no (c : UInt8) (l : List UInt8) (h : ∀ x ∈ l, x ≠ c) : cut1 c l = (l, [], false) := by
  induction l with
  | nil => rfl
  | cons b l ih => rw [cut1, if_neg (h b (by simp)), ih (fun x hx => h x (by simp [hx]))]
theorem indexAny_no (l : List UInt8) (h : ∀ x ∈ l, x ≠ 101 ∧ x ≠ 69) : Lib.indexAny l [101, 69] = -1 := by
  induction l with
  | nil => rfl
  | cons b l ih =>
    obtain ⟨h1, h2⟩ := h b (by simp)
    rw [Lib.indexAny, if_neg (by simp [h1, h2]), ih (fun x hx => h x (by simp [hx]))]
    rfl
theorem shift_zero (a b : List UInt8) : shiftL a b 0 = (a, b) := by
  unfold shiftL
  rw [show ((a.length : Int) + 0).toNat = a.length from by omega, show ((a.length : Int) + 0) = (a.length : Int) from by omega]
  unfold aOf bOf
  rw [List.append_assoc, List.take_left' rfl, show (-(a.length : Int)).toNat = 0 from by omega, Int.toNat_natCast, List.drop_left' rfl]
  rfl

theorem dig_ne (v : UInt8) (hv : isDig v = false) (a : List UInt8) (h : a.all isDig = true) : ∀ x ∈ a, x ≠ v := by
  intro x hx e
  have := List.all_eq_true.1 h x hx
  rw [e, hv] at this
  cases this

theorem tok_point (sg a b : List UInt8) (m : Bool) (W F : Nat) (z : Int) (hsg : sg = [] ∨ sg = [45]) (hs : sgnL (sg ++ (a ++ 46 :: b)) = (m, a ++ 46 :: b)) (hl : (sg ++ (a ++ 46 :: b)).length ≤ 64) (ha : a.all isDig = true) (h0 : a ≠ []) (hb : b.all isDig = true)
    (hW : valD a = W) (hW2 : W ≤ 99999) (hF : valN (digsOf b) * 65536 = F * 10 ^ (digsOf b).length) (hz : (if m then -((W * 65536 + F : Nat) : Int) else ((W * 65536 + F : Nat) : Int)) = z) (hf : fitsB z = true) :
    tokL (sg ++ (a ++ 46 :: b)) = (2, z, true, 0) := by
  have hmem : ∀ v : UInt8, isDig v = false → v ≠ 46 → v ≠ 45 → ∀ x ∈ sg ++ (a ++ 46 :: b), x ≠ v := by
    intro v hv h46 h45 x hx
    rcases List.mem_append.1 hx with h | h
    · rcases hsg with rfl | rfl
      · cases h
      · simp at h; rw [h]; exact fun e => h45 e.symm
    · rcases List.mem_append.1 h with h | h
      · exact dig_ne v hv a ha x h
      · rcases List.mem_cons.1 h with h | h
        · rw [h]; exact fun e => h46 e.symm
        · exact dig_ne v hv b hb x h
  have hrad : radixL (sg ++ (a ++ 46 :: b)) = (0, 0, false, 0) := by
    unfold radixL
    rw [cut1_no 35 _ (hmem 35 (by decide) (by decide) (by decide)), if_pos (Or.inl rfl)]
  have hbad : (a ++ 46 :: b).all isDig = false := by
    rw [List.all_append, List.all_cons]
    simp [show isDig 46 = false from by decide]
  have hwh : wholeL (sg ++ (a ++ 46 :: b)) = (0, false) := by
    unfold wholeL
    rw [hs]
    simp [hbad]
  have hex : expL (a ++ 46 :: b) = (a ++ 46 :: b, 0, true) := by
    unfold expL
    rw [indexAny_no _ (fun x hx => ⟨hmem 101 (by decide) (by decide) (by decide) x (List.mem_append_right _ hx), hmem 69 (by decide) (by decide) (by decide) x (List.mem_append_right _ hx)⟩), if_pos (by omega)]
  unfold tokL
  rw [if_neg (by omega), hrad, if_neg (by simp), hwh, if_neg (by simp), hs]
  simp only [hex, if_true]
  unfold realL
  simp only [mant_point a b ha hb h0, if_true, shift_zero]
  rw [value_back m a b W F ha hb hW hW2 hF, hz, hf]
  rfl

/-! ### the law's loops -/
theorem back_l0 (z x1 x2 : Int) (J : Nat) (hJ : wrap64 (Int.tmod x2 15) = J) (hJ2 : J ≤ 15) (R : Bool) :
    ∀ (j i : Nat) (x : List UInt8), i + j = J → x.length + j ≤ 1000 →
      Ev (fun r => mezzotintlaw02_DecBack.l0 r z x1 x2 (S (x ++ List.replicate j 48)) (J : Int)) R → Ev (fun r => mezzotintlaw02_DecBack.l0 r z x1 x2 (S x) (i : Int)) R := by
  intro j
  induction j with
  | zero =>
    intro i x h _ H
    obtain rfl : i = J := by omega
    simpa using H
  | succ j ih =>
    intro i x h hx H
    have ih' := ih (i + 1) (x ++ [48]) (by omega) (by simp; omega) (by simpa [List.replicate_succ] using H)
    refine Ev.step (fun r => ?_) ih'
    rw [mezzotintlaw02_DecBack.l0, hJ, if_pos (by omega), if_pos (by rw [S_size]; omega), w64 _ (by omega) (by omega)]
    rw [show (⟨#[48]⟩ : ByteArray) = S [48] from rfl, S_append]
    rfl

theorem back_l1 (z x1 : Int) (sg : List UInt8) (I : Nat) (hI : wrap64 (Int.tmod x1 15) = I) (hI2 : I ≤ 15) (R : Bool) :
    ∀ (j i : Nat) (x : List UInt8), i + j = I → x.length + j ≤ 1000 →
      Ev (fun r => mezzotintlaw02_DecBack.l1 r z x1 (S (List.replicate j 48 ++ x)) (S sg) (I : Int)) R → Ev (fun r => mezzotintlaw02_DecBack.l1 r z x1 (S x) (S sg) (i : Int)) R := by
  intro j
  induction j with
  | zero =>
    intro i x h _ H
    obtain rfl : i = I := by omega
    simpa using H
  | succ j ih =>
    intro i x h hx H
    have ih' := ih (i + 1) (48 :: x) (by omega) (by simp; omega) (by
      rw [show List.replicate j 48 ++ 48 :: x = List.replicate (j + 1) 48 ++ x from by rw [List.replicate_succ']; simp]; exact H)
    refine Ev.step (fun r => ?_) ih'
    rw [mezzotintlaw02_DecBack.l1, hI, if_pos (by omega), if_pos (by rw [S_size]; omega), w64 _ (by omega) (by omega)]
    rw [show (⟨#[48]⟩ : ByteArray) = S [48] from rfl, S_append]
    rfl

/-- behind the loops: the text with its noughts is read twice -/
theorem back_end (z x1 : Int) (hz : -2147483648 ≤ z) (hz2 : z ≤ 2147483647) (sg x : List UInt8) (I : Nat) (hI : wrap64 (Int.tmod x1 15) = I) (hsg : sg = [] ∨ sg = [45]) (hx : x.length ≤ 60)
    (h1 : parseL (sg ++ x) = (z, true)) (h2 : sg = [] → parseL (43 :: x) = (z, true)) :
    Ev (fun r => mezzotintlaw02_DecBack.l1 r z x1 (S x) (S sg) (I : Int)) true := by
  have hsl : sg.length ≤ 1 := by rcases hsg with rfl | rfl <;> simp
  refine Ev.step (f := fun _ => some true) (fun r => ?_) (Ev.now _)
  rw [mezzotintlaw02_DecBack.l1, hI, if_neg (by omega), if_pos (by rw [S_size, S_size]; omega), S_append, dec_Parse_f _ (by rw [List.length_append]; omega), h1]
  simp only [Option.bind_some, if_true]
  rw [if_pos (w64 z (by omega) (by omega)).symm, S_list]
  rcases hsg with rfl | rfl
  · rw [if_neg (by simp)]
    unfold mezzotintlaw02_plus.f
    rw [if_pos (by rw [S_size]; omega), show (⟨#[43]⟩ : ByteArray) = S [43] from rfl, S_append, show [43] ++ x = 43 :: x from rfl, dec_Parse_f _ (by simp; omega), h2 rfl]
    simp [w64 z (by omega) (by omega)]
  · rw [if_pos rfl]

theorem fits_clip (z : Int) (hz : -2147483648 ≤ z) (hz2 : z ≤ 2147483647) : fitsB z = true ∧ clip z = z := by
  have h : fitsB z = true := by simp [fitsB, hz, hz2]
  exact ⟨h, by unfold clip; rw [if_pos h]⟩

/-- the text with a point in any case -/
def restR (F : Nat) : List UInt8 := if fracs 16 F = [] then [48] else fracs 16 F
theorem restR_ok (F : Nat) (hF : F < 65536) : valN (digsOf (restR F)) * 65536 = F * 10 ^ (digsOf (restR F)).length ∧ (restR F).all isDig = true ∧ (restR F).length ≤ 16 ∧ (fracs 16 F = [] → F = 0) := by
  obtain ⟨h1, h2⟩ := fracs_val 16 F hF (by simp) (by omega)
  have h3 := fracs_len 16 F
  have h4 : fracs 16 F = [] → F = 0 := by
    intro h; rw [h] at h1; simp [digsOf, valN] at h1; exact h1.symm
  unfold restR
  by_cases h : fracs 16 F = []
  · rw [if_pos h]
    have := h4 h
    subst this
    exact ⟨by simp [digsOf, valN], by decide, by simp, h4⟩
  · rw [if_neg h]
    exact ⟨by rw [digsOf_len]; exact h1, h2, h3, h4⟩

theorem textR_eq (z : Int) (hc : clip z = z) : textR z = signL z ++ (digs (z.natAbs / 65536) ++ 46 :: restR (z.natAbs % 65536)) := by
  unfold textR restR
  rw [hc, List.append_assoc]
  match h : fracs 16 (z.natAbs % 65536) with
  | [] => simp [tailR]
  | c :: t => simp [tailR]

end Go.Proofs.YtiocgpfnbmlfaaaDoor.QD
namespace Go.Proofs.YtiocgpfnbmlfaaaDoor.Pure
open Go Go.RowKit Go.Proofs.YtiocgpfnbmlfaaaDoor Go.Proofs.YtiocgpfnbmlfaaaDoor.PQ Go.Proofs.YtiocgpfnbmlfaaaDoor.QD Go.Proofs.YtiocgpfnbmlfaaaDoorW.PrintWords Go.Proofs.YtiocgpfnbmlfaaaDoorW.PrintLast

theorem DecBack : mezzotintlaw02_DecBack.Pure := by
  intro z x1 x2 hz0 hx1 hx2
  refine Ev.rounds ?_
  have hz : -2147483648 ≤ z ∧ z ≤ 2147483647 := by
    simp only [Lit.wf, Bool.and_eq_true, decide_eq_true_eq] at hz0
    rw [show IntKind.min .i32 = -2147483648 from by decide, show IntKind.max .i32 = 2147483647 from by decide] at hz0
    exact hz0
  have hy1 : 0 ≤ x1 ∧ x1 ≤ 255 := by
    simp only [Lit.wf, Bool.and_eq_true, decide_eq_true_eq] at hx1
    rw [show IntKind.min .u8 = 0 from by decide, show IntKind.max .u8 = 255 from by decide] at hx1
    exact hx1
  have hy2 : 0 ≤ x2 ∧ x2 ≤ 255 := by
    simp only [Lit.wf, Bool.and_eq_true, decide_eq_true_eq] at hx2
    rw [show IntKind.min .u8 = 0 from by decide, show IntKind.max .u8 = 255 from by decide] at hx2
    exact hx2
  obtain ⟨hz1, hz2⟩ := hz
  clear hz0 hx1 hx2
  obtain ⟨hf, hc⟩ := fits_clip z hz1 hz2
  obtain ⟨W, hW⟩ : ∃ W, W = z.natAbs / 65536 := ⟨_, rfl⟩
  obtain ⟨F, hF⟩ : ∃ F, F = z.natAbs % 65536 := ⟨_, rfl⟩
  have hWle : W ≤ 32768 := by omega
  have hFlt : F < 65536 := by omega
  have hM : ((W * 65536 + F : Nat) : Int) = z.natAbs := by omega
  obtain ⟨hA1, hA2, hA3⟩ := digs_val 4 W (by omega)
  have hAl := digs_len W (by omega)
  obtain ⟨hR1, hR2, hR3, hR4⟩ := restR_ok F hFlt
  have htR := textR_eq z hc
  rw [← hW, ← hF] at htR
  have hsg : signL z = [] ∨ signL z = [45] := by unfold signL; split <;> simp
  have hsgl : (signL z).length ≤ 1 := by rcases hsg with h | h <;> rw [h] <;> simp
  obtain ⟨m, hm⟩ : ∃ m : Bool, m = decide (z < 0) := ⟨_, rfl⟩
  have hsgn : ∀ a rest : List UInt8, a.all isDig = true → a ≠ [] → sgnL (signL z ++ (a ++ rest)) = (m, a ++ rest) := by
    intro a rest ha h0
    unfold signL
    by_cases hneg : z < 0
    · rw [if_pos hneg, hm, decide_eq_true hneg]; rfl
    · rw [if_neg hneg, hm, decide_eq_false hneg]; exact sgn_dig _ (head_dig a rest ha h0)
  have hzz : (if m then -((W * 65536 + F : Nat) : Int) else ((W * 65536 + F : Nat) : Int)) = z := by
    rw [hM, hm]
    by_cases hneg : z < 0
    · rw [decide_eq_true hneg, if_pos rfl]; omega
    · rw [decide_eq_false hneg, if_neg (by simp)]; omega
  have hPrint : parseL (text z) = (z, true) := by
    unfold text
    rw [hc, ← hW, ← hF, List.append_assoc]
    by_cases hfr : fracs 16 F = []
    · rw [hfr, show tail [] = [] from rfl, List.append_nil]
      have hs := hsgn (digs W) [] hA2 hA3
      rw [List.append_nil] at hs
      exact parse_plain (signL z) (digs W) m W z hs (by rw [List.length_append]; omega) hA2 hA3 hA1 (by omega) (by rw [hR4 hfr] at hzz; exact hzz) hf
    · have ht : tail (fracs 16 F) = 46 :: restR F := by
        unfold restR
        rw [if_neg hfr]
        match h : fracs 16 F with
        | [] => exact absurd h hfr
        | c :: t => rfl
      rw [ht]
      exact parse_point (signL z) (digs W) (restR F) m W F z (hsgn _ _ hA2 hA3) (by rw [List.length_append, List.length_append, List.length_cons]; omega) hA2 hA3 hR2 hA1 (by omega) hR1 hzz hf
  have hReal : parseL (textR z) = (z, true) := by
    rw [htR]
    exact parse_point (signL z) (digs W) (restR F) m W F z (hsgn _ _ hA2 hA3) (by rw [List.length_append, List.length_append, List.length_cons]; omega) hA2 hA3 hR2 hA1 (by omega) hR1 hzz hf
  have hTok : tokL (textR z) = (2, z, true, 0) := by
    rw [htR]
    exact tok_point (signL z) (digs W) (restR F) m W F z hsg (hsgn _ _ hA2 hA3) (by rw [List.length_append, List.length_append, List.length_cons]; omega) hA2 hA3 hR2 hA1 (by omega) hR1 hzz hf
  have hlR : (textR z).length ≤ 24 := by rw [htR, List.length_append, List.length_append, List.length_cons]; omega
  have hlP : (text z).length ≤ 24 := by
    have := text_len z
    exact this
  obtain ⟨J, hJ⟩ : ∃ J : Nat, wrap64 (Int.tmod x2 15) = J := ⟨(x2 % 15).toNat, by rw [tm _ _ hy2.1, w64 _ (by omega) (by omega)]; omega⟩
  obtain ⟨I, hI⟩ : ∃ I : Nat, wrap64 (Int.tmod x1 15) = I := ⟨(x1 % 15).toNat, by rw [tm _ _ hy1.1, w64 _ (by omega) (by omega)]; omega⟩
  have hJ2 : J ≤ 14 := by rw [tm _ _ hy2.1, w64 _ (by omega) (by omega)] at hJ; omega
  have hI2 : I ≤ 14 := by rw [tm _ _ hy1.1, w64 _ (by omega) (by omega)] at hI; omega
  have hx4 : (textR z).length = (signL z).length + ((digs W).length + ((restR F).length + 1)) := by rw [htR, List.length_append, List.length_append, List.length_cons]
  -- the text behind the sign, with its noughts
  have hfz := frac_zeros (restR F) F J hR1
  have hbz : (restR F ++ List.replicate J 48).all isDig = true := by rw [List.all_append, hR2, zeros_all]; rfl
  have haz : (List.replicate I 48 ++ digs W).all isDig = true := by rw [List.all_append, hA2, zeros_all]; rfl
  have ha0 : List.replicate I 48 ++ digs W ≠ [] := by
    intro h; exact hA3 (List.append_eq_nil_iff.1 h).2
  have haV : valD (List.replicate I 48 ++ digs W) = W := by rw [valD_append, valD_zeros, hA1]; omega
  have hend : Ev (fun r => mezzotintlaw02_DecBack.l1 r z x1 (S (List.replicate I 48 ++ (digs W ++ 46 :: (restR F ++ List.replicate J 48)))) (S (signL z)) (I : Int)) true := by
    refine back_end z x1 hz1 hz2 (signL z) _ I hI hsg (by simp only [List.length_append, List.length_cons, List.length_replicate]; omega) ?_ ?_
    · rw [← List.append_assoc (List.replicate I 48)]
      exact parse_point (signL z) _ _ m W F z (hsgn _ _ haz ha0) (by simp only [List.length_append, List.length_cons, List.length_replicate]; omega) haz ha0 hbz haV (by omega) hfz hzz hf
    · intro hs0
      have hm0 : m = false := by
        rw [hm]
        by_cases hneg : z < 0
        · unfold signL at hs0; rw [if_pos hneg] at hs0; cases hs0
        · exact decide_eq_false hneg
      rw [← List.append_assoc (List.replicate I 48), show (43 : UInt8) :: (List.replicate I 48 ++ digs W ++ 46 :: (restR F ++ List.replicate J 48)) = [43] ++ (List.replicate I 48 ++ digs W ++ 46 :: (restR F ++ List.replicate J 48)) from rfl]
      exact parse_point [43] _ _ m W F z (by rw [hm0]; rfl) (by simp only [List.length_append, List.length_cons, List.length_replicate, List.length_nil]; omega) haz ha0 hbz haV (by omega) hfz hzz hf
  have hmid : Ev (fun r => mezzotintlaw02_DecBack.l1 r z x1 (S (digs W ++ 46 :: (restR F ++ List.replicate J 48))) (S (signL z)) 0) true :=
    back_l1 z x1 (signL z) I hI (by omega) true I 0 _ (by omega) (by simp only [List.length_append, List.length_cons, List.length_replicate]; omega) hend
  have hj2 : Ev (fun r => mezzotintlaw02_DecBack.j2 r z x1 (S (digs W ++ 46 :: (restR F ++ List.replicate J 48))) (S (signL z))) true :=
    Ev.step (fun r => by rw [mezzotintlaw02_DecBack.j2]) hmid
  have hcat : textR z ++ List.replicate J 48 = signL z ++ (digs W ++ 46 :: (restR F ++ List.replicate J 48)) := by rw [htR]; simp
  have hl0 : Ev (fun r => mezzotintlaw02_DecBack.l0 r z x1 x2 (S (textR z ++ List.replicate J 48)) (J : Int)) true := by
    rw [hcat]
    refine Ev.step (fun r => ?_) hj2
    rw [mezzotintlaw02_DecBack.l0, hJ, if_neg (by omega)]
    by_cases hneg : z < 0
    · have hsz : signL z = [45] := by unfold signL; rw [if_pos hneg]
      rw [hsz, show [45] ++ (digs W ++ 46 :: (restR F ++ List.replicate J 48)) = 45 :: (digs W ++ 46 :: (restR F ++ List.replicate J 48)) from rfl, S_bt0,
        if_pos (by rw [S_size, List.length_cons]; omega), if_pos (by decide), if_pos (by rw [S_size, List.length_cons]; omega), S_from]
      rfl
    · have hsz : signL z = [] := by unfold signL; rw [if_neg hneg]
      obtain ⟨c, t, hct, hcd⟩ := head_dig (digs W) (46 :: (restR F ++ List.replicate J 48)) hA2 hA3
      have hcr := (isDig_iff c).1 hcd
      rw [hsz, List.nil_append, hct, S_bt0, if_pos (by rw [S_size, List.length_cons]; omega), if_neg (by omega)]
      rfl
  have hl00 := back_l0 z x1 x2 J hJ (by omega) true J 0 (textR z) (by omega) (by omega) hl0
  have hj0 : Ev (fun r => mezzotintlaw02_DecBack.j0 r z x1 x2 (S (textR z)) false) true :=
    Ev.step (fun r => by rw [mezzotintlaw02_DecBack.j0, if_neg (by decide)]; rfl) hl00
  refine Ev.congr (fun k => ?_) hj0
  unfold mezzotintlaw02_DecBack.f
  rw [w64 z (by omega) (by omega), dec_Print_f, dec_PrintReal_f]
  simp only [Option.bind_some]
  rw [dec_Parse_f _ (by omega), dec_Parse_f _ (by omega), hPrint, hReal, answers_f]
  unfold dec_Token.f
  simp only [Option.bind_some, S_data, hTok, if_true]
  rw [show decide (((S (textR z)).size : Int) > 30) = false from decide_eq_false (by rw [S_size]; omega)]

end Go.Proofs.YtiocgpfnbmlfaaaDoor.Pure
