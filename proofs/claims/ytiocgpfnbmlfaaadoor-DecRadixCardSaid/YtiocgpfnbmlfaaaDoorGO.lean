/- dec.Token in plain words, in the printed form. -/
import Derived.Test.YtiocgpfnbmlfaaaDoorGN
namespace Go.Proofs.YtiocgpfnbmlfaaaDoor.QD
open Go Go.RowKit Go.Proofs.YtiocgpfnbmlfaaaDoor Go.Proofs.YtiocgpfnbmlfaaaDoorW.PrintWords

/-- ahead of an e, what it raises by, is that well formed -/
def expL (r : List UInt8) : List UInt8 × Int × Bool :=
  if Lib.indexAny r [101, 69] < 0 then (r, 0, true)
  else (r.take (Lib.indexAny r [101, 69]).toNat, (powL (r.drop ((Lib.indexAny r [101, 69]).toNat + 1))).1, (powL (r.drop ((Lib.indexAny r [101, 69]).toNat + 1))).2)
/-- the mantissa's answer -/
def realL (m : Bool) (r : List UInt8) (k : Int) : Int × Int × Bool × Int :=
  if (mantL r).2.2.2 = true then
    (if (valueL m (shiftL (mantL r).1 (mantL r).2.1 k).1 (shiftL (mantL r).1 (mantL r).2.1 k).2).2 = true then (2, (valueL m (shiftL (mantL r).1 (mantL r).2.1 k).1 (shiftL (mantL r).1 (mantL r).2.1 k).2).1, true, 0) else (0, 0, true, 9))
  else (0, 0, false, 0)
/-- kind, number, is it one, error -/
def tokL (l : List UInt8) : Int × Int × Bool × Int :=
  if 64 < l.length then (0, 0, false, 0)
  else if (radixL l).2.2.1 = true then ((radixL l).1, (radixL l).2.1, true, (radixL l).2.2.2)
  else if (wholeL l).2 = true then (1, (wholeL l).1, true, 0)
  else if (expL (sgnL l).2).2.2 = true then realL (sgnL l).1 (expL (sgnL l).2).1 (expL (sgnL l).2).2.1
  else (0, 0, false, 0)

theorem indexAny_lt (chars : List UInt8) : ∀ l : List UInt8, Lib.indexAny l chars < l.length
  | [] => by show (-1 : Int) < 0; omega
  | b :: l => by
    have ih := indexAny_lt chars l
    have hg := Lib.indexAny_ge chars l
    simp only [List.length_cons]
    unfold Lib.indexAny
    split
    · omega
    · split
      · omega
      · omega

theorem powL_bound (l : List UInt8) : -1000 < (powL l).1 ∧ (powL l).1 < 1000 := by
  unfold powL
  split
  · simp
  · rename_i h
    have h3 : (sgnL l).2.length ≤ 3 := by
      rcases Nat.lt_or_ge 3 (sgnL l).2.length with hh | hh
      · exact absurd (by simp [hh]) h
      · exact hh
    have hd : (sgnL l).2.all isDig = true := by
      cases hh : (sgnL l).2.all isDig with
      | true => rfl
      | false => exact absurd (by simp [hh]) h
    have hv := valD_lt10 _ hd
    have hp : 10 ^ (sgnL l).2.length ≤ 10 ^ 3 := Nat.pow_le_pow_right (by omega) h3
    simp only
    split <;> omega

theorem mant_all (l : List UInt8) (h : (mantL l).2.2.2 = true) : (mantL l).1.all isDig = true ∧ (mantL l).2.1.all isDig = true := by
  unfold mantL at *
  simp only [Bool.and_eq_true] at h
  exact h.1
theorem mant_len (l : List UInt8) : (mantL l).1.length ≤ l.length ∧ (mantL l).2.1.length ≤ l.length := cut1_len 46 l

theorem mantR_f (l : List UInt8) (hs : l.length ≤ 1000000) : PR.dec_mantissa.f (S l) = some (S (mantL l).1, S (mantL l).2.1, (mantL l).2.2.1, (mantL l).2.2.2) := by
  have hc := cut1_len 46 l
  have h0 : strings_Cut.f (S l) ⟨#[46]⟩ = some (S (cut1 46 l).1, S (cut1 46 l).2.1, (cut1 46 l).2.2) := by
    unfold strings_Cut.f
    rw [if_pos ⟨by decide, by rw [S_size]; omega⟩, S_data]
    rfl
  unfold PR.dec_mantissa.f mantL
  rw [h0]
  simp only [Option.bind_some]
  rw [plain_f _ (by rw [S_size]; omega), plain_f _ (by rw [S_size]; omega)]
  simp only [Option.bind_some, S_data, S_size]
  rw [show wrap64 (((cut1 46 l).1.length : Int) + ((cut1 46 l).2.1.length : Int)) = ((cut1 46 l).1.length : Int) + ((cut1 46 l).2.1.length : Int) from w64 _ (by omega) (by omega)]
  cases (cut1 46 l).1.all isDig <;> cases (cut1 46 l).2.1.all isDig <;> simp
  omega

theorem shift_len (a b : List UInt8) (k : Int) : (shiftL a b k).2.length ≤ k.natAbs + a.length + b.length := by
  unfold shiftL
  have := bOf_len (a ++ b) ((a.length : Int) + k)
  rw [List.length_append] at this
  simp only
  omega

theorem tok_any (l : List UInt8) (w : World) : Calls Tryd.prog 17 #[.string (S l)] w (RQ (tokL l).1 (tokL l).2.1 (tokL l).2.2.1 (tokL l).2.2.2 w) := by
  by_cases hlong : 64 < l.length
  · rw [show tokL l = (0, 0, false, 0) from by unfold tokL; rw [if_pos hlong]]
    exact tok_long (S l) w (by rw [S_size]; exact hlong)
  have hs : (S l).size ≤ 64 := by rw [S_size]; omega
  have hR : ∀ w, Calls Tryd.prog 38 #[.string (S l)] w (RQ (radixL l).1 (radixL l).2.1 (radixL l).2.2.1 (radixL l).2.2.2 w) := fun w => radix_any (S l) w (by omega) _ _ _ _ (by rw [S_data])
  have hW : ∀ w, Calls Tryd.prog 39 #[.string (S l)] w fun e w' => e = .returned (.tuple #[.int .i64 (wholeL l).1, .bool (wholeL l).2]) ∧ Below w.heap.size w w' := fun w =>
    dec_whole.calls (S l) _ _ w (by unfold dec_whole.f; rw [if_pos (by omega), S_data])
  have hS : ∀ w, Calls Tryd.prog 32 #[.string (S l)] w fun e w' => e = .returned (.tuple #[.bool (sgnL l).1, .string (S (sgnL l).2)]) ∧ Below w.heap.size w w' := fun w => by
    have := signed_any (S l) w
    rw [S_data] at this
    exact this
  have hrl := sgnL_len l
  have htok : tokL l = if (radixL l).2.2.1 = true then ((radixL l).1, (radixL l).2.1, true, (radixL l).2.2.2)
      else if (wholeL l).2 = true then (1, (wholeL l).1, true, 0)
      else if (expL (sgnL l).2).2.2 = true then realL (sgnL l).1 (expL (sgnL l).2).1 (expL (sgnL l).2).2.1 else (0, 0, false, 0) := by
    unfold tokL; rw [if_neg hlong]
  rw [htok]
  generalize (radixL l).1 = kr at *
  generalize (radixL l).2.1 = nr at *
  generalize (radixL l).2.2.2 = er at *
  cases hokr : (radixL l).2.2.1 with
  | true =>
    rw [hokr] at hR
    exact tok_radix (S l) w hs kr nr er true hR rfl
  | false =>
  rw [hokr] at hR
  rw [if_neg Bool.false_ne_true]
  generalize (wholeL l).1 = nw at *
  cases hokw : (wholeL l).2 with
  | true =>
    rw [hokw] at hW
    exact tok_whole (S l) w hs kr nr er false nw true hR hW rfl rfl
  | false =>
  rw [hokw] at hW
  rw [if_neg Bool.false_ne_true]
  generalize (sgnL l).1 = m at *
  generalize (sgnL l).2 = r at *
  have hI : ∀ w, Calls Tryd.prog 40 #[.string (S r), .string ⟨#[101, 69]⟩] w fun e w' => e = .returned (.int .i64 (Lib.indexAny r [101, 69])) ∧ Below w.heap.size w w' := fun w =>
    strings_IndexAny.calls (S r) _ _ w (by unfold strings_IndexAny.f; rw [if_pos ⟨rfl, by rw [S_size]; omega⟩, S_data])
  have hilt := indexAny_lt [101, 69] r
  have hige := Lib.indexAny_ge [101, 69] r
  have hM : ∀ (r2 : List UInt8), r2.length ≤ 64 → ∀ w, Calls Tryd.prog 33 #[.string (S r2)] w fun e w' => e = .returned (.tuple #[.string (S (mantL r2).1), .string (S (mantL r2).2.1), .bool (mantL r2).2.2.1, .bool (mantL r2).2.2.2]) ∧ Below w.heap.size w w' := fun r2 h2 w =>
    PR.dec_mantissa.calls (S r2) _ _ _ _ w (mantR_f r2 (by omega))
  have hV : ∀ (r2 : List UInt8) (k : Int), r2.length ≤ 64 → -1000 < k → k < 1000 → (mantL r2).2.2.2 = true → ∀ w, Calls Tryd.prog 34 #[.bool m, .string (S (shiftL (mantL r2).1 (mantL r2).2.1 k).1), .string (S (shiftL (mantL r2).1 (mantL r2).2.1 k).2)] w fun e w' =>
      e = .returned (.tuple #[.int .i64 (valueL m (shiftL (mantL r2).1 (mantL r2).2.1 k).1 (shiftL (mantL r2).1 (mantL r2).2.1 k).2).1, .bool (valueL m (shiftL (mantL r2).1 (mantL r2).2.1 k).1 (shiftL (mantL r2).1 (mantL r2).2.1 k).2).2]) ∧ Below w.heap.size w w' := fun r2 k h2 hk1 hk2 hok w => by
    obtain ⟨h3, h4⟩ := mant_all r2 hok
    obtain ⟨h5, h6⟩ := mant_len r2
    have h7 := shift_len (mantL r2).1 (mantL r2).2.1 k
    have hD : ((mantL r2).1 ++ (mantL r2).2.1).all isDig = true := by rw [List.all_append, h3, h4]; rfl
    refine dec_value.calls m _ _ _ _ w ?_
    unfold dec_value.f
    rw [S_data, S_data, if_pos ⟨aOf_all _ _ hD, bOf_all _ _ hD, by rw [S_size]; omega⟩]
  have hH : ∀ (r2 : List UInt8) (k : Int), r2.length ≤ 64 → -1000 < k → k < 1000 → ∀ w, Calls Tryd.prog 42 #[.string (S (mantL r2).1), .string (S (mantL r2).2.1), .int .i64 k] w (ShQ (S (shiftL (mantL r2).1 (mantL r2).2.1 k).1) (S (shiftL (mantL r2).1 (mantL r2).2.1 k).2) w) := fun r2 k h2 hk1 hk2 w => by
    obtain ⟨h5, h6⟩ := mant_len r2
    exact shift_any _ _ k w (by omega) (by omega) (by omega) (by omega)
  unfold expL
  generalize hix : Lib.indexAny r [101, 69] = ix at *
  by_cases hneg : ix < 0
  · rw [if_pos hneg, if_pos rfl]
    have hrr : r.length ≤ 64 := by omega
    have hMr := hM r hrr
    have hHr := hH r 0 hrr (by omega) (by omega)
    have hVr := hV r 0 hrr (by omega) (by omega)
    unfold realL
    cases hokm : (mantL r).2.2.2 with
    | false =>
      rw [hokm] at hMr
      exact tok_badmant (S l) w hs kr nr er false nw false m (S r) ix (S r) _ _ _ false hR hW hS hI hMr rfl rfl hneg rfl rfl
    | true =>
      rw [hokm] at hMr
      have hVr := hVr hokm
      rw [if_pos rfl]
      generalize valueL m (shiftL (mantL r).1 (mantL r).2.1 0).1 (shiftL (mantL r).1 (mantL r).2.1 0).2 = v at *
      obtain ⟨nv, okv⟩ := v
      cases okv with
      | false => exact tok_big (S l) w hs kr nr er false nw false m (S r) ix (S r) _ _ _ true _ _ nv false hR hW hS hI hMr hHr hVr rfl rfl hneg rfl rfl rfl
      | true => exact tok_real (S l) w hs kr nr er false nw false m (S r) ix (S r) _ _ _ true _ _ nv true hR hW hS hI hMr hHr hVr rfl rfl hneg rfl rfl rfl
  · rw [if_neg hneg]
    obtain ⟨i, hi⟩ : ∃ i : Nat, ix = (i : Int) := ⟨ix.toNat, by omega⟩
    have hi' : ix.toNat = i := by omega
    rw [hi']
    have hq : (S r).extract (i + 1) (S r).size = S (r.drop (i + 1)) := S_from r (i + 1)
    have hr2 : (S r).extract 0 i = S (r.take i) := S_to r i
    have hil : i < (S r).size := by rw [S_size]; omega
    have hrs : (S r).size ≤ 64 := by rw [S_size]; omega
    have hP : ∀ w, Calls Tryd.prog 41 #[.string (S (r.drop (i + 1)))] w fun e w' => e = .returned (.tuple #[.int .i64 (powL (r.drop (i + 1))).1, .bool (powL (r.drop (i + 1))).2]) ∧ Below w.heap.size w w' := fun w =>
      dec_power.calls (S (r.drop (i + 1))) _ _ w (by unfold dec_power.f; rw [if_pos (by rw [S_size, List.length_drop]; omega), S_data])
    obtain ⟨hk1, hk2⟩ := powL_bound (r.drop (i + 1))
    have hrr : (r.take i).length ≤ 64 := by rw [List.length_take]; omega
    have hMr := hM (r.take i) hrr
    generalize (powL (r.drop (i + 1))).1 = np at *
    have hHr := hH (r.take i) np hrr hk1 hk2
    have hVr := hV (r.take i) np hrr hk1 hk2
    cases hokp : (powL (r.drop (i + 1))).2 with
    | false =>
      rw [hokp] at hP
      exact tok_badexp (S l) w hs kr nr er false nw false m (S r) ix (S (r.drop (i + 1))) np false hR hW hS hI hP rfl rfl i hi hil hrs hq rfl
    | true =>
      rw [hokp] at hP
      rw [if_pos rfl]
      unfold realL
      cases hokm : (mantL (r.take i)).2.2.2 with
      | false =>
        rw [hokm] at hMr
        exact tok_badmant_e (S l) w hs kr nr er false nw false m (S r) ix (S (r.drop (i + 1))) np true (S (r.take i)) _ _ _ false hR hW hS hI hP hMr rfl rfl i hi hil hrs hq rfl hr2 rfl
      | true =>
        rw [hokm] at hMr
        have hVr := hVr hokm
        rw [if_pos rfl]
        generalize valueL m (shiftL (mantL (r.take i)).1 (mantL (r.take i)).2.1 np).1 (shiftL (mantL (r.take i)).1 (mantL (r.take i)).2.1 np).2 = v at *
        obtain ⟨nv, okv⟩ := v
        cases okv with
        | false => exact tok_big_e (S l) w hs kr nr er false nw false m (S r) ix (S (r.drop (i + 1))) np true (S (r.take i)) _ _ _ true _ _ nv false hR hW hS hI hP hMr hHr hVr rfl rfl i hi hil hrs hq rfl hr2 rfl rfl
        | true => exact tok_real_e (S l) w hs kr nr er false nw false m (S r) ix (S (r.drop (i + 1))) np true (S (r.take i)) _ _ _ true _ _ nv true hR hW hS hI hP hMr hHr hVr rfl rfl i hi hil hrs hq rfl hr2 rfl rfl

end Go.Proofs.YtiocgpfnbmlfaaaDoor.QD
namespace Go.Proofs.YtiocgpfnbmlfaaaDoor
open Go Go.RowKit Go.Proofs.YtiocgpfnbmlfaaaDoorW.PrintWords

def dec_Token.f (a0 : ByteArray) : Option (Int × Int × ByteArray × Bool × Int) :=
  some ((QD.tokL a0.data.toList).1, (QD.tokL a0.data.toList).2.1, ⟨#[]⟩, (QD.tokL a0.data.toList).2.2.1, (QD.tokL a0.data.toList).2.2.2)
theorem dec_Token.calls (a0 : ByteArray) (r1 r2 : Int) (r3 : ByteArray) (r4 : Bool) (r5 : Int) (w : World) (h : dec_Token.f a0 = some (r1, r2, r3, r4, r5)) :
    Calls Tryd.prog 17 #[.string a0] w fun e w' => e = .returned (.tuple #[.agg #[.int .i64 r1, .int .i64 r2, .string r3], .bool r4, .int .i64 r5]) ∧ Below w.heap.size w w' := by
  unfold dec_Token.f at h
  simp only [Option.some.injEq, Prod.mk.injEq] at h
  obtain ⟨rfl, rfl, rfl, rfl, rfl⟩ := h
  have := QD.tok_any a0.data.toList w
  rw [← QD.S_of] at this
  exact this

end Go.Proofs.YtiocgpfnbmlfaaaDoor
