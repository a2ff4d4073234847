/- dec.Token in plain words, in the printed form. conv: a string that holds a number's text is that number. conv: cvi and cvr of a string; the text of a number. conv.Do: cvi, cvr, cvs. conv.Do: cvs. The law ConvBack: its walk, over what the number's text and its token are. The value of decimal digits, exactly: what doubling them 17 times counts. The law ConvBack: an integer's text, its token; what answers says. Made by a program of this session (wip/given.py) out of the translation: Lean functions for the Go functions, with the walks that show it; of a law: its row, at every input, no condition of its own. Made by a program of this session (wip/given.py) out of the translation: Lean functions for the Go functions, with the walks that show it; of a law: its row, at every input, no condition of its own. The law ConvBack: a real number's text, its token. -/
import Derived.Test.YtlbedeiehhgphaaGreatDoorBCb2
import Derived.Lib.LaidTab
import Derived.Lib.AppendIntMem
import Derived.Test.YtlbedeiehhgphaaGreatDoorProg
import Derived.Below
import Derived.Deep.Draws
import Derived.Deep.AppendLies
import Derived.Maps.AppendAt
import Derived.OwnWalk
import Derived.Laws.BytesArg
import Derived.Laws.MakeOwn
import Derived.Laws.OwnMore
import Derived.Deep.OwnRows
import Derived.Tactics
import Derived.Lib.ConvBytes
import Derived.Laws.Slices
import Derived.WalkKit
import Derived.KernelRfl
import Derived.RowKit3
import Derived.Deep.LoopGhost
import Derived.Deep.QuietTactic
import Derived.BigQuiet
import Derived.WideLaws
import Derived.Deep.DeepCutAuto
import Derived.Deep.CutBlock
import Derived.Deep.RegionHeld3
import Derived.Laws.Rows
import Derived.Lib.AppendStr
import Derived.ArgAppend
import Derived.Laws.IdiomCopy
import Derived.OrdersHeld
import Derived.Laws.BitsLemmas
import Derived.RowKit
import Derived.Test.YtlbedeiehhgphaaGreatDoorBCb1
import Derived.Test.YtlbedeiehhgphaaGreatDoorWWords
import Derived.Test.YtlbedeiehhgphaaGreatDoorWLast
import Derived.Test.YtlbedeiehhgphaaGreatDoorWTab
import Derived.Test.YtlbedeiehhgphaaGreatDoorWFour
import Derived.Test.YtlbedeiehhgphaaGreatDoorWQPut
import Derived.Test.YtlbedeiehhgphaaGreatDoorWApart
import Derived.Test.YtlbedeiehhgphaaGreatDoorWArr
import Derived.Test.YtlbedeiehhgphaaGreatDoorWZeros
import Derived.Test.YtlbedeiehhgphaaGreatDoorWFoot
import Derived.Test.YtlbedeiehhgphaaGreatDoorWKept
import Derived.Test.YtlbedeiehhgphaaGreatDoorWShare
import Derived.Test.YtlbedeiehhgphaaGreatDoorWN
import Derived.Test.YtlbedeiehhgphaaGreatDoorWFootNe
import Derived.Test.YtlbedeiehhgphaaGreatDoorWAt
import Derived.Test.YtlbedeiehhgphaaGreatDoorWEqStruct
import Derived.Test.YtlbedeiehhgphaaGreatDoorWRepsOne
import Derived.Test.YtlbedeiehhgphaaGreatDoorWInv
import Derived.Test.YtlbedeiehhgphaaGreatDoorWInvWords
import Derived.Test.YtlbedeiehhgphaaGreatDoorWGuard
import Derived.Test.YtlbedeiehhgphaaGreatDoorWNEv
import Derived.Test.YtlbedeiehhgphaaGreatDoorWMore

/-! ## GO -/
namespace Go.Proofs.YtlbedeiehhgphaaGreatDoor.QD
open Go Go.RowKit Go.Proofs.YtlbedeiehhgphaaGreatDoor Go.Proofs.YtlbedeiehhgphaaGreatDoorW.PrintWords

/-- ahead of an e, what it raises by, is that well formed -/
def expL (r : List UInt8) : List UInt8 × Int × Bool :=
  if Lib.indexAny r [101, 69] < 0 then (r, 0, true)
  else (r.take (Lib.indexAny r [101, 69]).toNat, (powL (r.drop ((Lib.indexAny r [101, 69]).toNat + 1))).1, (powL (r.drop ((Lib.indexAny r [101, 69]).toNat + 1))).2)
/-- the mantissa's answer -/
def realL (m : Bool) (r : List UInt8) (k : Int) : Int × Int × Bool × Int :=
  if (mantL r).2.2.2 = true then
    (if (valueL m (shiftL (mantL r).1 (mantL r).2.1 k).1 (shiftL (mantL r).1 (mantL r).2.1 k).2).2 = true then (2, (valueL m (shiftL (mantL r).1 (mantL r).2.1 k).1 (shiftL (mantL r).1 (mantL r).2.1 k).2).1, true, 0) else (0, 0, true, 9))
  else (0, 0, false, 0)
/-- kind, number, is it one, error -/
def tokL (l : List UInt8) : Int × Int × Bool × Int :=
  if 64 < l.length then (0, 0, false, 0)
  else if (radixL l).2.2.1 = true then ((radixL l).1, (radixL l).2.1, true, (radixL l).2.2.2)
  else if (wholeL l).2 = true then (1, (wholeL l).1, true, 0)
  else if (expL (sgnL l).2).2.2 = true then realL (sgnL l).1 (expL (sgnL l).2).1 (expL (sgnL l).2).2.1
  else (0, 0, false, 0)

theorem indexAny_lt (chars : List UInt8) : ∀ l : List UInt8, Lib.indexAny l chars < l.length
  | [] => by show (-1 : Int) < 0; omega
  | b :: l => by
    have ih := indexAny_lt chars l
    have hg := Lib.indexAny_ge chars l
    simp only [List.length_cons]
    unfold Lib.indexAny
    split
    · omega
    · split
      · omega
      · omega

theorem powL_bound (l : List UInt8) : -1000 < (powL l).1 ∧ (powL l).1 < 1000 := by
  unfold powL
  split
  · simp
  · rename_i h
    have h3 : (sgnL l).2.length ≤ 3 := by
      rcases Nat.lt_or_ge 3 (sgnL l).2.length with hh | hh
      · exact absurd (by simp [hh]) h
      · exact hh
    have hd : (sgnL l).2.all isDig = true := by
      cases hh : (sgnL l).2.all isDig with
      | true => rfl
      | false => exact absurd (by simp [hh]) h
    have hv := valD_lt10 _ hd
    have hp : 10 ^ (sgnL l).2.length ≤ 10 ^ 3 := Nat.pow_le_pow_right (by omega) h3
    simp only
    split <;> omega

theorem mant_all (l : List UInt8) (h : (mantL l).2.2.2 = true) : (mantL l).1.all isDig = true ∧ (mantL l).2.1.all isDig = true := by
  unfold mantL at *
  simp only [Bool.and_eq_true] at h
  exact h.1
theorem mant_len (l : List UInt8) : (mantL l).1.length ≤ l.length ∧ (mantL l).2.1.length ≤ l.length := cut1_len 46 l

theorem mantR_f (l : List UInt8) (hs : l.length ≤ 1000000) : PR.dec_mantissa.f (S l) = some (S (mantL l).1, S (mantL l).2.1, (mantL l).2.2.1, (mantL l).2.2.2) := by
  have hc := cut1_len 46 l
  have h0 : strings_Cut.f (S l) ⟨#[46]⟩ = some (S (cut1 46 l).1, S (cut1 46 l).2.1, (cut1 46 l).2.2) := by
    unfold strings_Cut.f
    rw [if_pos ⟨by decide, by rw [S_size]; omega⟩, S_data]
    rfl
  unfold PR.dec_mantissa.f mantL
  rw [h0]
  simp only [Option.bind_some]
  rw [plain_f _ (by rw [S_size]; omega), plain_f _ (by rw [S_size]; omega)]
  simp only [Option.bind_some, S_data, S_size]
  rw [show wrap64 (((cut1 46 l).1.length : Int) + ((cut1 46 l).2.1.length : Int)) = ((cut1 46 l).1.length : Int) + ((cut1 46 l).2.1.length : Int) from w64 _ (by omega) (by omega)]
  cases (cut1 46 l).1.all isDig <;> cases (cut1 46 l).2.1.all isDig <;> simp
  omega

theorem shift_len (a b : List UInt8) (k : Int) : (shiftL a b k).2.length ≤ k.natAbs + a.length + b.length := by
  unfold shiftL
  have := bOf_len (a ++ b) ((a.length : Int) + k)
  rw [List.length_append] at this
  simp only
  omega

theorem tok_any (l : List UInt8) (w : World) : Calls Tryz.prog 72 #[.string (S l)] w (RQ (tokL l).1 (tokL l).2.1 (tokL l).2.2.1 (tokL l).2.2.2 w) := by
  by_cases hlong : 64 < l.length
  · rw [show tokL l = (0, 0, false, 0) from by unfold tokL; rw [if_pos hlong]]
    exact tok_long (S l) w (by rw [S_size]; exact hlong)
  have hs : (S l).size ≤ 64 := by rw [S_size]; omega
  have hR : ∀ w, Calls Tryz.prog 87 #[.string (S l)] w (RQ (radixL l).1 (radixL l).2.1 (radixL l).2.2.1 (radixL l).2.2.2 w) := fun w => radix_any (S l) w (by omega) _ _ _ _ (by rw [S_data])
  have hW : ∀ w, Calls Tryz.prog 88 #[.string (S l)] w fun e w' => e = .returned (.tuple #[.int .i64 (wholeL l).1, .bool (wholeL l).2]) ∧ Below w.heap.size w w' := fun w =>
    dec_whole.calls (S l) _ _ w (by unfold dec_whole.f; rw [if_pos (by omega), S_data])
  have hS : ∀ w, Calls Tryz.prog 89 #[.string (S l)] w fun e w' => e = .returned (.tuple #[.bool (sgnL l).1, .string (S (sgnL l).2)]) ∧ Below w.heap.size w w' := fun w => by
    have := signed_any (S l) w
    rw [S_data] at this
    exact this
  have hrl := sgnL_len l
  have htok : tokL l = if (radixL l).2.2.1 = true then ((radixL l).1, (radixL l).2.1, true, (radixL l).2.2.2)
      else if (wholeL l).2 = true then (1, (wholeL l).1, true, 0)
      else if (expL (sgnL l).2).2.2 = true then realL (sgnL l).1 (expL (sgnL l).2).1 (expL (sgnL l).2).2.1 else (0, 0, false, 0) := by
    unfold tokL; rw [if_neg hlong]
  rw [htok]
  generalize (radixL l).1 = kr at *
  generalize (radixL l).2.1 = nr at *
  generalize (radixL l).2.2.2 = er at *
  cases hokr : (radixL l).2.2.1 with
  | true =>
    rw [hokr] at hR
    exact tok_radix (S l) w hs kr nr er true hR rfl
  | false =>
  rw [hokr] at hR
  rw [if_neg Bool.false_ne_true]
  generalize (wholeL l).1 = nw at *
  cases hokw : (wholeL l).2 with
  | true =>
    rw [hokw] at hW
    exact tok_whole (S l) w hs kr nr er false nw true hR hW rfl rfl
  | false =>
  rw [hokw] at hW
  rw [if_neg Bool.false_ne_true]
  generalize (sgnL l).1 = m at *
  generalize (sgnL l).2 = r at *
  have hI : ∀ w, Calls Tryz.prog 90 #[.string (S r), .string ⟨#[101, 69]⟩] w fun e w' => e = .returned (.int .i64 (Lib.indexAny r [101, 69])) ∧ Below w.heap.size w w' := fun w =>
    strings_IndexAny.calls (S r) _ _ w (by unfold strings_IndexAny.f; rw [if_pos ⟨rfl, by rw [S_size]; omega⟩, S_data])
  have hilt := indexAny_lt [101, 69] r
  have hige := Lib.indexAny_ge [101, 69] r
  have hM : ∀ (r2 : List UInt8), r2.length ≤ 64 → ∀ w, Calls Tryz.prog 92 #[.string (S r2)] w fun e w' => e = .returned (.tuple #[.string (S (mantL r2).1), .string (S (mantL r2).2.1), .bool (mantL r2).2.2.1, .bool (mantL r2).2.2.2]) ∧ Below w.heap.size w w' := fun r2 h2 w =>
    PR.dec_mantissa.calls (S r2) _ _ _ _ w (mantR_f r2 (by omega))
  have hV : ∀ (r2 : List UInt8) (k : Int), r2.length ≤ 64 → -1000 < k → k < 1000 → (mantL r2).2.2.2 = true → ∀ w, Calls Tryz.prog 94 #[.bool m, .string (S (shiftL (mantL r2).1 (mantL r2).2.1 k).1), .string (S (shiftL (mantL r2).1 (mantL r2).2.1 k).2)] w fun e w' =>
      e = .returned (.tuple #[.int .i64 (valueL m (shiftL (mantL r2).1 (mantL r2).2.1 k).1 (shiftL (mantL r2).1 (mantL r2).2.1 k).2).1, .bool (valueL m (shiftL (mantL r2).1 (mantL r2).2.1 k).1 (shiftL (mantL r2).1 (mantL r2).2.1 k).2).2]) ∧ Below w.heap.size w w' := fun r2 k h2 hk1 hk2 hok w => by
    obtain ⟨h3, h4⟩ := mant_all r2 hok
    obtain ⟨h5, h6⟩ := mant_len r2
    have h7 := shift_len (mantL r2).1 (mantL r2).2.1 k
    have hD : ((mantL r2).1 ++ (mantL r2).2.1).all isDig = true := by rw [List.all_append, h3, h4]; rfl
    refine dec_value.calls m _ _ _ _ w ?_
    unfold dec_value.f
    rw [S_data, S_data, if_pos ⟨aOf_all _ _ hD, bOf_all _ _ hD, by rw [S_size]; omega⟩]
  have hH : ∀ (r2 : List UInt8) (k : Int), r2.length ≤ 64 → -1000 < k → k < 1000 → ∀ w, Calls Tryz.prog 93 #[.string (S (mantL r2).1), .string (S (mantL r2).2.1), .int .i64 k] w (ShQ (S (shiftL (mantL r2).1 (mantL r2).2.1 k).1) (S (shiftL (mantL r2).1 (mantL r2).2.1 k).2) w) := fun r2 k h2 hk1 hk2 w => by
    obtain ⟨h5, h6⟩ := mant_len r2
    exact shift_any _ _ k w (by omega) (by omega) (by omega) (by omega)
  unfold expL
  generalize hix : Lib.indexAny r [101, 69] = ix at *
  by_cases hneg : ix < 0
  · rw [if_pos hneg, if_pos rfl]
    have hrr : r.length ≤ 64 := by omega
    have hMr := hM r hrr
    have hHr := hH r 0 hrr (by omega) (by omega)
    have hVr := hV r 0 hrr (by omega) (by omega)
    unfold realL
    cases hokm : (mantL r).2.2.2 with
    | false =>
      rw [hokm] at hMr
      exact tok_badmant (S l) w hs kr nr er false nw false m (S r) ix (S r) _ _ _ false hR hW hS hI hMr rfl rfl hneg rfl rfl
    | true =>
      rw [hokm] at hMr
      have hVr := hVr hokm
      rw [if_pos rfl]
      generalize valueL m (shiftL (mantL r).1 (mantL r).2.1 0).1 (shiftL (mantL r).1 (mantL r).2.1 0).2 = v at *
      obtain ⟨nv, okv⟩ := v
      cases okv with
      | false => exact tok_big (S l) w hs kr nr er false nw false m (S r) ix (S r) _ _ _ true _ _ nv false hR hW hS hI hMr hHr hVr rfl rfl hneg rfl rfl rfl
      | true => exact tok_real (S l) w hs kr nr er false nw false m (S r) ix (S r) _ _ _ true _ _ nv true hR hW hS hI hMr hHr hVr rfl rfl hneg rfl rfl rfl
  · rw [if_neg hneg]
    obtain ⟨i, hi⟩ : ∃ i : Nat, ix = (i : Int) := ⟨ix.toNat, by omega⟩
    have hi' : ix.toNat = i := by omega
    rw [hi']
    have hq : (S r).extract (i + 1) (S r).size = S (r.drop (i + 1)) := S_from r (i + 1)
    have hr2 : (S r).extract 0 i = S (r.take i) := S_to r i
    have hil : i < (S r).size := by rw [S_size]; omega
    have hrs : (S r).size ≤ 64 := by rw [S_size]; omega
    have hP : ∀ w, Calls Tryz.prog 91 #[.string (S (r.drop (i + 1)))] w fun e w' => e = .returned (.tuple #[.int .i64 (powL (r.drop (i + 1))).1, .bool (powL (r.drop (i + 1))).2]) ∧ Below w.heap.size w w' := fun w =>
      dec_power.calls (S (r.drop (i + 1))) _ _ w (by unfold dec_power.f; rw [if_pos (by rw [S_size, List.length_drop]; omega), S_data])
    obtain ⟨hk1, hk2⟩ := powL_bound (r.drop (i + 1))
    have hrr : (r.take i).length ≤ 64 := by rw [List.length_take]; omega
    have hMr := hM (r.take i) hrr
    generalize (powL (r.drop (i + 1))).1 = np at *
    have hHr := hH (r.take i) np hrr hk1 hk2
    have hVr := hV (r.take i) np hrr hk1 hk2
    cases hokp : (powL (r.drop (i + 1))).2 with
    | false =>
      rw [hokp] at hP
      exact tok_badexp (S l) w hs kr nr er false nw false m (S r) ix (S (r.drop (i + 1))) np false hR hW hS hI hP rfl rfl i hi hil hrs hq rfl
    | true =>
      rw [hokp] at hP
      rw [if_pos rfl]
      unfold realL
      cases hokm : (mantL (r.take i)).2.2.2 with
      | false =>
        rw [hokm] at hMr
        exact tok_badmant_e (S l) w hs kr nr er false nw false m (S r) ix (S (r.drop (i + 1))) np true (S (r.take i)) _ _ _ false hR hW hS hI hP hMr rfl rfl i hi hil hrs hq rfl hr2 rfl
      | true =>
        rw [hokm] at hMr
        have hVr := hVr hokm
        rw [if_pos rfl]
        generalize valueL m (shiftL (mantL (r.take i)).1 (mantL (r.take i)).2.1 np).1 (shiftL (mantL (r.take i)).1 (mantL (r.take i)).2.1 np).2 = v at *
        obtain ⟨nv, okv⟩ := v
        cases okv with
        | false => exact tok_big_e (S l) w hs kr nr er false nw false m (S r) ix (S (r.drop (i + 1))) np true (S (r.take i)) _ _ _ true _ _ nv false hR hW hS hI hP hMr hHr hVr rfl rfl i hi hil hrs hq rfl hr2 rfl rfl
        | true => exact tok_real_e (S l) w hs kr nr er false nw false m (S r) ix (S (r.drop (i + 1))) np true (S (r.take i)) _ _ _ true _ _ nv true hR hW hS hI hP hMr hHr hVr rfl rfl i hi hil hrs hq rfl hr2 rfl rfl

end Go.Proofs.YtlbedeiehhgphaaGreatDoor.QD
namespace Go.Proofs.YtlbedeiehhgphaaGreatDoor
open Go Go.RowKit Go.Proofs.YtlbedeiehhgphaaGreatDoorW.PrintWords

def dec_Token.f (a0 : ByteArray) : Option (Int × Int × ByteArray × Bool × Int) :=
  some ((QD.tokL a0.data.toList).1, (QD.tokL a0.data.toList).2.1, ⟨#[]⟩, (QD.tokL a0.data.toList).2.2.1, (QD.tokL a0.data.toList).2.2.2)
theorem dec_Token.calls (a0 : ByteArray) (r1 r2 : Int) (r3 : ByteArray) (r4 : Bool) (r5 : Int) (w : World) (h : dec_Token.f a0 = some (r1, r2, r3, r4, r5)) :
    Calls Tryz.prog 72 #[.string a0] w fun e w' => e = .returned (.tuple #[.agg #[.int .i64 r1, .int .i64 r2, .string r3], .bool r4, .int .i64 r5]) ∧ Below w.heap.size w w' := by
  unfold dec_Token.f at h
  simp only [Option.some.injEq, Prod.mk.injEq] at h
  obtain ⟨rfl, rfl, rfl, rfl, rfl⟩ := h
  have := QD.tok_any a0.data.toList w
  rw [← QD.S_of] at this
  exact this

end Go.Proofs.YtlbedeiehhgphaaGreatDoor

/-! ## CH -/
namespace Go.Proofs.YtlbedeiehhgphaaGreatDoor.CV
open Go Go.RowKit Go.ChangeShapes Go.Proofs Go.Proofs.YtlbedeiehhgphaaGreatDoor Go.Proofs.YtlbedeiehhgphaaGreatDoor.QD Go.Proofs.YtlbedeiehhgphaaGreatDoorW.PrintWords Go.Proofs.YtlbedeiehhgphaaGreatDoorW.PrintLast

theorem two_boxes (w : World) (o p : Obj) : ((w.alloc o).alloc p).heap[w.heap.size]? = some o ∧ ((w.alloc o).alloc p).heap[w.heap.size + 1]? = some p ∧ Below w.heap.size w ((w.alloc o).alloc p) ∧ ((w.alloc o).alloc p).heap.size = w.heap.size + 1 + 1 := by
  have c1 := obj_box (w.alloc o) p
  exact ⟨(c1.block w.heap.size (by simp)).trans (heap_alloc_new w o), obj_second w o p, two_box w o p, by simp⟩
theorem bI_S (l : List UInt8) : strOfNums (bI l) = S l := by
  unfold strOfNums bI S
  congr 2
  rw [List.map_map]
  refine List.map_id'' ?_ l
  intro c
  apply UInt8.toNat_inj.1
  simp

set_option maxHeartbeats 4000000 in
set_option maxRecDepth 100000 in
theorem readable_str (sp : Nat) (r L : Int) (w : World) :
    Calls Tryz.prog 57 #[.agg #[.pointer (some ⟨sp, 0, none⟩)], .agg #[.int .i64 6, .bool false, .int .i64 0, .int .i64 0, .string ⟨#[]⟩, .int .i64 r, .int .i64 0, .int .i64 L]] w fun e w' => e = .returned (.bool true) ∧ Below w.heap.size w w' := by
  have HA := Lib.hid (fun w => access_str sp r L w)
  have HQ := Lib.hid (two_boxes w (.cells #[.pointer (some ⟨sp, 0, none⟩)] 72) (.cells #[.int .i64 6, .bool false, .int .i64 0, .int .i64 0, .string ⟨#[]⟩, .int .i64 r, .int .i64 0, .int .i64 L] 27))
  go_enter Tryz.func57, Tryz.ntmps57
  go_wp2_with fail
  refine (HA.out _).mono ?_
  rintro e w1 ⟨rfl, hb⟩
  obtain ⟨q0, q1, q2, q3⟩ := HQ.out
  have k0 := (hb.block w.heap.size (by omega)).trans q0
  have k1 := (hb.block (w.heap.size + 1) (by omega)).trans q1
  have HB1 := Lib.hid (q2.trans (hb.mono q2.size))
  have e0 : w1.cell? ⟨w.heap.size, 0, none⟩ = some (.pointer (some ⟨sp, 0, none⟩)) := Lib.cell_of_heap k0 0
  obtain ⟨⟨a0, a1, a2, a3, a4, a5, a6, a7⟩, -⟩ := obj_facts k1
  clear q0 q1 q2 q3 k0 k1 hb HQ
  go_wp2_with fail
  refine (HA.out _).mono ?_
  rintro e w2 ⟨rfl, hb⟩
  have HB2 := Lib.hid (HB1.out.trans (hb.mono HB1.out.size))
  clear hb e0 a0 a1 a2 a3 a4 a5 a6 a7
  go_wp2_with fail
  go_ret
  exact ⟨rfl, HB2.out⟩

set_option maxHeartbeats 4000000 in
set_option maxRecDepth 100000 in
theorem number_str (sp tb m cap bb n r L : Nat) (fr : Int) (xs : List UInt8) (k z : Int) (w : World) (hS : StB w sp fr tb m cap) (hT : w.cell? ⟨tb, r, none⟩ = some (.slice (some ⟨bb, 0, none⟩) n n)) (hr : r < m) (hL : L ≤ n) (hn : n ≤ 100000) (hx : xs.length = L) (hB : ∀ i, i < L → w.cell? ⟨bb, i, none⟩ = some (.int .u8 ((bI xs).getD i 0))) (hk : k = 1 ∨ k = 2) (htok : tokL xs = (k, z, true, 0)) :
    Calls Tryz.prog 54 #[.agg #[.pointer (some ⟨sp, 0, none⟩)], .agg #[.int .i64 6, .bool false, .int .i64 0, .int .i64 0, .string ⟨#[]⟩, .int .i64 (r : Int), .int .i64 0, .int .i64 (L : Int)]] w fun e w' => e = .returned (.tuple #[.agg #[.int .i64 k, .bool false, .int .i64 0, .int .i64 z, .string ⟨#[]⟩, .int .i64 0, .int .i64 0, .int .i64 0], .int .i64 0]) ∧ Below w.heap.size w w' := by
  have HQ := Lib.hid (three_boxes w (.cells #[.pointer (some ⟨sp, 0, none⟩)] 72) (.cells #[.int .i64 6, .bool false, .int .i64 0, .int .i64 0, .string ⟨#[]⟩, .int .i64 (r : Int), .int .i64 0, .int .i64 (L : Int)] 27) (.cells #[.int .i64 0, .bool false, .int .i64 0, .int .i64 0, .string ⟨#[]⟩, .int .i64 0, .int .i64 0, .int .i64 0] 27))
  have HS := Lib.hid hS
  have HT := Lib.hid hT
  have HX := Lib.hid hB
  have HL := Lib.hid (And.intro hr (And.intro hL (And.intro hn hx)))
  have HRd := Lib.hid (fun w => readable_str sp (r : Int) (L : Int) w)
  have HTk := Lib.hid (fun w => (show Calls Tryz.prog 72 #[.string (S xs)] w (RQ k z true 0 w) from by have := tok_any xs w; rw [htok] at this; exact this))
  clear hS hT hB hr hL hn hx htok
  go_enter Tryz.func54, Tryz.ntmps54
  go_wp2_with fail
  refine (HRd.out _).mono ?_
  rintro e w1 ⟨rfl, hb⟩
  obtain ⟨q0, q1, q2, q3, q4⟩ := HQ.out
  have k0 := (hb.block w.heap.size (by omega)).trans q0
  have k1 := (hb.block (w.heap.size + 1) (by omega)).trans q1
  have k2 := (hb.block (w.heap.size + 1 + 1) (by omega)).trans q2
  have k3 := q3.trans (hb.mono q3.size)
  have k4 : w.heap.size + 1 + 1 + 1 ≤ w1.heap.size := by have := hb.size; omega
  have e0 : w1.cell? ⟨w.heap.size, 0, none⟩ = some (.pointer (some ⟨sp, 0, none⟩)) := Lib.cell_of_heap k0 0
  obtain ⟨⟨a0, a1, a2, a3, a4, a5, a6, a7⟩, -⟩ := obj_facts k1
  have HBy := Lib.hid (bytes_is sp tb m cap bb n r L fr xs w1 (HS.out.below k3) (cell_below HT.out k3) HL.out.1 HL.out.2.1 HL.out.2.2.1 HL.out.2.2.2 (fun i hi => cell_below (HX.out i hi) k3))
  have HK := Lib.hid (And.intro k2 (And.intro k3 k4))
  clear q0 q1 q2 q3 q4 hb k0 k1 k2 k3 k4 HQ
  go_wp2_with fail
  refine HBy.out.mono ?_
  rintro e w2 ⟨A, c, rfl, hc, hC, hb⟩
  have hcv : (convert 35 9 (.slice A xs.length c)).run Tryz.prog w2 = .ok (.string (S xs)) w2 := by
    rw [← bI_S]
    exact Kd.C_string Tryz.underlying35 Tryz.underlying5 Tryz.underlying9 hC
  obtain ⟨k2, k3, k4⟩ := HK.out
  have m2 := (hb.block (w.heap.size + 1 + 1) (by omega)).trans k2
  have m3 := k3.trans (hb.mono k3.size)
  have m4 := hb.size
  have HM := Lib.hid (And.intro m2 (And.intro m3 (And.intro k4 m4)))
  clear hc hC hb k2 k3 k4 m2 m3 m4 e0 a0 a1 a2 a3 a4 a5 a6 a7 HBy HK
  go_wp2_with fail
  refine (HTk.out _).mono ?_
  rintro e w3 ⟨rfl, hb⟩
  obtain ⟨m2, m3, k4, m4⟩ := HM.out
  have hbt := hb.alloc hb.size (.cells #[.int .i64 k, .int .i64 z, .string ⟨#[]⟩] 134)
  have n2 := (hbt.block (w.heap.size + 1 + 1) (by omega)).trans m2
  have n3 := m3.trans (hbt.mono m3.size)
  have n5 := heap_alloc_new w3 (.cells #[.int .i64 k, .int .i64 z, .string ⟨#[]⟩] 134)
  clear hcv hb hbt m2 m3 k4 m4 HM HTk HRd
  go_upto_region 13 with fail
  generalize w3.alloc (.cells #[.int .i64 k, .int .i64 z, .string ⟨#[]⟩] 134) = W4 at *
  generalize w3.heap.size = g4 at *
  have t0 : W4.cell? ⟨g4, 0, none⟩ = some (.int .i64 k) := Lib.cell_of_heap n5 0
  have t1 : W4.cell? ⟨g4, 1, none⟩ = some (.int .i64 z) := Lib.cell_of_heap n5 1
  obtain ⟨⟨b0, b1, b2, b3, b4, b5, b6, b7⟩, p0, p1, p2, p3, p4, p5, p6, p7⟩ := obj_facts n2
  have hF := Lib.hid (obj_set8 n2 (.int .i64 k) (.bool false) (.int .i64 0) (.int .i64 z) (.string ⟨#[]⟩) (.int .i64 0) (.int .i64 0) (.int .i64 0))
  have hB8 := Lib.hid (set8_below n3 (g := w.heap.size + 1 + 1) (by omega) (.int .i64 k) (.bool false) (.int .i64 0) (.int .i64 z) (.string ⟨#[]⟩) (.int .i64 0) (.int .i64 0) (.int .i64 0))
  clear n2 n3 n5
  rcases hk with rfl | rfl

  · go_wp2_with fail
    generalize ((((((((W4.setCell ⟨w.heap.size + 1 + 1, 0, none⟩ (.int .i64 1)).setCell ⟨w.heap.size + 1 + 1, 1, none⟩ (.bool false)).setCell ⟨w.heap.size + 1 + 1, 2, none⟩ (.int .i64 0)).setCell ⟨w.heap.size + 1 + 1, 3, none⟩ (.int .i64 z)).setCell ⟨w.heap.size + 1 + 1, 4, none⟩ (.string ⟨#[]⟩)).setCell ⟨w.heap.size + 1 + 1, 5, none⟩ (.int .i64 0)).setCell ⟨w.heap.size + 1 + 1, 6, none⟩ (.int .i64 0)).setCell ⟨w.heap.size + 1 + 1, 7, none⟩ (.int .i64 0)) = W5 at *
    obtain ⟨⟨r0, r1, r2, r3, r4, r5, r6, r7⟩, -⟩ := obj_facts hF.out
    refine bodyPost_ret (v := .tuple #[.agg #[.int .i64 1, .bool false, .int .i64 0, .int .i64 z, .string ⟨#[]⟩, .int .i64 0, .int .i64 0, .int .i64 0], .int .i64 0]) (by simp [results, Tryz.results54, go_sem, r0, r1, r2, r3, r4, r5, r6, r7]) rfl ⟨rfl, hB8.out⟩

  · go_wp2_with fail
    generalize ((((((((W4.setCell ⟨w.heap.size + 1 + 1, 0, none⟩ (.int .i64 2)).setCell ⟨w.heap.size + 1 + 1, 1, none⟩ (.bool false)).setCell ⟨w.heap.size + 1 + 1, 2, none⟩ (.int .i64 0)).setCell ⟨w.heap.size + 1 + 1, 3, none⟩ (.int .i64 z)).setCell ⟨w.heap.size + 1 + 1, 4, none⟩ (.string ⟨#[]⟩)).setCell ⟨w.heap.size + 1 + 1, 5, none⟩ (.int .i64 0)).setCell ⟨w.heap.size + 1 + 1, 6, none⟩ (.int .i64 0)).setCell ⟨w.heap.size + 1 + 1, 7, none⟩ (.int .i64 0)) = W5 at *
    obtain ⟨⟨r0, r1, r2, r3, r4, r5, r6, r7⟩, -⟩ := obj_facts hF.out
    refine bodyPost_ret (v := .tuple #[.agg #[.int .i64 2, .bool false, .int .i64 0, .int .i64 z, .string ⟨#[]⟩, .int .i64 0, .int .i64 0, .int .i64 0], .int .i64 0]) (by simp [results, Tryz.results54, go_sem, r0, r1, r2, r3, r4, r5, r6, r7]) rfl ⟨rfl, hB8.out⟩

set_option maxHeartbeats 4000000 in
set_option maxRecDepth 100000 in
theorem whole_int (sp tb m cap bb n r L : Nat) (fr : Int) (xs : List UInt8) (z : Int) (w : World) (hS : StB w sp fr tb m cap) (hT : w.cell? ⟨tb, r, none⟩ = some (.slice (some ⟨bb, 0, none⟩) n n)) (hr : r < m) (hL : L ≤ n) (hn : n ≤ 100000) (hx : xs.length = L) (hB : ∀ i, i < L → w.cell? ⟨bb, i, none⟩ = some (.int .u8 ((bI xs).getD i 0))) (htok : tokL xs = (1, z, true, 0)) :
    Calls Tryz.prog 39 #[.agg #[.pointer (some ⟨sp, 0, none⟩)], .agg #[.int .i64 6, .bool false, .int .i64 0, .int .i64 0, .string ⟨#[]⟩, .int .i64 (r : Int), .int .i64 0, .int .i64 (L : Int)]] w fun e w' => e = .returned (.tuple #[.agg #[.int .i64 1, .bool false, .int .i64 0, .int .i64 z, .string ⟨#[]⟩, .int .i64 0, .int .i64 0, .int .i64 0], .int .i64 0]) ∧ Below w.heap.size w w' := by
  have hq := three_boxes w (.cells #[.pointer (some ⟨sp, 0, none⟩)] 72) (.cells #[.int .i64 6, .bool false, .int .i64 0, .int .i64 0, .string ⟨#[]⟩, .int .i64 (r : Int), .int .i64 0, .int .i64 (L : Int)] 27) (.cells #[.int .i64 0, .bool false, .int .i64 0, .int .i64 0, .string ⟨#[]⟩, .int .i64 0, .int .i64 0, .int .i64 0] 27)
  have HN := Lib.hid (number_str sp tb m cap bb n r L fr xs 1 z _ (hS.below hq.2.2.2.1) (cell_below hT hq.2.2.2.1) hr hL hn hx (fun i hi => cell_below (hB i hi) hq.2.2.2.1) (by decide) htok)
  have HQ := Lib.hid hq
  clear hS hT hB hr hL hn hx htok hq
  go_enter Tryz.func39, Tryz.ntmps39
  go_wp2_with fail
  refine HN.out.mono ?_
  rintro e w1 ⟨rfl, hb⟩
  obtain ⟨q0, q1, q2, q3, q4⟩ := HQ.out
  have hbt := hb.alloc hb.size (.cells #[.int .i64 1, .bool false, .int .i64 0, .int .i64 z, .string ⟨#[]⟩, .int .i64 0, .int .i64 0, .int .i64 0] 27)
  have n2 := (hbt.block (w.heap.size + 1 + 1) (by omega)).trans q2
  have n3 := q3.trans (hbt.mono q3.size)
  have n5 := heap_alloc_new w1 (.cells #[.int .i64 1, .bool false, .int .i64 0, .int .i64 z, .string ⟨#[]⟩, .int .i64 0, .int .i64 0, .int .i64 0] 27)
  clear hb hbt q0 q1 q2 q3 q4 HQ HN
  go_upto_region 2 with fail
  generalize w1.alloc (.cells #[.int .i64 1, .bool false, .int .i64 0, .int .i64 z, .string ⟨#[]⟩, .int .i64 0, .int .i64 0, .int .i64 0] 27) = W4 at *
  generalize w1.heap.size = g4 at *
  obtain ⟨⟨a0, a1, a2, a3, a4, a5, a6, a7⟩, -⟩ := obj_facts n5
  obtain ⟨⟨b0, b1, b2, b3, b4, b5, b6, b7⟩, p0, p1, p2, p3, p4, p5, p6, p7⟩ := obj_facts n2
  have hF := Lib.hid (obj_set8 n2 (.int .i64 1) (.bool false) (.int .i64 0) (.int .i64 z) (.string ⟨#[]⟩) (.int .i64 0) (.int .i64 0) (.int .i64 0))
  have hB8 := Lib.hid (set8_below n3 (g := w.heap.size + 1 + 1) (by omega) (.int .i64 1) (.bool false) (.int .i64 0) (.int .i64 z) (.string ⟨#[]⟩) (.int .i64 0) (.int .i64 0) (.int .i64 0))
  clear n2 n3 n5
  go_wp2_with fail
  generalize ((((((((W4.setCell ⟨w.heap.size + 1 + 1, 0, none⟩ (.int .i64 1)).setCell ⟨w.heap.size + 1 + 1, 1, none⟩ (.bool false)).setCell ⟨w.heap.size + 1 + 1, 2, none⟩ (.int .i64 0)).setCell ⟨w.heap.size + 1 + 1, 3, none⟩ (.int .i64 z)).setCell ⟨w.heap.size + 1 + 1, 4, none⟩ (.string ⟨#[]⟩)).setCell ⟨w.heap.size + 1 + 1, 5, none⟩ (.int .i64 0)).setCell ⟨w.heap.size + 1 + 1, 6, none⟩ (.int .i64 0)).setCell ⟨w.heap.size + 1 + 1, 7, none⟩ (.int .i64 0)) = W5 at *
  obtain ⟨⟨r0, r1, r2, r3, r4, r5, r6, r7⟩, -⟩ := obj_facts hF.out
  refine bodyPost_ret (v := .tuple #[.agg #[.int .i64 1, .bool false, .int .i64 0, .int .i64 z, .string ⟨#[]⟩, .int .i64 0, .int .i64 0, .int .i64 0], .int .i64 0]) (by simp [results, Tryz.results39, go_sem, r0, r1, r2, r3, r4, r5, r6, r7]) rfl ⟨rfl, hB8.out⟩

set_option maxHeartbeats 4000000 in
set_option maxRecDepth 100000 in
theorem real_real (sp tb m cap bb n r L : Nat) (fr : Int) (xs : List UInt8) (z : Int) (w : World) (hS : StB w sp fr tb m cap) (hT : w.cell? ⟨tb, r, none⟩ = some (.slice (some ⟨bb, 0, none⟩) n n)) (hr : r < m) (hL : L ≤ n) (hn : n ≤ 100000) (hx : xs.length = L) (hB : ∀ i, i < L → w.cell? ⟨bb, i, none⟩ = some (.int .u8 ((bI xs).getD i 0))) (htok : tokL xs = (2, z, true, 0)) :
    Calls Tryz.prog 40 #[.agg #[.pointer (some ⟨sp, 0, none⟩)], .agg #[.int .i64 6, .bool false, .int .i64 0, .int .i64 0, .string ⟨#[]⟩, .int .i64 (r : Int), .int .i64 0, .int .i64 (L : Int)]] w fun e w' => e = .returned (.tuple #[.agg #[.int .i64 2, .bool false, .int .i64 0, .int .i64 z, .string ⟨#[]⟩, .int .i64 0, .int .i64 0, .int .i64 0], .int .i64 0]) ∧ Below w.heap.size w w' := by
  have hq := three_boxes w (.cells #[.pointer (some ⟨sp, 0, none⟩)] 72) (.cells #[.int .i64 6, .bool false, .int .i64 0, .int .i64 0, .string ⟨#[]⟩, .int .i64 (r : Int), .int .i64 0, .int .i64 (L : Int)] 27) (.cells #[.int .i64 0, .bool false, .int .i64 0, .int .i64 0, .string ⟨#[]⟩, .int .i64 0, .int .i64 0, .int .i64 0] 27)
  have HN := Lib.hid (number_str sp tb m cap bb n r L fr xs 2 z _ (hS.below hq.2.2.2.1) (cell_below hT hq.2.2.2.1) hr hL hn hx (fun i hi => cell_below (hB i hi) hq.2.2.2.1) (by decide) htok)
  have HQ := Lib.hid hq
  clear hS hT hB hr hL hn hx htok hq
  go_enter Tryz.func40, Tryz.ntmps40
  go_wp2_with fail
  refine HN.out.mono ?_
  rintro e w1 ⟨rfl, hb⟩
  obtain ⟨q0, q1, q2, q3, q4⟩ := HQ.out
  have hbt := hb.alloc hb.size (.cells #[.int .i64 2, .bool false, .int .i64 0, .int .i64 z, .string ⟨#[]⟩, .int .i64 0, .int .i64 0, .int .i64 0] 27)
  have n2 := (hbt.block (w.heap.size + 1 + 1) (by omega)).trans q2
  have n3 := q3.trans (hbt.mono q3.size)
  have n5 := heap_alloc_new w1 (.cells #[.int .i64 2, .bool false, .int .i64 0, .int .i64 z, .string ⟨#[]⟩, .int .i64 0, .int .i64 0, .int .i64 0] 27)
  clear hb hbt q0 q1 q2 q3 q4 HQ HN
  go_upto_region 2 with fail
  generalize w1.alloc (.cells #[.int .i64 2, .bool false, .int .i64 0, .int .i64 z, .string ⟨#[]⟩, .int .i64 0, .int .i64 0, .int .i64 0] 27) = W4 at *
  generalize w1.heap.size = g4 at *
  obtain ⟨⟨a0, a1, a2, a3, a4, a5, a6, a7⟩, -⟩ := obj_facts n5
  obtain ⟨⟨b0, b1, b2, b3, b4, b5, b6, b7⟩, p0, p1, p2, p3, p4, p5, p6, p7⟩ := obj_facts n2
  have hF := Lib.hid (obj_set8 n2 (.int .i64 2) (.bool false) (.int .i64 0) (.int .i64 z) (.string ⟨#[]⟩) (.int .i64 0) (.int .i64 0) (.int .i64 0))
  have hB8 := Lib.hid (set8_below n3 (g := w.heap.size + 1 + 1) (by omega) (.int .i64 2) (.bool false) (.int .i64 0) (.int .i64 z) (.string ⟨#[]⟩) (.int .i64 0) (.int .i64 0) (.int .i64 0))
  clear n2 n3 n5
  go_wp2_with fail
  generalize ((((((((W4.setCell ⟨w.heap.size + 1 + 1, 0, none⟩ (.int .i64 2)).setCell ⟨w.heap.size + 1 + 1, 1, none⟩ (.bool false)).setCell ⟨w.heap.size + 1 + 1, 2, none⟩ (.int .i64 0)).setCell ⟨w.heap.size + 1 + 1, 3, none⟩ (.int .i64 z)).setCell ⟨w.heap.size + 1 + 1, 4, none⟩ (.string ⟨#[]⟩)).setCell ⟨w.heap.size + 1 + 1, 5, none⟩ (.int .i64 0)).setCell ⟨w.heap.size + 1 + 1, 6, none⟩ (.int .i64 0)).setCell ⟨w.heap.size + 1 + 1, 7, none⟩ (.int .i64 0)) = W5 at *
  obtain ⟨⟨r0, r1, r2, r3, r4, r5, r6, r7⟩, -⟩ := obj_facts hF.out
  refine bodyPost_ret (v := .tuple #[.agg #[.int .i64 2, .bool false, .int .i64 0, .int .i64 z, .string ⟨#[]⟩, .int .i64 0, .int .i64 0, .int .i64 0], .int .i64 0]) (by simp [results, Tryz.results40, go_sem, r0, r1, r2, r3, r4, r5, r6, r7]) rfl ⟨rfl, hB8.out⟩

end Go.Proofs.YtlbedeiehhgphaaGreatDoor.CV

/-! ## CI -/
namespace Go.Proofs.YtlbedeiehhgphaaGreatDoor.CV
open Go Go.RowKit Go.ChangeShapes Go.Proofs Go.Proofs.YtlbedeiehhgphaaGreatDoor Go.Proofs.YtlbedeiehhgphaaGreatDoor.QD Go.Proofs.YtlbedeiehhgphaaGreatDoorW.PrintWords Go.Proofs.YtlbedeiehhgphaaGreatDoorW.PrintLast

set_option maxHeartbeats 4000000 in
set_option maxRecDepth 100000 in
theorem unary_cvi (sp tb m cap bb n r L : Nat) (fr : Int) (xs : List UInt8) (z : Int) (w : World) (hS : StB w sp fr tb m cap) (hT : w.cell? ⟨tb, r, none⟩ = some (.slice (some ⟨bb, 0, none⟩) n n)) (hr : r < m) (hL : L ≤ n) (hn : n ≤ 100000) (hx : xs.length = L) (hB : ∀ i, i < L → w.cell? ⟨bb, i, none⟩ = some (.int .u8 ((bI xs).getD i 0))) (htok : tokL xs = (1, z, true, 0)) :
    Calls Tryz.prog 21 #[.agg #[.pointer (some ⟨sp, 0, none⟩)], .string ⟨#[99, 118, 105]⟩, .agg #[.int .i64 6, .bool false, .int .i64 0, .int .i64 0, .string ⟨#[]⟩, .int .i64 (r : Int), .int .i64 0, .int .i64 (L : Int)]] w fun e w' => e = .returned (.tuple #[.agg #[.int .i64 1, .bool false, .int .i64 0, .int .i64 z, .string ⟨#[]⟩, .int .i64 0, .int .i64 0, .int .i64 0], .int .i64 0]) ∧ Below w.heap.size w w' := by
  have hq := three_boxes w (.cells #[.pointer (some ⟨sp, 0, none⟩)] 72) (.cells #[.int .i64 6, .bool false, .int .i64 0, .int .i64 0, .string ⟨#[]⟩, .int .i64 (r : Int), .int .i64 0, .int .i64 (L : Int)] 27) (.cells #[.int .i64 0, .bool false, .int .i64 0, .int .i64 0, .string ⟨#[]⟩, .int .i64 0, .int .i64 0, .int .i64 0] 27)
  have HN := Lib.hid (whole_int sp tb m cap bb n r L fr xs z _ (hS.below hq.2.2.2.1) (cell_below hT hq.2.2.2.1) hr hL hn hx (fun i hi => cell_below (hB i hi) hq.2.2.2.1) htok)
  have HQ := Lib.hid hq
  clear hS hT hB hr hL hn hx htok hq
  go_enter Tryz.func21, Tryz.ntmps21
  go_wp2_with fail
  refine HN.out.mono ?_
  rintro e w1 ⟨rfl, hb⟩
  obtain ⟨q0, q1, q2, q3, q4⟩ := HQ.out
  have n2 := (hb.block (w.heap.size + 1 + 1) (by omega)).trans q2
  have n3 := q3.trans (hb.mono q3.size)
  obtain ⟨⟨b0, b1, b2, b3, b4, b5, b6, b7⟩, p0, p1, p2, p3, p4, p5, p6, p7⟩ := obj_facts n2
  have hF := Lib.hid (obj_set8 n2 (.int .i64 1) (.bool false) (.int .i64 0) (.int .i64 z) (.string ⟨#[]⟩) (.int .i64 0) (.int .i64 0) (.int .i64 0))
  have hB8 := Lib.hid (set8_below n3 (g := w.heap.size + 1 + 1) (by omega) (.int .i64 1) (.bool false) (.int .i64 0) (.int .i64 z) (.string ⟨#[]⟩) (.int .i64 0) (.int .i64 0) (.int .i64 0))
  clear n2 n3 hb q0 q1 q2 q3 q4 HQ HN
  go_wp2_with fail
  generalize ((((((((w1.setCell ⟨w.heap.size + 1 + 1, 0, none⟩ (.int .i64 1)).setCell ⟨w.heap.size + 1 + 1, 1, none⟩ (.bool false)).setCell ⟨w.heap.size + 1 + 1, 2, none⟩ (.int .i64 0)).setCell ⟨w.heap.size + 1 + 1, 3, none⟩ (.int .i64 z)).setCell ⟨w.heap.size + 1 + 1, 4, none⟩ (.string ⟨#[]⟩)).setCell ⟨w.heap.size + 1 + 1, 5, none⟩ (.int .i64 0)).setCell ⟨w.heap.size + 1 + 1, 6, none⟩ (.int .i64 0)).setCell ⟨w.heap.size + 1 + 1, 7, none⟩ (.int .i64 0)) = W5 at *
  obtain ⟨⟨r0, r1, r2, r3, r4, r5, r6, r7⟩, -⟩ := obj_facts hF.out
  refine bodyPost_ret (v := .tuple #[.agg #[.int .i64 1, .bool false, .int .i64 0, .int .i64 z, .string ⟨#[]⟩, .int .i64 0, .int .i64 0, .int .i64 0], .int .i64 0]) (by simp [results, Tryz.results21, go_sem, r0, r1, r2, r3, r4, r5, r6, r7]) rfl ⟨rfl, hB8.out⟩

set_option maxHeartbeats 4000000 in
set_option maxRecDepth 100000 in
theorem unary_cvr (sp tb m cap bb n r L : Nat) (fr : Int) (xs : List UInt8) (z : Int) (w : World) (hS : StB w sp fr tb m cap) (hT : w.cell? ⟨tb, r, none⟩ = some (.slice (some ⟨bb, 0, none⟩) n n)) (hr : r < m) (hL : L ≤ n) (hn : n ≤ 100000) (hx : xs.length = L) (hB : ∀ i, i < L → w.cell? ⟨bb, i, none⟩ = some (.int .u8 ((bI xs).getD i 0))) (htok : tokL xs = (2, z, true, 0)) :
    Calls Tryz.prog 21 #[.agg #[.pointer (some ⟨sp, 0, none⟩)], .string ⟨#[99, 118, 114]⟩, .agg #[.int .i64 6, .bool false, .int .i64 0, .int .i64 0, .string ⟨#[]⟩, .int .i64 (r : Int), .int .i64 0, .int .i64 (L : Int)]] w fun e w' => e = .returned (.tuple #[.agg #[.int .i64 2, .bool false, .int .i64 0, .int .i64 z, .string ⟨#[]⟩, .int .i64 0, .int .i64 0, .int .i64 0], .int .i64 0]) ∧ Below w.heap.size w w' := by
  have hq := three_boxes w (.cells #[.pointer (some ⟨sp, 0, none⟩)] 72) (.cells #[.int .i64 6, .bool false, .int .i64 0, .int .i64 0, .string ⟨#[]⟩, .int .i64 (r : Int), .int .i64 0, .int .i64 (L : Int)] 27) (.cells #[.int .i64 0, .bool false, .int .i64 0, .int .i64 0, .string ⟨#[]⟩, .int .i64 0, .int .i64 0, .int .i64 0] 27)
  have HN := Lib.hid (real_real sp tb m cap bb n r L fr xs z _ (hS.below hq.2.2.2.1) (cell_below hT hq.2.2.2.1) hr hL hn hx (fun i hi => cell_below (hB i hi) hq.2.2.2.1) htok)
  have HQ := Lib.hid hq
  clear hS hT hB hr hL hn hx htok hq
  go_enter Tryz.func21, Tryz.ntmps21
  go_wp2_with fail
  refine HN.out.mono ?_
  rintro e w1 ⟨rfl, hb⟩
  obtain ⟨q0, q1, q2, q3, q4⟩ := HQ.out
  have n2 := (hb.block (w.heap.size + 1 + 1) (by omega)).trans q2
  have n3 := q3.trans (hb.mono q3.size)
  obtain ⟨⟨b0, b1, b2, b3, b4, b5, b6, b7⟩, p0, p1, p2, p3, p4, p5, p6, p7⟩ := obj_facts n2
  have hF := Lib.hid (obj_set8 n2 (.int .i64 2) (.bool false) (.int .i64 0) (.int .i64 z) (.string ⟨#[]⟩) (.int .i64 0) (.int .i64 0) (.int .i64 0))
  have hB8 := Lib.hid (set8_below n3 (g := w.heap.size + 1 + 1) (by omega) (.int .i64 2) (.bool false) (.int .i64 0) (.int .i64 z) (.string ⟨#[]⟩) (.int .i64 0) (.int .i64 0) (.int .i64 0))
  clear n2 n3 hb q0 q1 q2 q3 q4 HQ HN
  go_wp2_with fail
  generalize ((((((((w1.setCell ⟨w.heap.size + 1 + 1, 0, none⟩ (.int .i64 2)).setCell ⟨w.heap.size + 1 + 1, 1, none⟩ (.bool false)).setCell ⟨w.heap.size + 1 + 1, 2, none⟩ (.int .i64 0)).setCell ⟨w.heap.size + 1 + 1, 3, none⟩ (.int .i64 z)).setCell ⟨w.heap.size + 1 + 1, 4, none⟩ (.string ⟨#[]⟩)).setCell ⟨w.heap.size + 1 + 1, 5, none⟩ (.int .i64 0)).setCell ⟨w.heap.size + 1 + 1, 6, none⟩ (.int .i64 0)).setCell ⟨w.heap.size + 1 + 1, 7, none⟩ (.int .i64 0)) = W5 at *
  obtain ⟨⟨r0, r1, r2, r3, r4, r5, r6, r7⟩, -⟩ := obj_facts hF.out
  refine bodyPost_ret (v := .tuple #[.agg #[.int .i64 2, .bool false, .int .i64 0, .int .i64 z, .string ⟨#[]⟩, .int .i64 0, .int .i64 0, .int .i64 0], .int .i64 0]) (by simp [results, Tryz.results21, go_sem, r0, r1, r2, r3, r4, r5, r6, r7]) rfl ⟨rfl, hB8.out⟩

set_option maxHeartbeats 4000000 in
set_option maxRecDepth 100000 in
theorem text_int (sp : Nat) (z : Int) (ds : List UInt8) (w : World) (hI : ∀ W, Below w.heap.size w W → Calls Tryz.prog 47 #[.int .i64 z] W fun e w' => e = .returned (.string (S ds)) ∧ Below W.heap.size W w') (hd : ds.length ≤ 100000) :
    Calls Tryz.prog 23 #[.pointer (some ⟨sp, 0, none⟩), .agg #[.int .i64 1, .bool false, .int .i64 0, .int .i64 z, .string ⟨#[]⟩, .int .i64 0, .int .i64 0, .int .i64 0]] w fun e w' => ∃ g c, e = .returned (.slice (some ⟨g, 0, none⟩) ds.length c) ∧ ds.length ≤ c ∧ (Kd.int .u8).C w' (some ⟨g, 0, none⟩) ds.length (bI ds) ∧ Below w.heap.size w w' := by
  have HV := Lib.hid (fun w => valid_num sp 1 z w (by decide))
  have HB0 := Lib.hid (obj_box w (.cells #[.int .i64 1, .bool false, .int .i64 0, .int .i64 z, .string ⟨#[]⟩, .int .i64 0, .int .i64 0, .int .i64 0] 27))
  have H0 := Lib.hid (heap_alloc_new w (.cells #[.int .i64 1, .bool false, .int .i64 0, .int .i64 z, .string ⟨#[]⟩, .int .i64 0, .int .i64 0, .int .i64 0] 27))
  have HI := Lib.hid hI
  clear hI
  go_enter Tryz.func23, Tryz.ntmps23
  go_wp2_with fail
  refine (HV.out _).mono ?_
  rintro e w1 ⟨rfl, hb⟩
  have HB1 := Lib.hid (HB0.out.trans (hb.mono HB0.out.size))
  obtain ⟨⟨a0, a1, a2, a3, a4, a5, a6, a7⟩, -⟩ := obj_facts ((hb.block w.heap.size (by simp)).trans H0.out)
  have HI1 := Lib.hid (HI.out w1 HB1.out)
  clear hb HB0 H0 HI HV
  go_wp2_with fail
  refine HI1.out.mono ?_
  rintro e w2 ⟨rfl, hb⟩
  have HB2 := Lib.hid (HB1.out.trans (hb.mono HB1.out.size))
  obtain ⟨W, cap, hcv, hcap, hbW, hsz, hcell, -⟩ := conv_bytes w2 (S ds)
  have HB3 := Lib.hid (HB2.out.trans (hbW.mono HB2.out.size))
  rw [S_size] at hcap hcell hcv
  rw [S_data] at hcell
  have hrow : (Kd.int .u8).C W (some ⟨w2.heap.size, 0, none⟩) ds.length (bI ds) := by
    refine Kd.C_of_reads (enc := Value.int .u8) (d := (0 : Int)) (h1 := fun _ => rfl) ⟨bI_len ds, by omega, fun _ => ⟨_, rfl, fun j hj => ?_⟩⟩
    have ha : (⟨w2.heap.size, 0, none⟩ : Addr).add j = ⟨w2.heap.size, j, none⟩ := by
      simp [Addr.add]
      intro h; exact h.symm
    rw [ha, hcell j hj]
    have hj' : j < (bI ds).length := by rw [bI_len]; exact hj
    simp [bI, List.getD, hj]
  have HR := Lib.hid hrow
  have HC := Lib.hid hcap
  clear hb hbW hsz hcell hrow hcap a0 a1 a2 a3 a4 a5 a6 a7
  go_wp2_with fail
  go_ret
  exact ⟨_, _, rfl, HC.out, HR.out, HB3.out⟩

set_option maxHeartbeats 4000000 in
set_option maxRecDepth 100000 in
theorem text_real (sp : Nat) (z : Int) (ds : List UInt8) (w : World) (hI : ∀ W, Below w.heap.size w W → Calls Tryz.prog 48 #[.int .i64 z] W fun e w' => e = .returned (.string (S ds)) ∧ Below W.heap.size W w') (hd : ds.length ≤ 100000) :
    Calls Tryz.prog 23 #[.pointer (some ⟨sp, 0, none⟩), .agg #[.int .i64 2, .bool false, .int .i64 0, .int .i64 z, .string ⟨#[]⟩, .int .i64 0, .int .i64 0, .int .i64 0]] w fun e w' => ∃ g c, e = .returned (.slice (some ⟨g, 0, none⟩) ds.length c) ∧ ds.length ≤ c ∧ (Kd.int .u8).C w' (some ⟨g, 0, none⟩) ds.length (bI ds) ∧ Below w.heap.size w w' := by
  have HV := Lib.hid (fun w => valid_num sp 2 z w (by decide))
  have HB0 := Lib.hid (obj_box w (.cells #[.int .i64 2, .bool false, .int .i64 0, .int .i64 z, .string ⟨#[]⟩, .int .i64 0, .int .i64 0, .int .i64 0] 27))
  have H0 := Lib.hid (heap_alloc_new w (.cells #[.int .i64 2, .bool false, .int .i64 0, .int .i64 z, .string ⟨#[]⟩, .int .i64 0, .int .i64 0, .int .i64 0] 27))
  have HI := Lib.hid hI
  clear hI
  go_enter Tryz.func23, Tryz.ntmps23
  go_wp2_with fail
  refine (HV.out _).mono ?_
  rintro e w1 ⟨rfl, hb⟩
  have HB1 := Lib.hid (HB0.out.trans (hb.mono HB0.out.size))
  obtain ⟨⟨a0, a1, a2, a3, a4, a5, a6, a7⟩, -⟩ := obj_facts ((hb.block w.heap.size (by simp)).trans H0.out)
  have HI1 := Lib.hid (HI.out w1 HB1.out)
  clear hb HB0 H0 HI HV
  go_wp2_with fail
  refine HI1.out.mono ?_
  rintro e w2 ⟨rfl, hb⟩
  have HB2 := Lib.hid (HB1.out.trans (hb.mono HB1.out.size))
  obtain ⟨W, cap, hcv, hcap, hbW, hsz, hcell, -⟩ := conv_bytes w2 (S ds)
  have HB3 := Lib.hid (HB2.out.trans (hbW.mono HB2.out.size))
  rw [S_size] at hcap hcell hcv
  rw [S_data] at hcell
  have hrow : (Kd.int .u8).C W (some ⟨w2.heap.size, 0, none⟩) ds.length (bI ds) := by
    refine Kd.C_of_reads (enc := Value.int .u8) (d := (0 : Int)) (h1 := fun _ => rfl) ⟨bI_len ds, by omega, fun _ => ⟨_, rfl, fun j hj => ?_⟩⟩
    have ha : (⟨w2.heap.size, 0, none⟩ : Addr).add j = ⟨w2.heap.size, j, none⟩ := by
      simp [Addr.add]
      intro h; exact h.symm
    rw [ha, hcell j hj]
    have hj' : j < (bI ds).length := by rw [bI_len]; exact hj
    simp [bI, List.getD, hj]
  have HR := Lib.hid hrow
  have HC := Lib.hid hcap
  clear hb hbW hsz hcell hrow hcap a0 a1 a2 a3 a4 a5 a6 a7
  go_wp2_with fail
  go_ret
  exact ⟨_, _, rfl, HC.out, HR.out, HB3.out⟩

end Go.Proofs.YtlbedeiehhgphaaGreatDoor.CV

/-! ## CJ -/
namespace Go.Proofs.YtlbedeiehhgphaaGreatDoor.CV
open Go Go.RowKit Go.ChangeShapes Go.Proofs Go.Proofs.YtlbedeiehhgphaaGreatDoor Go.Proofs.YtlbedeiehhgphaaGreatDoor.QD Go.Proofs.YtlbedeiehhgphaaGreatDoorW.PrintWords Go.Proofs.YtlbedeiehhgphaaGreatDoorW.PrintLast

theorem cells_at {w : World} {g : Nat} {cs : Array Value} {t : TypeId} {fr : Nat × Nat} (h : w.heap[g]? = some (.cells cs t fr)) (i : Nat) (u : Value) (hu : cs[i]? = some u) : w.cell? ⟨g, i, none⟩ = some u := by
  rw [Lib.cell_of_heap h i, hu]

set_option maxHeartbeats 4000000 in
set_option maxRecDepth 100000 in
theorem do_cvi (sp tb m cap bb n r L ga : Nat) (fr : Int) (xs : List UInt8) (z : Int) (w : World) (hS : StB w sp fr tb m cap) (hT : w.cell? ⟨tb, r, none⟩ = some (.slice (some ⟨bb, 0, none⟩) n n)) (hr : r < m) (hL : L ≤ n) (hn : n ≤ 100000) (hx : xs.length = L) (hB : ∀ i, i < L → w.cell? ⟨bb, i, none⟩ = some (.int .u8 ((bI xs).getD i 0))) (htok : tokL xs = (1, z, true, 0))
    (hG : w.heap[ga]? = some (.cells #[.int .i64 6, .bool false, .int .i64 0, .int .i64 0, .string ⟨#[]⟩, .int .i64 (r : Int), .int .i64 0, .int .i64 (L : Int)] 27 (0, 0))) :
    Calls Tryz.prog 8 #[.pointer (some ⟨sp, 0, none⟩), .string ⟨#[99, 118, 105]⟩, .slice (some ⟨ga, 0, none⟩) 1 1] w fun e w' => ∃ g, e = .returned (.tuple #[.slice (some ⟨g, 0, none⟩) 1 1, .int .i64 0]) ∧ w'.heap[g]? = some (.cells #[.int .i64 1, .bool false, .int .i64 0, .int .i64 z, .string ⟨#[]⟩, .int .i64 0, .int .i64 0, .int .i64 0] 27 (0, 0)) ∧ w.heap.size ≤ g ∧ Below w.heap.size w w' := by
  have hb0 := obj_box w (.cells #[.pointer (some ⟨sp, 0, none⟩)] 22)
  have H0 := Lib.hid (heap_alloc_new w (.cells #[.pointer (some ⟨sp, 0, none⟩)] 22))
  have hGW : ∀ W, Below w.heap.size w W → W.heap[ga]? = some (.cells #[.int .i64 6, .bool false, .int .i64 0, .int .i64 0, .string ⟨#[]⟩, .int .i64 (r : Int), .int .i64 0, .int .i64 (L : Int)] 27 (0, 0)) := fun W hb => (hb.block ga (blk_lt hG)).trans hG
  have HC := Lib.hid (contains_none w.heap.size ga 1 1 (fun _ => 6) (fun _ => 0) (fun _ => (r : Int)) (fun _ => (L : Int)) (w.alloc (.cells #[.pointer (some ⟨sp, 0, none⟩)] 22)) (by omega)
    (fun j hj i u hu => by
      obtain rfl : j = 0 := by omega
      rw [Nat.zero_mul, Nat.zero_add]
      exact cells_at (hGW _ hb0) i u (by rw [← hu]; simp))
    (fun j hj W hb => closure_ok w.heap.size sp 6 0 (r : Int) (L : Int) W (cell_below (Lib.cell_of_heap (heap_alloc_new w (.cells #[.pointer (some ⟨sp, 0, none⟩)] 22)) 0) hb)
      (fun W2 hb2 => valid_str sp tb m cap bb n r L fr W2 (hS.below ((hb0.trans (hb.mono hb0.size)).trans (hb2.mono (hb0.trans (hb.mono hb0.size)).size))) (cell_below hT ((hb0.trans (hb.mono hb0.size)).trans (hb2.mono (hb0.trans (hb.mono hb0.size)).size))) hr hL hn)))
  have HU := Lib.hid (fun W (hb : Below w.heap.size w W) => unary_cvi sp tb m cap bb n r L fr xs z W (hS.below hb) (cell_below hT hb) hr hL hn hx (fun i hi => cell_below (hB i hi) hb) htok)
  have HG := Lib.hid hGW
  have HB0 := Lib.hid hb0
  have HKn := Lib.hid (fun w => known_cvi w)
  clear hS hT hB hr hL hn hx htok hG hGW hb0
  go_enter Tryz.func8, Tryz.ntmps8
  go_wp2_with fail
  refine (HKn.out _).mono ?_
  rintro e w1 ⟨rfl, rfl⟩
  go_wp2_with fail
  refine HC.out.mono ?_
  rintro e w2 ⟨rfl, hb⟩
  have HB2 := Lib.hid (HB0.out.trans (hb.mono HB0.out.size))
  have e0 : w2.cell? ⟨w.heap.size, 0, none⟩ = some (.pointer (some ⟨sp, 0, none⟩)) := Lib.cell_of_heap ((hb.block w.heap.size (by simp)).trans H0.out) 0
  have H10 := Lib.hid (heap_alloc_new w2 (.cells #[.pointer (some ⟨sp, 0, none⟩)] 72))
  have HB3 := Lib.hid (HB2.out.alloc HB2.out.size (.cells #[.pointer (some ⟨sp, 0, none⟩)] 72))
  clear hb H0 HC HKn HB0
  go_upto_region 7 with fail
  generalize w2.alloc (.cells #[.pointer (some ⟨sp, 0, none⟩)] 72) = W at *
  generalize w2.heap.size = g10 at *
  have e1 : W.cell? ⟨g10, 0, none⟩ = some (.pointer (some ⟨sp, 0, none⟩)) := Lib.cell_of_heap H10.out 0
  obtain ⟨⟨a0, a1, a2, a3, a4, a5, a6, a7⟩, -⟩ := obj_facts (HG.out W HB3.out)
  clear e0
  go_region_held3 (fun w' => w'.cell? ⟨g10, 0, none⟩ = some (.pointer (some ⟨sp, 0, none⟩)) ∧ w'.cell? ⟨ga, 0, none⟩ = some (.int .i64 6) ∧ w'.cell? ⟨ga, 1, none⟩ = some (.bool false) ∧ w'.cell? ⟨ga, 2, none⟩ = some (.int .i64 0) ∧ w'.cell? ⟨ga, 3, none⟩ = some (.int .i64 0) ∧ w'.cell? ⟨ga, 4, none⟩ = some (.string ⟨#[]⟩) ∧ w'.cell? ⟨ga, 5, none⟩ = some (.int .i64 (r : Int)) ∧ w'.cell? ⟨ga, 6, none⟩ = some (.int .i64 0) ∧ w'.cell? ⟨ga, 7, none⟩ = some (.int .i64 (L : Int)))
    (first | exact ⟨e1, a0, a1, a2, a3, a4, a5, a6, a7⟩ | exact ⟨cell_below e1 hb3, cell_below a0 hb3, cell_below a1 hb3, cell_below a2 hb3, cell_below a3 hb3, cell_below a4 hb3, cell_below a5 hb3, cell_below a6 hb3, cell_below a7 hb3⟩ | exact ⟨cell_below e1 hb2, cell_below a0 hb2, cell_below a1 hb2, cell_below a2 hb2, cell_below a3 hb2, cell_below a4 hb2, cell_below a5 hb2, cell_below a6 hb2, cell_below a7 hb2⟩)
    (first
      | (go_at_call 21; refine (HU.out _ HB3.out.drew).mono ?_; rintro e w4 ⟨rfl, hb⟩; have hb2 := ((Below.refl W.heap.size W).drew).trans hb)
      | (go_at_call 20; refine (one_ok 1 z 0 0 _).mono ?_; rintro e w5 ⟨g, rfl, hg, hgl, hbo⟩; have hb3 := hb2.trans (hbo.mono hb2.size)))
  all_goals (go_wp2_with fail)
  all_goals refine bodyPost_ret (v := .tuple #[.slice (some ⟨g, 0, none⟩) 1 1, .int .i64 0]) (by simp [results, Tryz.results8, go_sem]) rfl ⟨g, rfl, hg, ?_, HB3.out.trans (hb3.mono HB3.out.size)⟩
  all_goals (have := hb2.size; have := HB3.out.size; omega)

set_option maxHeartbeats 4000000 in
set_option maxRecDepth 100000 in
theorem do_cvr (sp tb m cap bb n r L ga : Nat) (fr : Int) (xs : List UInt8) (z : Int) (w : World) (hS : StB w sp fr tb m cap) (hT : w.cell? ⟨tb, r, none⟩ = some (.slice (some ⟨bb, 0, none⟩) n n)) (hr : r < m) (hL : L ≤ n) (hn : n ≤ 100000) (hx : xs.length = L) (hB : ∀ i, i < L → w.cell? ⟨bb, i, none⟩ = some (.int .u8 ((bI xs).getD i 0))) (htok : tokL xs = (2, z, true, 0))
    (hG : w.heap[ga]? = some (.cells #[.int .i64 6, .bool false, .int .i64 0, .int .i64 0, .string ⟨#[]⟩, .int .i64 (r : Int), .int .i64 0, .int .i64 (L : Int)] 27 (0, 0))) :
    Calls Tryz.prog 8 #[.pointer (some ⟨sp, 0, none⟩), .string ⟨#[99, 118, 114]⟩, .slice (some ⟨ga, 0, none⟩) 1 1] w fun e w' => ∃ g, e = .returned (.tuple #[.slice (some ⟨g, 0, none⟩) 1 1, .int .i64 0]) ∧ w'.heap[g]? = some (.cells #[.int .i64 2, .bool false, .int .i64 0, .int .i64 z, .string ⟨#[]⟩, .int .i64 0, .int .i64 0, .int .i64 0] 27 (0, 0)) ∧ w.heap.size ≤ g ∧ Below w.heap.size w w' := by
  have hb0 := obj_box w (.cells #[.pointer (some ⟨sp, 0, none⟩)] 22)
  have H0 := Lib.hid (heap_alloc_new w (.cells #[.pointer (some ⟨sp, 0, none⟩)] 22))
  have hGW : ∀ W, Below w.heap.size w W → W.heap[ga]? = some (.cells #[.int .i64 6, .bool false, .int .i64 0, .int .i64 0, .string ⟨#[]⟩, .int .i64 (r : Int), .int .i64 0, .int .i64 (L : Int)] 27 (0, 0)) := fun W hb => (hb.block ga (blk_lt hG)).trans hG
  have HC := Lib.hid (contains_none w.heap.size ga 1 1 (fun _ => 6) (fun _ => 0) (fun _ => (r : Int)) (fun _ => (L : Int)) (w.alloc (.cells #[.pointer (some ⟨sp, 0, none⟩)] 22)) (by omega)
    (fun j hj i u hu => by
      obtain rfl : j = 0 := by omega
      rw [Nat.zero_mul, Nat.zero_add]
      exact cells_at (hGW _ hb0) i u (by rw [← hu]; simp))
    (fun j hj W hb => closure_ok w.heap.size sp 6 0 (r : Int) (L : Int) W (cell_below (Lib.cell_of_heap (heap_alloc_new w (.cells #[.pointer (some ⟨sp, 0, none⟩)] 22)) 0) hb)
      (fun W2 hb2 => valid_str sp tb m cap bb n r L fr W2 (hS.below ((hb0.trans (hb.mono hb0.size)).trans (hb2.mono (hb0.trans (hb.mono hb0.size)).size))) (cell_below hT ((hb0.trans (hb.mono hb0.size)).trans (hb2.mono (hb0.trans (hb.mono hb0.size)).size))) hr hL hn)))
  have HU := Lib.hid (fun W (hb : Below w.heap.size w W) => unary_cvr sp tb m cap bb n r L fr xs z W (hS.below hb) (cell_below hT hb) hr hL hn hx (fun i hi => cell_below (hB i hi) hb) htok)
  have HG := Lib.hid hGW
  have HB0 := Lib.hid hb0
  have HKn := Lib.hid (fun w => known_cvr w)
  clear hS hT hB hr hL hn hx htok hG hGW hb0
  go_enter Tryz.func8, Tryz.ntmps8
  go_wp2_with fail
  refine (HKn.out _).mono ?_
  rintro e w1 ⟨rfl, rfl⟩
  go_wp2_with fail
  refine HC.out.mono ?_
  rintro e w2 ⟨rfl, hb⟩
  have HB2 := Lib.hid (HB0.out.trans (hb.mono HB0.out.size))
  have e0 : w2.cell? ⟨w.heap.size, 0, none⟩ = some (.pointer (some ⟨sp, 0, none⟩)) := Lib.cell_of_heap ((hb.block w.heap.size (by simp)).trans H0.out) 0
  have H10 := Lib.hid (heap_alloc_new w2 (.cells #[.pointer (some ⟨sp, 0, none⟩)] 72))
  have HB3 := Lib.hid (HB2.out.alloc HB2.out.size (.cells #[.pointer (some ⟨sp, 0, none⟩)] 72))
  clear hb H0 HC HKn HB0
  go_upto_region 7 with fail
  generalize w2.alloc (.cells #[.pointer (some ⟨sp, 0, none⟩)] 72) = W at *
  generalize w2.heap.size = g10 at *
  have e1 : W.cell? ⟨g10, 0, none⟩ = some (.pointer (some ⟨sp, 0, none⟩)) := Lib.cell_of_heap H10.out 0
  obtain ⟨⟨a0, a1, a2, a3, a4, a5, a6, a7⟩, -⟩ := obj_facts (HG.out W HB3.out)
  clear e0
  go_region_held3 (fun w' => w'.cell? ⟨g10, 0, none⟩ = some (.pointer (some ⟨sp, 0, none⟩)) ∧ w'.cell? ⟨ga, 0, none⟩ = some (.int .i64 6) ∧ w'.cell? ⟨ga, 1, none⟩ = some (.bool false) ∧ w'.cell? ⟨ga, 2, none⟩ = some (.int .i64 0) ∧ w'.cell? ⟨ga, 3, none⟩ = some (.int .i64 0) ∧ w'.cell? ⟨ga, 4, none⟩ = some (.string ⟨#[]⟩) ∧ w'.cell? ⟨ga, 5, none⟩ = some (.int .i64 (r : Int)) ∧ w'.cell? ⟨ga, 6, none⟩ = some (.int .i64 0) ∧ w'.cell? ⟨ga, 7, none⟩ = some (.int .i64 (L : Int)))
    (first | exact ⟨e1, a0, a1, a2, a3, a4, a5, a6, a7⟩ | exact ⟨cell_below e1 hb3, cell_below a0 hb3, cell_below a1 hb3, cell_below a2 hb3, cell_below a3 hb3, cell_below a4 hb3, cell_below a5 hb3, cell_below a6 hb3, cell_below a7 hb3⟩ | exact ⟨cell_below e1 hb2, cell_below a0 hb2, cell_below a1 hb2, cell_below a2 hb2, cell_below a3 hb2, cell_below a4 hb2, cell_below a5 hb2, cell_below a6 hb2, cell_below a7 hb2⟩)
    (first
      | (go_at_call 21; refine (HU.out _ HB3.out.drew).mono ?_; rintro e w4 ⟨rfl, hb⟩; have hb2 := ((Below.refl W.heap.size W).drew).trans hb)
      | (go_at_call 20; refine (one_ok 2 z 0 0 _).mono ?_; rintro e w5 ⟨g, rfl, hg, hgl, hbo⟩; have hb3 := hb2.trans (hbo.mono hb2.size)))
  all_goals (go_wp2_with fail)
  all_goals refine bodyPost_ret (v := .tuple #[.slice (some ⟨g, 0, none⟩) 1 1, .int .i64 0]) (by simp [results, Tryz.results8, go_sem]) rfl ⟨g, rfl, hg, ?_, HB3.out.trans (hb3.mono HB3.out.size)⟩
  all_goals (have := hb2.size; have := HB3.out.size; omega)

end Go.Proofs.YtlbedeiehhgphaaGreatDoor.CV

/-! ## CK -/
namespace Go.Proofs.YtlbedeiehhgphaaGreatDoor.CV
open Go Go.RowKit Go.ChangeShapes Go.Proofs Go.Proofs.YtlbedeiehhgphaaGreatDoor Go.Proofs.YtlbedeiehhgphaaGreatDoor.QD Go.Proofs.YtlbedeiehhgphaaGreatDoorW.PrintWords Go.Proofs.YtlbedeiehhgphaaGreatDoorW.PrintLast

set_option maxHeartbeats 4000000 in
set_option maxRecDepth 100000 in
theorem do_cvs_int (sp tb m cap bb n r L ga : Nat) (fr : Int) (ds : List UInt8) (z : Int) (cur : Array Value) (w : World) (hS : StB w sp fr tb m cap) (hT : w.cell? ⟨tb, r, none⟩ = some (.slice (some ⟨bb, 0, none⟩) n n)) (hr : r < m) (hL : L ≤ n) (hn : n ≤ 100000) (hB : w.heap[bb]? = some (.cells cur 5 (0, 0))) (hcur : cur.size = n) (hM : ds.length ≤ L) (hM0 : 0 < ds.length) (hsb : sp ≠ bb) (htb : tb ≠ bb) (hgb : ga ≠ bb)
    (hI : ∀ W, Below w.heap.size w W → Calls Tryz.prog 47 #[.int .i64 z] W fun e w' => e = .returned (.string (S ds)) ∧ Below W.heap.size W w')
    (hG : w.heap[ga]? = some (.cells #[.int .i64 1, .bool false, .int .i64 0, .int .i64 z, .string ⟨#[]⟩, .int .i64 0, .int .i64 0, .int .i64 0, .int .i64 6, .bool false, .int .i64 0, .int .i64 0, .string ⟨#[]⟩, .int .i64 (r : Int), .int .i64 0, .int .i64 (L : Int)] 27 (0, 0))) :
    Calls Tryz.prog 8 #[.pointer (some ⟨sp, 0, none⟩), .string ⟨#[99, 118, 115]⟩, .slice (some ⟨ga, 0, none⟩) 2 2] w fun e w' => ∃ g, e = .returned (.tuple #[.slice (some ⟨g, 0, none⟩) 1 1, .int .i64 0]) ∧ w'.heap[g]? = some (.cells #[.int .i64 6, .bool false, .int .i64 0, .int .i64 0, .string ⟨#[]⟩, .int .i64 (r : Int), .int .i64 0, .int .i64 (ds.length : Int)] 27 (0, 0)) ∧ w.heap.size ≤ g ∧
      w'.heap[bb]? = some (.cells ((bI ds).map (Value.int .u8) ++ cur.toList.drop ds.length).toArray 5 (0, 0)) ∧ Kb bb w.heap.size w w' := by
  have hb0 := obj_box w (.cells #[.pointer (some ⟨sp, 0, none⟩)] 22)
  have H0 := Lib.hid (heap_alloc_new w (.cells #[.pointer (some ⟨sp, 0, none⟩)] 22))
  have hGW : ∀ W, Below w.heap.size w W → W.heap[ga]? = some (.cells #[.int .i64 1, .bool false, .int .i64 0, .int .i64 z, .string ⟨#[]⟩, .int .i64 0, .int .i64 0, .int .i64 0, .int .i64 6, .bool false, .int .i64 0, .int .i64 0, .string ⟨#[]⟩, .int .i64 (r : Int), .int .i64 0, .int .i64 (L : Int)] 27 (0, 0)) := fun W hb => (hb.block ga (blk_lt hG)).trans hG
  have HC := Lib.hid (contains_none w.heap.size ga 2 2 (fun j => if j = 0 then 1 else 6) (fun j => if j = 0 then z else 0) (fun j => if j = 0 then 0 else (r : Int)) (fun j => if j = 0 then 0 else (L : Int)) (w.alloc (.cells #[.pointer (some ⟨sp, 0, none⟩)] 22)) (by omega)
    (fun j hj i u hu => by
      have hj2 : j = 0 ∨ j = 1 := by omega
      rcases hj2 with rfl | rfl
      · rw [Nat.zero_mul, Nat.zero_add]
        have hi : i < 8 := by
          rcases Nat.lt_or_ge i 8 with h | h
          · exact h
          · rw [List.getElem?_eq_none (by simpa using h)] at hu; cases hu
        refine cells_at (hGW _ hb0) i u ?_
        match i, hi, hu with
        | 0, _, hu => exact hu
        | 1, _, hu => exact hu
        | 2, _, hu => exact hu
        | 3, _, hu => exact hu
        | 4, _, hu => exact hu
        | 5, _, hu => exact hu
        | 6, _, hu => exact hu
        | 7, _, hu => exact hu
        | i + 8, h, _ => omega
      · have hi : i < 8 := by
          rcases Nat.lt_or_ge i 8 with h | h
          · exact h
          · rw [List.getElem?_eq_none (by simpa using h)] at hu; cases hu
        refine cells_at (hGW _ hb0) (1 * 8 + i) u ?_
        match i, hi, hu with
        | 0, _, hu => exact hu
        | 1, _, hu => exact hu
        | 2, _, hu => exact hu
        | 3, _, hu => exact hu
        | 4, _, hu => exact hu
        | 5, _, hu => exact hu
        | 6, _, hu => exact hu
        | 7, _, hu => exact hu
        | i + 8, h, _ => omega)
    (fun j hj W hb => by
      have hj2 : j = 0 ∨ j = 1 := by omega
      rcases hj2 with rfl | rfl
      · exact closure_ok w.heap.size sp 1 z 0 0 W (cell_below (Lib.cell_of_heap (heap_alloc_new w (.cells #[.pointer (some ⟨sp, 0, none⟩)] 22)) 0) hb) (fun W2 _ => valid_num sp 1 z W2 (by decide))
      · exact closure_ok w.heap.size sp 6 0 (r : Int) (L : Int) W (cell_below (Lib.cell_of_heap (heap_alloc_new w (.cells #[.pointer (some ⟨sp, 0, none⟩)] 22)) 0) hb)
          (fun W2 hb2 => valid_str sp tb m cap bb n r L fr W2 (hS.below ((hb0.trans (hb.mono hb0.size)).trans (hb2.mono (hb0.trans (hb.mono hb0.size)).size))) (cell_below hT ((hb0.trans (hb.mono hb0.size)).trans (hb2.mono (hb0.trans (hb.mono hb0.size)).size))) hr hL hn)))
  have HTX := Lib.hid (fun W (hb : Below w.heap.size w W) => text_int sp z ds W (fun W2 hb2 => hI W2 (hb.trans (hb2.mono hb.size))) (by omega))
  have HLY := Lib.hid (fun W g c (hb : Below w.heap.size w W) (hrow : (Kd.int .u8).C W (some ⟨g, 0, none⟩) ds.length (bI ds)) => lay_is sp tb m cap bb n r L c fr ⟨g, 0, none⟩ ds cur W (hS.below hb) (cell_below hT hb) hr hL hn ((hb.block bb (blk_lt hB)).trans hB) hcur hM hM0 hrow hsb htb)
  have HG := Lib.hid hGW
  have HB0 := Lib.hid hb0
  have HN := Lib.hid (And.intro hgb (And.intro (blk_lt hG) (blk_lt hB)))
  have HKn := Lib.hid (fun w => known_cvs w)
  clear hS hT hB hr hL hn hcur hM hM0 hsb htb hgb hI hG hGW hb0
  go_enter Tryz.func8, Tryz.ntmps8
  go_wp2_with fail
  refine (HKn.out _).mono ?_
  rintro e w1 ⟨rfl, rfl⟩
  go_wp2_with fail
  refine HC.out.mono ?_
  rintro e w2 ⟨rfl, hb⟩
  have HB2 := Lib.hid (HB0.out.trans (hb.mono HB0.out.size))
  have h0 := (hb.block w.heap.size (by simp)).trans H0.out
  have hw2 : w.heap.size < w2.heap.size := blk_lt h0
  have e0 : w2.cell? ⟨w.heap.size, 0, none⟩ = some (.pointer (some ⟨sp, 0, none⟩)) := Lib.cell_of_heap h0 0
  have e2' := cell_below e0 (obj_box w2 (.cells #[.pointer (some ⟨sp, 0, none⟩)] 72))
  have H10 := Lib.hid (heap_alloc_new w2 (.cells #[.pointer (some ⟨sp, 0, none⟩)] 72))
  have HB3 := Lib.hid (HB2.out.alloc HB2.out.size (.cells #[.pointer (some ⟨sp, 0, none⟩)] 72))
  have HW2 := Lib.hid (And.intro hw2 (show w2.heap.size < (w2.alloc (.cells #[.pointer (some ⟨sp, 0, none⟩)] 72)).heap.size by simp))
  clear hb h0 H0 HC HKn HB0 hw2
  go_upto_region 9 with fail
  generalize w2.alloc (.cells #[.pointer (some ⟨sp, 0, none⟩)] 72) = W at *
  generalize w2.heap.size = g10 at *
  have e1 : W.cell? ⟨g10, 0, none⟩ = some (.pointer (some ⟨sp, 0, none⟩)) := Lib.cell_of_heap H10.out 0
  have e2 := e2'
  have hga := HG.out W HB3.out
  have a0 := cells_at hga 0 _ rfl
  have a1 := cells_at hga 1 _ rfl
  have a2 := cells_at hga 2 _ rfl
  have a3 := cells_at hga 3 _ rfl
  have a4 := cells_at hga 4 _ rfl
  have a5 := cells_at hga 5 _ rfl
  have a6 := cells_at hga 6 _ rfl
  have a7 := cells_at hga 7 _ rfl
  have b0 := cells_at hga 8 _ rfl
  have b1 := cells_at hga 9 _ rfl
  have b2 := cells_at hga 10 _ rfl
  have b3 := cells_at hga 11 _ rfl
  have b4 := cells_at hga 12 _ rfl
  have b5 := cells_at hga 13 _ rfl
  have b6 := cells_at hga 14 _ rfl
  have b7 := cells_at hga 15 _ rfl
  obtain ⟨hgb, hgl, hbl⟩ := HN.out
  obtain ⟨hx1, hx2⟩ := HW2.out
  have hWs := HB3.out.size
  clear e0 e2' hga
  go_region_held3 (fun w' => w'.cell? ⟨g10, 0, none⟩ = some (.pointer (some ⟨sp, 0, none⟩)) ∧ w'.cell? ⟨w.heap.size, 0, none⟩ = some (.pointer (some ⟨sp, 0, none⟩)) ∧ w'.cell? ⟨ga, 0, none⟩ = some (.int .i64 1) ∧ w'.cell? ⟨ga, 1, none⟩ = some (.bool false) ∧ w'.cell? ⟨ga, 2, none⟩ = some (.int .i64 0) ∧ w'.cell? ⟨ga, 3, none⟩ = some (.int .i64 z) ∧ w'.cell? ⟨ga, 4, none⟩ = some (.string ⟨#[]⟩) ∧ w'.cell? ⟨ga, 5, none⟩ = some (.int .i64 0) ∧ w'.cell? ⟨ga, 6, none⟩ = some (.int .i64 0) ∧ w'.cell? ⟨ga, 7, none⟩ = some (.int .i64 0) ∧ w'.cell? ⟨ga, 8, none⟩ = some (.int .i64 6) ∧ w'.cell? ⟨ga, 9, none⟩ = some (.bool false) ∧ w'.cell? ⟨ga, 10, none⟩ = some (.int .i64 0) ∧ w'.cell? ⟨ga, 11, none⟩ = some (.int .i64 0) ∧ w'.cell? ⟨ga, 12, none⟩ = some (.string ⟨#[]⟩) ∧ w'.cell? ⟨ga, 13, none⟩ = some (.int .i64 (r : Int)) ∧ w'.cell? ⟨ga, 14, none⟩ = some (.int .i64 0) ∧ w'.cell? ⟨ga, 15, none⟩ = some (.int .i64 (L : Int)))
    (first | exact ⟨e1, e2, a0, a1, a2, a3, a4, a5, a6, a7, b0, b1, b2, b3, b4, b5, b6, b7⟩ | exact ⟨cell_below (hk3 (e1) (by omega)) hb6, cell_below (hk3 (e2) (by omega)) hb6, cell_below (hk3 (a0) (by omega)) hb6, cell_below (hk3 (a1) (by omega)) hb6, cell_below (hk3 (a2) (by omega)) hb6, cell_below (hk3 (a3) (by omega)) hb6, cell_below (hk3 (a4) (by omega)) hb6, cell_below (hk3 (a5) (by omega)) hb6, cell_below (hk3 (a6) (by omega)) hb6, cell_below (hk3 (a7) (by omega)) hb6, cell_below (hk3 (b0) (by omega)) hb6, cell_below (hk3 (b1) (by omega)) hb6, cell_below (hk3 (b2) (by omega)) hb6, cell_below (hk3 (b3) (by omega)) hb6, cell_below (hk3 (b4) (by omega)) hb6, cell_below (hk3 (b5) (by omega)) hb6, cell_below (hk3 (b6) (by omega)) hb6, cell_below (hk3 (b7) (by omega)) hb6⟩ | exact ⟨hk3 (e1) (by omega), hk3 (e2) (by omega), hk3 (a0) (by omega), hk3 (a1) (by omega), hk3 (a2) (by omega), hk3 (a3) (by omega), hk3 (a4) (by omega), hk3 (a5) (by omega), hk3 (a6) (by omega), hk3 (a7) (by omega), hk3 (b0) (by omega), hk3 (b1) (by omega), hk3 (b2) (by omega), hk3 (b3) (by omega), hk3 (b4) (by omega), hk3 (b5) (by omega), hk3 (b6) (by omega), hk3 (b7) (by omega)⟩ | exact ⟨cell_below e1 hb2, cell_below e2 hb2, cell_below a0 hb2, cell_below a1 hb2, cell_below a2 hb2, cell_below a3 hb2, cell_below a4 hb2, cell_below a5 hb2, cell_below a6 hb2, cell_below a7 hb2, cell_below b0 hb2, cell_below b1 hb2, cell_below b2 hb2, cell_below b3 hb2, cell_below b4 hb2, cell_below b5 hb2, cell_below b6 hb2, cell_below b7 hb2⟩)
    (first
      | (go_at_call 23; refine (HTX.out _ HB3.out.drew).mono ?_; rintro e w4 ⟨g4, c4, rfl, hc4, hC4, hb⟩; have hb2 := ((Below.refl W.heap.size W).drew).trans hb; have hbw := HB3.out.trans (hb2.mono HB3.out.size))
      | (go_at_call 22; refine (HLY.out _ _ _ hbw hC4).mono ?_; rintro e w5 ⟨rfl, hcb, hk5⟩; have hk3 : ∀ {g' i' : Nat} {v' : Value}, W.cell? ⟨g', i', none⟩ = some v' → g' ≠ bb → w5.cell? ⟨g', i', none⟩ = some v' := fun h hne => cell_kb (cell_below h hb2) (hk5.block _ (Nat.lt_of_lt_of_le (World.block_lt_of_cell? W _ h) hb2.size) hne))
      | (go_at_call 20; refine (one_ok 6 0 (r : Int) (ds.length : Int) _).mono ?_; rintro e w6 ⟨g, rfl, hg, hgl6, hb6⟩))
  all_goals (go_wp2_with fail)
  all_goals refine bodyPost_ret (v := .tuple #[.slice (some ⟨g, 0, none⟩) 1 1, .int .i64 0]) (by simp [results, Tryz.results8, go_sem]) rfl ⟨g, rfl, hg, ?_, (hb6.block bb (Nat.lt_of_lt_of_le hbl (by have := hbw.size; have := hk5.size; omega))).trans hcb, ((Kb.of_below hbw).then_ hbw.size hk5).belows hb6 (by have := hbw.size; have := hk5.size; omega)⟩
  all_goals (have := hbw.size; have := hk5.size; omega)

set_option maxHeartbeats 4000000 in
set_option maxRecDepth 100000 in
theorem do_cvs_real (sp tb m cap bb n r L ga : Nat) (fr : Int) (ds : List UInt8) (z : Int) (cur : Array Value) (w : World) (hS : StB w sp fr tb m cap) (hT : w.cell? ⟨tb, r, none⟩ = some (.slice (some ⟨bb, 0, none⟩) n n)) (hr : r < m) (hL : L ≤ n) (hn : n ≤ 100000) (hB : w.heap[bb]? = some (.cells cur 5 (0, 0))) (hcur : cur.size = n) (hM : ds.length ≤ L) (hM0 : 0 < ds.length) (hsb : sp ≠ bb) (htb : tb ≠ bb) (hgb : ga ≠ bb)
    (hI : ∀ W, Below w.heap.size w W → Calls Tryz.prog 48 #[.int .i64 z] W fun e w' => e = .returned (.string (S ds)) ∧ Below W.heap.size W w')
    (hG : w.heap[ga]? = some (.cells #[.int .i64 2, .bool false, .int .i64 0, .int .i64 z, .string ⟨#[]⟩, .int .i64 0, .int .i64 0, .int .i64 0, .int .i64 6, .bool false, .int .i64 0, .int .i64 0, .string ⟨#[]⟩, .int .i64 (r : Int), .int .i64 0, .int .i64 (L : Int)] 27 (0, 0))) :
    Calls Tryz.prog 8 #[.pointer (some ⟨sp, 0, none⟩), .string ⟨#[99, 118, 115]⟩, .slice (some ⟨ga, 0, none⟩) 2 2] w fun e w' => ∃ g, e = .returned (.tuple #[.slice (some ⟨g, 0, none⟩) 1 1, .int .i64 0]) ∧ w'.heap[g]? = some (.cells #[.int .i64 6, .bool false, .int .i64 0, .int .i64 0, .string ⟨#[]⟩, .int .i64 (r : Int), .int .i64 0, .int .i64 (ds.length : Int)] 27 (0, 0)) ∧ w.heap.size ≤ g ∧
      w'.heap[bb]? = some (.cells ((bI ds).map (Value.int .u8) ++ cur.toList.drop ds.length).toArray 5 (0, 0)) ∧ Kb bb w.heap.size w w' := by
  have hb0 := obj_box w (.cells #[.pointer (some ⟨sp, 0, none⟩)] 22)
  have H0 := Lib.hid (heap_alloc_new w (.cells #[.pointer (some ⟨sp, 0, none⟩)] 22))
  have hGW : ∀ W, Below w.heap.size w W → W.heap[ga]? = some (.cells #[.int .i64 2, .bool false, .int .i64 0, .int .i64 z, .string ⟨#[]⟩, .int .i64 0, .int .i64 0, .int .i64 0, .int .i64 6, .bool false, .int .i64 0, .int .i64 0, .string ⟨#[]⟩, .int .i64 (r : Int), .int .i64 0, .int .i64 (L : Int)] 27 (0, 0)) := fun W hb => (hb.block ga (blk_lt hG)).trans hG
  have HC := Lib.hid (contains_none w.heap.size ga 2 2 (fun j => if j = 0 then 2 else 6) (fun j => if j = 0 then z else 0) (fun j => if j = 0 then 0 else (r : Int)) (fun j => if j = 0 then 0 else (L : Int)) (w.alloc (.cells #[.pointer (some ⟨sp, 0, none⟩)] 22)) (by omega)
    (fun j hj i u hu => by
      have hj2 : j = 0 ∨ j = 1 := by omega
      rcases hj2 with rfl | rfl
      · rw [Nat.zero_mul, Nat.zero_add]
        have hi : i < 8 := by
          rcases Nat.lt_or_ge i 8 with h | h
          · exact h
          · rw [List.getElem?_eq_none (by simpa using h)] at hu; cases hu
        refine cells_at (hGW _ hb0) i u ?_
        match i, hi, hu with
        | 0, _, hu => exact hu
        | 1, _, hu => exact hu
        | 2, _, hu => exact hu
        | 3, _, hu => exact hu
        | 4, _, hu => exact hu
        | 5, _, hu => exact hu
        | 6, _, hu => exact hu
        | 7, _, hu => exact hu
        | i + 8, h, _ => omega
      · have hi : i < 8 := by
          rcases Nat.lt_or_ge i 8 with h | h
          · exact h
          · rw [List.getElem?_eq_none (by simpa using h)] at hu; cases hu
        refine cells_at (hGW _ hb0) (1 * 8 + i) u ?_
        match i, hi, hu with
        | 0, _, hu => exact hu
        | 1, _, hu => exact hu
        | 2, _, hu => exact hu
        | 3, _, hu => exact hu
        | 4, _, hu => exact hu
        | 5, _, hu => exact hu
        | 6, _, hu => exact hu
        | 7, _, hu => exact hu
        | i + 8, h, _ => omega)
    (fun j hj W hb => by
      have hj2 : j = 0 ∨ j = 1 := by omega
      rcases hj2 with rfl | rfl
      · exact closure_ok w.heap.size sp 2 z 0 0 W (cell_below (Lib.cell_of_heap (heap_alloc_new w (.cells #[.pointer (some ⟨sp, 0, none⟩)] 22)) 0) hb) (fun W2 _ => valid_num sp 2 z W2 (by decide))
      · exact closure_ok w.heap.size sp 6 0 (r : Int) (L : Int) W (cell_below (Lib.cell_of_heap (heap_alloc_new w (.cells #[.pointer (some ⟨sp, 0, none⟩)] 22)) 0) hb)
          (fun W2 hb2 => valid_str sp tb m cap bb n r L fr W2 (hS.below ((hb0.trans (hb.mono hb0.size)).trans (hb2.mono (hb0.trans (hb.mono hb0.size)).size))) (cell_below hT ((hb0.trans (hb.mono hb0.size)).trans (hb2.mono (hb0.trans (hb.mono hb0.size)).size))) hr hL hn)))
  have HTX := Lib.hid (fun W (hb : Below w.heap.size w W) => text_real sp z ds W (fun W2 hb2 => hI W2 (hb.trans (hb2.mono hb.size))) (by omega))
  have HLY := Lib.hid (fun W g c (hb : Below w.heap.size w W) (hrow : (Kd.int .u8).C W (some ⟨g, 0, none⟩) ds.length (bI ds)) => lay_is sp tb m cap bb n r L c fr ⟨g, 0, none⟩ ds cur W (hS.below hb) (cell_below hT hb) hr hL hn ((hb.block bb (blk_lt hB)).trans hB) hcur hM hM0 hrow hsb htb)
  have HG := Lib.hid hGW
  have HB0 := Lib.hid hb0
  have HN := Lib.hid (And.intro hgb (And.intro (blk_lt hG) (blk_lt hB)))
  have HKn := Lib.hid (fun w => known_cvs w)
  clear hS hT hB hr hL hn hcur hM hM0 hsb htb hgb hI hG hGW hb0
  go_enter Tryz.func8, Tryz.ntmps8
  go_wp2_with fail
  refine (HKn.out _).mono ?_
  rintro e w1 ⟨rfl, rfl⟩
  go_wp2_with fail
  refine HC.out.mono ?_
  rintro e w2 ⟨rfl, hb⟩
  have HB2 := Lib.hid (HB0.out.trans (hb.mono HB0.out.size))
  have h0 := (hb.block w.heap.size (by simp)).trans H0.out
  have hw2 : w.heap.size < w2.heap.size := blk_lt h0
  have e0 : w2.cell? ⟨w.heap.size, 0, none⟩ = some (.pointer (some ⟨sp, 0, none⟩)) := Lib.cell_of_heap h0 0
  have e2' := cell_below e0 (obj_box w2 (.cells #[.pointer (some ⟨sp, 0, none⟩)] 72))
  have H10 := Lib.hid (heap_alloc_new w2 (.cells #[.pointer (some ⟨sp, 0, none⟩)] 72))
  have HB3 := Lib.hid (HB2.out.alloc HB2.out.size (.cells #[.pointer (some ⟨sp, 0, none⟩)] 72))
  have HW2 := Lib.hid (And.intro hw2 (show w2.heap.size < (w2.alloc (.cells #[.pointer (some ⟨sp, 0, none⟩)] 72)).heap.size by simp))
  clear hb h0 H0 HC HKn HB0 hw2
  go_upto_region 9 with fail
  generalize w2.alloc (.cells #[.pointer (some ⟨sp, 0, none⟩)] 72) = W at *
  generalize w2.heap.size = g10 at *
  have e1 : W.cell? ⟨g10, 0, none⟩ = some (.pointer (some ⟨sp, 0, none⟩)) := Lib.cell_of_heap H10.out 0
  have e2 := e2'
  have hga := HG.out W HB3.out
  have a0 := cells_at hga 0 _ rfl
  have a1 := cells_at hga 1 _ rfl
  have a2 := cells_at hga 2 _ rfl
  have a3 := cells_at hga 3 _ rfl
  have a4 := cells_at hga 4 _ rfl
  have a5 := cells_at hga 5 _ rfl
  have a6 := cells_at hga 6 _ rfl
  have a7 := cells_at hga 7 _ rfl
  have b0 := cells_at hga 8 _ rfl
  have b1 := cells_at hga 9 _ rfl
  have b2 := cells_at hga 10 _ rfl
  have b3 := cells_at hga 11 _ rfl
  have b4 := cells_at hga 12 _ rfl
  have b5 := cells_at hga 13 _ rfl
  have b6 := cells_at hga 14 _ rfl
  have b7 := cells_at hga 15 _ rfl
  obtain ⟨hgb, hgl, hbl⟩ := HN.out
  obtain ⟨hx1, hx2⟩ := HW2.out
  have hWs := HB3.out.size
  clear e0 e2' hga
  go_region_held3 (fun w' => w'.cell? ⟨g10, 0, none⟩ = some (.pointer (some ⟨sp, 0, none⟩)) ∧ w'.cell? ⟨w.heap.size, 0, none⟩ = some (.pointer (some ⟨sp, 0, none⟩)) ∧ w'.cell? ⟨ga, 0, none⟩ = some (.int .i64 2) ∧ w'.cell? ⟨ga, 1, none⟩ = some (.bool false) ∧ w'.cell? ⟨ga, 2, none⟩ = some (.int .i64 0) ∧ w'.cell? ⟨ga, 3, none⟩ = some (.int .i64 z) ∧ w'.cell? ⟨ga, 4, none⟩ = some (.string ⟨#[]⟩) ∧ w'.cell? ⟨ga, 5, none⟩ = some (.int .i64 0) ∧ w'.cell? ⟨ga, 6, none⟩ = some (.int .i64 0) ∧ w'.cell? ⟨ga, 7, none⟩ = some (.int .i64 0) ∧ w'.cell? ⟨ga, 8, none⟩ = some (.int .i64 6) ∧ w'.cell? ⟨ga, 9, none⟩ = some (.bool false) ∧ w'.cell? ⟨ga, 10, none⟩ = some (.int .i64 0) ∧ w'.cell? ⟨ga, 11, none⟩ = some (.int .i64 0) ∧ w'.cell? ⟨ga, 12, none⟩ = some (.string ⟨#[]⟩) ∧ w'.cell? ⟨ga, 13, none⟩ = some (.int .i64 (r : Int)) ∧ w'.cell? ⟨ga, 14, none⟩ = some (.int .i64 0) ∧ w'.cell? ⟨ga, 15, none⟩ = some (.int .i64 (L : Int)))
    (first | exact ⟨e1, e2, a0, a1, a2, a3, a4, a5, a6, a7, b0, b1, b2, b3, b4, b5, b6, b7⟩ | exact ⟨cell_below (hk3 (e1) (by omega)) hb6, cell_below (hk3 (e2) (by omega)) hb6, cell_below (hk3 (a0) (by omega)) hb6, cell_below (hk3 (a1) (by omega)) hb6, cell_below (hk3 (a2) (by omega)) hb6, cell_below (hk3 (a3) (by omega)) hb6, cell_below (hk3 (a4) (by omega)) hb6, cell_below (hk3 (a5) (by omega)) hb6, cell_below (hk3 (a6) (by omega)) hb6, cell_below (hk3 (a7) (by omega)) hb6, cell_below (hk3 (b0) (by omega)) hb6, cell_below (hk3 (b1) (by omega)) hb6, cell_below (hk3 (b2) (by omega)) hb6, cell_below (hk3 (b3) (by omega)) hb6, cell_below (hk3 (b4) (by omega)) hb6, cell_below (hk3 (b5) (by omega)) hb6, cell_below (hk3 (b6) (by omega)) hb6, cell_below (hk3 (b7) (by omega)) hb6⟩ | exact ⟨hk3 (e1) (by omega), hk3 (e2) (by omega), hk3 (a0) (by omega), hk3 (a1) (by omega), hk3 (a2) (by omega), hk3 (a3) (by omega), hk3 (a4) (by omega), hk3 (a5) (by omega), hk3 (a6) (by omega), hk3 (a7) (by omega), hk3 (b0) (by omega), hk3 (b1) (by omega), hk3 (b2) (by omega), hk3 (b3) (by omega), hk3 (b4) (by omega), hk3 (b5) (by omega), hk3 (b6) (by omega), hk3 (b7) (by omega)⟩ | exact ⟨cell_below e1 hb2, cell_below e2 hb2, cell_below a0 hb2, cell_below a1 hb2, cell_below a2 hb2, cell_below a3 hb2, cell_below a4 hb2, cell_below a5 hb2, cell_below a6 hb2, cell_below a7 hb2, cell_below b0 hb2, cell_below b1 hb2, cell_below b2 hb2, cell_below b3 hb2, cell_below b4 hb2, cell_below b5 hb2, cell_below b6 hb2, cell_below b7 hb2⟩)
    (first
      | (go_at_call 23; refine (HTX.out _ HB3.out.drew).mono ?_; rintro e w4 ⟨g4, c4, rfl, hc4, hC4, hb⟩; have hb2 := ((Below.refl W.heap.size W).drew).trans hb; have hbw := HB3.out.trans (hb2.mono HB3.out.size))
      | (go_at_call 22; refine (HLY.out _ _ _ hbw hC4).mono ?_; rintro e w5 ⟨rfl, hcb, hk5⟩; have hk3 : ∀ {g' i' : Nat} {v' : Value}, W.cell? ⟨g', i', none⟩ = some v' → g' ≠ bb → w5.cell? ⟨g', i', none⟩ = some v' := fun h hne => cell_kb (cell_below h hb2) (hk5.block _ (Nat.lt_of_lt_of_le (World.block_lt_of_cell? W _ h) hb2.size) hne))
      | (go_at_call 20; refine (one_ok 6 0 (r : Int) (ds.length : Int) _).mono ?_; rintro e w6 ⟨g, rfl, hg, hgl6, hb6⟩))
  all_goals (go_wp2_with fail)
  all_goals refine bodyPost_ret (v := .tuple #[.slice (some ⟨g, 0, none⟩) 1 1, .int .i64 0]) (by simp [results, Tryz.results8, go_sem]) rfl ⟨g, rfl, hg, ?_, (hb6.block bb (Nat.lt_of_lt_of_le hbl (by have := hbw.size; have := hk5.size; omega))).trans hcb, ((Kb.of_below hbw).then_ hbw.size hk5).belows hb6 (by have := hbw.size; have := hk5.size; omega)⟩
  all_goals (have := hbw.size; have := hk5.size; omega)

end Go.Proofs.YtlbedeiehhgphaaGreatDoor.CV

/-! ## CL -/
namespace Go.Proofs.YtlbedeiehhgphaaGreatDoor.CV
open Go Go.RowKit Go.ChangeShapes Go.Proofs Go.Proofs.YtlbedeiehhgphaaGreatDoor Go.Proofs.YtlbedeiehhgphaaGreatDoor.QD Go.Proofs.YtlbedeiehhgphaaGreatDoorW.PrintWords Go.Proofs.YtlbedeiehhgphaaGreatDoorW.PrintLast

theorem made_size (n : Nat) : (madeCells (Value.int .u8 0).cells (n * 1)).size = n := by rw [size_madeCells, Nat.mul_one]
theorem head_at (ds : List UInt8) (rest : List Value) (i : Nat) (h : i < ds.length) : ((bI ds).map (Value.int .u8) ++ rest).toArray[i]? = some (.int .u8 ((bI ds).getD i 0)) := by
  have hi' : i < (bI ds).length := by rw [bI_len]; exact h
  rw [List.getElem?_toArray, List.getElem?_append_left (by simpa using hi'), List.getElem?_map, List.getElem?_eq_getElem hi']
  simp [List.getD, hi']

set_option maxHeartbeats 4000000 in
set_option maxRecDepth 100000 in
theorem back_int (z : Int) (ds : List UInt8) (w : World) (hz1 : -2147483648 ≤ z) (hz2 : z ≤ 2147483647)
    (hA : ∀ W, Below w.heap.size w W → Calls Tryz.prog 9 #[] W fun e w' => e = .returned (.bool true) ∧ Below W.heap.size W w')
    (hI : ∀ W, Below w.heap.size w W → Calls Tryz.prog 47 #[.int .i64 z] W fun e w' => e = .returned (.string (S ds)) ∧ Below W.heap.size W w')
    (hd0 : 0 < ds.length) (hd : ds.length ≤ 60) (htok : tokL ds = (1, z, true, 0)) :
    Calls Tryz.prog 3 #[.int .i32 z, .bool false] w fun e w' => e = .returned (.bool true) ∧ Below w.heap.size w w' := by
  have HA := Lib.hid hA
  have HI := Lib.hid hI
  have HD := Lib.hid (And.intro hd0 (And.intro hd htok))
  have wz : wrap64 z = z := w64 _ (by omega) (by omega)
  have HNew := Lib.hid (show Calls Tryz.prog 6 #[.int .i64 500] w fun e w' => e = .returned (.tuple #[.pointer (some ⟨w.heap.size, 0, none⟩), .int .i64 0]) ∧ w' = w.alloc (.cells #[.int .i64 500, .slice none 0 0, .slice none 0 0, .slice none 0 0, .slice none 0 0, .slice none 0 0] 65) from new_is 500 w (by omega) (by omega))
  clear hA hI hd0 hd htok
  go_enter Tryz.func3, Tryz.ntmps3
  go_wp2_with fail
  refine HNew.out.mono ?_
  rintro e w1 ⟨rfl, rfl⟩
  clear HNew
  go_upto_region 7 with fail
  obtain ⟨q0, q1, q2, q3⟩ := two_boxes w (.cells #[.int .i64 500, .slice none 0 0, .slice none 0 0, .slice none 0 0, .slice none 0 0, .slice none 0 0] 65) (.cells #[.int .i64 1, .bool false, .int .i64 0, .int .i64 z, .string ⟨#[]⟩, .int .i64 0, .int .i64 0, .int .i64 0] 27)
  generalize ((w.alloc (.cells #[.int .i64 500, .slice none 0 0, .slice none 0 0, .slice none 0 0, .slice none 0 0, .slice none 0 0] 65)).alloc (.cells #[.int .i64 1, .bool false, .int .i64 0, .int .i64 z, .string ⟨#[]⟩, .int .i64 0, .int .i64 0, .int .i64 0] 27)) = W1 at *
  have HSt := Lib.hid (show Calls Tryz.prog 7 #[.pointer (some ⟨w.heap.size, 0, none⟩), .int .i64 60] W1 _ from string_first w.heap.size 60 500 W1 q0 (by omega) (by omega) (by omega))
  have HQ := Lib.hid (And.intro q1 (And.intro q2 q3))
  clear q0 q1 q2 q3
  go_wp2_with fail
  refine HSt.out.mono ?_
  rintro e w2 ⟨tb, bb, cap, X, rfl, s1, s2, s3, s4, s5, s6, s7⟩
  obtain ⟨q1, q2, q3⟩ := HQ.out
  have o2 := (s4.block (w.heap.size + 1) (by omega) (by omega)).trans q1
  have hBl : Below w.heap.size w w2 := q2.trans (s4.below (Nat.le_refl _) (by omega))
  have b3 := two_box w2 (.cells #[.int .i64 6, .bool false, .int .i64 0, .int .i64 0, .string ⟨#[]⟩, .int .i64 0, .int .i64 0, .int .i64 60] 27) (.cells #[.int .i64 1, .bool false, .int .i64 0, .int .i64 z, .string ⟨#[]⟩, .int .i64 0, .int .i64 0, .int .i64 0, .int .i64 6, .bool false, .int .i64 0, .int .i64 0, .string ⟨#[]⟩, .int .i64 0, .int .i64 0, .int .i64 60] 27)
  have hr3 := two_boxes w2 (.cells #[.int .i64 6, .bool false, .int .i64 0, .int .i64 0, .string ⟨#[]⟩, .int .i64 0, .int .i64 0, .int .i64 60] 27) (.cells #[.int .i64 1, .bool false, .int .i64 0, .int .i64 z, .string ⟨#[]⟩, .int .i64 0, .int .i64 0, .int .i64 0, .int .i64 6, .bool false, .int .i64 0, .int .i64 0, .string ⟨#[]⟩, .int .i64 0, .int .i64 0, .int .i64 60] 27)
  have s2s : W1.heap.size ≤ w2.heap.size := s4.size
  have hlsp := blk_lt s1
  have hltb := blk_lt s2
  have hlbb := blk_lt s3
  -- the world in which Do is called
  have S1 := s1.below b3
  have T1 : (((w2.alloc (.cells #[.int .i64 6, .bool false, .int .i64 0, .int .i64 0, .string ⟨#[]⟩, .int .i64 0, .int .i64 0, .int .i64 60] 27)).alloc (.cells #[.int .i64 1, .bool false, .int .i64 0, .int .i64 z, .string ⟨#[]⟩, .int .i64 0, .int .i64 0, .int .i64 0, .int .i64 6, .bool false, .int .i64 0, .int .i64 0, .string ⟨#[]⟩, .int .i64 0, .int .i64 0, .int .i64 60] 27))).cell? ⟨tb, 0, none⟩ = some (.slice (some ⟨bb, 0, none⟩) 60 60) := cells_at ((b3.block tb hltb).trans s2) 0 _ (by rw [Array.getElem?_append_left (by simp)]; rfl)
  have B1 := (b3.block bb hlbb).trans s3
  have hBl3 := hBl.trans (b3.mono hBl.size)
  have HO2 := Lib.hid ((b3.block (w.heap.size + 1) (by omega)).trans o2)
  obtain ⟨⟨a0, a1, a2, a3, a4, a5, a6, a7⟩, -⟩ := obj_facts (((obj_box w2 (.cells #[.int .i64 6, .bool false, .int .i64 0, .int .i64 0, .string ⟨#[]⟩, .int .i64 0, .int .i64 0, .int .i64 60] 27)).block (w.heap.size + 1) (by omega)).trans o2)
  have HDo := Lib.hid (do_cvs_int w.heap.size tb 1 cap bb 60 0 60 (w2.heap.size + 1) _ ds z _ _ S1 T1 (by omega) (Nat.le_refl _) (by omega) B1 (made_size 60) HD.out.2.1 HD.out.1 (by omega) s7 (by omega) (fun W hb => HI.out W (hBl3.trans (hb.mono hBl3.size))) hr3.2.1)
  have HF := Lib.hid (And.intro S1 (And.intro T1 (And.intro hBl3 (And.intro hr3.2.2.2 (And.intro s5 (And.intro s6 (And.intro s7 (And.intro hltb (And.intro hlbb (And.intro hlsp (And.intro q3 s2s)))))))))))
  clear o2 hBl b3 hr3 S1 T1 B1 hBl3 s1 s2 s3 s4 s5 s6 s7 q1 q2 q3 HQ HSt s2s hlsp hltb hlbb
  go_wp2_with fail
  refine HDo.out.mono ?_
  rintro e w4 ⟨g1, rfl, d1, d2, d3, d4⟩
  obtain ⟨S1, T1, hBl3, hsz3, s5, s6, s7, hltb, hlbb, hlsp, q3, s2s⟩ := HF.out
  have S4 : StB w4 w.heap.size _ tb 1 cap := (d4.block w.heap.size (by omega) (by omega)).trans S1
  have T4 := cell_kb T1 (d4.block tb (by omega) s7)
  have hBl4 : Below w.heap.size w w4 := hBl3.trans (d4.below (by omega) (by omega))
  have O4 := (d4.block (w.heap.size + 1) (by omega) (by omega)).trans HO2.out
  have HA4 := Lib.hid (HA.out w4 hBl4)
  have HF4 := Lib.hid (And.intro S4 (And.intro T4 (And.intro hBl4 (And.intro O4 (And.intro d1 d3)))))
  clear S1 T1 hBl3 hsz3 s5 s6 s7 hltb hlbb hlsp q3 s2s S4 T4 hBl4 O4 d1 d2 d3 d4 HF HDo HO2 HA a0 a1 a2 a3 a4 a5 a6 a7
  go_wp2_with fail
  refine HA4.out.mono ?_
  rintro e w5 ⟨rfl, hb⟩
  obtain ⟨S4, T4, hBl4, O4, d1, d3⟩ := HF4.out
  have S5 := S4.below hb
  have T5 := cell_below T4 hb
  have O5 := (hb.block _ (blk_lt O4)).trans O4
  have D5 := (hb.block _ (blk_lt d1)).trans d1
  have E5 := (hb.block _ (blk_lt d3)).trans d3
  have hBl5 := hBl4.trans (hb.mono hBl4.size)
  obtain ⟨⟨a0, a1, a2, a3, a4, a5, a6, a7⟩, -⟩ := obj_facts D5
  have b6 := obj_box w5 (.cells #[.int .i64 6, .bool false, .int .i64 0, .int .i64 0, .string ⟨#[]⟩, .int .i64 0, .int .i64 0, .int .i64 (ds.length : Int)] 27)
  have HDu := Lib.hid (do_cvi w.heap.size tb 1 cap bb 60 0 ds.length w5.heap.size _ ds z (w5.alloc (.cells #[.int .i64 6, .bool false, .int .i64 0, .int .i64 0, .string ⟨#[]⟩, .int .i64 0, .int .i64 0, .int .i64 (ds.length : Int)] 27)) (S5.below b6) (cell_below T5 b6) (by omega) HD.out.2.1 (by omega) rfl (fun i hi => cell_below (cells_at E5 i _ (head_at ds _ i hi)) b6) HD.out.2.2 (heap_alloc_new w5 (.cells #[.int .i64 6, .bool false, .int .i64 0, .int .i64 0, .string ⟨#[]⟩, .int .i64 0, .int .i64 0, .int .i64 (ds.length : Int)] 27)))
  have HF5 := Lib.hid (And.intro ((b6.block _ (blk_lt O5)).trans O5) (hBl5.trans (b6.mono hBl5.size)))
  clear S4 T4 hBl4 O4 d1 d3 S5 T5 O5 D5 E5 hBl5 b6 hb HF4 HA4
  go_wp2_with fail
  refine HDu.out.mono ?_
  rintro e w7 ⟨g, rfl, f1, f2, hb⟩
  obtain ⟨O6, hBl6⟩ := HF5.out
  obtain ⟨⟨x0, x1, x2, x3, x4, x5, x6, x7⟩, -⟩ := obj_facts ((hb.block _ (blk_lt O6)).trans O6)
  obtain ⟨⟨y0, y1, y2, y3, y4, y5, y6, y7⟩, -⟩ := obj_facts f1
  have HB7 := Lib.hid (hBl6.trans (hb.mono hBl6.size))
  have hu27 := Tryz.underlying27
  clear f1 f2 hb O6 hBl6 HF5 HDu HD HI a0 a1 a2 a3 a4 a5 a6 a7
  go_wp2_with fail
  go_region
  all_goals (go_wp2_with fail)
  all_goals go_ret
  all_goals exact ⟨rfl, HB7.out.drew⟩

set_option maxHeartbeats 4000000 in
set_option maxRecDepth 100000 in
theorem back_real (z : Int) (ds : List UInt8) (w : World) (hz1 : -2147483648 ≤ z) (hz2 : z ≤ 2147483647)
    (hA : ∀ W, Below w.heap.size w W → Calls Tryz.prog 9 #[] W fun e w' => e = .returned (.bool true) ∧ Below W.heap.size W w')
    (hI : ∀ W, Below w.heap.size w W → Calls Tryz.prog 48 #[.int .i64 z] W fun e w' => e = .returned (.string (S ds)) ∧ Below W.heap.size W w')
    (hd0 : 0 < ds.length) (hd : ds.length ≤ 60) (htok : tokL ds = (2, z, true, 0)) :
    Calls Tryz.prog 3 #[.int .i32 z, .bool true] w fun e w' => e = .returned (.bool true) ∧ Below w.heap.size w w' := by
  have HA := Lib.hid hA
  have HI := Lib.hid hI
  have HD := Lib.hid (And.intro hd0 (And.intro hd htok))
  have wz : wrap64 z = z := w64 _ (by omega) (by omega)
  have HNew := Lib.hid (show Calls Tryz.prog 6 #[.int .i64 500] w fun e w' => e = .returned (.tuple #[.pointer (some ⟨w.heap.size, 0, none⟩), .int .i64 0]) ∧ w' = w.alloc (.cells #[.int .i64 500, .slice none 0 0, .slice none 0 0, .slice none 0 0, .slice none 0 0, .slice none 0 0] 65) from new_is 500 w (by omega) (by omega))
  clear hA hI hd0 hd htok
  go_enter Tryz.func3, Tryz.ntmps3
  go_wp2_with fail
  refine HNew.out.mono ?_
  rintro e w1 ⟨rfl, rfl⟩
  clear HNew
  go_upto_region 7 with fail
  obtain ⟨q0, q1, q2, q3⟩ := two_boxes w (.cells #[.int .i64 500, .slice none 0 0, .slice none 0 0, .slice none 0 0, .slice none 0 0, .slice none 0 0] 65) (.cells #[.int .i64 2, .bool false, .int .i64 0, .int .i64 z, .string ⟨#[]⟩, .int .i64 0, .int .i64 0, .int .i64 0] 27)
  generalize ((w.alloc (.cells #[.int .i64 500, .slice none 0 0, .slice none 0 0, .slice none 0 0, .slice none 0 0, .slice none 0 0] 65)).alloc (.cells #[.int .i64 2, .bool false, .int .i64 0, .int .i64 z, .string ⟨#[]⟩, .int .i64 0, .int .i64 0, .int .i64 0] 27)) = W1 at *
  have HSt := Lib.hid (show Calls Tryz.prog 7 #[.pointer (some ⟨w.heap.size, 0, none⟩), .int .i64 60] W1 _ from string_first w.heap.size 60 500 W1 q0 (by omega) (by omega) (by omega))
  have HQ := Lib.hid (And.intro q1 (And.intro q2 q3))
  clear q0 q1 q2 q3
  go_wp2_with fail
  refine HSt.out.mono ?_
  rintro e w2 ⟨tb, bb, cap, X, rfl, s1, s2, s3, s4, s5, s6, s7⟩
  obtain ⟨q1, q2, q3⟩ := HQ.out
  have o2 := (s4.block (w.heap.size + 1) (by omega) (by omega)).trans q1
  have hBl : Below w.heap.size w w2 := q2.trans (s4.below (Nat.le_refl _) (by omega))
  have b3 := two_box w2 (.cells #[.int .i64 6, .bool false, .int .i64 0, .int .i64 0, .string ⟨#[]⟩, .int .i64 0, .int .i64 0, .int .i64 60] 27) (.cells #[.int .i64 2, .bool false, .int .i64 0, .int .i64 z, .string ⟨#[]⟩, .int .i64 0, .int .i64 0, .int .i64 0, .int .i64 6, .bool false, .int .i64 0, .int .i64 0, .string ⟨#[]⟩, .int .i64 0, .int .i64 0, .int .i64 60] 27)
  have hr3 := two_boxes w2 (.cells #[.int .i64 6, .bool false, .int .i64 0, .int .i64 0, .string ⟨#[]⟩, .int .i64 0, .int .i64 0, .int .i64 60] 27) (.cells #[.int .i64 2, .bool false, .int .i64 0, .int .i64 z, .string ⟨#[]⟩, .int .i64 0, .int .i64 0, .int .i64 0, .int .i64 6, .bool false, .int .i64 0, .int .i64 0, .string ⟨#[]⟩, .int .i64 0, .int .i64 0, .int .i64 60] 27)
  have s2s : W1.heap.size ≤ w2.heap.size := s4.size
  have hlsp := blk_lt s1
  have hltb := blk_lt s2
  have hlbb := blk_lt s3
  -- the world in which Do is called
  have S1 := s1.below b3
  have T1 : (((w2.alloc (.cells #[.int .i64 6, .bool false, .int .i64 0, .int .i64 0, .string ⟨#[]⟩, .int .i64 0, .int .i64 0, .int .i64 60] 27)).alloc (.cells #[.int .i64 2, .bool false, .int .i64 0, .int .i64 z, .string ⟨#[]⟩, .int .i64 0, .int .i64 0, .int .i64 0, .int .i64 6, .bool false, .int .i64 0, .int .i64 0, .string ⟨#[]⟩, .int .i64 0, .int .i64 0, .int .i64 60] 27))).cell? ⟨tb, 0, none⟩ = some (.slice (some ⟨bb, 0, none⟩) 60 60) := cells_at ((b3.block tb hltb).trans s2) 0 _ (by rw [Array.getElem?_append_left (by simp)]; rfl)
  have B1 := (b3.block bb hlbb).trans s3
  have hBl3 := hBl.trans (b3.mono hBl.size)
  have HO2 := Lib.hid ((b3.block (w.heap.size + 1) (by omega)).trans o2)
  obtain ⟨⟨a0, a1, a2, a3, a4, a5, a6, a7⟩, -⟩ := obj_facts (((obj_box w2 (.cells #[.int .i64 6, .bool false, .int .i64 0, .int .i64 0, .string ⟨#[]⟩, .int .i64 0, .int .i64 0, .int .i64 60] 27)).block (w.heap.size + 1) (by omega)).trans o2)
  have HDo := Lib.hid (do_cvs_real w.heap.size tb 1 cap bb 60 0 60 (w2.heap.size + 1) _ ds z _ _ S1 T1 (by omega) (Nat.le_refl _) (by omega) B1 (made_size 60) HD.out.2.1 HD.out.1 (by omega) s7 (by omega) (fun W hb => HI.out W (hBl3.trans (hb.mono hBl3.size))) hr3.2.1)
  have HF := Lib.hid (And.intro S1 (And.intro T1 (And.intro hBl3 (And.intro hr3.2.2.2 (And.intro s5 (And.intro s6 (And.intro s7 (And.intro hltb (And.intro hlbb (And.intro hlsp (And.intro q3 s2s)))))))))))
  clear o2 hBl b3 hr3 S1 T1 B1 hBl3 s1 s2 s3 s4 s5 s6 s7 q1 q2 q3 HQ HSt s2s hlsp hltb hlbb
  go_wp2_with fail
  refine HDo.out.mono ?_
  rintro e w4 ⟨g1, rfl, d1, d2, d3, d4⟩
  obtain ⟨S1, T1, hBl3, hsz3, s5, s6, s7, hltb, hlbb, hlsp, q3, s2s⟩ := HF.out
  have S4 : StB w4 w.heap.size _ tb 1 cap := (d4.block w.heap.size (by omega) (by omega)).trans S1
  have T4 := cell_kb T1 (d4.block tb (by omega) s7)
  have hBl4 : Below w.heap.size w w4 := hBl3.trans (d4.below (by omega) (by omega))
  have O4 := (d4.block (w.heap.size + 1) (by omega) (by omega)).trans HO2.out
  have HA4 := Lib.hid (HA.out w4 hBl4)
  have HF4 := Lib.hid (And.intro S4 (And.intro T4 (And.intro hBl4 (And.intro O4 (And.intro d1 d3)))))
  clear S1 T1 hBl3 hsz3 s5 s6 s7 hltb hlbb hlsp q3 s2s S4 T4 hBl4 O4 d1 d2 d3 d4 HF HDo HO2 HA a0 a1 a2 a3 a4 a5 a6 a7
  go_wp2_with fail
  refine HA4.out.mono ?_
  rintro e w5 ⟨rfl, hb⟩
  obtain ⟨S4, T4, hBl4, O4, d1, d3⟩ := HF4.out
  have S5 := S4.below hb
  have T5 := cell_below T4 hb
  have O5 := (hb.block _ (blk_lt O4)).trans O4
  have D5 := (hb.block _ (blk_lt d1)).trans d1
  have E5 := (hb.block _ (blk_lt d3)).trans d3
  have hBl5 := hBl4.trans (hb.mono hBl4.size)
  obtain ⟨⟨a0, a1, a2, a3, a4, a5, a6, a7⟩, -⟩ := obj_facts D5
  have b6 := obj_box w5 (.cells #[.int .i64 6, .bool false, .int .i64 0, .int .i64 0, .string ⟨#[]⟩, .int .i64 0, .int .i64 0, .int .i64 (ds.length : Int)] 27)
  have HDu := Lib.hid (do_cvr w.heap.size tb 1 cap bb 60 0 ds.length w5.heap.size _ ds z (w5.alloc (.cells #[.int .i64 6, .bool false, .int .i64 0, .int .i64 0, .string ⟨#[]⟩, .int .i64 0, .int .i64 0, .int .i64 (ds.length : Int)] 27)) (S5.below b6) (cell_below T5 b6) (by omega) HD.out.2.1 (by omega) rfl (fun i hi => cell_below (cells_at E5 i _ (head_at ds _ i hi)) b6) HD.out.2.2 (heap_alloc_new w5 (.cells #[.int .i64 6, .bool false, .int .i64 0, .int .i64 0, .string ⟨#[]⟩, .int .i64 0, .int .i64 0, .int .i64 (ds.length : Int)] 27)))
  have HF5 := Lib.hid (And.intro ((b6.block _ (blk_lt O5)).trans O5) (hBl5.trans (b6.mono hBl5.size)))
  clear S4 T4 hBl4 O4 d1 d3 S5 T5 O5 D5 E5 hBl5 b6 hb HF4 HA4
  go_wp2_with fail
  refine HDu.out.mono ?_
  rintro e w7 ⟨g, rfl, f1, f2, hb⟩
  obtain ⟨O6, hBl6⟩ := HF5.out
  obtain ⟨⟨x0, x1, x2, x3, x4, x5, x6, x7⟩, -⟩ := obj_facts ((hb.block _ (blk_lt O6)).trans O6)
  obtain ⟨⟨y0, y1, y2, y3, y4, y5, y6, y7⟩, -⟩ := obj_facts f1
  have HB7 := Lib.hid (hBl6.trans (hb.mono hBl6.size))
  have hu27 := Tryz.underlying27
  clear f1 f2 hb O6 hBl6 HF5 HDu HD HI a0 a1 a2 a3 a4 a5 a6 a7
  go_wp2_with fail
  go_region
  all_goals (go_wp2_with fail)
  all_goals go_ret
  all_goals exact ⟨rfl, HB7.out.drew⟩

end Go.Proofs.YtlbedeiehhgphaaGreatDoor.CV

/-! ## QV -/
namespace Go.Proofs.YtlbedeiehhgphaaGreatDoor.QD
open Go Go.RowKit Go.Proofs.YtlbedeiehhgphaaGreatDoor Go.Proofs.YtlbedeiehhgphaaGreatDoorW.PrintWords

theorem digs9 (b : List UInt8) (hb : b.all isDig = true) : ∀ d ∈ digsOf b, d ≤ 9 := by
  intro d hd
  unfold digsOf at hd
  obtain ⟨c, hc, rfl⟩ := List.mem_map.1 hd
  have := (isDig_iff c).1 (List.all_eq_true.1 hb c hc)
  omega
theorem digsOf_len (b : List UInt8) : (digsOf b).length = b.length := by simp [digsOf]
theorem digsOf_append (a b : List UInt8) : digsOf (a ++ b) = digsOf a ++ digsOf b := by simp [digsOf]
theorem digsOf_zeros (m : Nat) : digsOf (List.replicate m 48) = List.replicate m 0 := by simp [digsOf]

def valN : List Nat → Nat
  | [] => 0
  | d :: ds => d * 10 ^ ds.length + valN ds
theorem valN_lt : ∀ ds : List Nat, (∀ d ∈ ds, d ≤ 9) → valN ds < 10 ^ ds.length
  | [], _ => by simp [valN]
  | d :: ds, h => by
    have ih := valN_lt ds (fun x hx => h x (by simp [hx]))
    have hd := h d (by simp)
    simp only [valN, List.length_cons, Nat.pow_succ]
    have : d * 10 ^ ds.length ≤ 9 * 10 ^ ds.length := Nat.mul_le_mul_right _ hd
    omega
theorem valN_append (a b : List Nat) : valN (a ++ b) = valN a * 10 ^ b.length + valN b := by
  induction a with
  | nil => simp [valN]
  | cons d a ih =>
    simp only [List.cons_append, valN, List.length_append, ih, Nat.pow_add, Nat.add_mul, Nat.mul_assoc]
    omega
theorem valN_zeros (n : Nat) : valN (List.replicate n 0) = 0 := by
  induction n with
  | zero => rfl
  | succ n ih => simp [List.replicate_succ, valN, ih]
theorem dbl_val : ∀ ds : List Nat, (dbl ds).1 * 10 ^ ds.length + valN (dbl ds).2 = 2 * valN ds
  | [] => by simp [dbl, valN]
  | d :: ds => by
    have ih := dbl_val ds
    simp only [dbl, valN, List.length_cons, dbl_len, Nat.pow_succ]
    generalize (dbl ds).1 = c at *
    generalize valN (dbl ds).2 = v at *
    generalize valN ds = u at *
    generalize 10 ^ ds.length = P at *
    have h1 : (2 * d + c) / 10 * (P * 10) + (2 * d + c) % 10 * P = (2 * d + c) * P := by
      rw [Nat.mul_comm P 10, ← Nat.mul_assoc, ← Nat.add_mul]
      congr 1
      omega
    have h2 : (2 * d + c) * P = 2 * (d * P) + c * P := by rw [Nat.add_mul, Nat.mul_assoc]
    omega
theorem iterD_val (k : Nat) : ∀ (n : Nat) (ds : List Nat), (iterD k n ds).1 * 10 ^ ds.length + valN (iterD k n ds).2 = 2 ^ k * (n * 10 ^ ds.length + valN ds) := by
  induction k with
  | zero => intro n ds; simp [iterD]
  | succ k ih =>
    intro n ds
    have h := ih (2 * n + (dbl ds).1) (dbl ds).2
    rw [dbl_len] at h
    rw [iterD, h, Nat.pow_succ, Nat.mul_assoc]
    congr 1
    have hd := dbl_val ds
    rw [Nat.add_mul, Nat.mul_assoc]
    omega
/-- digits that are f parts of 65536, exactly: 17 doublings count 2 f -/
theorem iterD_exact (ds : List Nat) (f : Nat) (hd : ∀ d ∈ ds, d ≤ 9) (h : valN ds * 65536 = f * 10 ^ ds.length) : (iterD 17 0 ds).1 = 2 * f := by
  have hv := iterD_val 17 0 ds
  have hl := (iterD_ok 17 0 ds hd)
  have hlt := valN_lt (iterD 17 0 ds).2 hl.2.1
  rw [hl.1] at hlt
  generalize (iterD 17 0 ds).1 = B at *
  generalize valN (iterD 17 0 ds).2 = v at *
  generalize 10 ^ ds.length = P at *
  have h2 : B * P + v = 2 * f * P := by
    rw [hv, Nat.zero_mul, Nat.zero_add, show (2 : Nat) ^ 17 = 2 * 65536 from rfl, Nat.mul_assoc, Nat.mul_comm 65536, h, Nat.mul_assoc]
  have hP : 0 < P := by omega
  have h3 : (B * P + v) / P = B := by rw [Nat.mul_comm, Nat.mul_add_div hP, Nat.div_eq_of_lt hlt]; rfl
  rw [h2, Nat.mul_div_cancel _ hP] at h3
  exact h3.symm

theorem digsOf_cons (c : UInt8) (l : List UInt8) : digsOf (c :: l) = (c.toNat - 48) :: digsOf l := rfl
theorem digB (d : Nat) (h : d ≤ 9) : (UInt8.ofNat (48 + d)).toNat = 48 + d := by
  rw [UInt8.toNat_ofNat']; omega
theorem fracs_val (k : Nat) : ∀ f, f < 65536 → 2 ^ (16 - k) ∣ f → k ≤ 16 → valN (digsOf (fracs k f)) * 65536 = f * 10 ^ (fracs k f).length ∧ (fracs k f).all isDig = true := by
  induction k with
  | zero =>
    intro f hf hd _
    have h0 : f = 0 := by
      rcases Nat.eq_zero_or_pos f with h | h
      · exact h
      · have := Nat.le_of_dvd h hd; omega
    subst h0
    simp [fracs, digsOf, valN]
  | succ k ih =>
    intro f hf hd hk
    by_cases h0 : f = 0
    · subst h0; simp [fracs_zero, digsOf, valN]
    · have hs := frac_step (j := 16 - (k + 1)) (k := k + 1) (by omega) hd hf h0
      obtain ⟨h1, h2⟩ := ih (f * 10 % 65536) (by omega) (by rw [show 16 - k = 16 - (k + 1) + 1 from by omega]; exact hs.2) (by omega)
      have hdl : f * 10 / 65536 ≤ 9 := by omega
      rw [fracs_succ h0, digsOf_cons, digB _ hdl]
      refine ⟨?_, ?_⟩
      · simp only [valN, digsOf_len, List.length_cons, Nat.pow_succ]
        generalize (fracs k (f * 10 % 65536)).length = L at *
        generalize valN (digsOf (fracs k (f * 10 % 65536))) = V at *
        have e1 : (48 + f * 10 / 65536 - 48) = f * 10 / 65536 := by omega
        have e2 : f * 10 = f * 10 / 65536 * 65536 + f * 10 % 65536 := by omega
        rw [e1, Nat.add_mul, h1, Nat.mul_assoc, Nat.mul_comm (10 ^ L) 65536, ← Nat.mul_assoc, ← Nat.add_mul, ← e2, Nat.mul_assoc, Nat.mul_comm 10]
      · rw [List.all_cons, h2, Bool.and_true, isDig_iff, digB _ hdl]
        omega
theorem digs_val (k : Nat) : ∀ n, n < 10 ^ (k + 1) → valD (digs n) = n ∧ (digs n).all isDig = true ∧ digs n ≠ [] := by
  induction k with
  | zero =>
    intro n hn
    have hn : n < 10 := by omega
    rw [digs_small hn]
    refine ⟨?_, ?_, by simp⟩
    · simp only [valD, List.foldl_cons, List.foldl_nil, digB n (by omega)]; omega
    · simp only [List.all_cons, List.all_nil, Bool.and_true, isDig_iff, digB n (by omega)]; omega
  | succ k ih =>
    intro n hn
    by_cases h : n < 10
    · rw [digs_small h]
      refine ⟨?_, ?_, by simp⟩
      · simp only [valD, List.foldl_cons, List.foldl_nil, digB n (by omega)]; omega
      · simp only [List.all_cons, List.all_nil, Bool.and_true, isDig_iff, digB n (by omega)]; omega
    · obtain ⟨h1, h2, _⟩ := ih (n / 10) (by rw [Nat.pow_succ] at hn; omega)
      rw [digs_big h]
      refine ⟨?_, ?_, by simp⟩
      · rw [valD_snoc, h1, digB _ (by omega)]; omega
      · rw [List.all_append, h2]
        simp only [List.all_cons, List.all_nil, Bool.and_true, Bool.true_and, isDig_iff, digB (n % 10) (by omega)]; omega

end Go.Proofs.YtlbedeiehhgphaaGreatDoor.QD

/-! ## CM -/
namespace Go.Proofs.YtlbedeiehhgphaaGreatDoor.CV
open Go Go.RowKit Go.ChangeShapes Go.Proofs Go.Proofs.YtlbedeiehhgphaaGreatDoor Go.Proofs.YtlbedeiehhgphaaGreatDoor.QD Go.Proofs.YtlbedeiehhgphaaGreatDoorW.PrintWords Go.Proofs.YtlbedeiehhgphaaGreatDoorW.PrintLast

theorem dec_digs (n : Nat) : Lib.decDigits n = digs n := by
  induction n using Nat.strongRecOn with
  | ind n ih =>
    unfold Lib.decDigits
    by_cases h : n < 10
    · rw [dif_pos h, digs_small h]
    · rw [dif_neg h, digs_big h, ih (n / 10) (by omega)]
theorem cut1_no (c : UInt8) (l : List UInt8) (h : ∀ x ∈ l, x ≠ c) : cut1 c l = (l, [], false) := by
  induction l with
  | nil => rfl
  | cons b l ih => rw [cut1, if_neg (h b (by simp)), ih (fun x hx => h x (by simp [hx]))]
theorem dig_ne (v : UInt8) (hv : isDig v = false) (a : List UInt8) (h : a.all isDig = true) : ∀ x ∈ a, x ≠ v := by
  intro x hx e
  have := List.all_eq_true.1 h x hx
  rw [e, hv] at this
  cases this
theorem sgn_dig (x : List UInt8) (h0 : x ≠ []) (hd : x.all isDig = true) : sgnL x = (false, x) := by
  match x, h0, hd with
  | c :: t, _, hd =>
    have h45 : c ≠ 45 := dig_ne 45 (by decide) _ hd c (by simp)
    have h43 : c ≠ 43 := dig_ne 43 (by decide) _ hd c (by simp)
    simp [sgnL, h45, h43]

/-- an integer's text is read as it -/
theorem tok_itoa (z : Int) (h1 : -2147483648 ≤ z) (h2 : z ≤ 2147483647) : tokL (Lib.itoa z) = (1, z, true, 0) ∧ 0 < (Lib.itoa z).length ∧ (Lib.itoa z).length ≤ 60 := by
  obtain ⟨hv, hd, h0⟩ := digs_val 10 z.natAbs (by omega)
  have hl := digs_lenk 10 z.natAbs (by omega)
  have hl0 : 0 < (digs z.natAbs).length := List.length_pos_iff.2 h0
  have hmin : min (valD (digs z.natAbs)) capM = z.natAbs := by rw [hv]; unfold capM; omega
  by_cases hneg : z < 0
  · have e : Lib.itoa z = 45 :: digs z.natAbs := by unfold Lib.itoa; rw [if_pos hneg, dec_digs]
    rw [e]
    refine ⟨?_, by simp, by simp only [List.length_cons]; omega⟩
    have hs : sgnL (45 :: digs z.natAbs) = (true, digs z.natAbs) := rfl
    have hrad : radixL (45 :: digs z.natAbs) = (0, 0, false, 0) := by
      unfold radixL
      rw [cut1_no 35 _ (fun x hx => by
        rcases List.mem_cons.1 hx with h | h
        · rw [h]; decide
        · exact dig_ne 35 (by decide) _ hd x h), if_pos (Or.inl rfl)]
    have hw : wholeL (45 :: digs z.natAbs) = (z, true) := by
      unfold wholeL
      rw [hs]
      simp only [if_true, hmin]
      rw [if_neg (by rintro (h | h)
                     · exact h0 h
                     · rw [hd] at h; cases h)]
      have e2 : (-(z.natAbs : Int)) = z := by omega
      rw [e2, decide_eq_true h1, decide_eq_true h2]
      rfl
    unfold tokL
    rw [if_neg (by simp only [List.length_cons]; omega), hrad, if_neg (by simp), hw, if_pos rfl]
  · have e : Lib.itoa z = digs z.natAbs := by unfold Lib.itoa; rw [if_neg hneg, dec_digs, show z.toNat = z.natAbs from by omega]
    rw [e]
    refine ⟨?_, hl0, by omega⟩
    have hs : sgnL (digs z.natAbs) = (false, digs z.natAbs) := sgn_dig _ h0 hd
    have hrad : radixL (digs z.natAbs) = (0, 0, false, 0) := by
      unfold radixL
      rw [cut1_no 35 _ (dig_ne 35 (by decide) _ hd), if_pos (Or.inl rfl)]
    have hw : wholeL (digs z.natAbs) = (z, true) := by
      unfold wholeL
      rw [hs]
      simp only [hmin]
      rw [if_neg (by rintro (h | h)
                     · exact h0 h
                     · rw [hd] at h; cases h)]
      have e2 : (z.natAbs : Int) = z := by omega
      simp only [Bool.false_eq_true, if_false]
      rw [e2, decide_eq_true h1, decide_eq_true h2]
      rfl
    unfold tokL
    rw [if_neg (by omega), hrad, if_neg (by simp), hw, if_pos rfl]

/-- the table of powers of ten, and what Itoa says -/
abbrev Tab (w : World) : Prop := Lib.TabIs Tryz.prog w "internal/strconv.uint64pow10" .u64 Lib.pow10Tab
theorem tab_named : Tryz.prog.globalNamed "internal/strconv.uint64pow10" = some 2 := by kernel_rfl
theorem tab_below {w w' : World} (h : Tab w) (hb : Below w.heap.size w w') : Tab w' := by
  unfold Tab Lib.TabIs World.var? at h ⊢
  rw [tab_named] at h ⊢
  simp only [Option.bind_some] at h ⊢
  have hlt : 2 < w.heap.size := by
    rcases Nat.lt_or_ge 2 w.heap.size with h' | h'
    · exact h'
    · rw [Array.getElem?_eq_none h'] at h; cases h
  rw [hb.block 2 hlt]
  exact h
theorem itoa_is (z : Int) (h1 : -2147483648 ≤ z) (h2 : z ≤ 2147483647) (w : World) (ht : Tab w) :
    Calls Tryz.prog 47 #[.int .i64 z] w fun e w' => e = .returned (.string (S (Lib.itoa z))) ∧ Below w.heap.size w w' := by
  refine (Tryz.strconv_Itoa z (by omega) (by omega) w ht).mono ?_
  rintro e w' ⟨rfl, k, os, rfl⟩
  exact ⟨rfl, Lib.below_grow _ w (Nat.le_refl _) k os⟩

set_option maxHeartbeats 4000000 in
set_option maxRecDepth 100000 in
theorem answers_true (w : World) (ht : Tab w) :
    Calls Tryz.prog 9 #[] w fun e w' => e = .returned (.bool true) ∧ Below w.heap.size w w' := by
  have HNew := Lib.hid (show Calls Tryz.prog 6 #[.int .i64 50] w fun e w' => e = .returned (.tuple #[.pointer (some ⟨w.heap.size, 0, none⟩), .int .i64 0]) ∧ w' = w.alloc (.cells #[.int .i64 50, .slice none 0 0, .slice none 0 0, .slice none 0 0, .slice none 0 0, .slice none 0 0] 65) from new_is 50 w (by omega) (by omega))
  have hb0 := obj_box w (.cells #[.int .i64 50, .slice none 0 0, .slice none 0 0, .slice none 0 0, .slice none 0 0, .slice none 0 0] 65)
  have hit : Lib.itoa (-5) = [45, 53] := by unfold Lib.itoa; rw [if_pos (by decide), dec_digs, digs_small (by decide)]; rfl
  have HT := Lib.hid (text_int w.heap.size (-5) [45, 53] (w.alloc (.cells #[.int .i64 50, .slice none 0 0, .slice none 0 0, .slice none 0 0, .slice none 0 0, .slice none 0 0] 65)) (fun W hb => by
    have := itoa_is (-5) (by omega) (by omega) W (tab_below ht (hb0.trans (hb.mono hb0.size)))
    rw [hit] at this
    exact this) (by simp))
  have HB := Lib.hid hb0
  clear hb0 ht hit
  go_enter Tryz.func9, Tryz.ntmps9
  go_wp2_with fail
  refine HNew.out.mono ?_
  rintro e w1 ⟨rfl, rfl⟩
  clear HNew
  go_wp2_with fail
  refine HT.out.mono ?_
  rintro e w2 ⟨g, c, rfl, hc, hC, hb⟩
  have hcv : (convert 35 9 (.slice (some ⟨g, 0, none⟩) 2 c)).run Tryz.prog w2 = .ok (.string ⟨#[45, 53]⟩) w2 := by
    have h := Kd.C_string (P := Tryz.prog) (c := c) Tryz.underlying35 Tryz.underlying5 Tryz.underlying9 hC
    rw [bI_S] at h
    exact h
  have HB2 := Lib.hid (HB.out.trans (hb.mono HB.out.size))
  clear hc hC hb HT HB
  go_wp2_with fail
  go_ret
  exact ⟨rfl, HB2.out⟩

/-- ConvBack of an integer -/
theorem back_int_all (z : Int) (w : World) (hz1 : -2147483648 ≤ z) (hz2 : z ≤ 2147483647) (ht : Tab w) :
    Calls Tryz.prog 3 #[.int .i32 z, .bool false] w fun e w' => e = .returned (.bool true) ∧ Below w.heap.size w w' := by
  obtain ⟨h1, h2, h3⟩ := tok_itoa z hz1 hz2
  exact back_int z (Lib.itoa z) w hz1 hz2 (fun W hb => answers_true W (tab_below ht hb)) (fun W hb => itoa_is z hz1 hz2 W (tab_below ht hb)) h2 h3 h1

end Go.Proofs.YtlbedeiehhgphaaGreatDoor.CV

/-! ## PFx0 -/
namespace Go.Proofs.YtlbedeiehhgphaaGreatDoor.PF
open Go.RowKit Go.Proofs.YtlbedeiehhgphaaGreatDoorW.PrintWords Go.Proofs.YtlbedeiehhgphaaGreatDoorW.PrintLast Go.Proofs.YtlbedeiehhgphaaGreatDoorW.PrintMore
attribute [local go_sem] max2_int min2_int max_two min_two max_three min_three max_four min_four   -- for this text's walks alone
set_option linter.unusedVariables false
set_option linter.unusedSimpArgs false



def errW : Option Int → Value
  | none => .nilIface
  | some c => .iface 0 (.int .i64 c)
theorem errW_none : errW none = .nilIface := rfl
theorem errW_some (c : Int) : errW (some c) = .iface 0 (.int .i64 c) := rfl

-- the values' own types

end Go.Proofs.YtlbedeiehhgphaaGreatDoor.PF

/-! ## PFx1 -/
namespace Go.Proofs.YtlbedeiehhgphaaGreatDoor.PF
open Go.RowKit Go.Proofs.YtlbedeiehhgphaaGreatDoorW.PrintWords Go.Proofs.YtlbedeiehhgphaaGreatDoorW.PrintLast Go.Proofs.YtlbedeiehhgphaaGreatDoorW.PrintMore
attribute [local go_sem] max2_int min2_int max_two min_two max_three min_three max_four min_four   -- for this text's walks alone
set_option linter.unusedVariables false
set_option linter.unusedSimpArgs false

-- given: function 61 (dec_parts)

/-! ### dec_PrintReal: function 48 -/
def dec_PrintReal.f (a0 : Int) : Option (ByteArray) := (dec_parts.f a0).bind fun bt101 => (if bt101.2.2.toList = ([] : List UInt8) then (if bt101.1.size + bt101.2.1.size ≤ 9223372036854775807 then (if (bt101.1 ++ bt101.2.1).size + 1 ≤ 9223372036854775807 then (if ((bt101.1 ++ bt101.2.1) ++ (⟨#[46]⟩ : ByteArray)).size + 1 ≤ 9223372036854775807 then (some (((bt101.1 ++ bt101.2.1) ++ (⟨#[46]⟩ : ByteArray)) ++ (⟨#[48]⟩ : ByteArray))) else (none)) else (none)) else (none)) else (if bt101.1.size + bt101.2.1.size ≤ 9223372036854775807 then (if (bt101.1 ++ bt101.2.1).size + 1 ≤ 9223372036854775807 then (if ((bt101.1 ++ bt101.2.1) ++ (⟨#[46]⟩ : ByteArray)).size + bt101.2.2.size ≤ 9223372036854775807 then (some (((bt101.1 ++ bt101.2.1) ++ (⟨#[46]⟩ : ByteArray)) ++ bt101.2.2)) else (none)) else (none)) else (none)))
set_option maxHeartbeats 8000000 in
set_option maxRecDepth 100000 in
theorem dec_PrintReal.calls (a0 : Int) (r : ByteArray) (w : World) (h : dec_PrintReal.f a0 = some r) :
    Calls Tryz.prog 48 #[.int .i64 a0] w fun e w' => e = .returned (.string r) ∧ Below w.heap.size w w' := by
  have HB := Aside0.mk (Below.refl w.heap.size w)
  have H : ((dec_parts.f a0).bind fun bt101 => (if bt101.2.2.toList = ([] : List UInt8) then (if bt101.1.size + bt101.2.1.size ≤ 9223372036854775807 then (if (bt101.1 ++ bt101.2.1).size + 1 ≤ 9223372036854775807 then (if ((bt101.1 ++ bt101.2.1) ++ (⟨#[46]⟩ : ByteArray)).size + 1 ≤ 9223372036854775807 then (some (((bt101.1 ++ bt101.2.1) ++ (⟨#[46]⟩ : ByteArray)) ++ (⟨#[48]⟩ : ByteArray))) else (none)) else (none)) else (none)) else (if bt101.1.size + bt101.2.1.size ≤ 9223372036854775807 then (if (bt101.1 ++ bt101.2.1).size + 1 ≤ 9223372036854775807 then (if ((bt101.1 ++ bt101.2.1) ++ (⟨#[46]⟩ : ByteArray)).size + bt101.2.2.size ≤ 9223372036854775807 then (some (((bt101.1 ++ bt101.2.1) ++ (⟨#[46]⟩ : ByteArray)) ++ bt101.2.2)) else (none)) else (none)) else (none)))) = some r := h
  clear h
  replace H := Option.bind_eq_some_iff.mp H
  obtain ⟨⟨t101, t102, t103⟩, A20, H⟩ := H
  replace H : (if t103.toList = ([] : List UInt8) then (if t101.size + t102.size ≤ 9223372036854775807 then (if (t101 ++ t102).size + 1 ≤ 9223372036854775807 then (if ((t101 ++ t102) ++ (⟨#[46]⟩ : ByteArray)).size + 1 ≤ 9223372036854775807 then (some (((t101 ++ t102) ++ (⟨#[46]⟩ : ByteArray)) ++ (⟨#[48]⟩ : ByteArray))) else (none)) else (none)) else (none)) else (if t101.size + t102.size ≤ 9223372036854775807 then (if (t101 ++ t102).size + 1 ≤ 9223372036854775807 then (if ((t101 ++ t102) ++ (⟨#[46]⟩ : ByteArray)).size + t103.size ≤ 9223372036854775807 then (some (((t101 ++ t102) ++ (⟨#[46]⟩ : ByteArray)) ++ t103)) else (none)) else (none)) else (none))) = some r := H
  have A2 := Aside0.mk A20
  clear A20
  by_cases c3 : t103.toList = ([] : List UInt8)
  · rw [if_pos c3] at H
    have c3b0 : (t103.toList == ([] : List UInt8)) = true := beq_iff_eq.mpr c3
    have c3b1 : (t103.toList != ([] : List UInt8)) = false := bne_eq_false_iff_eq.mpr c3
    clear c3
    by_cases c4 : t101.size + t102.size ≤ 9223372036854775807
    · rw [if_pos c4] at H
      have c4b0 := eq_true c4
      have c4b1 : decide (t101.size + t102.size ≤ 9223372036854775807) = true := decide_eq_true c4
      try have c4b2 : (9223372036854775807 < t101.size + t102.size) = False := eq_false (Nat.not_lt.2 c4)
      by_cases c5 : (t101 ++ t102).size + 1 ≤ 9223372036854775807
      · rw [if_pos c5] at H
        have c5b0 := eq_true c5
        have c5b1 : decide ((t101 ++ t102).size + 1 ≤ 9223372036854775807) = true := decide_eq_true c5
        try have c5b2 : (9223372036854775807 < (t101 ++ t102).size + 1) = False := eq_false (Nat.not_lt.2 c5)
        try (have c5b3 := eq_false (Nat.not_lt.2 c5); simp only [ByteArray.size_append, lit_size, List.size_toArray, List.length_cons, List.length_nil, Nat.zero_add, Nat.reduceAdd] at c5b3)
        by_cases c6 : ((t101 ++ t102) ++ (⟨#[46]⟩ : ByteArray)).size + 1 ≤ 9223372036854775807
        · rw [if_pos c6] at H
          have c6b0 := eq_true c6
          have c6b1 : decide (((t101 ++ t102) ++ (⟨#[46]⟩ : ByteArray)).size + 1 ≤ 9223372036854775807) = true := decide_eq_true c6
          try have c6b2 : (9223372036854775807 < ((t101 ++ t102) ++ (⟨#[46]⟩ : ByteArray)).size + 1) = False := eq_false (Nat.not_lt.2 c6)
          try (have c6b3 := eq_false (Nat.not_lt.2 c6); simp only [ByteArray.size_append, lit_size, List.size_toArray, List.length_cons, List.length_nil, Nat.zero_add, Nat.reduceAdd] at c6b3)
          obtain rfl := Option.some.inj H
          go_enter Tryz.func48, Tryz.ntmps48
          go_wp2_with (first | ((with_reducible refine gate_callee (f := 61) rfl ?_); refine goesL_ (some 8) rfl rfl Tryz.func61 (by kernel_rfl) rfl #[.int .i64 a0] rfl (by (try simp only [List.map_toArray, List.map_cons, List.map_nil]); first | done | rfl | (simp only [List.length_drop, List.length_take]; rfl)) ?_; (with_reducible refine (dec_parts.calls a0 t101 t102 t103 _ A2.out).mono ?_); rintro e w7 ⟨rfl, hb⟩; refine ⟨_, rfl, ?_⟩; have n0_ := Aside0.mk (below_step (by repeat (first | (with_reducible first | exact HB.out | apply below_alloc | apply pw_below_drewN | apply below_drew1) | exact HB.out)) hb); clear HB; have HB := n0_; clear n0_; (try clear hb); (try clear hb2); (try clear hk); (try clear hi)))
          go_ret
          exact ⟨by first | rfl | (simp [errW_none, errW_some] <;> rfl) | (simp [*, errW_none, errW_some] <;> rfl), by repeat (first | (with_reducible first | exact HB.out | apply below_alloc | apply pw_below_drewN | apply below_drew1) | exact HB.out)⟩
        · rw [if_neg c6] at H
          exact absurd H (by simp)
      · rw [if_neg c5] at H
        exact absurd H (by simp)
    · rw [if_neg c4] at H
      exact absurd H (by simp)
  · rw [if_neg c3] at H
    have c3b0 : (t103.toList == ([] : List UInt8)) = false := beq_eq_false_iff_ne.mpr c3
    have c3b1 : (t103.toList != ([] : List UInt8)) = true := bne_iff_ne.mpr c3
    by_cases c8 : t101.size + t102.size ≤ 9223372036854775807
    · rw [if_pos c8] at H
      have c8b0 := eq_true c8
      have c8b1 : decide (t101.size + t102.size ≤ 9223372036854775807) = true := decide_eq_true c8
      try have c8b2 : (9223372036854775807 < t101.size + t102.size) = False := eq_false (Nat.not_lt.2 c8)
      by_cases c9 : (t101 ++ t102).size + 1 ≤ 9223372036854775807
      · rw [if_pos c9] at H
        have c9b0 := eq_true c9
        have c9b1 : decide ((t101 ++ t102).size + 1 ≤ 9223372036854775807) = true := decide_eq_true c9
        try have c9b2 : (9223372036854775807 < (t101 ++ t102).size + 1) = False := eq_false (Nat.not_lt.2 c9)
        try (have c9b3 := eq_false (Nat.not_lt.2 c9); simp only [ByteArray.size_append, lit_size, List.size_toArray, List.length_cons, List.length_nil, Nat.zero_add, Nat.reduceAdd] at c9b3)
        by_cases c10 : ((t101 ++ t102) ++ (⟨#[46]⟩ : ByteArray)).size + t103.size ≤ 9223372036854775807
        · rw [if_pos c10] at H
          have c10b0 := eq_true c10
          have c10b1 : decide (((t101 ++ t102) ++ (⟨#[46]⟩ : ByteArray)).size + t103.size ≤ 9223372036854775807) = true := decide_eq_true c10
          try have c10b2 : (9223372036854775807 < ((t101 ++ t102) ++ (⟨#[46]⟩ : ByteArray)).size + t103.size) = False := eq_false (Nat.not_lt.2 c10)
          try (have c10b3 := eq_false (Nat.not_lt.2 c10); simp only [ByteArray.size_append, lit_size, List.size_toArray, List.length_cons, List.length_nil, Nat.zero_add, Nat.reduceAdd] at c10b3)
          obtain rfl := Option.some.inj H
          go_enter Tryz.func48, Tryz.ntmps48
          go_wp2_with (first | ((with_reducible refine gate_callee (f := 61) rfl ?_); refine goesL_ (some 8) rfl rfl Tryz.func61 (by kernel_rfl) rfl #[.int .i64 a0] rfl (by (try simp only [List.map_toArray, List.map_cons, List.map_nil]); first | done | rfl | (simp only [List.length_drop, List.length_take]; rfl)) ?_; (with_reducible refine (dec_parts.calls a0 t101 t102 t103 _ A2.out).mono ?_); rintro e w11 ⟨rfl, hb⟩; refine ⟨_, rfl, ?_⟩; have n0_ := Aside0.mk (below_step (by repeat (first | (with_reducible first | exact HB.out | apply below_alloc | apply pw_below_drewN | apply below_drew1) | exact HB.out)) hb); clear HB; have HB := n0_; clear n0_; (try clear hb); (try clear hb2); (try clear hk); (try clear hi)))
          go_ret
          exact ⟨by first | rfl | (simp [errW_none, errW_some] <;> rfl) | (simp [*, errW_none, errW_some] <;> rfl), by repeat (first | (with_reducible first | exact HB.out | apply below_alloc | apply pw_below_drewN | apply below_drew1) | exact HB.out)⟩
        · rw [if_neg c10] at H
          exact absurd H (by simp)
      · rw [if_neg c9] at H
        exact absurd H (by simp)
    · rw [if_neg c8] at H
      exact absurd H (by simp)

end Go.Proofs.YtlbedeiehhgphaaGreatDoor.PF

/-! ## CN -/
namespace Go.Proofs.YtlbedeiehhgphaaGreatDoor.CVR
open Go Go.RowKit Go.Proofs.YtlbedeiehhgphaaGreatDoor Go.Proofs.YtlbedeiehhgphaaGreatDoor.PF Go.Proofs.YtlbedeiehhgphaaGreatDoor.QD Go.Proofs.YtlbedeiehhgphaaGreatDoorW.PrintWords Go.Proofs.YtlbedeiehhgphaaGreatDoorW.PrintLast

theorem dig_ne (v : UInt8) (hv : isDig v = false) (a : List UInt8) (h : a.all isDig = true) : ∀ x ∈ a, x ≠ v := by
  intro x hx e
  have := List.all_eq_true.1 h x hx
  rw [e, hv] at this
  cases this
theorem mant_point (a b : List UInt8) (ha : a.all isDig = true) (hb : b.all isDig = true) (h0 : a ≠ []) : mantL (a ++ 46 :: b) = (a, b, true, true) := by
  have hc := cut1_split a (46 :: b) (dig_ne 46 (by decide) a ha)
  have h1 : 0 < a.length := List.length_pos_iff.2 h0
  unfold mantL
  rw [hc]
  simp [cut1, ha, hb]
  omega
theorem mant_plain (a : List UInt8) (ha : a.all isDig = true) (h0 : a ≠ []) : mantL a = (a, [], false, true) := by
  have hc := cut1_split a [] (dig_ne 46 (by decide) a ha)
  have h1 : 0 < a.length := List.length_pos_iff.2 h0
  rw [List.append_nil] at hc
  unfold mantL
  rw [hc]
  simp [cut1, ha]
  omega
theorem cut1_no (c : UInt8) (l : List UInt8) (h : ∀ x ∈ l, x ≠ c) : cut1 c l = (l, [], false) := by
  induction l with
  | nil => rfl
  | cons b l ih => rw [cut1, if_neg (h b (by simp)), ih (fun x hx => h x (by simp [hx]))]
theorem indexAny_no (l : List UInt8) (h : ∀ x ∈ l, x ≠ 101 ∧ x ≠ 69) : Lib.indexAny l [101, 69] = -1 := by
  induction l with
  | nil => rfl
  | cons b l ih =>
    obtain ⟨h1, h2⟩ := h b (by simp)
    rw [Lib.indexAny, if_neg (by simp [h1, h2]), ih (fun x hx => h x (by simp [hx]))]
    rfl
theorem indexAny_at (l t : List UInt8) (h : ∀ x ∈ l, x ≠ 101 ∧ x ≠ 69) : Lib.indexAny (l ++ 101 :: t) [101, 69] = (l.length : Int) := by
  induction l with
  | nil => rfl
  | cons b l ih =>
    obtain ⟨h1, h2⟩ := h b (by simp)
    have e := ih (fun x hx => h x (by simp [hx]))
    rw [List.cons_append, Lib.indexAny, if_neg (by simp [h1, h2]), e, if_neg (by first | (simp; done) | (simp; omega))]
    simp
theorem drop_at (l t : List UInt8) (c : UInt8) : (l ++ c :: t).drop (l.length + 1) = t := by
  rw [show l ++ c :: t = (l ++ [c]) ++ t from by simp]
  exact List.drop_left' (by simp)
theorem shift_zero (a b : List UInt8) : shiftL a b 0 = (a, b) := by
  unfold shiftL
  rw [show ((a.length : Int) + 0).toNat = a.length from by omega, show ((a.length : Int) + 0) = (a.length : Int) from by omega]
  unfold aOf bOf
  rw [List.append_assoc, List.take_left' rfl, show (-(a.length : Int)).toNat = 0 from by omega, Int.toNat_natCast, List.drop_left' rfl]
  rfl
theorem sgn_dig (x : List UInt8) (h : ∃ c t, x = c :: t ∧ isDig c = true) : sgnL x = (false, x) := by
  obtain ⟨c, t, rfl, hc⟩ := h
  have h45 : c ≠ 45 := fun e => by subst e; revert hc; decide
  have h43 : c ≠ 43 := fun e => by subst e; revert hc; decide
  simp [sgnL, h45, h43]
theorem head_dig (a x : List UInt8) (ha : a.all isDig = true) (h0 : a ≠ []) : ∃ c t, a ++ x = c :: t ∧ isDig c = true := by
  match a, h0 with
  | c :: t, _ => exact ⟨c, t ++ x, rfl, by simp only [List.all_cons, Bool.and_eq_true] at ha; exact ha.1⟩

/-- the sign of a number -/
def sgOf (m : Bool) : List UInt8 := if m then [45] else []
theorem sgn_of (m : Bool) (a x : List UInt8) (ha : a.all isDig = true) (h0 : a ≠ []) : sgnL (sgOf m ++ (a ++ x)) = (m, a ++ x) := by
  cases m with
  | true => rfl
  | false => exact sgn_dig _ (head_dig a x ha h0)

theorem tok_real (m : Bool) (r r1 a b : List UInt8) (f : Bool) (k z : Int) (hs : sgnL (sgOf m ++ r) = (m, r)) (hl : (sgOf m ++ r).length ≤ 64) (h35 : ∀ x ∈ r, x ≠ 35) (hbad : r.all isDig = false) (hex : expL r = (r1, k, true)) (hm : mantL r1 = (a, b, f, true))
    (hV : valueL m (shiftL a b k).1 (shiftL a b k).2 = (z, true)) : tokL (sgOf m ++ r) = (2, z, true, 0) := by
  have hrad : radixL (sgOf m ++ r) = (0, 0, false, 0) := by
    have : ∀ x ∈ sgOf m ++ r, x ≠ 35 := by
      intro x hx
      rcases List.mem_append.1 hx with h | h
      · cases m with
        | true => simp [sgOf] at h; rw [h]; decide
        | false => simp [sgOf] at h
      · exact h35 x h
    unfold radixL
    rw [cut1_no 35 _ this, if_pos (Or.inl rfl)]
  have hwh : wholeL (sgOf m ++ r) = (0, false) := by
    unfold wholeL
    rw [hs]
    simp [hbad]
  unfold tokL
  rw [if_neg (by omega), hrad, if_neg (by simp), hwh, if_neg (by simp), hs]
  simp only [hex, if_true]
  unfold realL
  simp only [hm, if_true, hV]

theorem value_back (m : Bool) (a b : List UInt8) (W F : Nat) (ha : a.all isDig = true) (hb : b.all isDig = true) (hW : valD a = W) (hW2 : W ≤ 99999) (hF : valN (digsOf b) * 65536 = F * 10 ^ (digsOf b).length) :
    valueL m a b = (if m then -((W * 65536 + F : Nat) : Int) else ((W * 65536 + F : Nat) : Int), fitsB (if m then -((W * 65536 + F : Nat) : Int) else ((W * 65536 + F : Nat) : Int))) := by
  have h5 := strip0_len a ha
  have hmag : magL a b = W * 65536 + F := by
    rw [mag_scl a b hb, hW, iterD_exact (digsOf b) F (digs9 b hb) hF]
    clear hF h5
    omega
  unfold valueL
  rw [if_neg (fun h => by have := h5.1 h; omega), hmag]

theorem fracs_len (k : Nat) : ∀ f, (fracs k f).length ≤ k := by
  induction k with
  | zero => intro f; exact Nat.le_refl _
  | succ k ih =>
    intro f
    by_cases h : f = 0
    · rw [h, fracs_zero]; simp
    · rw [fracs_succ h, List.length_cons]; have := ih (f * 10 % 65536); omega
theorem sign_of (z : Int) : signL z = sgOf (decide (z < 0)) := by
  unfold signL sgOf
  by_cases h : z < 0
  · rw [if_pos h, decide_eq_true h]; rfl
  · rw [if_neg h, decide_eq_false h]; rfl
/-- what stands behind the point -/
def fracR (f : Nat) : List UInt8 := if fracs 16 f = [] then [48] else fracs 16 f
theorem fracR_ok (f : Nat) (hf : f < 65536) : (fracR f).all isDig = true ∧ valN (digsOf (fracR f)) * 65536 = f * 10 ^ (digsOf (fracR f)).length ∧ (fracR f).length ≤ 16 := by
  obtain ⟨h1, h2⟩ := fracs_val 16 f hf (by simp) (Nat.le_refl _)
  have hl := fracs_len 16 f
  unfold fracR
  split
  · rename_i h
    rw [h] at h1
    have h0 : f = 0 := by simpa [digsOf, valN] using h1.symm
    subst h0
    exact ⟨by decide, by decide, by decide⟩
  · exact ⟨h2, by rw [digsOf_len]; exact h1, hl⟩

def realT (z : Int) : List UInt8 := sgOf (decide (z < 0)) ++ (digs (z.natAbs / 65536) ++ 46 :: fracR (z.natAbs % 65536))
theorem tok_realT (z : Int) (h1 : -2147483648 ≤ z) (h2 : z ≤ 2147483647) : tokL (realT z) = (2, z, true, 0) ∧ 0 < (realT z).length ∧ (realT z).length ≤ 60 := by
  obtain ⟨hv, hd, h0⟩ := digs_val 5 (z.natAbs / 65536) (by omega)
  have hdl := digs_len (z.natAbs / 65536) (by omega)
  obtain ⟨f1, f2, f3⟩ := fracR_ok (z.natAbs % 65536) (by omega)
  have hsl : (sgOf (decide (z < 0))).length ≤ 1 := by cases decide (z < 0) <;> simp [sgOf]
  have hlen : (realT z).length ≤ 60 := by unfold realT; simp only [List.length_append, List.length_cons]; omega
  refine ⟨?_, by unfold realT; simp only [List.length_append, List.length_cons]; omega, hlen⟩
  have hz : (if decide (z < 0) = true then -((z.natAbs / 65536 * 65536 + z.natAbs % 65536 : Nat) : Int) else ((z.natAbs / 65536 * 65536 + z.natAbs % 65536 : Nat) : Int)) = z := by
    by_cases h : z < 0
    · rw [if_pos (decide_eq_true h)]; omega
    · rw [if_neg (by simp [h])]; omega
  have hfit : fitsB z = true := by unfold fitsB; rw [decide_eq_true h1, decide_eq_true h2]; rfl
  unfold realT
  refine tok_real (decide (z < 0)) _ _ (digs (z.natAbs / 65536)) (fracR (z.natAbs % 65536)) true 0 z (sgn_of _ _ _ hd h0) (by unfold realT at hlen; omega) ?_ ?_ ?_ (mant_point _ _ hd f1 h0) ?_
  · intro x hx
    rcases List.mem_append.1 hx with h | h
    · exact dig_ne 35 (by decide) _ hd x h
    · rcases List.mem_cons.1 h with h | h
      · rw [h]; decide
      · exact dig_ne 35 (by decide) _ f1 x h
  · rw [List.all_append, List.all_cons]
    simp [show isDig 46 = false from by decide]
  · unfold expL
    rw [indexAny_no _ (fun x hx => ?_), if_pos (by omega)]
    rcases List.mem_append.1 hx with h | h
    · exact ⟨dig_ne 101 (by decide) _ hd x h, dig_ne 69 (by decide) _ hd x h⟩
    · rcases List.mem_cons.1 h with h | h
      · rw [h]; decide
      · exact ⟨dig_ne 101 (by decide) _ f1 x h, dig_ne 69 (by decide) _ f1 x h⟩
  · rw [shift_zero]
    show valueL _ (digs (z.natAbs / 65536)) (fracR (z.natAbs % 65536)) = _
    rw [value_back (decide (z < 0)) _ _ (z.natAbs / 65536) (z.natAbs % 65536) hd f1 hv (by omega) f2, hz, hfit]

theorem print_real (z : Int) (h1 : -2147483648 ≤ z) (h2 : z ≤ 2147483647) : dec_PrintReal.f z = some (S (realT z)) := by
  have hc : clip z = z := by
    have hfit : fitsB z = true := by unfold fitsB; rw [decide_eq_true h1, decide_eq_true h2]; rfl
    unfold clip
    rw [if_pos hfit]
  have hp : dec_parts.f z = some (S (sgOf (decide (z < 0))), S (digs (z.natAbs / 65536)), S (fracs 16 (z.natAbs % 65536))) := by
    unfold dec_parts.f
    rw [hc, sign_of]
    rfl
  have hdl := digs_len (z.natAbs / 65536) (by omega)
  have hsl : (sgOf (decide (z < 0))).length ≤ 1 := by cases decide (z < 0) <;> simp [sgOf]
  have hfl := fracs_len 16 (z.natAbs % 65536)
  have e46 : (⟨#[46]⟩ : ByteArray) = S [46] := rfl
  have e48 : (⟨#[48]⟩ : ByteArray) = S [48] := rfl
  unfold dec_PrintReal.f
  rw [hp]
  simp only [Option.bind_some, S_list, e46, e48, S_append, S_size, List.length_append, List.length_cons, List.length_nil]
  by_cases hf : fracs 16 (z.natAbs % 65536) = []
  · rw [if_pos hf, if_pos (by omega), if_pos (by omega), if_pos (by omega)]
    unfold realT fracR
    rw [if_pos hf]
    simp
  · rw [if_neg hf, if_pos (by omega), if_pos (by omega), if_pos (by omega)]
    unfold realT fracR
    rw [if_neg hf]
    simp

end Go.Proofs.YtlbedeiehhgphaaGreatDoor.CVR
namespace Go.Proofs.YtlbedeiehhgphaaGreatDoor.CV
open Go Go.RowKit Go.ChangeShapes Go.Proofs Go.Proofs.YtlbedeiehhgphaaGreatDoor Go.Proofs.YtlbedeiehhgphaaGreatDoor.QD Go.Proofs.YtlbedeiehhgphaaGreatDoorW.PrintWords Go.Proofs.YtlbedeiehhgphaaGreatDoorW.PrintLast
/-- ConvBack at every input -/
theorem back_all (z : Int) (b : Bool) (w : World) (hw : (Lit.int .i32 z).wf = true) (ht : Tab w) :
    Calls Tryz.prog 3 #[.int .i32 z, .bool b] w fun e w' => e = .returned (.bool true) ∧ Below w.heap.size w w' := by
  simp [Lit.wf, IntKind.min, IntKind.max, IntKind.signed, IntKind.bits] at hw
  cases b with
  | false => exact back_int_all z w (by omega) (by omega) ht
  | true =>
    obtain ⟨h1, h2, h3⟩ := CVR.tok_realT z (by omega) (by omega)
    exact back_real z (CVR.realT z) w (by omega) (by omega) (fun W hb => answers_true W (tab_below ht hb)) (fun W _ => PF.dec_PrintReal.calls z _ W (CVR.print_real z (by omega) (by omega))) h2 h3 h1

end Go.Proofs.YtlbedeiehhgphaaGreatDoor.CV
