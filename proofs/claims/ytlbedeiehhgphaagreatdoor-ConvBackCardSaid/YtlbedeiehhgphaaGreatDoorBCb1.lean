/- Made by a program of this session (wip/given.py) out of the translation: Lean functions for the Go functions, with the walks that show it; of a law: its row, at every input, no condition of its own. Made by a program of this session (wip/given.py) out of the translation: Lean functions for the Go functions, with the walks that show it; of a law: its row, at every input, no condition of its own. dec.signed, dec.plain in list words; []byte(s) as a row that is read; dec.power. The contracts of strings.Builder's copyCheck and WriteByte at this translation (whose copyCheck has a refused statement in the place of its panic, so that the shelf's contract does not fit). dec.digits and dec.parts: what they answer, by the walk. dec.double and dec.value. Strings by their bytes; the digits of a text; the value of digits, as the program and as the reference reckon it. The store's strings, and what may be asked of them: contracts, walked by hand. The store's strings: is, text, Bytes, Part. The store's strings: access, Bytes; a new store. -/
import Derived.Test.YtlbedeiehhgphaaGreatDoorProg
import Derived.Below
import Derived.Deep.Draws
import Derived.Deep.AppendLies
import Derived.Maps.AppendAt
import Derived.OwnWalk
import Derived.Laws.BytesArg
import Derived.Laws.MakeOwn
import Derived.Laws.OwnMore
import Derived.Deep.OwnRows
import Derived.Tactics
import Derived.Lib.ConvBytes
import Derived.Laws.Slices
import Derived.WalkKit
import Derived.KernelRfl
import Derived.RowKit3
import Derived.Deep.LoopGhost
import Derived.Deep.QuietTactic
import Derived.BigQuiet
import Derived.WideLaws
import Derived.Deep.DeepCutAuto
import Derived.Deep.CutBlock
import Derived.Deep.RegionHeld3
import Derived.Laws.Rows
import Derived.Lib.AppendStr
import Derived.ArgAppend
import Derived.Laws.IdiomCopy
import Derived.OrdersHeld
import Derived.Laws.BitsLemmas
import Derived.RowKit
import Derived.Test.YtlbedeiehhgphaaGreatDoorBCb0
import Derived.Test.YtlbedeiehhgphaaGreatDoorWWords
import Derived.Test.YtlbedeiehhgphaaGreatDoorWLast
import Derived.Test.YtlbedeiehhgphaaGreatDoorWTab
import Derived.Test.YtlbedeiehhgphaaGreatDoorWFour
import Derived.Test.YtlbedeiehhgphaaGreatDoorWQPut
import Derived.Test.YtlbedeiehhgphaaGreatDoorWApart
import Derived.Test.YtlbedeiehhgphaaGreatDoorWArr
import Derived.Test.YtlbedeiehhgphaaGreatDoorWZeros
import Derived.Test.YtlbedeiehhgphaaGreatDoorWFoot
import Derived.Test.YtlbedeiehhgphaaGreatDoorWKept
import Derived.Test.YtlbedeiehhgphaaGreatDoorWShare
import Derived.Test.YtlbedeiehhgphaaGreatDoorWN
import Derived.Test.YtlbedeiehhgphaaGreatDoorWFootNe
import Derived.Test.YtlbedeiehhgphaaGreatDoorWAt
import Derived.Test.YtlbedeiehhgphaaGreatDoorWEqStruct
import Derived.Test.YtlbedeiehhgphaaGreatDoorWRepsOne
import Derived.Test.YtlbedeiehhgphaaGreatDoorWInv
import Derived.Test.YtlbedeiehhgphaaGreatDoorWInvWords
import Derived.Test.YtlbedeiehhgphaaGreatDoorWGuard
import Derived.Test.YtlbedeiehhgphaaGreatDoorWNEv
import Derived.Test.YtlbedeiehhgphaaGreatDoorWMore
import Derived.Lib.SlTrimSet
import Derived.Shelf.Strings.BuilderX
import Derived.Lib.Strings
import Derived.Lib.Slices
import Derived.Lib.Walk
import Derived.Lib.Builder
import Derived.Lib.UnsafeStr
import Derived.Lib.MakeNoZero
import Derived.Laws.Externs
import Derived.Laws.Runes
import Derived.Laws.Cover4
import Derived.IntWalk
import Derived.Lib.Hide
import Derived.Deep.RegionWith
import Derived.RegionTactic
import Derived.BigRegion

/-! ## PRx0 -/
namespace Go.Proofs.YtlbedeiehhgphaaGreatDoor.PR
open Go.RowKit Go.Proofs.YtlbedeiehhgphaaGreatDoorW.PrintWords Go.Proofs.YtlbedeiehhgphaaGreatDoorW.PrintLast Go.Proofs.YtlbedeiehhgphaaGreatDoorW.PrintMore
attribute [local go_sem] max2_int min2_int max_two min_two max_three min_three max_four min_four   -- for this text's walks alone
set_option linter.unusedVariables false
set_option linter.unusedSimpArgs false



def errW : Option Int → Value
  | none => .nilIface
  | some c => .iface 0 (.int .i64 c)
theorem errW_none : errW none = .nilIface := rfl
theorem errW_some (c : Int) : errW (some c) = .iface 0 (.int .i64 c) := rfl

-- the values' own types

end Go.Proofs.YtlbedeiehhgphaaGreatDoor.PR

/-! ## PRx1 -/
namespace Go.Proofs.YtlbedeiehhgphaaGreatDoor.PR
open Go.RowKit Go.Proofs.YtlbedeiehhgphaaGreatDoorW.PrintWords Go.Proofs.YtlbedeiehhgphaaGreatDoorW.PrintLast Go.Proofs.YtlbedeiehhgphaaGreatDoorW.PrintMore
attribute [local go_sem] max2_int min2_int max_two min_two max_three min_three max_four min_four   -- for this text's walks alone
set_option linter.unusedVariables false
set_option linter.unusedSimpArgs false

/-! ### dec_signed: function 89 -/
def dec_signed.f (a0 : ByteArray) : Option (Bool × ByteArray) := if a0.toList = ([] : List UInt8) then (some (false, a0)) else (if 0 < (a0.size : Int) then (if (bt a0 0) = 45 then (if 1 ≤ (a0.size : Int) then (some (((bt a0 0) == 45), a0.extract 1 a0.size)) else (none)) else (if (bt a0 0) = 43 then (if 1 ≤ (a0.size : Int) then (some (((bt a0 0) == 45), a0.extract 1 a0.size)) else (none)) else (some (false, a0)))) else (none))
set_option maxHeartbeats 8000000 in
set_option maxRecDepth 100000 in
theorem dec_signed.calls (a0 : ByteArray) (r1 : Bool) (r2 : ByteArray) (w : World) (h : dec_signed.f a0 = some (r1, r2)) :
    Calls Tryz.prog 89 #[.string a0] w fun e w' => e = .returned (.tuple #[.bool r1, .string r2]) ∧ Drawn0 w w' := by
  have H : (if a0.toList = ([] : List UInt8) then (some (false, a0)) else (if 0 < (a0.size : Int) then (if (bt a0 0) = 45 then (if 1 ≤ (a0.size : Int) then (some (((bt a0 0) == 45), a0.extract 1 a0.size)) else (none)) else (if (bt a0 0) = 43 then (if 1 ≤ (a0.size : Int) then (some (((bt a0 0) == 45), a0.extract 1 a0.size)) else (none)) else (some (false, a0)))) else (none))) = some (r1, r2) := h
  clear h
  by_cases c2 : a0.toList = ([] : List UInt8)
  · rw [if_pos c2] at H
    have c2b0 : (a0.toList == ([] : List UInt8)) = true := beq_iff_eq.mpr c2
    have c2b1 : (a0.toList != ([] : List UInt8)) = false := bne_eq_false_iff_eq.mpr c2
    clear c2
    simp only [Option.some.injEq, Prod.mk.injEq] at H
    obtain ⟨rfl, rfl⟩ := H
    go_enter Tryz.func89, Tryz.ntmps89
    go_wp2
    repeat (go_quiet (fail); try go_wp2)
    go_ret2
    exact ⟨by first | rfl | (simp; done) | (simp [*]; done), by repeat (first | exact Drawn0.refl _ | apply Drawn0.step)⟩
  · rw [if_neg c2] at H
    have c2b0 : (a0.toList == ([] : List UInt8)) = false := beq_eq_false_iff_ne.mpr c2
    have c2b1 : (a0.toList != ([] : List UInt8)) = true := bne_iff_ne.mpr c2
    by_cases c3 : 0 < (a0.size : Int)
    · rw [if_pos c3] at H
      have c3b0 : decide (0 < (a0.size : Int)) = true := decide_eq_true c3
      have c3b1 : decide (0 < a0.size) = true := decide_eq_true (by omega)
      clear c3
      by_cases c5 : (bt a0 0) = 45
      · rw [if_pos c5] at H
        have c5b0 : ((bt a0 0) == 45) = true := beq_iff_eq.mpr c5
        have c5b1 : ((bt a0 0) != 45) = false := bne_eq_false_iff_eq.mpr c5
        clear c5
        by_cases c7 : 1 ≤ (a0.size : Int)
        · rw [if_pos c7] at H
          have c7b0 := eq_true c7
          have c7b1 : decide (1 ≤ (a0.size : Int)) = true := decide_eq_true c7
          clear c7
          simp only [Option.some.injEq, Prod.mk.injEq] at H
          obtain ⟨rfl, rfl⟩ := H
          have p4 : 0 ≤ (0 : Int) := (by omega)
          have q4 : 0 < a0.size := (by have : (0 : Int) < (a0.size : Int) := of_decide_eq_true (by first | (with_reducible assumption) | assumption); omega)
          have hx4 : ∀ h : 0 < a0.size, ((a0[0]'h).toNat : Int) = bt a0 0 := bt_at a0 0
          clear p4
          have qi4 : (0 < (a0.size : Int)) = True := eq_true (of_decide_eq_true (by first | (with_reducible assumption) | assumption))
          replace q4 := eq_true q4
          have p6 : 0 ≤ (0 : Int) := (by omega)
          have q6 : 0 < a0.size := (by have : (0 : Int) < (a0.size : Int) := of_decide_eq_true (by first | (with_reducible assumption) | assumption); omega)
          have hx6 : ∀ h : 0 < a0.size, ((a0[0]'h).toNat : Int) = bt a0 0 := bt_at a0 0
          clear p6
          have qi6 : (0 < (a0.size : Int)) = True := eq_true (of_decide_eq_true (by first | (with_reducible assumption) | assumption))
          replace q6 := eq_true q6
          go_enter Tryz.func89, Tryz.ntmps89
          go_wp2
          repeat (go_quiet (fail); try go_wp2)
          go_ret2
          exact ⟨by first | rfl | (simp; done) | (simp [*]; done), by repeat (first | exact Drawn0.refl _ | apply Drawn0.step)⟩
        · rw [if_neg c7] at H
          exact absurd H (by simp)
      · rw [if_neg c5] at H
        have c5b0 : ((bt a0 0) == 45) = false := beq_eq_false_iff_ne.mpr c5
        have c5b1 : ((bt a0 0) != 45) = true := bne_iff_ne.mpr c5
        by_cases c9 : (bt a0 0) = 43
        · rw [if_pos c9] at H
          have c9b0 : ((bt a0 0) == 43) = true := beq_iff_eq.mpr c9
          have c9b1 : ((bt a0 0) != 43) = false := bne_eq_false_iff_eq.mpr c9
          clear c9
          by_cases c11 : 1 ≤ (a0.size : Int)
          · rw [if_pos c11] at H
            have c11b0 := eq_true c11
            have c11b1 : decide (1 ≤ (a0.size : Int)) = true := decide_eq_true c11
            clear c11
            simp only [Option.some.injEq, Prod.mk.injEq] at H
            obtain ⟨rfl, rfl⟩ := H
            have p4 : 0 ≤ (0 : Int) := (by omega)
            have q4 : 0 < a0.size := (by have : (0 : Int) < (a0.size : Int) := of_decide_eq_true (by first | (with_reducible assumption) | assumption); omega)
            have hx4 : ∀ h : 0 < a0.size, ((a0[0]'h).toNat : Int) = bt a0 0 := bt_at a0 0
            clear p4
            have qi4 : (0 < (a0.size : Int)) = True := eq_true (of_decide_eq_true (by first | (with_reducible assumption) | assumption))
            replace q4 := eq_true q4
            have p8 : 0 ≤ (0 : Int) := (by omega)
            have q8 : 0 < a0.size := (by have : (0 : Int) < (a0.size : Int) := of_decide_eq_true (by first | (with_reducible assumption) | assumption); omega)
            have hx8 : ∀ h : 0 < a0.size, ((a0[0]'h).toNat : Int) = bt a0 0 := bt_at a0 0
            clear p8
            have qi8 : (0 < (a0.size : Int)) = True := eq_true (of_decide_eq_true (by first | (with_reducible assumption) | assumption))
            replace q8 := eq_true q8
            have p10 : 0 ≤ (0 : Int) := (by omega)
            have q10 : 0 < a0.size := (by have : (0 : Int) < (a0.size : Int) := of_decide_eq_true (by first | (with_reducible assumption) | assumption); omega)
            have hx10 : ∀ h : 0 < a0.size, ((a0[0]'h).toNat : Int) = bt a0 0 := bt_at a0 0
            clear p10
            have qi10 : (0 < (a0.size : Int)) = True := eq_true (of_decide_eq_true (by first | (with_reducible assumption) | assumption))
            replace q10 := eq_true q10
            go_enter Tryz.func89, Tryz.ntmps89
            go_wp2
            repeat (go_quiet (fail); try go_wp2)
            go_ret2
            exact ⟨by first | rfl | (simp; done) | (simp [*]; done), by repeat (first | exact Drawn0.refl _ | apply Drawn0.step)⟩
          · rw [if_neg c11] at H
            exact absurd H (by simp)
        · rw [if_neg c9] at H
          have c9b0 : ((bt a0 0) == 43) = false := beq_eq_false_iff_ne.mpr c9
          have c9b1 : ((bt a0 0) != 43) = true := bne_iff_ne.mpr c9
          simp only [Option.some.injEq, Prod.mk.injEq] at H
          obtain ⟨rfl, rfl⟩ := H
          have p4 : 0 ≤ (0 : Int) := (by omega)
          have q4 : 0 < a0.size := (by have : (0 : Int) < (a0.size : Int) := of_decide_eq_true (by first | (with_reducible assumption) | assumption); omega)
          have hx4 : ∀ h : 0 < a0.size, ((a0[0]'h).toNat : Int) = bt a0 0 := bt_at a0 0
          clear p4
          have qi4 : (0 < (a0.size : Int)) = True := eq_true (of_decide_eq_true (by first | (with_reducible assumption) | assumption))
          replace q4 := eq_true q4
          have p8 : 0 ≤ (0 : Int) := (by omega)
          have q8 : 0 < a0.size := (by have : (0 : Int) < (a0.size : Int) := of_decide_eq_true (by first | (with_reducible assumption) | assumption); omega)
          have hx8 : ∀ h : 0 < a0.size, ((a0[0]'h).toNat : Int) = bt a0 0 := bt_at a0 0
          clear p8
          have qi8 : (0 < (a0.size : Int)) = True := eq_true (of_decide_eq_true (by first | (with_reducible assumption) | assumption))
          replace q8 := eq_true q8
          go_enter Tryz.func89, Tryz.ntmps89
          go_wp2
          repeat (go_quiet (fail); try go_wp2)
          go_ret2
          exact ⟨by first | rfl | (simp; done) | (simp [*]; done), by repeat (first | exact Drawn0.refl _ | apply Drawn0.step)⟩
    · rw [if_neg c3] at H
      exact absurd H (by simp)

-- given: function 105 (strings_Cut)

-- given: function 121 (strings_Trim)

/-! ### dec_plain: function 106 -/
def dec_plain.f (a0 : ByteArray) : Option (Bool) := (strings_Trim.f a0 (⟨#[48, 49, 50, 51, 52, 53, 54, 55, 56, 57]⟩ : ByteArray)).bind fun t101 => (some (t101.toList == ([] : List UInt8)))
set_option maxHeartbeats 8000000 in
set_option maxRecDepth 100000 in
theorem dec_plain.calls (a0 : ByteArray) (r : Bool) (w : World) (h : dec_plain.f a0 = some r) :
    Calls Tryz.prog 106 #[.string a0] w fun e w' => e = .returned (.bool r) ∧ Below w.heap.size w w' := by
  have HB := Aside0.mk (Below.refl w.heap.size w)
  have H : ((strings_Trim.f a0 (⟨#[48, 49, 50, 51, 52, 53, 54, 55, 56, 57]⟩ : ByteArray)).bind fun t101 => (some (t101.toList == ([] : List UInt8)))) = some r := h
  clear h
  replace H := Option.bind_eq_some_iff.mp H
  obtain ⟨t101, A20, H⟩ := H
  replace H : (some (t101.toList == ([] : List UInt8))) = some r := H
  have A2 := Aside0.mk A20
  clear A20
  obtain rfl := Option.some.inj H
  go_enter Tryz.func106, Tryz.ntmps106
  go_wp2_with (first | ((with_reducible refine gate_callee (f := 121) rfl ?_); refine goesL_ (some 4) rfl rfl Tryz.func121 (by kernel_rfl) rfl #[.string a0, .string (⟨#[48, 49, 50, 51, 52, 53, 54, 55, 56, 57]⟩ : ByteArray)] rfl (by (try simp only [List.map_toArray, List.map_cons, List.map_nil]); first | done | rfl | (simp only [List.length_drop, List.length_take]; rfl)) ?_; (with_reducible refine (strings_Trim.calls a0 (⟨#[48, 49, 50, 51, 52, 53, 54, 55, 56, 57]⟩ : ByteArray) t101 _ A2.out).mono ?_); rintro e w3 ⟨rfl, hb⟩; refine ⟨_, rfl, ?_⟩; have n0_ := Aside0.mk (below_step (by repeat (first | (with_reducible first | exact HB.out | apply below_alloc | apply pw_below_drewN | apply below_drew1) | exact HB.out)) hb); clear HB; have HB := n0_; clear n0_; (try clear hb); (try clear hb2); (try clear hk); (try clear hi)))
  go_ret
  exact ⟨by first | rfl | (simp [errW_none, errW_some] <;> rfl) | (simp [*, errW_none, errW_some] <;> rfl), by repeat (first | (with_reducible first | exact HB.out | apply below_alloc | apply pw_below_drewN | apply below_drew1) | exact HB.out)⟩

/-! ### dec_mantissa: function 92 -/
def dec_mantissa.f (a0 : ByteArray) : Option (ByteArray × ByteArray × Bool × Bool) := (strings_Cut.f a0 (⟨#[46]⟩ : ByteArray)).bind fun bt102 => ((dec_plain.f bt102.1).bind fun t105 => (if t105 = true then ((dec_plain.f bt102.2.1).bind fun t106 => (if t106 = true then (some (bt102.1, bt102.2.1, bt102.2.2, decide ((wrap64 ((bt102.1.size : Int) + (bt102.2.1.size : Int))) > 0))) else (some (bt102.1, bt102.2.1, bt102.2.2, false)))) else (some (bt102.1, bt102.2.1, bt102.2.2, false))))
set_option maxHeartbeats 8000000 in
set_option maxRecDepth 100000 in
theorem dec_mantissa.calls (a0 : ByteArray) (r1 : ByteArray) (r2 : ByteArray) (r3 : Bool) (r4 : Bool) (w : World) (h : dec_mantissa.f a0 = some (r1, r2, r3, r4)) :
    Calls Tryz.prog 92 #[.string a0] w fun e w' => e = .returned (.tuple #[.string r1, .string r2, .bool r3, .bool r4]) ∧ Below w.heap.size w w' := by
  have HB := Aside0.mk (Below.refl w.heap.size w)
  have H : ((strings_Cut.f a0 (⟨#[46]⟩ : ByteArray)).bind fun bt102 => ((dec_plain.f bt102.1).bind fun t105 => (if t105 = true then ((dec_plain.f bt102.2.1).bind fun t106 => (if t106 = true then (some (bt102.1, bt102.2.1, bt102.2.2, decide ((wrap64 ((bt102.1.size : Int) + (bt102.2.1.size : Int))) > 0))) else (some (bt102.1, bt102.2.1, bt102.2.2, false)))) else (some (bt102.1, bt102.2.1, bt102.2.2, false))))) = some (r1, r2, r3, r4) := h
  clear h
  replace H := Option.bind_eq_some_iff.mp H
  obtain ⟨⟨t102, t103, t104⟩, A20, H⟩ := H
  replace H : ((dec_plain.f t102).bind fun t105 => (if t105 = true then ((dec_plain.f t103).bind fun t106 => (if t106 = true then (some (t102, t103, t104, decide ((wrap64 ((t102.size : Int) + (t103.size : Int))) > 0))) else (some (t102, t103, t104, false)))) else (some (t102, t103, t104, false)))) = some (r1, r2, r3, r4) := H
  have A2 := Aside0.mk A20
  clear A20
  replace H := Option.bind_eq_some_iff.mp H
  obtain ⟨t105, A30, H⟩ := H
  replace H : (if t105 = true then ((dec_plain.f t103).bind fun t106 => (if t106 = true then (some (t102, t103, t104, decide ((wrap64 ((t102.size : Int) + (t103.size : Int))) > 0))) else (some (t102, t103, t104, false)))) else (some (t102, t103, t104, false))) = some (r1, r2, r3, r4) := H
  have A3 := Aside0.mk A30
  clear A30
  by_cases c4 : t105 = true
  · subst c4
    have H1 : ((dec_plain.f t103).bind fun t106 => (if t106 = true then (some (t102, t103, t104, decide ((wrap64 ((t102.size : Int) + (t103.size : Int))) > 0))) else (some (t102, t103, t104, false)))) = some (r1, r2, r3, r4) := by rw [if_pos rfl] at H; exact H
    clear H
    have H := H1
    clear H1
    replace H := Option.bind_eq_some_iff.mp H
    obtain ⟨t106, A50, H⟩ := H
    replace H : (if t106 = true then (some (t102, t103, t104, decide ((wrap64 ((t102.size : Int) + (t103.size : Int))) > 0))) else (some (t102, t103, t104, false))) = some (r1, r2, r3, r4) := H
    have A5 := Aside0.mk A50
    clear A50
    by_cases c6 : t106 = true
    · subst c6
      have H1 : (some (t102, t103, t104, decide ((wrap64 ((t102.size : Int) + (t103.size : Int))) > 0))) = some (r1, r2, r3, r4) := by rw [if_pos rfl] at H; exact H
      clear H
      have H := H1
      clear H1
      simp only [Option.some.injEq, Prod.mk.injEq] at H
      obtain ⟨rfl, rfl, rfl, rfl⟩ := H
      go_enter Tryz.func92, Tryz.ntmps92
      go_wp2_with (first | ((with_reducible refine gate_callee (f := 105) rfl ?_); refine goesL_ (some 8) rfl rfl Tryz.func105 (by kernel_rfl) rfl #[.string a0, .string (⟨#[46]⟩ : ByteArray)] rfl (by (try simp only [List.map_toArray, List.map_cons, List.map_nil]); first | done | rfl | (simp only [List.length_drop, List.length_take]; rfl)) ?_; (with_reducible refine (strings_Cut.calls a0 (⟨#[46]⟩ : ByteArray) t102 t103 t104 _ A2.out).mono ?_); rintro e w7 ⟨rfl, hb⟩; refine ⟨_, rfl, ?_⟩; have n0_ := Aside0.mk (below_step (by repeat (first | (with_reducible first | exact HB.out | apply below_alloc | apply pw_below_drewN | apply below_drew1) | exact HB.out)) hb); clear HB; have HB := n0_; clear n0_; (try clear hb); (try clear hb2); (try clear hk); (try clear hi)) | ((with_reducible refine gate_callee (f := 106) rfl ?_); refine goesL_ (some 16) rfl rfl Tryz.func106 (by kernel_rfl) rfl #[.string t102] rfl (by (try simp only [List.map_toArray, List.map_cons, List.map_nil]); first | done | rfl | (simp only [List.length_drop, List.length_take]; rfl)) ?_; (with_reducible refine (dec_plain.calls t102 true _ A3.out).mono ?_); rintro e w8 ⟨rfl, hb⟩; refine ⟨_, rfl, ?_⟩; have n0_ := Aside0.mk (below_step (by repeat (first | (with_reducible first | exact HB.out | apply below_alloc | apply pw_below_drewN | apply below_drew1) | exact HB.out)) hb); clear HB; have HB := n0_; clear n0_; (try clear hb); (try clear hb2); (try clear hk); (try clear hi)) | (go_at_call 106; (with_reducible refine (dec_plain.calls t103 true _ A5.out).mono ?_); rintro e w9 ⟨rfl, hb⟩; have n0_ := Aside0.mk (below_step (by repeat (first | (with_reducible first | exact HB.out | apply below_alloc | apply pw_below_drewN | apply below_drew1) | exact HB.out)) hb); clear HB; have HB := n0_; clear n0_; (try clear hb); (try clear hb2); (try clear hk); (try clear hi)))
      refine bodyPost_ret (results_list (rs := [.tmp 2, .tmp 3, .tmp 4, .tmp 5]) rfl (by simp) (.tmp (.tmp (.tmp (.tmp .nil))))) rfl ?_
      exact ⟨by first | rfl | (simp [errW_none, errW_some] <;> rfl) | (simp [*, errW_none, errW_some] <;> rfl), by repeat (first | (with_reducible first | exact HB.out | apply below_alloc | apply pw_below_drewN | apply below_drew1) | exact HB.out)⟩
    · replace c6 := Bool.eq_false_iff.mpr c6
      subst c6
      have H1 : (some (t102, t103, t104, false)) = some (r1, r2, r3, r4) := by rw [if_neg (show ¬ (false = true) by decide)] at H; exact H
      clear H
      have H := H1
      clear H1
      simp only [Option.some.injEq, Prod.mk.injEq] at H
      obtain ⟨rfl, rfl, rfl, rfl⟩ := H
      go_enter Tryz.func92, Tryz.ntmps92
      go_wp2_with (first | ((with_reducible refine gate_callee (f := 105) rfl ?_); refine goesL_ (some 8) rfl rfl Tryz.func105 (by kernel_rfl) rfl #[.string a0, .string (⟨#[46]⟩ : ByteArray)] rfl (by (try simp only [List.map_toArray, List.map_cons, List.map_nil]); first | done | rfl | (simp only [List.length_drop, List.length_take]; rfl)) ?_; (with_reducible refine (strings_Cut.calls a0 (⟨#[46]⟩ : ByteArray) t102 t103 t104 _ A2.out).mono ?_); rintro e w10 ⟨rfl, hb⟩; refine ⟨_, rfl, ?_⟩; have n0_ := Aside0.mk (below_step (by repeat (first | (with_reducible first | exact HB.out | apply below_alloc | apply pw_below_drewN | apply below_drew1) | exact HB.out)) hb); clear HB; have HB := n0_; clear n0_; (try clear hb); (try clear hb2); (try clear hk); (try clear hi)) | ((with_reducible refine gate_callee (f := 106) rfl ?_); refine goesL_ (some 16) rfl rfl Tryz.func106 (by kernel_rfl) rfl #[.string t102] rfl (by (try simp only [List.map_toArray, List.map_cons, List.map_nil]); first | done | rfl | (simp only [List.length_drop, List.length_take]; rfl)) ?_; (with_reducible refine (dec_plain.calls t102 true _ A3.out).mono ?_); rintro e w11 ⟨rfl, hb⟩; refine ⟨_, rfl, ?_⟩; have n0_ := Aside0.mk (below_step (by repeat (first | (with_reducible first | exact HB.out | apply below_alloc | apply pw_below_drewN | apply below_drew1) | exact HB.out)) hb); clear HB; have HB := n0_; clear n0_; (try clear hb); (try clear hb2); (try clear hk); (try clear hi)) | (go_at_call 106; (with_reducible refine (dec_plain.calls t103 false _ A5.out).mono ?_); rintro e w12 ⟨rfl, hb⟩; have n0_ := Aside0.mk (below_step (by repeat (first | (with_reducible first | exact HB.out | apply below_alloc | apply pw_below_drewN | apply below_drew1) | exact HB.out)) hb); clear HB; have HB := n0_; clear n0_; (try clear hb); (try clear hb2); (try clear hk); (try clear hi)))
      refine bodyPost_ret (results_list (rs := [.tmp 2, .tmp 3, .tmp 4, .tmp 5]) rfl (by simp) (.tmp (.tmp (.tmp (.tmp .nil))))) rfl ?_
      exact ⟨by first | rfl | (simp [errW_none, errW_some] <;> rfl) | (simp [*, errW_none, errW_some] <;> rfl), by repeat (first | (with_reducible first | exact HB.out | apply below_alloc | apply pw_below_drewN | apply below_drew1) | exact HB.out)⟩
  · replace c4 := Bool.eq_false_iff.mpr c4
    subst c4
    have H1 : (some (t102, t103, t104, false)) = some (r1, r2, r3, r4) := by rw [if_neg (show ¬ (false = true) by decide)] at H; exact H
    clear H
    have H := H1
    clear H1
    simp only [Option.some.injEq, Prod.mk.injEq] at H
    obtain ⟨rfl, rfl, rfl, rfl⟩ := H
    go_enter Tryz.func92, Tryz.ntmps92
    go_wp2_with (first | ((with_reducible refine gate_callee (f := 105) rfl ?_); refine goesL_ (some 8) rfl rfl Tryz.func105 (by kernel_rfl) rfl #[.string a0, .string (⟨#[46]⟩ : ByteArray)] rfl (by (try simp only [List.map_toArray, List.map_cons, List.map_nil]); first | done | rfl | (simp only [List.length_drop, List.length_take]; rfl)) ?_; (with_reducible refine (strings_Cut.calls a0 (⟨#[46]⟩ : ByteArray) t102 t103 t104 _ A2.out).mono ?_); rintro e w13 ⟨rfl, hb⟩; refine ⟨_, rfl, ?_⟩; have n0_ := Aside0.mk (below_step (by repeat (first | (with_reducible first | exact HB.out | apply below_alloc | apply pw_below_drewN | apply below_drew1) | exact HB.out)) hb); clear HB; have HB := n0_; clear n0_; (try clear hb); (try clear hb2); (try clear hk); (try clear hi)) | ((with_reducible refine gate_callee (f := 106) rfl ?_); refine goesL_ (some 16) rfl rfl Tryz.func106 (by kernel_rfl) rfl #[.string t102] rfl (by (try simp only [List.map_toArray, List.map_cons, List.map_nil]); first | done | rfl | (simp only [List.length_drop, List.length_take]; rfl)) ?_; (with_reducible refine (dec_plain.calls t102 false _ A3.out).mono ?_); rintro e w14 ⟨rfl, hb⟩; refine ⟨_, rfl, ?_⟩; have n0_ := Aside0.mk (below_step (by repeat (first | (with_reducible first | exact HB.out | apply below_alloc | apply pw_below_drewN | apply below_drew1) | exact HB.out)) hb); clear HB; have HB := n0_; clear n0_; (try clear hb); (try clear hb2); (try clear hk); (try clear hi)))
    refine bodyPost_ret (results_list (rs := [.tmp 2, .tmp 3, .tmp 4, .tmp 5]) rfl (by simp) (.tmp (.tmp (.tmp (.tmp .nil))))) rfl ?_
    exact ⟨by first | rfl | (simp [errW_none, errW_some] <;> rfl) | (simp [*, errW_none, errW_some] <;> rfl), by repeat (first | (with_reducible first | exact HB.out | apply below_alloc | apply pw_below_drewN | apply below_drew1) | exact HB.out)⟩

/-! ### dec_digit: function 107 -/
mutual
def dec_digit.j0 : Nat → Int → Bool → Option (Int)
  | 0, _, _ => none
  | k + 1, x0, x3 => if x3 = true then (some ((x0 - 48) % 256)) else (if x0 ≥ 97 then (dec_digit.j1 k x0 (decide (x0 ≤ 122))) else (dec_digit.j1 k x0 false))
def dec_digit.j1 : Nat → Int → Bool → Option (Int)
  | 0, _, _ => none
  | k + 1, x0, x13 => if x13 = true then (some (((x0 - 97) % 256) + 10)) else (if x0 ≥ 65 then (if x0 ≤ 90 then (some (((x0 - 65) % 256) + 10)) else (some 99)) else (some 99))
end
def dec_digit.f (k : Nat) (a0 : Int) : Option (Int) := if a0 ≥ 48 then (dec_digit.j0 k a0 (decide (a0 ≤ 57))) else (dec_digit.j0 k a0 false)
theorem dec_digit.mono_l : ∀ k, (∀ y0 y1, LeO (dec_digit.j0 k y0 y1) (dec_digit.j0 (k + 1) y0 y1)) ∧ (∀ y0 y1, LeO (dec_digit.j1 k y0 y1) (dec_digit.j1 (k + 1) y0 y1))
  | 0 => ⟨fun _ _ r h => by simp [dec_digit.j0] at h, fun _ _ r h => by simp [dec_digit.j1] at h⟩
  | k + 1 => by
    obtain ⟨ih0, ih1⟩ := dec_digit.mono_l k
    refine ⟨?_, ?_⟩
    · intro y0 y1
      unfold dec_digit.j0
      repeat' first
      | (with_reducible exact ih0 _ _)
      | (with_reducible exact ih1 _ _)
      | (with_reducible exact LeO.refl _)
      | (with_reducible exact LeO.none _)
      | (with_reducible refine LeO.ite ?_ ?_)
      | (with_reducible refine LeO.bind ?_ (fun _ => ?_))
      | exact ih0 _ _
      | exact ih1 _ _
      | exact LeO.none _
      | refine LeO.ite ?_ ?_
      | refine LeO.bind ?_ (fun _ => ?_)
    · intro y0 y1
      unfold dec_digit.j1
      repeat' first
      | (with_reducible exact ih0 _ _)
      | (with_reducible exact ih1 _ _)
      | (with_reducible exact LeO.refl _)
      | (with_reducible exact LeO.none _)
      | (with_reducible refine LeO.ite ?_ ?_)
      | (with_reducible refine LeO.bind ?_ (fun _ => ?_))
      | exact ih0 _ _
      | exact ih1 _ _
      | exact LeO.none _
      | refine LeO.ite ?_ ?_
      | refine LeO.bind ?_ (fun _ => ?_)
theorem dec_digit.mono : ∀ a0 k, LeO (dec_digit.f k a0) (dec_digit.f (k + 1) a0) := by
  intro a0 k
  obtain ⟨ih0, ih1⟩ := dec_digit.mono_l k
  unfold dec_digit.f
  repeat' first
      | (with_reducible exact ih0 _ _)
      | (with_reducible exact ih1 _ _)
      | (with_reducible exact LeO.refl _)
      | (with_reducible exact LeO.none _)
      | (with_reducible refine LeO.ite ?_ ?_)
      | (with_reducible refine LeO.bind ?_ (fun _ => ?_))
      | exact ih0 _ _
      | exact ih1 _ _
      | exact LeO.none _
      | refine LeO.ite ?_ ?_
      | refine LeO.bind ?_ (fun _ => ?_)
set_option maxHeartbeats 8000000 in
set_option maxRecDepth 100000 in
theorem dec_digit.calls (k : Nat) (a0 : Int) (r : Int) (w : World) (h : dec_digit.f k a0 = some r) :
    Calls Tryz.prog 107 #[.int .u8 a0] w fun e w' => e = .returned (.int .i64 r) ∧ Drawn0 w w' := by
  have H : (if a0 ≥ 48 then (dec_digit.j0 k a0 (decide (a0 ≤ 57))) else (dec_digit.j0 k a0 false)) = some r := h
  clear h
  have HC2 := Aside0.mk H
  clear H
  go_enter Tryz.func107, Tryz.ntmps107
  go_upto_region 1 with (fail)
  go_cut [3] (fun v3 wc => ∃ (kq : Nat) (x3_1 : Bool), v3 = .bool x3_1 ∧ Aside0 (dec_digit.j0 kq a0 x3_1 = some r) ∧ Aside0 (kq ≤ k) ∧ Drawn0 w wc)
  case first =>
    have H := HC2.out
    clear HC2
    by_cases c3 : a0 ≥ 48
    · rw [if_pos c3] at H
      have c3b0 : decide (48 ≤ a0) = true := decide_eq_true c3
      clear c3
      (first | rw [c3b0] | (simp only [i64_w, i32_w]; rw [c3b0]) | skip)
      have H' := Aside0.mk H
      clear H
      go_wp2
      go_meet
      case rel => exact ⟨_, (decide (a0 ≤ 57)), (by first | rfl | (simp; done) | (simp [*]; done)), H', ⟨by first | omega | exact Nat.le_refl _⟩, by repeat (first | exact Drawn0.refl _ | apply Drawn0.step)⟩
    · rw [if_neg c3] at H
      have c3b0 : decide (48 ≤ a0) = false := decide_eq_false c3
      clear c3
      (first | rw [c3b0] | (simp only [i64_w, i32_w]; rw [c3b0]) | skip)
      have H' := Aside0.mk H
      clear H
      go_wp2
      go_meet
      case rel => exact ⟨_, (false), (by first | rfl | (simp; done) | (simp [*]; done)), H', ⟨by first | omega | exact Nat.le_refl _⟩, by repeat (first | exact Drawn0.refl _ | apply Drawn0.step)⟩
  case rest =>
    clear HC2
    try clear c1
    try clear p2
    try clear c3
    try clear c3b0
    obtain ⟨kq, x3_1, rfl, HA, HJ1, ⟨mc1, rfl⟩⟩ := hcut
    cases kq with
    | zero => exact absurd HA.out (by simp [dec_digit.j0])
    | succ kj1 =>
      have H := HA.out
      clear HA
      simp only [dec_digit.j0] at H
      by_cases c4 : x3_1 = true
      · subst c4
        have H1 : (some ((a0 - 48) % 256)) = some r := by rw [if_pos rfl] at H; exact H
        clear H
        have H := H1
        clear H1
        obtain rfl := Option.some.inj H
        go_wp2
        go_ret
        exact ⟨by first | rfl | (simp; done) | (simp [*]; done), by repeat (first | exact Drawn0.refl _ | apply Drawn0.step)⟩
      · replace c4 := Bool.eq_false_iff.mpr c4
        subst c4
        have H1 : (if a0 ≥ 97 then (dec_digit.j1 kj1 a0 (decide (a0 ≤ 122))) else (dec_digit.j1 kj1 a0 false)) = some r := by rw [if_neg (show ¬ (false = true) by decide)] at H; exact H
        clear H
        have H := H1
        clear H1
        have HC5 := Aside0.mk H
        clear H
        go_upto_region 3 with (fail)
        go_cut [13] (fun v13 wc => ∃ (kq : Nat) (x13_4 : Bool), v13 = .bool x13_4 ∧ Aside0 (dec_digit.j1 kq a0 x13_4 = some r) ∧ Aside0 (kq ≤ kj1) ∧ Drawn0 w wc)
        case first =>
          have H := HC5.out
          clear HC5
          by_cases c6 : a0 ≥ 97
          · rw [if_pos c6] at H
            have c6b0 : decide (97 ≤ a0) = true := decide_eq_true c6
            clear c6
            (first | rw [c6b0] | (simp only [i64_w, i32_w]; rw [c6b0]) | skip)
            have H' := Aside0.mk H
            clear H
            go_wp2
            go_meet
            case rel => exact ⟨_, (decide (a0 ≤ 122)), (by first | rfl | (simp; done) | (simp [*]; done)), H', ⟨by have := HJ1.out; first | omega | exact Nat.le_refl _⟩, by repeat (first | exact Drawn0.refl _ | apply Drawn0.step)⟩
          · rw [if_neg c6] at H
            have c6b0 : decide (97 ≤ a0) = false := decide_eq_false c6
            clear c6
            (first | rw [c6b0] | (simp only [i64_w, i32_w]; rw [c6b0]) | skip)
            have H' := Aside0.mk H
            clear H
            go_wp2
            go_meet
            case rel => exact ⟨_, (false), (by first | rfl | (simp; done) | (simp [*]; done)), H', ⟨by have := HJ1.out; first | omega | exact Nat.le_refl _⟩, by repeat (first | exact Drawn0.refl _ | apply Drawn0.step)⟩
        case rest =>
          clear HC5
          try clear c1
          try clear p2
          try clear c3
          try clear c3b0
          try clear c4
          try clear c6
          try clear c6b0
          try clear p2
          obtain ⟨kq, x13_4, rfl, HA, HJ4, ⟨mc4, rfl⟩⟩ := hcut
          cases kq with
          | zero => exact absurd HA.out (by simp [dec_digit.j1])
          | succ kj4 =>
            have H := HA.out
            clear HA
            simp only [dec_digit.j1] at H
            by_cases c7 : x13_4 = true
            · subst c7
              have H1 : (some (((a0 - 97) % 256) + 10)) = some r := by rw [if_pos rfl] at H; exact H
              clear H
              have H := H1
              clear H1
              obtain rfl := Option.some.inj H
              go_wp2
              go_ret
              exact ⟨by first | rfl | (simp; done) | (simp [*]; done), by repeat (first | exact Drawn0.refl _ | apply Drawn0.step)⟩
            · replace c7 := Bool.eq_false_iff.mpr c7
              subst c7
              have H1 : (if a0 ≥ 65 then (if a0 ≤ 90 then (some (((a0 - 65) % 256) + 10)) else (some 99)) else (some 99)) = some r := by rw [if_neg (show ¬ (false = true) by decide)] at H; exact H
              clear H
              have H := H1
              clear H1
              by_cases c8 : a0 ≥ 65
              · rw [if_pos c8] at H
                have c8b0 : decide (65 ≤ a0) = true := decide_eq_true c8
                clear c8
                by_cases c9 : a0 ≤ 90
                · rw [if_pos c9] at H
                  have c9b0 : decide (a0 ≤ 90) = true := decide_eq_true c9
                  clear c9
                  obtain rfl := Option.some.inj H
                  go_wp2
                  go_ret
                  exact ⟨by first | rfl | (simp; done) | (simp [*]; done), by repeat (first | exact Drawn0.refl _ | apply Drawn0.step)⟩
                · rw [if_neg c9] at H
                  have c9b0 : decide (a0 ≤ 90) = false := decide_eq_false c9
                  clear c9
                  obtain rfl := Option.some.inj H
                  go_wp2
                  go_ret
                  exact ⟨by first | rfl | (simp; done) | (simp [*]; done), by repeat (first | exact Drawn0.refl _ | apply Drawn0.step)⟩
              · rw [if_neg c8] at H
                have c8b0 : decide (65 ≤ a0) = false := decide_eq_false c8
                clear c8
                obtain rfl := Option.some.inj H
                go_wp2
                go_ret
                exact ⟨by first | rfl | (simp; done) | (simp [*]; done), by repeat (first | exact Drawn0.refl _ | apply Drawn0.step)⟩

/-! ### fix_Fits: function 71 -/
def fix_Fits.f (a0 : Int) : Option (Bool) := if a0 ≥ (-2147483648) then (some (decide (a0 ≤ 2147483647))) else (some false)
set_option maxHeartbeats 8000000 in
set_option maxRecDepth 100000 in
theorem fix_Fits.calls (a0 : Int) (r : Bool) (w : World) (h : fix_Fits.f a0 = some r) :
    Calls Tryz.prog 71 #[.int .i64 a0] w fun e w' => e = .returned (.bool r) ∧ Drawn0 w w' := by
  have H : (if a0 ≥ (-2147483648) then (some (decide (a0 ≤ 2147483647))) else (some false)) = some r := h
  clear h
  by_cases c2 : a0 ≥ (-2147483648)
  · rw [if_pos c2] at H
    have c2b0 : decide ((-2147483648) ≤ a0) = true := decide_eq_true c2
    clear c2
    obtain rfl := Option.some.inj H
    go_enter Tryz.func71, Tryz.ntmps71
    go_wp2
    go_ret
    exact ⟨by first | rfl | (simp; done) | (simp [*]; done), by repeat (first | exact Drawn0.refl _ | apply Drawn0.step)⟩
  · rw [if_neg c2] at H
    have c2b0 : decide ((-2147483648) ≤ a0) = false := decide_eq_false c2
    clear c2
    obtain rfl := Option.some.inj H
    go_enter Tryz.func71, Tryz.ntmps71
    go_wp2
    go_ret
    exact ⟨by first | rfl | (simp; done) | (simp [*]; done), by repeat (first | exact Drawn0.refl _ | apply Drawn0.step)⟩

/-- THE ONE PURE STATEMENT of fix_Fits: yours. -/
def fix_Fits.Pure : Prop := ∀ (a0 : Int), (Lit.int .i64 a0).wf = true → fix_Fits.f a0 = some true
theorem fix_Fits.walk (P : fix_Fits.Pure) (a0 : Int) (w : World) (w0 : (Lit.int .i64 a0).wf = true) :
    Calls Tryz.prog 71 #[.int .i64 a0] w fun e w' => e = .returned (.bool true) ∧ Below w.heap.size w w' := by
  have h := P a0 w0
  refine (fix_Fits.calls a0 true w h).mono ?_
  rintro e w' ⟨rfl, hd⟩
  exact ⟨rfl, hd.below⟩

end Go.Proofs.YtlbedeiehhgphaaGreatDoor.PR

/-! ## GV -/
namespace Go.Proofs.YtlbedeiehhgphaaGreatDoor
open Go Go.RowKit Go.Proofs.YtlbedeiehhgphaaGreatDoorW.PrintWords

def isDig (b : UInt8) : Bool := decide (48 ≤ b.toNat) && decide (b.toNat ≤ 57)
def sgnL : List UInt8 → Bool × List UInt8
  | [] => (false, [])
  | b :: l => if b = 45 then (true, l) else if b = 43 then (false, l) else (false, b :: l)
/-- the number of digits, read from the left -/
def valD (l : List UInt8) : Nat := l.foldl (fun n b => 10 * n + (b.toNat - 48)) 0
theorem valD_snoc (l : List UInt8) (b : UInt8) : valD (l ++ [b]) = 10 * valD l + (b.toNat - 48) := by simp [valD]

theorem ext_list {a b : ByteArray} (h : a.data.toList = b.data.toList) : a = b := by
  apply ByteArray.ext; exact Array.toList_inj.1 h
theorem mk_list (s : ByteArray) : (⟨s.data.toList.toArray⟩ : ByteArray) = s := by simp

theorem bt_nat (s : ByteArray) (i : Nat) (h : i < s.size) : bt s i = ((s.data.toList[i]'(by rw [← Lib.size_eq]; exact h)).toNat : Int) := by
  unfold bt
  rw [dif_pos (by simpa using h)]
  simp
  rfl

theorem signed_f (s : ByteArray) : PR.dec_signed.f s = some ((sgnL s.data.toList).1, ⟨(sgnL s.data.toList).2.toArray⟩) := by
  unfold PR.dec_signed.f
  rw [Lib.toList_data]
  cases hl : s.data.toList with
  | nil =>
    simp only [if_true, sgnL]
    have : s = ⟨#[]⟩ := ext_list (by rw [hl])
    rw [this]
  | cons b l =>
    have hs : s.size = l.length + 1 := by rw [Lib.size_eq, hl]; rfl
    have hb : bt s 0 = (b.toNat : Int) := by
      rw [show (0 : Int) = ((0 : Nat) : Int) from rfl, bt_nat s 0 (by omega)]
      simp [hl]
    have he : s.extract 1 s.size = ⟨l.toArray⟩ := by
      rw [Lib.extract_eq, hl]
      simp [hs]
    rw [if_neg (by simp), if_pos (by omega), hb, he]
    by_cases h1 : b = 45
    · subst h1
      rw [if_pos (by decide), if_pos (by omega)]
      simp [sgnL]
    · have h1' : ¬ ((b.toNat : Int) = 45) := by
        intro h; apply h1; apply UInt8.toNat_inj.1; show b.toNat = 45; omega
      rw [if_neg h1']
      by_cases h2 : b = 43
      · subst h2
        rw [if_pos (by decide), if_pos (by omega)]
        simp [sgnL]
      · have h2' : ¬ ((b.toNat : Int) = 43) := by
          intro h; apply h2; apply UInt8.toNat_inj.1; show b.toNat = 43; omega
        rw [if_neg h2']
        simp [sgnL, h1, h2]
        exact ext_list hl

theorem dropWhile_nil {p : UInt8 → Bool} : ∀ {l : List UInt8}, l.dropWhile p = [] ↔ ∀ x ∈ l, p x = true
  | [] => by simp
  | b :: l => by
    by_cases h : p b = true
    · rw [List.dropWhile_cons, if_pos h, dropWhile_nil]; simp [h]
    · rw [List.dropWhile_cons, if_neg h]; simp [h]

theorem trimS_all (l cs : List UInt8) : (Lib.trimS l cs == []) = l.all (cs.contains ·) := by
  rw [Bool.eq_iff_iff]
  simp only [beq_iff_eq, Lib.trimS, Lib.trimLeftS, Lib.trimRightS, List.all_eq_true]
  constructor
  · intro h x hx
    by_cases hc : cs.contains x = true
    · exact hc
    · exfalso
      have h1 := dropWhile_nil.1 h
      have hne : (l.reverse.dropWhile (cs.contains ·)) ≠ [] := by
        intro e
        have := dropWhile_nil.1 e x (by simpa using hx)
        exact hc this
      obtain ⟨y, t, ht⟩ := List.exists_cons_of_ne_nil hne
      have hy : cs.contains y = false := by
        have := List.head_dropWhile_not (p := (cs.contains ·)) (l := l.reverse) (hne)
        simp only [ht, List.head_cons] at this
        simpa using this
      have := h1 y (by rw [ht]; simp)
      rw [hy] at this
      cases this
  · intro h
    have : l.reverse.dropWhile (cs.contains ·) = [] := dropWhile_nil.2 (fun x hx => h x (by simpa using hx))
    rw [this]; rfl

theorem digits_contains (b : UInt8) : ([48, 49, 50, 51, 52, 53, 54, 55, 56, 57] : List UInt8).contains b = isDig b := by
  rw [Bool.eq_iff_iff]
  simp [isDig]
  constructor
  · rintro (h | h | h | h | h | h | h | h | h | h) <;> subst h <;> decide
  · rintro ⟨h1, h2⟩
    have : b.toNat = 48 ∨ b.toNat = 49 ∨ b.toNat = 50 ∨ b.toNat = 51 ∨ b.toNat = 52 ∨ b.toNat = 53 ∨ b.toNat = 54 ∨ b.toNat = 55 ∨ b.toNat = 56 ∨ b.toNat = 57 := by omega
    rcases this with h | h | h | h | h | h | h | h | h | h <;> simp [← UInt8.toNat_inj, h]

theorem plain_f (s : ByteArray) (hs : s.size ≤ 140737488351232) : PR.dec_plain.f s = some (s.data.toList.all isDig) := by
  unfold PR.dec_plain.f strings_Trim.f
  rw [if_pos ⟨by decide, by decide, hs⟩]
  simp only [Option.bind_some]
  rw [Lib.toList_data]
  have := trimS_all s.data.toList [48, 49, 50, 51, 52, 53, 54, 55, 56, 57]
  simp only [digits_contains] at this
  rw [← this]

theorem signed_any (s : ByteArray) (w : World) :
    Calls Tryz.prog 89 #[.string s] w fun e w' => e = .returned (.tuple #[.bool (sgnL s.data.toList).1, .string ⟨(sgnL s.data.toList).2.toArray⟩]) ∧ Below w.heap.size w w' :=
  (PR.dec_signed.calls s _ _ w (signed_f s)).mono fun _ _ h => ⟨h.1, h.2.below⟩

theorem plain_any (s : ByteArray) (w : World) (hs : s.size ≤ 140737488351232) (b : Bool) (hb : s.data.toList.all isDig = b) :
    Calls Tryz.prog 106 #[.string s] w fun e w' => e = .returned (.bool b) ∧ Below w.heap.size w w' := by
  subst hb
  exact PR.dec_plain.calls s _ w (plain_f s hs)

/-- []byte(s): a new row that reads as the string's bytes -/
theorem conv_bytes (w : World) (s : ByteArray) : ∃ (W : World) (cap : Nat),
    (convert 9 35 (.string s)).run Tryz.prog w = .ok (.slice (some ⟨w.heap.size, 0, none⟩) s.size cap) W ∧ s.size ≤ cap ∧ Below w.heap.size w W ∧ W.heap.size = w.heap.size + 1 ∧
    (∀ j, j < s.size → W.cell? ⟨w.heap.size, j, none⟩ = some (.int .u8 (s.data.toList.getD j 0).toNat)) ∧
    (∃ cs : Array Value, s.size ≤ cs.size ∧ W.heap[w.heap.size]? = some (.cells cs 5 (cs.size, cs.size + 1)) ∧ ∀ j, j < s.size → cs[j]? = some (.int .u8 (s.data.toList.getD j 0).toNat)) := by
  refine ⟨_, _, Lib.run_convert_string_bytes (P := Tryz.prog) w 9 35 5 s Tryz.underlying9 Tryz.underlying35 Tryz.underlying5, ?_, ?_, Lib.bytesWorld_size w _ s, fun j hj => Lib.bytesWorld_cell w _ s j hj, ?_⟩
  · exact grownCap_ge _ _ _ _
  · exact ⟨rfl, rfl, rfl, by rw [Lib.bytesWorld_size]; omega, fun k hk => Lib.bytesWorld_at_old w _ s k hk⟩
  · refine ⟨_, ?_, Lib.bytesWorld_at_new w _ s, ?_⟩
    · have : s.data.size = s.size := rfl
      simp [Lib.bytesCells]
    · intro j hj
      have hl : j < s.data.size := hj
      simp only [Lib.bytesCells, Array.getElem?_append, Array.size_map, if_pos hl, Array.getElem?_map, List.getD, Array.getElem?_toList]
      rw [Array.getElem?_eq_getElem hl]
      rfl

theorem dig_step (t : ByteArray) (k : Nat) (hk : k < t.size) (hd : t.data.toList.all isDig = true) :
    ∃ x : Nat, x ≤ 9 ∧ (t.data[k]'hk).toNat = 48 + x ∧ t.data.toList.take (k + 1) = t.data.toList.take k ++ [t.data[k]'hk] ∧ valD (t.data.toList.take (k + 1)) = 10 * valD (t.data.toList.take k) + x := by
  have hl : k < t.data.toList.length := by rw [← Lib.size_eq]; exact hk
  have ht : t.data.toList.take (k + 1) = t.data.toList.take k ++ [t.data[k]'hk] := by
    rw [List.take_succ_eq_append_getElem hl]; simp
  have hm : isDig (t.data[k]'hk) = true := List.all_eq_true.1 hd _ (by simp)
  simp only [isDig, Bool.and_eq_true, decide_eq_true_eq] at hm
  refine ⟨(t.data[k]'hk).toNat - 48, by omega, by omega, ht, ?_⟩
  rw [ht, valD_snoc]

theorem valD_lt (t : ByteArray) (hd : t.data.toList.all isDig = true) (k : Nat) : k ≤ t.size → valD (t.data.toList.take k) < 10 ^ k := by
  induction k with
  | zero => intro _; simp [valD]
  | succ k ih =>
    intro hk
    obtain ⟨x, hx, _, _, hv⟩ := dig_step t k (by omega) hd
    have := ih (by omega)
    rw [hv, Nat.pow_succ]
    omega

theorem step_num (V x : Nat) (hV : V < 1000000000000000) (hx : x ≤ 9) : wrap64 (wrap64 (10 * (V : Int)) + (((48 + x : Nat) : Int) - 48) % 256) = ((10 * V + x : Nat) : Int) := by
  unfold wrap64
  omega
theorem valD_1000 (t : ByteArray) (hd : t.data.toList.all isDig = true) (h3 : t.size ≤ 3) (k : Nat) (hk : k ≤ t.size) : valD (t.data.toList.take k) < 1000 := by
  have h1 := valD_lt t hd k hk
  have h2 : 10 ^ k ≤ 10 ^ 3 := Nat.pow_le_pow_right (by omega) (by omega)
  exact Nat.lt_of_lt_of_le h1 h2

theorem ret2 {a b : Int} {c d : Bool} (h : a = b) (k : c = d) : Ending.returned (.tuple #[.int .i64 a, .bool c]) = .returned (.tuple #[.int .i64 b, .bool d]) := by rw [h, k]

def powL (l : List UInt8) : Int × Bool :=
  if (sgnL l).2 = [] ∨ 3 < (sgnL l).2.length ∨ (sgnL l).2.all isDig = false then (0, false)
  else (if (sgnL l).1 then -(valD (sgnL l).2 : Int) else valD (sgnL l).2, true)

def PQ (r : Int × Bool) (w : World) (e : Ending) (w' : World) : Prop := e = .returned (.tuple #[.int .i64 r.1, .bool r.2]) ∧ Below w.heap.size w w'

set_option maxHeartbeats 1000000 in
set_option maxRecDepth 100000 in
theorem power_bad (s t : ByteArray) (m : Bool) (w : World) (ht : (⟨(sgnL s.data.toList).2.toArray⟩ : ByteArray) = t) (hm : (sgnL s.data.toList).1 = m) (hts : t.size ≤ 140737488351232)
    (h : t.toList = [] ∨ (¬ t.toList = [] ∧ 3 < t.size) ∨ (¬ t.toList = [] ∧ t.size ≤ 3 ∧ t.data.toList.all isDig = false)) :
    Calls Tryz.prog 91 #[.string s] w (PQ (0, false) w) := by
  have HS := Lib.hid (signed_any s w)
  have HT := Lib.hid (And.intro ht hm)
  clear ht hm
  rcases h with h | ⟨h0, h⟩ | ⟨h0, h3, h⟩
  · have hb : (t.toList == []) = true := by simpa using h
    clear h
    go_enter Tryz.func91, Tryz.ntmps91
    go_wp2_with fail
    refine HS.out.mono ?_
    rintro e w1 ⟨rfl, hb1⟩
    rw [HT.out.1, HT.out.2]
    go_wp2_with fail
    go_ret2
    exact ⟨rfl, hb1⟩
  · have hb : (t.toList == []) = false := by simpa using h0
    have hd : decide ((3 : Int) < (t.size : Int)) = true := by simp; omega
    have hd' : decide (3 < t.size) = true := by simp; omega
    clear h h0
    go_enter Tryz.func91, Tryz.ntmps91
    go_wp2_with fail
    refine HS.out.mono ?_
    rintro e w1 ⟨rfl, hb1⟩
    rw [HT.out.1, HT.out.2]
    go_wp2_with fail
    go_ret2
    exact ⟨rfl, hb1⟩
  · have hb : (t.toList == []) = false := by simpa using h0
    have hd : decide ((3 : Int) < (t.size : Int)) = false := by simp; omega
    have hd' : decide (3 < t.size) = false := by simp; omega
    have HP := Lib.hid h
    clear h h0
    go_enter Tryz.func91, Tryz.ntmps91
    go_wp2_with fail
    refine HS.out.mono ?_
    rintro e w1 ⟨rfl, hb1⟩
    rw [HT.out.1, HT.out.2]
    go_wp2_with fail
    refine (plain_any t w1 hts false HP.out).mono ?_
    rintro e w2 ⟨rfl, hb2⟩
    go_wp2_with fail
    go_ret2
    exact ⟨rfl, hb1.trans (hb2.mono hb1.size)⟩

set_option maxHeartbeats 1000000 in
set_option maxRecDepth 100000 in
theorem power_good (s t : ByteArray) (m : Bool) (w : World) (ht : (⟨(sgnL s.data.toList).2.toArray⟩ : ByteArray) = t) (hm : (sgnL s.data.toList).1 = m) (h0 : ¬ t.toList = []) (h3 : t.size ≤ 3) (h : t.data.toList.all isDig = true)
    (z : Int) (hz : z = if m then -(valD t.data.toList : Int) else valD t.data.toList) : Calls Tryz.prog 91 #[.string s] w (PQ (z, true) w) := by
  have HZ := Lib.hid hz
  clear hz
  have HS := Lib.hid (signed_any s w)
  have HT := Lib.hid (And.intro ht hm)
  clear ht hm
  have hb : (t.toList == []) = false := by simpa using h0
  have hd : decide ((3 : Int) < (t.size : Int)) = false := by simp; omega
  have hd' : decide (3 < t.size) = false := by simp; omega
  have HP := Lib.hid h
  clear h h0
  go_enter Tryz.func91, Tryz.ntmps91
  go_wp2_with fail
  refine HS.out.mono ?_
  rintro e w1 ⟨rfl, hb1⟩
  rw [HT.out.1, HT.out.2]
  go_wp2_with fail
  refine (plain_any t w1 (by omega) true HP.out).mono ?_
  rintro e w2 ⟨rfl, hb2⟩
  have HB := Lib.hid (hb1.trans (hb2.mono hb1.size))
  obtain ⟨W, cap, hcv, hcap, hbW, hsz, hcell, _⟩ := conv_bytes w2 t
  have HC := Lib.hid (And.intro hcell hbW)
  clear hcell hbW hsz hb1 hb2 HS
  go_wp2_with fail
  clear hcv
  go_loop [5, 28] (fun n i => ∃ k : Nat, k ≤ t.size ∧ i = .int .i64 k ∧ n = .int .i64 (valD (t.data.toList.take k))) (fun _ i => t.size - (intOf i).toNat)
  case atStart => exact ⟨0, Nat.zero_le _, rfl, rfl⟩
  case round =>
    obtain ⟨k, hk, rfl, rfl⟩ := hrel
    by_cases hlt : k < t.size
    · have hc := HC.out.1 k hlt
      obtain ⟨x, hx, hxe, htk, hv⟩ := dig_step t k hlt HP.out
      have hb2 := valD_1000 t HP.out h3 k (by omega)
      have HV := Lib.hid (And.intro hxe (And.intro hv hb2))
      clear hxe hv htk hb2
      go_wp2_with fail
      go_round
      case rel =>
        obtain ⟨hxe, hv, hb2⟩ := HV.out
        refine ⟨k + 1, by omega, by go_num, ?_⟩
        rw [hxe, hv, step_num _ x (by omega) hx]
      case measure => simp [intOf]; omega
    · obtain rfl : k = t.size := by omega
      have hb2 := valD_1000 t HP.out h3 t.size (Nat.le_refl _)
      have hall : t.data.toList.take t.size = t.data.toList := List.take_of_length_le (by rw [← Lib.size_eq]; exact Nat.le_refl _)
      rw [hall] at hb2 ⊢
      clear hall
      go_wp2_with fail
      all_goals
        go_ret2
        refine ⟨ret2 ?_ rfl, HB.out.trans (HC.out.2.mono HB.out.size)⟩
        rw [HZ.out]
        simp [*]

theorem sgnL_len (l : List UInt8) : (sgnL l).2.length ≤ l.length := by
  cases l with
  | nil => simp [sgnL]
  | cons b l => simp only [sgnL]; split <;> (try split) <;> simp

theorem powL_cases (l : List UInt8) : ((sgnL l).2 = [] ∨ (¬ (sgnL l).2 = [] ∧ 3 < (sgnL l).2.length) ∨ (¬ (sgnL l).2 = [] ∧ (sgnL l).2.length ≤ 3 ∧ (sgnL l).2.all isDig = false)) ∧ powL l = (0, false) ∨
    (¬ (sgnL l).2 = [] ∧ (sgnL l).2.length ≤ 3 ∧ (sgnL l).2.all isDig = true) ∧ powL l = (if (sgnL l).1 then -(valD (sgnL l).2 : Int) else valD (sgnL l).2, true) := by
  unfold powL
  by_cases h0 : (sgnL l).2 = []
  · exact .inl ⟨.inl h0, by rw [if_pos (.inl h0)]⟩
  · by_cases h1 : 3 < (sgnL l).2.length
    · exact .inl ⟨.inr (.inl ⟨h0, h1⟩), by rw [if_pos (.inr (.inl h1))]⟩
    · cases h2 : (sgnL l).2.all isDig
      · exact .inl ⟨.inr (.inr ⟨h0, by omega, rfl⟩), by rw [if_pos (.inr (.inr rfl))]⟩
      · exact .inr ⟨⟨h0, by omega, rfl⟩, by rw [if_neg (by rintro (h | h | h); exact h0 h; exact h1 h; cases h)]⟩

theorem dec_power.calls0 (s : ByteArray) (w : World) (hs : s.size ≤ 140737488351232) : Calls Tryz.prog 91 #[.string s] w (PQ (powL s.data.toList) w) := by
  have hl := sgnL_len s.data.toList
  rw [← Lib.size_eq] at hl
  have hsz : (⟨(sgnL s.data.toList).2.toArray⟩ : ByteArray).size = (sgnL s.data.toList).2.length := by simp [ByteArray.size]
  have htl : (⟨(sgnL s.data.toList).2.toArray⟩ : ByteArray).toList = (sgnL s.data.toList).2 := by rw [Lib.toList_data]
  rcases powL_cases s.data.toList with ⟨h, hr⟩ | ⟨⟨h0, h1, h2⟩, hr⟩
  · rw [hr]
    exact power_bad s _ _ w rfl rfl (by omega) (by rw [htl, hsz]; exact h)
  · rw [hr]
    exact power_good s _ _ w rfl rfl (by rw [htl]; exact h0) (by omega) h2 _ rfl

end Go.Proofs.YtlbedeiehhgphaaGreatDoor

/-! ## GB -/
namespace Go.Proofs.YtlbedeiehhgphaaGreatDoor
open Go.RowKit

theorem gb_size : (Tryz.prog.info? 122).map (·.size) = some 2 := by kernel_rfl
theorem gb_lies : liesAt Tryz.prog Tryz.prog.depth 122 (2 / Tryz.prog.cellsOf 122) 0 122 1 = true := by kernel_rfl
theorem gb_byte : (Tryz.prog.info? 5).map (fun i => (i.zero, i.size, i.bytes)) = some (some (.int .u8 0), 1, 1) := by kernel_rfl

set_option maxHeartbeats 1000000 in
set_option maxRecDepth 100000 in
theorem gb_copyCheck_used (b : Nat) (w : World) (h0 : w.cell? ⟨b, 0, none⟩ = some (.pointer (some ⟨b, 0, none⟩))) :
    Calls Tryz.prog 76 #[.pointer (some ⟨b, 0, none⟩)] w fun e w' => e = .returned (.tuple #[]) ∧ w' = w := by
  obtain ⟨j, hj, _⟩ := Option.map_eq_some_iff.1 gb_size
  go_enter Tryz.func76, Tryz.ntmps76
  go_wp2
  rw [Lib.run_neq_ptr_same w _ Tryz.underlying120 hj]
  go_wp2
  go_end0
  exact ⟨rfl, rfl⟩

set_option maxHeartbeats 1000000 in
set_option maxRecDepth 100000 in
theorem gb_copyCheck_fresh (b : Nat) (w : World) (h0 : w.cell? ⟨b, 0, none⟩ = some (.pointer none)) (hsh : w.shape? b = some (122, 2)) (hfz : w.frozen? ⟨b, 0, none⟩ = false) :
    Calls Tryz.prog 76 #[.pointer (some ⟨b, 0, none⟩)] w fun e w' => e = .returned (.tuple #[]) ∧ w' = w.setCell ⟨b, 0, none⟩ (.pointer (some ⟨b, 0, none⟩)) := by
  obtain ⟨j, hj, hjs⟩ := Option.map_eq_some_iff.1 gb_size
  go_enter Tryz.func76, Tryz.ntmps76
  go_wp2_with fail
  rw [Lib.run_to_unsafe w ⟨b, 0, none⟩ Tryz.underlying120 Tryz.underlying159 hj (by rw [hjs]; decide) hsh (Nat.zero_lt_succ 1)]
  simp only [Result.andThen]
  rw [Oper.upon_value]
  go_wp2_with fail
  rw [run_callFunc_extern Tryz.func95 (by kernel_rfl) (by kernel_rfl) (by kernel_rfl) (e := Extern.AbiNoEscape.same) (by kernel_rfl)]
  rw [Lib.run_noEscape]
  simp only [Result.andThen]
  rw [Oper.upon_value]
  go_wp2_with fail
  rw [Lib.run_from_unsafe w ⟨b, 0, none⟩ Tryz.underlying159 Tryz.underlying120 hj hsh gb_lies]
  simp only [Result.andThen]
  rw [Oper.upon_value]
  go_wp2_with fail
  go_end0
  exact ⟨rfl, rfl⟩

theorem gb_copyCheck (B b : Nat) (bs : List Value) (w : World) (h : Lib.IsBuilder 122 5 B b bs w) :
    Calls Tryz.prog 76 #[.pointer (some ⟨b, 0, none⟩)] w fun e w' => e = .returned (.tuple #[]) ∧ (Lib.BuilderAt 122 5 B b (.pointer (some ⟨b, 0, none⟩)) bs w' ∧ Below B w w') := by
  rcases h with h | h
  · refine (gb_copyCheck_fresh b w h.cell0 h.shape h.frozen0).mono ?_
    rintro e w' ⟨rfl, rfl⟩
    exact ⟨rfl, h.used _, (Below.refl B w).setCell (p := ⟨b, 0, none⟩) h.1 _⟩
  · refine (gb_copyCheck_used b w h.cell0).mono ?_
    rintro e w' ⟨rfl, rfl⟩
    exact ⟨rfl, h, Below.refl B _⟩

set_option maxHeartbeats 2000000 in
set_option maxRecDepth 100000 in
theorem gb_WriteByte (B b : Nat) (bs : List Value) (c : Int) (w : World) (h : Lib.IsBuilder 122 5 B b bs w) (hlen : bs.length + 1 ≤ 140737488355328) (hBw : B ≤ w.heap.size) :
    Calls Tryz.prog 65 #[.pointer (some ⟨b, 0, none⟩), .int .u8 c] w fun e w' => e = .returned .nilIface ∧ (Lib.BuilderAt 122 5 B b (.pointer (some ⟨b, 0, none⟩)) (bs ++ [.int .u8 c]) w' ∧ Below B w w') := by
  obtain ⟨i0, hi, hz0, hz1, hz2⟩ := info_parts gb_byte
  go_enter Tryz.func65, Tryz.ntmps65
  go_wp2_with (go_at_call 76; refine (gb_copyCheck B b bs _ h).mono ?_)
  rintro e w1 ⟨rfl, h1, hb1⟩
  obtain ⟨hB, v, hbk, hown, hne⟩ := h1
  have c0 : w1.cell? ⟨b, 0, none⟩ = some (.pointer (some ⟨b, 0, none⟩)) := by rw [Lib.cell_of_heap hbk]; rfl
  have c1 : w1.cell? ⟨b, 1, none⟩ = some v := by rw [Lib.cell_of_heap hbk]; rfl
  go_wp2_with (at_builtin; refine wpList_append_own _ rfl _ _ 35 rfl B 5 i0 (.int .u8 0) 1 1 Tryz.underlying35 hi hz0 hz1 hz2 rfl (by decide) _ _ _ rfl (hown.alloc _) ⟨w1.heap.size, 0, none⟩ 1 1 [.int .u8 c] rfl rfl ?c1 ?c2 ?c3 ?c4 ?c5 ?_)
  case c1 =>
    intro j u hj
    match j, hj with
    | 0, hj => simp at hj; subst hj; simp [Addr.add]
  case c2 => intro u hu; simp at hu; subst hu; rfl
  case c3 => unfold maxLen; omega
  case c4 => omega
  case c5 => have := hb1.size; simp; omega
  intro v' w2 hown' hgrow _
  have hlt : b < w1.heap.size := by
    rcases Nat.lt_or_ge b w1.heap.size with h' | h'
    · exact h'
    · simp [Array.getElem?_eq_none h'] at hbk
  have hb2 : w2.heap[b]? = some (.cells #[.pointer (some ⟨b, 0, none⟩), v] 122 (0, 0)) := by
    rw [hgrow.block b (by simp; omega) (fun e => hne e.symm), Lib.alloc_old w1 _ b hlt]
    exact hbk
  have d0 : w2.cell? ⟨b, 0, none⟩ = some (.pointer (some ⟨b, 0, none⟩)) := by rw [Lib.cell_of_heap hb2]; rfl
  have d1 : w2.cell? ⟨b, 1, none⟩ = some v := by rw [Lib.cell_of_heap hb2]; rfl
  have f1 : w2.frozen? ⟨b, 1, none⟩ = false := Lib.frozen_of_heap hb2 1
  obtain ⟨g, cap, rfl⟩ : ∃ g cap, v' = .slice (some ⟨g, 0, none⟩) (bs.length + 1) cap := by
    rcases hown'.2 with ⟨_, h0⟩ | ⟨g, cap, cur, hv, _⟩
    · omega
    · exact ⟨g, cap, hv⟩
  go_wp2
  go_ret
  refine ⟨rfl, ?_, ?_⟩
  · exact Lib.BuilderAt.put (T := 122) (e := 5) hB hb2 (bs' := bs ++ [.int .u8 c]) (by simpa using hown') (by decide)
  · exact ((hb1.alloc (by have := hb1.size; omega) _).grown hgrow (by have := hb1.size; simp; omega) (fun k hk => (hown.lt k hk).1)).setCell (p := ⟨b, 1, none⟩) hB _

end Go.Proofs.YtlbedeiehhgphaaGreatDoor

/-! ## GD -/
namespace Go.Proofs.YtlbedeiehhgphaaGreatDoor
open Go Go.RowKit

theorem ret_str {a b : ByteArray} (h : a = b) : Ending.returned (.string a) = .returned (.string b) := by rw [h]

theorem enc_digit (n : Nat) (h : n < 10) : Utf8.encode (48 + (n : Int)) = ⟨#[UInt8.ofNat (48 + n)]⟩ := by
  have : n = 0 ∨ n = 1 ∨ n = 2 ∨ n = 3 ∨ n = 4 ∨ n = 5 ∨ n = 6 ∨ n = 7 ∨ n = 8 ∨ n = 9 := by omega
  rcases this with rfl | rfl | rfl | rfl | rfl | rfl | rfl | rfl | rfl | rfl <;> decide

theorem digs_lenk (k : Nat) : ∀ n : Nat, n < 10 ^ (k + 1) → (digs n).length ≤ k + 1 := by
  induction k with
  | zero => intro n h; rw [digs_small (by omega)]; simp
  | succ k ih =>
    intro n h
    by_cases hn : n < 10
    · rw [digs_small hn]; simp
    · rw [digs_big hn]
      have := ih (n / 10) (by rw [Nat.pow_succ] at h; omega)
      simp; omega
theorem digs_len (n : Nat) (h : n < 1000000) : (digs n).length ≤ 6 := digs_lenk 5 n h

def DigQ (n : Nat) (w : World) (e : Ending) (w' : World) : Prop := e = .returned (.string ⟨(digs n).toArray⟩) ∧ w = w'

set_option maxHeartbeats 400000 in
theorem digits_s (n : Nat) (w : World) (hn : n < 10) : Calls Tryz.prog 75 #[.int .i64 n] w (DigQ n w) := by
  go_enter Tryz.func75, Tryz.ntmps75
  go_wp2_with fail
  go_ret
  exact ⟨ret_str (by rw [enc_digit n hn, digs_small hn]), rfl⟩

set_option maxHeartbeats 400000 in
theorem digits_any (k : Nat) : ∀ (n : Nat) (w : World), n ≤ k → n < 1000000 → Calls Tryz.prog 75 #[.int .i64 n] w (DigQ n w) := by
  induction k with
  | zero => intro n w hk _; exact digits_s n w (by omega)
  | succ k ih =>
    intro n w hk hb
    by_cases hn : n < 10
    · exact digits_s n w hn
    · have HI := Lib.hid (ih (n / 10) w (by omega) (by omega))
      clear ih
      go_enter Tryz.func75, Tryz.ntmps75
      go_wp2_with fail
      rw [show ((n : Int) / 10) = ((n / 10 : Nat) : Int) from by omega]
      refine HI.out.mono ?_
      rintro e w' ⟨rfl, rfl⟩
      have hl : (⟨(digs (n / 10)).toArray⟩ : ByteArray).size ≤ 6 := digs_len (n / 10) (by omega)
      generalize hs : (⟨(digs (n / 10)).toArray⟩ : ByteArray) = s at hl ⊢
      have HS := Lib.hid hs
      clear hs
      have he : (Utf8.encode (48 + (n : Int) % 10)).size ≤ 4 := encode_size_le _
      have hk : s.size + (Utf8.encode (48 + (n : Int) % 10)).size ≤ 9223372036854775807 := by omega
      go_wp2_with fail

      go_ret
      refine ⟨ret_str ?_, rfl⟩
      rw [show (48 + (n : Int) % 10) = 48 + ((n % 10 : Nat) : Int) from by omega, enc_digit (n % 10) (by omega), ← HS.out, digs_big hn]
      apply ByteArray.ext
      simp

theorem fits_any (n : Int) (w : World) (b : Bool) (h : fitsB n = b) :
    Calls Tryz.prog 71 #[.int .i64 n] w fun e w' => e = .returned (.bool b) ∧ w = w' := by
  subst h
  by_cases h1 : -2147483648 ≤ n
  · by_cases h2 : n ≤ 2147483647
    · have : fitsB n = true := by simp [fitsB, h1, h2]
      rw [this]
      go_enter Tryz.func71, Tryz.ntmps71
      go_wp2_with fail
      go_ret
      exact ⟨rfl, rfl⟩
    · have : fitsB n = false := by simp [fitsB, h2]
      rw [this]
      go_enter Tryz.func71, Tryz.ntmps71
      go_wp2_with fail
      go_ret
      exact ⟨rfl, rfl⟩
  · have : fitsB n = false := by simp [fitsB, h1]
    rw [this]
    go_enter Tryz.func71, Tryz.ntmps71
    go_wp2_with fail
    go_ret
    exact ⟨rfl, rfl⟩

def PartsQ (s d r : List UInt8) (w : World) (e : Ending) (w' : World) : Prop :=
  e = .returned (.tuple #[.string ⟨s.toArray⟩, .string ⟨d.toArray⟩, .string ⟨r.toArray⟩]) ∧ Below w.heap.size w w'

/-- the loop's head: what is written, what is left -/
def PartsInv (B f0 k f : Nat) (w wr : World) : Prop :=
  k ≤ 16 ∧ f < 65536 ∧ 2 ^ (16 - k) ∣ f ∧ (∃ pre, pre.length + k = 16 ∧ fracs 16 f0 = pre ++ fracs k f ∧ Lib.IsBuilder 122 5 B B (Lib.byteCells pre) wr) ∧ Below B w wr ∧ B ≤ wr.heap.size

set_option maxHeartbeats 1000000 in
set_option maxRecDepth 100000 in
theorem parts_pos (n : Nat) (hn : n ≤ 2147483647) (w : World) :
    Calls Tryz.prog 61 #[.int .i64 n] w (PartsQ [] (digs (n / 65536)) (fracs 16 (n % 65536)) w) := by
  have HF := Lib.hid (fits_any n w true (by simp [fitsB]; omega))
  have HB := Lib.hid (Lib.fresh_isBuilder 122 5 w)
  have ha : Go.bits .and .i64 (n : Int) 65535 = ((n % 65536 : Nat) : Int) := by rw [and_65535 _ (by omega) (by omega)]; rfl
  go_enter Tryz.func61, Tryz.ntmps61
  go_wp2_with (go_at_call 71; refine HF.out.mono ?_; rintro e w' ⟨rfl, rfl⟩)
  clear ha HF
  go_loopg [6] 16 (fun k v wr => ∃ f : Nat, v = .int .i64 f ∧ Hid (PartsInv w.heap.size (n % 65536) k f w wr))
  case atStart =>
    exact ⟨n % 65536, rfl, ⟨Nat.le_refl _, by omega, by simp, ⟨[], rfl, by simp, by simpa [Lib.byteCells] using HB.out⟩, (Below.refl _ _).alloc (Nat.le_refl _) _, by simp⟩⟩
  case round =>
    clear HB
    obtain ⟨f, rfl, HI⟩ := hrel
    have hlt : f < 65536 := HI.out.2.1
    have hB := HI.out.2.2.2.2.2
    by_cases hf0 : f = 0
    · subst hf0
      have HD := Lib.hid (digits_any (n / 65536) (n / 65536) wr (Nat.le_refl _) (by omega))
      go_wp2_with fail
      rw [show ((n : Int) / 65536) = ((n / 65536 : Nat) : Int) from by omega]
      refine HD.out.mono ?_
      rintro e w' ⟨rfl, rfl⟩
      obtain ⟨hk, _, _, ⟨pre, hpl, hpre, hbu⟩, hbel, _⟩ := HI.out
      rw [fracs_zero gk, List.append_nil] at hpre
      have HS := Lib.hid (Tryz.Builder_String_any w.heap.size w.heap.size pre wr hbu hB)
      have HP := Lib.hid hpre
      have HL := Lib.hid hbel
      clear hpre hbu hpl hbel HI HD
      go_wp2_with fail
      refine HS.out.mono ?_
      rintro e w2 ⟨rfl, hb2⟩
      go_wp2_with fail
      go_ret3
      exact ⟨by rw [HP.out]; rfl, HL.out.trans hb2⟩
    · have hx : Go.bits .and .i64 ((f : Int) * 10) 65535 = ((f * 10 % 65536 : Nat) : Int) := by rw [and_65535 _ (by omega) (by omega)]; omega
      obtain ⟨hk, _, hdv, ⟨pre, hpl, hpre, hbu⟩, hbel, _⟩ := HI.out
      have hs := frac_step (j := 16 - gk) (k := gk) (by omega) hdv hlt hf0
      obtain ⟨k, rfl⟩ : ∃ k, gk = k + 1 := ⟨gk - 1, by omega⟩
      rw [fracs_succ hf0] at hpre
      have HW := Lib.hid (gb_WriteByte w.heap.size w.heap.size (Lib.byteCells pre) (48 + (f : Int) * 10 / 65536) wr hbu (by rw [Lib.byteCells_length]; omega) hB)
      have HP := Lib.hid (And.intro hpre (And.intro hpl (And.intro hk (And.intro hs.2 hbel))))
      clear hpre hpl hk hdv hbu hbel HI hs
      go_wp2_with fail
      refine HW.out.mono ?_
      rintro e w2 ⟨rfl, hb2, hl2⟩
      have HB2 := Lib.hid hb2
      have HL2 := Lib.hid hl2
      clear hb2 hl2 HW
      go_wp2_with fail
      go_roundg k
      case measure => omega
      case rel =>
        obtain ⟨hpre, hpl, hk, hs, hbel⟩ := HP.out
        refine ⟨f * 10 % 65536, rfl, ⟨by omega, by omega, ?_, ⟨pre ++ [UInt8.ofNat (48 + f * 10 / 65536)], by simp; omega, by simpa using hpre, .inr ?_⟩, hbel.trans HL2.out, ?_⟩⟩
        · rwa [show 16 - k = 16 - (k + 1) + 1 from by omega]
        · have hc : Lib.byteCells (pre ++ [UInt8.ofNat (48 + f * 10 / 65536)]) = Lib.byteCells pre ++ [.int .u8 (48 + (f : Int) * 10 / 65536)] := by
            simp [Lib.byteCells]
            omega
          rw [hc]; exact HB2.out
        · have := HL2.out.size; omega

set_option maxHeartbeats 1000000 in
set_option maxRecDepth 100000 in
theorem parts_neg (n : Nat) (hn : n ≤ 2147483648) (h1 : 1 ≤ n) (w : World) :
    Calls Tryz.prog 61 #[.int .i64 (-(n : Int))] w (PartsQ [45] (digs (n / 65536)) (fracs 16 (n % 65536)) w) := by
  have HF := Lib.hid (fits_any (-(n : Int)) w true (by simp [fitsB]; omega))
  have HB := Lib.hid (Lib.fresh_isBuilder 122 5 w)
  have hd : decide (0 < n) = true := by simp; omega
  have ha : Go.bits .and .i64 (n : Int) 65535 = ((n % 65536 : Nat) : Int) := by rw [and_65535 _ (by omega) (by omega)]; rfl
  go_enter Tryz.func61, Tryz.ntmps61
  go_wp2_with (go_at_call 71; refine HF.out.mono ?_; rintro e w' ⟨rfl, rfl⟩)
  clear ha HF
  go_loopg [6] 16 (fun k v wr => ∃ f : Nat, v = .int .i64 f ∧ Hid (PartsInv w.heap.size (n % 65536) k f w wr))
  case atStart =>
    exact ⟨n % 65536, rfl, ⟨Nat.le_refl _, by omega, by simp, ⟨[], rfl, by simp, by simpa [Lib.byteCells] using HB.out⟩, (Below.refl _ _).alloc (Nat.le_refl _) _, by simp⟩⟩
  case round =>
    clear HB
    obtain ⟨f, rfl, HI⟩ := hrel
    have hlt : f < 65536 := HI.out.2.1
    have hB := HI.out.2.2.2.2.2
    by_cases hf0 : f = 0
    · subst hf0
      have HD := Lib.hid (digits_any (n / 65536) (n / 65536) wr (Nat.le_refl _) (by omega))
      go_wp2_with fail
      rw [show ((n : Int) / 65536) = ((n / 65536 : Nat) : Int) from by omega]
      refine HD.out.mono ?_
      rintro e w' ⟨rfl, rfl⟩
      obtain ⟨hk, _, _, ⟨pre, hpl, hpre, hbu⟩, hbel, _⟩ := HI.out
      rw [fracs_zero gk, List.append_nil] at hpre
      have HS := Lib.hid (Tryz.Builder_String_any w.heap.size w.heap.size pre wr hbu hB)
      have HP := Lib.hid hpre
      have HL := Lib.hid hbel
      clear hpre hbu hpl hbel HI HD
      go_wp2_with fail
      refine HS.out.mono ?_
      rintro e w2 ⟨rfl, hb2⟩
      go_wp2_with fail
      go_ret3
      exact ⟨by rw [HP.out]; rfl, HL.out.trans hb2⟩
    · have hx : Go.bits .and .i64 ((f : Int) * 10) 65535 = ((f * 10 % 65536 : Nat) : Int) := by rw [and_65535 _ (by omega) (by omega)]; omega
      obtain ⟨hk, _, hdv, ⟨pre, hpl, hpre, hbu⟩, hbel, _⟩ := HI.out
      have hs := frac_step (j := 16 - gk) (k := gk) (by omega) hdv hlt hf0
      obtain ⟨k, rfl⟩ : ∃ k, gk = k + 1 := ⟨gk - 1, by omega⟩
      rw [fracs_succ hf0] at hpre
      have HW := Lib.hid (gb_WriteByte w.heap.size w.heap.size (Lib.byteCells pre) (48 + (f : Int) * 10 / 65536) wr hbu (by rw [Lib.byteCells_length]; omega) hB)
      have HP := Lib.hid (And.intro hpre (And.intro hpl (And.intro hk (And.intro hs.2 hbel))))
      clear hpre hpl hk hdv hbu hbel HI hs
      go_wp2_with fail
      refine HW.out.mono ?_
      rintro e w2 ⟨rfl, hb2, hl2⟩
      have HB2 := Lib.hid hb2
      have HL2 := Lib.hid hl2
      clear hb2 hl2 HW
      go_wp2_with fail
      go_roundg k
      case measure => omega
      case rel =>
        obtain ⟨hpre, hpl, hk, hs, hbel⟩ := HP.out
        refine ⟨f * 10 % 65536, rfl, ⟨by omega, by omega, ?_, ⟨pre ++ [UInt8.ofNat (48 + f * 10 / 65536)], by simp; omega, by simpa using hpre, .inr ?_⟩, hbel.trans HL2.out, ?_⟩⟩
        · rwa [show 16 - k = 16 - (k + 1) + 1 from by omega]
        · have hc : Lib.byteCells (pre ++ [UInt8.ofNat (48 + f * 10 / 65536)]) = Lib.byteCells pre ++ [.int .u8 (48 + (f : Int) * 10 / 65536)] := by
            simp [Lib.byteCells]
            omega
          rw [hc]; exact HB2.out
        · have := HL2.out.size; omega

set_option maxHeartbeats 1000000 in
set_option maxRecDepth 100000 in
theorem parts_bad (z : Int) (hz : fitsB z = false) (w : World) :
    Calls Tryz.prog 61 #[.int .i64 z] w (PartsQ [] (digs 0) (fracs 16 0) w) := by
  have HF := Lib.hid (fits_any z w false hz)
  have HB := Lib.hid (Lib.fresh_isBuilder 122 5 w)
  have ha : Go.bits .and .i64 0 65535 = 0 := by rfl
  clear hz
  go_enter Tryz.func61, Tryz.ntmps61
  go_wp2_with (go_at_call 71; refine HF.out.mono ?_; rintro e w' ⟨rfl, rfl⟩)
  clear ha HF
  go_loopg [6] 16 (fun k v wr => ∃ f : Nat, v = .int .i64 f ∧ Hid (PartsInv w.heap.size 0 k f w wr))
  case atStart =>
    exact ⟨0, rfl, ⟨Nat.le_refl _, by omega, by simp, ⟨[], rfl, by simp, by simpa [Lib.byteCells] using HB.out⟩, (Below.refl _ _).alloc (Nat.le_refl _) _, by simp⟩⟩
  case round =>
    clear HB
    obtain ⟨f, rfl, HI⟩ := hrel
    have hlt : f < 65536 := HI.out.2.1
    have hB := HI.out.2.2.2.2.2
    by_cases hf0 : f = 0
    · subst hf0
      have HD := Lib.hid (digits_any (0) (0) wr (Nat.le_refl _) (by omega))
      go_wp2_with fail
      refine HD.out.mono ?_
      rintro e w' ⟨rfl, rfl⟩
      obtain ⟨hk, _, _, ⟨pre, hpl, hpre, hbu⟩, hbel, _⟩ := HI.out
      rw [fracs_zero gk, List.append_nil] at hpre
      have HS := Lib.hid (Tryz.Builder_String_any w.heap.size w.heap.size pre wr hbu hB)
      have HP := Lib.hid hpre
      have HL := Lib.hid hbel
      clear hpre hbu hpl hbel HI HD
      go_wp2_with fail
      refine HS.out.mono ?_
      rintro e w2 ⟨rfl, hb2⟩
      go_wp2_with fail
      go_ret3
      exact ⟨by rw [HP.out]; rfl, HL.out.trans hb2⟩
    · have hx : Go.bits .and .i64 ((f : Int) * 10) 65535 = ((f * 10 % 65536 : Nat) : Int) := by rw [and_65535 _ (by omega) (by omega)]; omega
      obtain ⟨hk, _, hdv, ⟨pre, hpl, hpre, hbu⟩, hbel, _⟩ := HI.out
      have hs := frac_step (j := 16 - gk) (k := gk) (by omega) hdv hlt hf0
      obtain ⟨k, rfl⟩ : ∃ k, gk = k + 1 := ⟨gk - 1, by omega⟩
      rw [fracs_succ hf0] at hpre
      have HW := Lib.hid (gb_WriteByte w.heap.size w.heap.size (Lib.byteCells pre) (48 + (f : Int) * 10 / 65536) wr hbu (by rw [Lib.byteCells_length]; omega) hB)
      have HP := Lib.hid (And.intro hpre (And.intro hpl (And.intro hk (And.intro hs.2 hbel))))
      clear hpre hpl hk hdv hbu hbel HI hs
      go_wp2_with fail
      refine HW.out.mono ?_
      rintro e w2 ⟨rfl, hb2, hl2⟩
      have HB2 := Lib.hid hb2
      have HL2 := Lib.hid hl2
      clear hb2 hl2 HW
      go_wp2_with fail
      go_roundg k
      case measure => omega
      case rel =>
        obtain ⟨hpre, hpl, hk, hs, hbel⟩ := HP.out
        refine ⟨f * 10 % 65536, rfl, ⟨by omega, by omega, ?_, ⟨pre ++ [UInt8.ofNat (48 + f * 10 / 65536)], by simp; omega, by simpa using hpre, .inr ?_⟩, hbel.trans HL2.out, ?_⟩⟩
        · rwa [show 16 - k = 16 - (k + 1) + 1 from by omega]
        · have hc : Lib.byteCells (pre ++ [UInt8.ofNat (48 + f * 10 / 65536)]) = Lib.byteCells pre ++ [.int .u8 (48 + (f : Int) * 10 / 65536)] := by
            simp [Lib.byteCells]
            omega
          rw [hc]; exact HB2.out
        · have := HL2.out.size; omega


theorem dec_parts.calls (a0 : Int) (r1 r2 r3 : ByteArray) (w : World) (h : dec_parts.f a0 = some (r1, r2, r3)) :
    Calls Tryz.prog 61 #[.int .i64 a0] w fun e w' => e = .returned (.tuple #[.string r1, .string r2, .string r3]) ∧ Below w.heap.size w w' := by
  simp only [dec_parts.f, Option.some.injEq, Prod.mk.injEq] at h
  obtain ⟨rfl, rfl, rfl⟩ := h
  by_cases hf : fitsB a0 = true
  · have hb : -2147483648 ≤ a0 ∧ a0 ≤ 2147483647 := by simpa [fitsB] using hf
    have hc : clip a0 = a0 := by simp [clip, hf]
    rw [hc]
    by_cases h0 : a0 < 0
    · obtain ⟨n, rfl⟩ : ∃ n : Nat, a0 = -(n : Int) := ⟨a0.natAbs, by omega⟩
      refine (parts_neg n (by omega) (by omega) w).mono ?_
      rintro e w' ⟨rfl, hb⟩
      refine ⟨?_, hb⟩
      simp [signL]
      omega
    · obtain ⟨n, rfl⟩ := Int.eq_ofNat_of_zero_le (Int.not_lt.1 h0)
      refine (parts_pos n (by omega) w).mono ?_
      rintro e w' ⟨rfl, hb⟩
      refine ⟨?_, hb⟩
      simp [signL]
  · have hc : clip a0 = 0 := by simp [clip, hf]
    rw [hc]
    refine (parts_bad a0 (by simpa using hf) w).mono ?_
    rintro e w' ⟨rfl, hb⟩
    exact ⟨rfl, hb⟩

end Go.Proofs.YtlbedeiehhgphaaGreatDoor

/-! ## GU -/
namespace Go.Proofs.YtlbedeiehhgphaaGreatDoor
open Go Go.RowKit Go.Proofs.YtlbedeiehhgphaaGreatDoorW.PrintWords

/-- the cells of a converted row hold these digits -/
def RowIs (g : Nat) (ds : List Nat) (w : World) : Prop :=
  ∃ cs : Array Value, ds.length ≤ cs.size ∧ w.heap[g]? = some (.cells cs 5 (cs.size, cs.size + 1)) ∧ ∀ j, j < ds.length → cs[j]? = some (.int .u8 (ds.getD j 0 : Nat))

theorem RowIs.cell {g : Nat} {ds : List Nat} {w : World} (h : RowIs g ds w) (j : Nat) (hj : j < ds.length) : w.cell? ⟨g, j, none⟩ = some (.int .u8 (ds.getD j 0 : Nat)) := by
  obtain ⟨cs, _, hb, hc⟩ := h
  rw [Lib.cell_of_heap hb]; exact hc j hj
theorem RowIs.frozen {g : Nat} {ds : List Nat} {w : World} (h : RowIs g ds w) (j : Nat) (hj : j < ds.length) : w.frozen? ⟨g, j, none⟩ = false := by
  obtain ⟨cs, hl, hb, _⟩ := h
  simp [World.frozen?, hb]
  omega
theorem RowIs.lt {g : Nat} {ds : List Nat} {w : World} (h : RowIs g ds w) : g < w.heap.size := by
  obtain ⟨cs, _, hb, _⟩ := h
  rcases Nat.lt_or_ge g w.heap.size with h' | h'
  · exact h'
  · simp [Array.getElem?_eq_none h'] at hb
theorem heap_set (w : World) (g j : Nat) (cs : Array Value) (t : TypeId) (fr : Nat × Nat) (v : Value) (hg : w.heap[g]? = some (.cells cs t fr)) :
    (w.setCell ⟨g, j, none⟩ v).heap[g]? = some (.cells (cs.setIfInBounds j v) t fr) := by
  simp [World.setCell, Array.getElem?_modify, hg]
theorem RowIs.set {g : Nat} {ds : List Nat} {w : World} (h : RowIs g ds w) (j v : Nat) (hj : j < ds.length) : RowIs g (ds.set j v) (w.setCell ⟨g, j, none⟩ (.int .u8 v)) := by
  have hlt := h.lt
  obtain ⟨cs, hl, hb, hc⟩ := h
  refine ⟨cs.setIfInBounds j (.int .u8 v), by simpa using hl, ?_, ?_⟩
  · rw [heap_set w g j cs _ _ _ hb]
    simp
  · intro i hi
    have hi' : i < ds.length := by simpa using hi
    by_cases hij : j = i
    · subst hij
      have : j < cs.size := by omega
      simp [this, List.getD, hi']
    · rw [Array.getElem?_setIfInBounds, if_neg hij, hc i hi']
      simp [List.getD, hij]

/-- digits, doubled; what goes over -/
def dbl : List Nat → Nat × List Nat
  | [] => (0, [])
  | d :: ds => ((2 * d + (dbl ds).1) / 10, (2 * d + (dbl ds).1) % 10 :: (dbl ds).2)
theorem dbl_len : ∀ ds, (dbl ds).2.length = ds.length
  | [] => rfl
  | d :: ds => by simp [dbl, dbl_len ds]
theorem dbl_le : ∀ ds, (∀ d ∈ ds, d ≤ 9) → (dbl ds).1 ≤ 1 ∧ ∀ d ∈ (dbl ds).2, d ≤ 9
  | [], _ => by simp [dbl]
  | d :: ds, h => by
    have ih := dbl_le ds (fun x hx => h x (by simp [hx]))
    have hd := h d (by simp)
    refine ⟨by simp only [dbl]; omega, ?_⟩
    intro x hx
    simp only [dbl, List.mem_cons] at hx
    rcases hx with rfl | hx
    · omega
    · exact ih.2 x hx

/-- what the row holds when the digits from place k on are done -/
def mid (ds : List Nat) (k : Nat) : List Nat := ds.take k ++ (dbl (ds.drop k)).2
theorem mid_len (ds : List Nat) (k : Nat) (hk : k ≤ ds.length) : (mid ds k).length = ds.length := by simp [mid, dbl_len]; omega
theorem mid_all (ds : List Nat) : mid ds ds.length = ds := by simp [mid, dbl]
theorem mid_zero (ds : List Nat) : mid ds 0 = (dbl ds).2 := by simp [mid]
theorem mid_step (ds : List Nat) (m : Nat) (hm : m < ds.length) : (mid ds (m + 1)).getD m 0 = ds[m] ∧
    (dbl (ds.drop m)).1 = (2 * ds[m] + (dbl (ds.drop (m + 1))).1) / 10 ∧ (mid ds (m + 1)).set m ((2 * ds[m] + (dbl (ds.drop (m + 1))).1) % 10) = mid ds m := by
  have hd : ds.drop m = ds[m] :: ds.drop (m + 1) := List.drop_eq_getElem_cons hm
  have ht : ds.take (m + 1) = ds.take m ++ [ds[m]] := by rw [List.take_succ_eq_append_getElem hm]
  have hl : (ds.take m).length = m := by simp; omega
  refine ⟨?_, ?_, ?_⟩
  · unfold mid
    rw [ht, List.append_assoc, List.getD, List.getElem?_append_right (by omega), hl, Nat.sub_self]
    rfl
  · rw [hd]; rfl
  · unfold mid
    rw [ht, hd, List.append_assoc, List.set_append_right _ _ (by omega)]
    simp [hl, dbl]

def DblInv (w0 : World) (B g : Nat) (ds : List Nat) (k : Nat) (wr : World) : Prop := RowIs g (mid ds k) wr ∧ Below B w0 wr

def DQ (w0 : World) (B g : Nat) (r : Nat × List Nat) (e : Ending) (w' : World) : Prop := e = .returned (.int .i64 (r.1 : Nat)) ∧ RowIs g r.2 w' ∧ Below B w0 w'

set_option maxHeartbeats 1000000 in
set_option maxRecDepth 100000 in
theorem double_any (w0 w : World) (B g n cap : Nat) (ds : List Nat) (hn : ds.length = n) (hd : ∀ d ∈ ds, d ≤ 9) (hr : RowIs g ds w) (hB : B ≤ g) (hbel : Below B w0 w) (hnb : n ≤ 140737488351232) :
    Calls Tryz.prog 114 #[.slice (some ⟨g, 0, none⟩) n cap] w (DQ w0 B g (dbl ds)) := by
  have HH := Lib.hid (And.intro hn (And.intro hd (And.intro hr hbel)))
  clear hn hd hr hbel
  go_enter Tryz.func114, Tryz.ntmps114
  go_wp2_with fail
  go_loopw [3, 4] (fun c i wr => ∃ k : Nat, k ≤ n ∧ i = .int .i64 ((k : Int) - 1) ∧ c = .int .u8 ((dbl (ds.drop k)).1 : Nat) ∧ Hid (DblInv w0 B g ds k wr)) (fun _ i _ => (intOf i + 1).toNat)
  case atStart =>
    obtain ⟨hn, hd, hr, hbel⟩ := HH.out
    have hdn : ds.drop n = [] := List.drop_eq_nil_of_le (by omega)
    refine ⟨n, Nat.le_refl _, rfl, by rw [hdn]; rfl, ⟨?_, hbel⟩⟩
    rw [← hn, mid_all]; exact hr
  case round =>
    obtain ⟨k, hk, hi, rfl, HI⟩ := hrel
    cases k with
    | zero =>
      rw [show (((0 : Nat) : Int) - 1) = -1 from rfl] at hi
      subst hi
      have hle := (dbl_le ds HH.out.2.1).1
      go_wp2_with fail
      go_ret
      refine ⟨?_, by have := HI.out.1; rw [mid_zero] at this; exact this, HI.out.2⟩
      rfl
    | succ m =>
      rw [show (((m + 1 : Nat) : Int) - 1) = (m : Int) from by omega] at hi
      subst hi
      have hm : m < ds.length := by have := HH.out.1; omega
      obtain ⟨h1, h2, h3⟩ := mid_step ds m hm
      have hlen := mid_len ds (m + 1) hm
      have hc := HI.out.1.cell m (by omega)
      have hf := HI.out.1.frozen m (by omega)
      rw [h1] at hc
      have hx : ds[m] ≤ 9 := HH.out.2.1 _ (by simp)
      have hy := (dbl_le (ds.drop (m + 1)) (fun d hd => HH.out.2.1 d (List.mem_of_mem_drop hd))).1
      generalize hX : ds[m] = X at *
      generalize hY : (dbl (ds.drop (m + 1))).1 = Y at *
      have H3 := Lib.hid (And.intro h2 (And.intro h3 hlen))
      clear h1 h2 h3 hlen hX hY hm
      go_wp2_with fail
      go_roundw
      case rel =>
        obtain ⟨h2, h3, hlen⟩ := H3.out
        refine ⟨m, by omega, rfl, by rw [h2]; rfl, ⟨?_, HI.out.2.setCell (p := ⟨g, m, none⟩) hB _⟩⟩
        rw [← h3]
        have := HI.out.1.set m ((2 * X + Y) % 10) (by rw [hlen]; have := HH.out.1; omega)
        exact this
      case measure => simp [intOf]

def iterD : Nat → Nat → List Nat → Nat × List Nat
  | 0, n, ds => (n, ds)
  | k + 1, n, ds => iterD k (2 * n + (dbl ds).1) (dbl ds).2
theorem iterD_succ (k : Nat) : ∀ n ds, iterD (k + 1) n ds = (2 * (iterD k n ds).1 + (dbl (iterD k n ds).2).1, (dbl (iterD k n ds).2).2) := by
  induction k with
  | zero => intro n ds; rfl
  | succ k ih => intro n ds; rw [iterD, ih]; rfl
theorem iterD_ok (k : Nat) (n : Nat) (ds : List Nat) (hd : ∀ d ∈ ds, d ≤ 9) : (iterD k n ds).2.length = ds.length ∧ (∀ d ∈ (iterD k n ds).2, d ≤ 9) ∧ (iterD k n ds).1 + 1 ≤ (n + 1) * 2 ^ k := by
  induction k with
  | zero => exact ⟨rfl, hd, by simp [iterD]⟩
  | succ k ih =>
    obtain ⟨h1, h2, h3⟩ := ih
    have h4 := dbl_le _ h2
    rw [iterD_succ]
    refine ⟨by simp [dbl_len, h1], h4.2, ?_⟩
    have : (n + 1) * 2 ^ (k + 1) = 2 * ((n + 1) * 2 ^ k) := by rw [Nat.pow_succ]; ac_rfl
    rw [this]
    have := h4.1
    show 2 * (iterD k n ds).1 + (dbl (iterD k n ds).2).1 + 1 ≤ _
    omega

theorem ret2b {a b : Int} {c d : Bool} (h : (a, c) = (b, d)) : Ending.returned (.tuple #[.int .i64 a, .bool c]) = .returned (.tuple #[.int .i64 b, .bool d]) := by cases h; rfl

def digsOf (l : List UInt8) : List Nat := l.map (fun c => c.toNat - 48)
def strip0 (l : List UInt8) : List UInt8 := Lib.trimLeftS l [48]
def magL (a b : List UInt8) : Nat := (iterD 16 (valD (strip0 a)) (digsOf b)).1 + (dbl (iterD 16 (valD (strip0 a)) (digsOf b)).2).1
def valueL (m : Bool) (a b : List UInt8) : Int × Bool :=
  if 5 < (strip0 a).length then (0, false) else (if m then -(magL a b : Int) else magL a b, fitsB (if m then -(magL a b : Int) else magL a b))

theorem valD_100000 (t : ByteArray) (hd : t.data.toList.all isDig = true) (h3 : t.size ≤ 5) (k : Nat) (hk : k ≤ t.size) : valD (t.data.toList.take k) < 100000 := by
  have h1 := valD_lt t hd k hk
  have h2 : 10 ^ k ≤ 10 ^ 5 := Nat.pow_le_pow_right (by omega) (by omega)
  exact Nat.lt_of_lt_of_le h1 h2

theorem trimLeft_any (s : ByteArray) (w : World) (t : ByteArray) (ht : (⟨(strip0 s.data.toList).toArray⟩ : ByteArray) = t) :
    Calls Tryz.prog 113 #[.string s, .string ⟨#[48]⟩] w fun e w' => e = .returned (.string t) ∧ Below w.heap.size w w' := by
  subst ht
  refine strings_TrimLeft.calls s ⟨#[48]⟩ _ w ?_
  unfold strings_TrimLeft.f
  rw [if_pos ⟨by decide, by decide⟩]
  rfl

set_option maxHeartbeats 1000000 in
set_option maxRecDepth 100000 in
theorem value_long (m : Bool) (a b t : ByteArray) (w : World) (ht : (⟨(strip0 a.data.toList).toArray⟩ : ByteArray) = t) (h5 : 5 < t.size) :
    Calls Tryz.prog 94 #[.bool m, .string a, .string b] w (PQ (0, false) w) := by
  have HT := Lib.hid (trimLeft_any a w t ht)
  clear ht
  have hd : decide ((5 : Int) < (t.size : Int)) = true := by simp; omega
  have hd' : decide (5 < t.size) = true := by simp; omega
  go_enter Tryz.func94, Tryz.ntmps94
  go_wp2_with fail
  refine HT.out.mono ?_
  rintro e w1 ⟨rfl, hb1⟩
  go_wp2_with fail
  go_ret2
  exact ⟨rfl, hb1⟩

/-- the second loop: what the row holds when k digits have been lowered -/
def low (l : List UInt8) (k : Nat) : List Nat := (l.take k).map (fun c => c.toNat - 48) ++ (l.drop k).map (fun c => c.toNat)
theorem low_len (l : List UInt8) (k : Nat) : (low l k).length = l.length := by simp [low]; omega
theorem low_zero (l : List UInt8) : low l 0 = l.map (fun c => c.toNat) := by simp [low]
theorem low_all (l : List UInt8) : low l l.length = digsOf l := by simp [low, digsOf]
theorem low_step (l : List UInt8) (k : Nat) (hk : k < l.length) : (low l k).getD k 0 = l[k].toNat ∧ (low l k).set k (l[k].toNat - 48) = low l (k + 1) := by
  have hd : l.drop k = l[k] :: l.drop (k + 1) := List.drop_eq_getElem_cons hk
  have ht : l.take (k + 1) = l.take k ++ [l[k]] := by rw [List.take_succ_eq_append_getElem hk]
  have hl : ((l.take k).map (fun c => c.toNat - 48)).length = k := by simp; omega
  refine ⟨?_, ?_⟩
  · unfold low
    rw [hd, List.getD, List.getElem?_append_right (by omega), hl, Nat.sub_self]
    rfl
  · unfold low
    rw [hd, List.set_append_right _ _ (by omega), ht, hl, Nat.sub_self, List.map_cons, List.set_cons_zero, List.map_append, List.append_assoc]
    rfl

theorem digsOf_ok (b : ByteArray) (h : b.data.toList.all isDig = true) : (digsOf b.data.toList).length = b.size ∧ ∀ d ∈ digsOf b.data.toList, d ≤ 9 := by
  refine ⟨by rw [Lib.size_eq]; simp [digsOf], ?_⟩
  intro d hd
  simp only [digsOf, List.mem_map] at hd
  obtain ⟨c, hc, rfl⟩ := hd
  have := List.all_eq_true.1 h c hc
  simp only [isDig, Bool.and_eq_true, decide_eq_true_eq] at this
  omega

def MagIs (M N : Nat) (ds0 : List Nat) : Prop := M = (iterD 16 N ds0).1 + (dbl (iterD 16 N ds0).2).1

/-- the third loop's head -/
def IterInv (w : World) (g n N : Nat) (ds0 : List Nat) (k nk : Nat) (dk : List Nat) (wr : World) : Prop :=
  (nk, dk) = iterD k N ds0 ∧ dk.length = n ∧ (∀ d ∈ dk, d ≤ 9) ∧ RowIs g dk wr ∧ Below w.heap.size w wr
theorem IterInv.le {w : World} {g n N : Nat} {ds0 : List Nat} {k nk : Nat} {dk : List Nat} {wr : World} (h : IterInv w g n N ds0 k nk dk wr) : (dbl dk).1 ≤ 1 := (dbl_le _ h.2.2.1).1
theorem IterInv.call {N : Nat} {ds0 : List Nat} {k nk : Nat} {dk : List Nat} {wr : World} (w : World) (g n cap : Nat) (hB : w.heap.size ≤ g) (hn : n ≤ 1000000) (h : IterInv w g n N ds0 k nk dk wr) :
    Calls Tryz.prog 114 #[.slice (some ⟨g, 0, none⟩) n cap] wr (DQ w w.heap.size g (dbl dk)) :=
  double_any w wr w.heap.size g n cap dk h.2.1 h.2.2.1 h.2.2.2.1 hB h.2.2.2.2 (by omega)
theorem iter_bound (k N : Nat) (ds0 : List Nat) (hN : N < 100000) (hk : k ≤ 16) (hd : ∀ d ∈ ds0, d ≤ 9) : (iterD k N ds0).1 ≤ 6553600000 := by
  obtain ⟨_, _, h3⟩ := iterD_ok k N ds0 hd
  have h4 : (N + 1) * 2 ^ k ≤ 100000 * 2 ^ 16 := Nat.mul_le_mul (by omega) (Nat.pow_le_pow_right (by omega) hk)
  have h5 : (100000 : Nat) * 2 ^ 16 = 6553600000 := rfl
  omega
theorem IterInv.bound {w : World} {g n N : Nat} {ds0 : List Nat} {k nk : Nat} {dk : List Nat} {wr : World} (h : IterInv w g n N ds0 k nk dk wr) (hN : N < 100000) (hk : k ≤ 16) (hd : ∀ d ∈ ds0, d ≤ 9) : nk ≤ 6553600000 := by
  have := iter_bound k N ds0 hN hk hd
  rw [← h.1] at this
  exact this
theorem IterInv.mag {w : World} {g n N M : Nat} {ds0 : List Nat} {nk : Nat} {dk : List Nat} {wr : World} (h : IterInv w g n N ds0 16 nk dk wr) (hM : MagIs M N ds0) : M = nk + (dbl dk).1 := by
  unfold MagIs at hM
  rw [← h.1] at hM
  exact hM
theorem IterInv.next {w : World} {g n N : Nat} {ds0 : List Nat} {k nk : Nat} {dk : List Nat} {wr wx : World} (h : IterInv w g n N ds0 k nk dk wr) (_ : k < 16) (_ : k + 1 ≤ 16)
    (hr : RowIs g (dbl dk).2 wx) (hb : Below w.heap.size w wx) : IterInv w g n N ds0 (k + 1) (2 * nk + (dbl dk).1) (dbl dk).2 wx := by
  obtain ⟨h1, h2, h3, _, _⟩ := h
  refine ⟨?_, by rw [dbl_len, h2], (dbl_le _ h3).2, hr, hb⟩
  rw [iterD_succ, ← h1]

set_option maxHeartbeats 2000000 in
set_option maxRecDepth 100000 in
theorem value_good (m : Bool) (a b t : ByteArray) (w : World) (ht : (⟨(strip0 a.data.toList).toArray⟩ : ByteArray) = t) (h5 : t.size ≤ 5) (hda : t.data.toList.all isDig = true) (hdb : b.data.toList.all isDig = true) (hsb : b.size ≤ 1000000)
    (z : Int) (f : Bool) (hz : (z, f) = (if m then -(magL a.data.toList b.data.toList : Int) else magL a.data.toList b.data.toList, fitsB (if m then -(magL a.data.toList b.data.toList : Int) else magL a.data.toList b.data.toList))) :
    Calls Tryz.prog 94 #[.bool m, .string a, .string b] w (PQ (z, f) w) := by
  have HZ := Lib.hid (And.intro hz ht)
  have HT := Lib.hid (trimLeft_any a w t ht)
  have HP := Lib.hid (And.intro hda hdb)
  clear ht hz hda hdb
  have hd : decide ((5 : Int) < (t.size : Int)) = false := by simp; omega
  have hd' : decide (5 < t.size) = false := by simp; omega
  go_enter Tryz.func94, Tryz.ntmps94
  go_wp2_with fail
  refine HT.out.mono ?_
  rintro e w1 ⟨rfl, hb1⟩
  obtain ⟨W, cap, hcv, hcap, hbW, hsz, hcell, -⟩ := conv_bytes w1 t
  have HC := Lib.hid (And.intro hcell (hb1.trans (hbW.mono hb1.size)))
  clear hcell hbW hsz hb1 HT
  go_wp2_with fail
  clear hcv
  go_loop [8, 21] (fun n i => ∃ k : Nat, k ≤ t.size ∧ i = .int .i64 k ∧ n = .int .i64 (valD (t.data.toList.take k))) (fun _ i => t.size - (intOf i).toNat)
  case atStart => exact ⟨0, Nat.zero_le _, rfl, rfl⟩
  case round =>
    obtain ⟨k, hk, rfl, rfl⟩ := hrel
    by_cases hlt : k < t.size
    · have hc := HC.out.1 k hlt
      obtain ⟨x, hx, hxe, htk, hv⟩ := dig_step t k hlt HP.out.1
      have hb2 := valD_100000 t HP.out.1 h5 k (by omega)
      have HV := Lib.hid (And.intro hxe (And.intro hv hb2))
      clear hxe hv htk hb2
      go_wp2_with fail
      go_round
      case rel =>
        obtain ⟨hxe, hv, hb2⟩ := HV.out
        refine ⟨k + 1, by omega, by go_num, ?_⟩
        rw [hxe, hv, step_num _ x (by omega) hx]
      case measure => simp [intOf]; omega
    · obtain rfl : k = t.size := by omega
      have hall : t.data.toList.take t.size = t.data.toList := List.take_of_length_le (by rw [← Lib.size_eq]; exact Nat.le_refl _)
      have hb2 := valD_100000 t HP.out.1 h5 t.size (Nat.le_refl _)
      rw [hall] at hb2 ⊢
      clear hall
      have hN : valD t.data.toList = valD (strip0 a.data.toList) := by rw [← HZ.out.2]
      have HN := Lib.hid hN
      clear hN
      generalize valD t.data.toList = N at *
      obtain ⟨W2, cap2, hcv2, hcap2, hbW2, hsz2, -, hrow2⟩ := conv_bytes W b
      have hrow : RowIs W.heap.size (low b.data.toList 0) W2 := by
        obtain ⟨cs, h1, h2, h3⟩ := hrow2
        refine ⟨cs, by rw [low_len, ← Lib.size_eq]; exact h1, h2, fun j hj => ?_⟩
        rw [low_len, ← Lib.size_eq] at hj
        rw [h3 j hj, low_zero]
        simp [List.getD, List.getElem?_map]
        cases b.data[j]? <;> rfl
      have hB : w.heap.size ≤ W.heap.size := HC.out.2.size
      have HR := Lib.hid (And.intro hrow (HC.out.2.trans (hbW2.mono hB)))
      clear hrow hrow2 hbW2 hsz2 HC
      go_wp2_with fail
      clear hcv2
      go_loopw [36] (fun i wr => ∃ k : Nat, k ≤ b.size ∧ i = .int .i64 k ∧ Hid (RowIs W.heap.size (low b.data.toList k) wr ∧ Below w.heap.size w wr)) (fun i _ => b.size - (intOf i).toNat)
      case atStart => exact ⟨0, Nat.zero_le _, rfl, HR.out⟩
      case round =>
        obtain ⟨k, hk2, rfl, HI⟩ := hrel
        by_cases hlt2 : k < b.size
        · have hlt3 : k < b.data.toList.length := by rw [← Lib.size_eq]; exact hlt2
          obtain ⟨h1, h2⟩ := low_step b.data.toList k hlt3
          obtain ⟨x, hx, hxe, -, -⟩ := dig_step b k hlt2 HP.out.2
          have hxe' : b.data.toList[k].toNat = 48 + x := by rw [← hxe]; simp
          have hc := HI.out.1.cell k (by rw [low_len]; exact hlt3)
          have hf := HI.out.1.frozen k (by rw [low_len]; exact hlt3)
          rw [h1, hxe'] at hc
          rw [hxe', show 48 + x - 48 = x from by omega] at h2
          have H2 := Lib.hid h2
          clear h1 h2 hxe hxe' hlt3
          go_wp2_with fail
          go_roundw
          case rel =>
            refine ⟨k + 1, by omega, by go_num, ?_, HI.out.2.setCell (p := ⟨W.heap.size, k, none⟩) hB _⟩
            rw [← H2.out, show (48 + (x : Int) - 48) = (x : Int) from by omega]
            exact HI.out.1.set k x (by rw [low_len, ← Lib.size_eq]; exact hlt2)
          case measure => simp [intOf]; omega
        · obtain rfl : k = b.size := by omega
          have hds : low b.data.toList b.size = digsOf b.data.toList := by rw [Lib.size_eq, low_all]
          obtain ⟨ds0, h0⟩ : ∃ ds, ds = digsOf b.data.toList := ⟨_, rfl⟩
          have hd0 := digsOf_ok b HP.out.2
          rw [hds, ← h0] at HI
          rw [← h0] at hd0
          have HM : MagIs (magL a.data.toList b.data.toList) N ds0 := by rw [HN.out, h0]; rfl
          have HD := Lib.hid hd0
          clear hds hd0 h0
          obtain ⟨wo, rfl⟩ : ∃ wo : World, wo = wr := ⟨_, rfl⟩
          go_wp2_with fail
          go_loopw [8, 46] (fun n i wr => ∃ (k nk : Nat) (dk : List Nat), k ≤ 16 ∧ i = .int .i64 k ∧ n = .int .i64 nk ∧ Hid (IterInv w W.heap.size b.size N ds0 k nk dk wr)) (fun _ i _ => 16 - (intOf i).toNat)
          case atStart => exact ⟨0, N, ds0, by omega, rfl, rfl, rfl, HD.out.1, HD.out.2, HI.out⟩
          case round =>
            clear HI
            obtain ⟨k, nk, dk, hk3, rfl, rfl, HI⟩ := hrel
            have hnk : nk ≤ 6553600000 := HI.out.bound (by omega) hk3 HD.out.2
            have HX := Lib.hid (HI.out.call w W.heap.size b.size cap2 hB hsb)
            have hle := HI.out.le
            by_cases hlt4 : k < 16
            · have hdk : decide ((k : Int) < 16) = true := by simp; omega
              have HK := Lib.hid hlt4
              clear hlt4
              go_wp2_with fail
              refine HX.out.mono ?_
              rintro e wx ⟨rfl, hrx, hbx⟩
              have HY := Lib.hid (HI.out.next HK.out (by have := HK.out; omega) hrx hbx)
              clear hrx hbx
              go_wp2_with fail
              go_roundw
              case rel =>
                have := HK.out
                exact ⟨k + 1, 2 * nk + (dbl dk).1, (dbl dk).2, by omega, by go_num, by go_num, HY.out⟩
              case measure => have := HK.out; simp [intOf]; omega
            · obtain rfl : k = 16 := by omega
              have HMM := HI.out.mag HM
              have HMx := Lib.hid HMM
              have hZ := HZ.out.1
              rw [HMM] at hZ
              have HZ2 := Lib.hid hZ
              clear HMM hZ HZ hk3
              go_wp2_with fail
              refine HX.out.mono ?_
              rintro e wx ⟨rfl, hrx, hbx⟩
              have HBX := Lib.hid hbx
              clear hrx hbx HI HM HMx HX
              generalize (dbl dk).1 = dd at *
              cases m
              · go_wp2_with fail
                refine (fits_any ((nk : Int) + (dd : Int)) wx _ rfl).mono ?_
                rintro e w' ⟨rfl, rfl⟩
                go_wp2_with fail
                go_ret2
                refine ⟨ret2b ?_, HBX.out⟩
                rw [HZ2.out]
                simp
              · go_wp2_with fail
                refine (fits_any (-((nk : Int) + (dd : Int))) wx _ rfl).mono ?_
                rintro e w' ⟨rfl, rfl⟩
                go_wp2_with fail
                go_ret2
                refine ⟨ret2b ?_, HBX.out⟩
                rw [HZ2.out]
                simp

theorem strip0_all (l : List UInt8) (h : l.all isDig = true) : (strip0 l).all isDig = true := by
  rw [List.all_eq_true] at h ⊢
  intro x hx
  exact h x (by unfold strip0 Lib.trimLeftS at hx; exact (List.dropWhile_sublist _).subset hx)

def dec_value.f (a0 : Bool) (a1 a2 : ByteArray) : Option (Int × Bool) :=
  if a1.data.toList.all isDig = true ∧ a2.data.toList.all isDig = true ∧ a2.size ≤ 1000000 then some (valueL a0 a1.data.toList a2.data.toList) else none

theorem dec_value.calls (a0 : Bool) (a1 a2 : ByteArray) (r1 : Int) (r2 : Bool) (w : World) (h : dec_value.f a0 a1 a2 = some (r1, r2)) :
    Calls Tryz.prog 94 #[.bool a0, .string a1, .string a2] w fun e w' => e = .returned (.tuple #[.int .i64 r1, .bool r2]) ∧ Below w.heap.size w w' := by
  unfold dec_value.f at h
  split at h
  · rename_i hh
    obtain ⟨h1, h2, h3⟩ := hh
    have h4 := Option.some.inj h
    clear h
    have hsz : (⟨(strip0 a1.data.toList).toArray⟩ : ByteArray).size = (strip0 a1.data.toList).length := by simp [ByteArray.size]
    by_cases h5 : 5 < (strip0 a1.data.toList).length
    · have hv : valueL a0 a1.data.toList a2.data.toList = (0, false) := by unfold valueL; rw [if_pos h5]
      rw [hv] at h4
      cases h4
      exact value_long a0 a1 a2 _ w rfl (by omega)
    · have hv : valueL a0 a1.data.toList a2.data.toList = (if a0 then -(magL a1.data.toList a2.data.toList : Int) else magL a1.data.toList a2.data.toList, fitsB (if a0 then -(magL a1.data.toList a2.data.toList : Int) else magL a1.data.toList a2.data.toList)) := by
        unfold valueL; rw [if_neg h5]
      rw [hv] at h4
      exact value_good a0 a1 a2 _ w rfl (by omega) (strip0_all _ h1) h2 h3 r1 r2 h4.symm
  · cases h

end Go.Proofs.YtlbedeiehhgphaaGreatDoor

/-! ## QS -/
namespace Go.Proofs.YtlbedeiehhgphaaGreatDoor.QD
open Go Go.RowKit Go.Proofs.YtlbedeiehhgphaaGreatDoor Go.Proofs.YtlbedeiehhgphaaGreatDoorW.PrintWords

/-- a string by its bytes -/
def S (l : List UInt8) : ByteArray := ⟨l.toArray⟩
theorem S_append (a b : List UInt8) : S a ++ S b = S (a ++ b) := by apply ByteArray.ext; simp [S]
theorem S_size (a : List UInt8) : (S a).size = a.length := by simp [S, ByteArray.size]
theorem S_list (a : List UInt8) : (S a).toList = a := by rw [Lib.toList_data]; simp [S]
theorem S_data (a : List UInt8) : (S a).data.toList = a := by simp [S]
theorem S_of (s : ByteArray) : s = S s.data.toList := by apply ext_list; rw [S_data]
theorem S_to (l : List UInt8) (n : Nat) : (S l).extract 0 n = S (l.take n) := by rw [Lib.extract_eq]; simp [S]
theorem S_from (l : List UInt8) (n : Nat) : (S l).extract n (S l).size = S (l.drop n) := by
  rw [Lib.extract_eq, S_data, List.take_of_length_le (by rw [S_size, List.length_drop]; omega)]
  rfl
theorem S_bt (pre suf : List UInt8) (c : UInt8) : bt (S (pre ++ c :: suf)) (pre.length : Int) = (c.toNat : Int) := by
  rw [bt_nat _ _ (by rw [S_size]; simp)]
  simp [S]
theorem S_bt0 (suf : List UInt8) (c : UInt8) : bt (S (c :: suf)) 0 = (c.toNat : Int) := S_bt [] suf c

theorem tm (a b : Int) (h : 0 ≤ a) : a.tmod b = a % b := Int.tmod_eq_emod_of_nonneg h
theorem td (a b : Int) (h : 0 ≤ a) : a.tdiv b = a / b := Int.tdiv_eq_ediv_of_nonneg h
theorem w64 (n : Int) (h : -9223372036854775808 ≤ n) (h2 : n < 9223372036854775808) : wrap64 n = n := by unfold wrap64; omega

theorem isDig_iff (c : UInt8) : isDig c = true ↔ 48 ≤ c.toNat ∧ c.toNat ≤ 57 := by simp [isDig]

/-! ### what the digits come to -/
theorem valD_from (n : Nat) : ∀ l : List UInt8, l.foldl (fun n b => 10 * n + (b.toNat - 48)) n = n * 10 ^ l.length + valD l := by
  intro l
  induction l generalizing n with
  | nil => simp [valD]
  | cons c l ih =>
    show List.foldl _ (10 * n + (c.toNat - 48)) l = n * 10 ^ (l.length + 1) + List.foldl _ (10 * 0 + (c.toNat - 48)) l
    rw [ih, ih (10 * 0 + (c.toNat - 48)), Nat.pow_succ]
    have h : (10 * n + (c.toNat - 48)) * 10 ^ l.length = n * (10 ^ l.length * 10) + (c.toNat - 48) * 10 ^ l.length := by
      rw [Nat.add_mul, Nat.mul_comm 10 n, Nat.mul_assoc, Nat.mul_comm 10]
    rw [h]; simp; omega
theorem valD_cons (c : UInt8) (l : List UInt8) : valD (c :: l) = (c.toNat - 48) * 10 ^ l.length + valD l := by
  show List.foldl _ (10 * 0 + (c.toNat - 48)) l = _
  rw [valD_from]; simp
theorem valD_append (a b : List UInt8) : valD (a ++ b) = valD a * 10 ^ b.length + valD b := by
  show List.foldl _ 0 (a ++ b) = _
  rw [List.foldl_append, valD_from]
  rfl
theorem valD_lt10 : ∀ l : List UInt8, l.all isDig = true → valD l < 10 ^ l.length
  | [], _ => by simp [valD]
  | c :: l, h => by
    simp only [List.all_cons, Bool.and_eq_true] at h
    have ih := valD_lt10 l h.2
    have hc := (isDig_iff c).1 h.1
    rw [valD_cons, List.length_cons, Nat.pow_succ]
    have : (c.toNat - 48) * 10 ^ l.length ≤ 9 * 10 ^ l.length := Nat.mul_le_mul_right _ (by omega)
    omega
theorem strip0_cons (c : UInt8) (l : List UInt8) : strip0 (c :: l) = if c = 48 then strip0 l else c :: l := by
  unfold strip0 Lib.trimLeftS
  by_cases h : c = 48
  · subst h; simp
  · rw [if_neg h, List.dropWhile_cons, if_neg (by simpa using h)]
theorem strip0_val : ∀ l : List UInt8, valD (strip0 l) = valD l
  | [] => rfl
  | c :: l => by
    rw [strip0_cons]
    split
    · rename_i h; subst h; rw [strip0_val l, valD_cons]; simp
    · rfl
theorem strip0_len : ∀ l : List UInt8, l.all isDig = true → (5 < (strip0 l).length ↔ 99999 < valD l)
  | [], _ => by simp [strip0, Lib.trimLeftS, valD]
  | c :: l, h => by
    have h0 := h
    simp only [List.all_cons, Bool.and_eq_true] at h
    rw [strip0_cons]
    split
    · rename_i hc; subst hc; rw [valD_cons]; simpa using strip0_len l h.2
    · rename_i hc
      have hd := (isDig_iff c).1 h.1
      have hc' : c.toNat ≠ 48 := fun e => hc (UInt8.toNat_inj.1 (by rw [e]; rfl))
      have hlt := valD_lt10 _ h0
      rw [valD_cons] at hlt ⊢
      simp only [List.length_cons] at hlt ⊢
      have hge : 1 * 10 ^ l.length ≤ (c.toNat - 48) * 10 ^ l.length := Nat.mul_le_mul_right _ (by omega)
      constructor
      · intro h5
        have : 10 ^ 5 ≤ 10 ^ l.length := Nat.pow_le_pow_right (by omega) (by omega)
        omega
      · intro h5
        rcases Nat.lt_or_ge 5 (l.length + 1) with hh | hh
        · exact hh
        · have : 10 ^ (l.length + 1) ≤ 10 ^ 5 := Nat.pow_le_pow_right (by omega) hh
          omega

/-! ### the bits behind the point -/
theorem iterD_from (k : Nat) : ∀ n ds, iterD k n ds = (2 ^ k * n + (iterD k 0 ds).1, (iterD k 0 ds).2) := by
  induction k with
  | zero => intro n ds; simp [iterD]
  | succ k ih =>
    intro n ds
    rw [iterD, ih, iterD, ih (2 * 0 + (dbl ds).1)]
    have : 2 ^ (k + 1) * n = 2 ^ k * (2 * n) := by rw [Nat.pow_succ, Nat.mul_assoc]
    have h2 := Nat.mul_add (2 ^ k) (2 * n) (dbl ds).1
    have h3 := Nat.mul_add (2 ^ k) (2 * 0) (dbl ds).1
    refine Prod.ext ?_ rfl
    show 2 ^ k * (2 * n + (dbl ds).1) + (iterD k 0 (dbl ds).2).1 = 2 ^ (k + 1) * n + (2 ^ k * (2 * 0 + (dbl ds).1) + (iterD k 0 (dbl ds).2).1)
    omega

/-- the reference's number of digits ahead of and behind the point -/
def sclL (a b : List UInt8) : Int × Bool :=
  if 99999 < valD a then (0, false) else (((valD a * 65536 + ((iterD 17 0 (digsOf b)).1 + 1) / 2 : Nat) : Int), true)
def sgnR (n : Int) (m : Bool) : Int × Bool := if fitsB (if m then -n else n) then (if m then -n else n, true) else (0, false)

theorem mag_scl (a b : List UInt8) (hb : b.all isDig = true) : magL a b = valD a * 65536 + ((iterD 17 0 (digsOf b)).1 + 1) / 2 := by
  unfold magL
  have e17 : iterD 17 0 (digsOf b) = _ := iterD_succ 16 0 (digsOf b)
  rw [iterD_from 16 (valD (strip0 a)), e17, strip0_val]
  have hd : ∀ d ∈ digsOf b, d ≤ 9 := by
    intro d hd
    unfold digsOf at hd
    obtain ⟨c, hc, rfl⟩ := List.mem_map.1 hd
    have := (isDig_iff c).1 (List.all_eq_true.1 hb c hc)
    omega
  have h := (dbl_le _ (iterD_ok 16 0 (digsOf b) hd).2.1).1
  generalize (iterD 16 0 (digsOf b)).1 = B at *
  generalize (dbl (iterD 16 0 (digsOf b)).2).1 = c at *
  simp only
  omega

theorem val_agree (m : Bool) (a b : List UInt8) (ha : a.all isDig = true) (hb : b.all isDig = true) :
    (if (valueL m a b).2 = true then ((valueL m a b).1, true) else (0, false)) = (if (sclL a b).2 = true then sgnR (sclL a b).1 m else (0, false)) := by
  have h5 := strip0_len a ha
  by_cases h : 99999 < valD a
  · have hv : valueL m a b = (0, false) := by unfold valueL; rw [if_pos (h5.2 h)]
    have hs : sclL a b = (0, false) := by unfold sclL; rw [if_pos h]
    rw [hv, hs]
    simp
  · have hv : valueL m a b = (if m then -(magL a b : Int) else magL a b, fitsB (if m then -(magL a b : Int) else magL a b)) := by unfold valueL; rw [if_neg (fun h' => h (h5.1 h'))]
    have hs : sclL a b = ((magL a b : Int), true) := by unfold sclL; rw [if_neg h, mag_scl a b hb]
    rw [hv, hs]
    simp only [sgnR, if_true]

/-! ### sign, digits, point -/
def ptL : List UInt8 → Bool × List UInt8
  | [] => (false, [])
  | b :: t => if b = 46 then (true, t) else (false, b :: t)
/-- ahead of the point, behind it, is there one, are all others digits (and is there one at least) -/
def mantL (r : List UInt8) : List UInt8 × List UInt8 × Bool × Bool :=
  ((cut1 46 r).1, (cut1 46 r).2.1, (cut1 46 r).2.2, (cut1 46 r).1.all isDig && (cut1 46 r).2.1.all isDig && decide (0 < (cut1 46 r).1.length + (cut1 46 r).2.1.length))

theorem cut1_split (a q : List UInt8) (h : ∀ x ∈ a, x ≠ 46) : cut1 46 (a ++ q) = (a ++ (cut1 46 q).1, (cut1 46 q).2.1, (cut1 46 q).2.2) := by
  induction a with
  | nil => rfl
  | cons c a ih =>
    have hc : c ≠ 46 := h c (by simp)
    rw [List.cons_append, cut1, if_neg hc, ih (fun x hx => h x (by simp [hx]))]
    rfl

/-- the reference's reading of digits and a point -/
def plainL (r : List UInt8) : List UInt8 × Nat × Bool × Bool :=
  if (ptL (r.dropWhile isDig)).1 = true then
    (r.takeWhile isDig ++ (ptL (r.dropWhile isDig)).2.takeWhile isDig, (r.takeWhile isDig).length, true,
      decide ((ptL (r.dropWhile isDig)).2.dropWhile isDig = []) && decide (0 < (r.takeWhile isDig ++ (ptL (r.dropWhile isDig)).2.takeWhile isDig).length))
  else (r.takeWhile isDig, (r.takeWhile isDig).length, false, decide (r.dropWhile isDig = []) && decide (0 < (r.takeWhile isDig).length))

theorem not46 (a : List UInt8) (h : a.all isDig = true) : ∀ x ∈ a, x ≠ 46 := by
  intro x hx e
  have := (isDig_iff x).1 (List.all_eq_true.1 h x hx)
  rw [e] at this
  revert this; decide
theorem takeW_all (r : List UInt8) : (r.takeWhile isDig).all isDig = true := by
  exact List.all_takeWhile
theorem dropW_nil (t : List UInt8) : t.dropWhile isDig = [] ↔ t.all isDig = true := by
  rw [dropWhile_nil, List.all_eq_true]
theorem takeW_id (t : List UInt8) (h : t.all isDig = true) : t.takeWhile isDig = t := by
  have := List.takeWhile_append_dropWhile (p := isDig) (l := t)
  rw [(dropW_nil t).2 h, List.append_nil] at this
  exact this

/-- the two agree -/
theorem plain_mant (r : List UInt8) : (plainL r).2.2.2 = (mantL r).2.2.2 ∧
    ((mantL r).2.2.2 = true → (plainL r).1 = (mantL r).1 ++ (mantL r).2.1 ∧ (plainL r).2.1 = (mantL r).1.length ∧ (mantL r).1.all isDig = true ∧ (mantL r).2.1.all isDig = true ∧ (plainL r).2.2.1 = (mantL r).2.2.1) := by
  have hr := (List.takeWhile_append_dropWhile (p := isDig) (l := r)).symm
  have ha := takeW_all r
  unfold plainL
  generalize hA : r.takeWhile isDig = a at *
  generalize hQ : r.dropWhile isDig = q at *
  have hn := not46 a ha
  have hc := cut1_split a q hn
  rw [← hr] at hc
  unfold mantL
  rw [hc]
  match q, hQ with
  | [], _ => simp [ptL, cut1, ha]
  | c :: t, hQ =>
    by_cases h46 : c = 46
    · subst h46
      simp only [ptL, cut1, if_true, List.append_nil, ha, Bool.true_and]
      by_cases ht : t.all isDig = true
      · simp [ht, takeW_id t ht, (dropW_nil t).2 ht]
      · have h1 : ¬ t.dropWhile isDig = [] := fun h => ht ((dropW_nil t).1 h)
        simp [ht, h1]
    · have hcd : isDig c = false := by
        rcases hcc : isDig c with _ | _
        · rfl
        · have := List.head?_dropWhile_not (p := isDig) r
          rw [hQ] at this
          simp [hcc] at this
      simp only [ptL, cut1, if_neg h46]
      simp [hcd]

/-- the program's answer -/
def parseL (l : List UInt8) : Int × Bool :=
  if 64 < l.length then (0, false)
  else if (mantL (sgnL l).2).2.2.2 = true then
    (if (valueL (sgnL l).1 (mantL (sgnL l).2).1 (mantL (sgnL l).2).2.1).2 = true then ((valueL (sgnL l).1 (mantL (sgnL l).2).1 (mantL (sgnL l).2).2.1).1, true) else (0, false))
  else (0, false)

end Go.Proofs.YtlbedeiehhgphaaGreatDoor.QD

/-! ## CA -/
namespace Go.Proofs.YtlbedeiehhgphaaGreatDoor.CV
open Go Go.RowKit Go.ChangeShapes Go.Proofs.YtlbedeiehhgphaaGreatDoor Go.Proofs.YtlbedeiehhgphaaGreatDoor.QD Go.Proofs.YtlbedeiehhgphaaGreatDoorW.PrintWords Go.Proofs.YtlbedeiehhgphaaGreatDoorW.PrintLast

/-- a store whose strings these are (a row of m rows) -/
def StB (w : World) (sp : Nat) (fr : Int) (tb m cap : Nat) : Prop :=
  w.heap[sp]? = some (.cells #[.int .i64 fr, .slice (some ⟨tb, 0, none⟩) m cap, .slice none 0 0, .slice none 0 0, .slice none 0 0, .slice none 0 0] 65 (0, 0))
theorem StB.below {w w' : World} {sp tb m cap : Nat} {fr : Int} (h : StB w sp fr tb m cap) (hb : Below w.heap.size w w') : StB w' sp fr tb m cap := by
  have hlt : sp < w.heap.size := by
    rcases Nat.lt_or_ge sp w.heap.size with h' | h'
    · exact h'
    · rw [StB, Array.getElem?_eq_none h'] at h; cases h
  exact (hb.block sp hlt).trans h
theorem cell_below {w w' : World} {a : Addr} {v : Value} (h : w.cell? a = some v) (hb : Below w.heap.size w w') : w'.cell? a = some v := (hb.cell (World.block_lt_of_cell? w _ h)).trans h
theorem obj_box (w : World) (o : Obj) : Below w.heap.size w (w.alloc o) := (Below.refl _ _).alloc (Nat.le_refl _) o

set_option maxHeartbeats 1000000 in
set_option maxRecDepth 100000 in
theorem within_ok (r : Int) (L n : Nat) (w : World) (h : L ≤ n) (hn : n ≤ 100000) :
    Calls Tryz.prog 37 #[.agg #[.int .i64 6, .bool false, .int .i64 0, .int .i64 0, .string ⟨#[]⟩, .int .i64 r, .int .i64 0, .int .i64 (L : Int)], .int .i64 (n : Int)] w fun e w' => e = .returned (.bool true) ∧ Below w.heap.size w w' := by
  have h1 : (0 : Int) ≤ (L : Int) := by omega
  have h2 : (0 : Int) ≤ (n : Int) := by omega
  have h3 : (L : Int) ≤ (n : Int) := by omega
  have h4 : wrap64 (n : Int) = (n : Int) := w64 _ (by omega) (by omega)
  go_enter Tryz.func37, Tryz.ntmps37
  go_wp2_with fail
  go_ret
  exact ⟨rfl, obj_box w _⟩

set_option maxHeartbeats 1000000 in
set_option maxRecDepth 100000 in
theorem valid_num (sp : Nat) (k n : Int) (w : World) (hk : k = 1 ∨ k = 2) :
    Calls Tryz.prog 19 #[.pointer (some ⟨sp, 0, none⟩), .agg #[.int .i64 k, .bool false, .int .i64 0, .int .i64 n, .string ⟨#[]⟩, .int .i64 0, .int .i64 0, .int .i64 0]] w fun e w' => e = .returned (.bool true) ∧ Below w.heap.size w w' := by
  rcases hk with rfl | rfl
  all_goals
    go_enter Tryz.func19, Tryz.ntmps19
    go_wp2_with fail
    go_ret
    exact ⟨rfl, obj_box w _⟩

set_option maxHeartbeats 4000000 in
set_option maxRecDepth 100000 in
theorem valid_str (sp tb m cap bb n r L : Nat) (fr : Int) (w : World) (hS : StB w sp fr tb m cap) (hT : w.cell? ⟨tb, r, none⟩ = some (.slice (some ⟨bb, 0, none⟩) n n)) (hr : r < m) (hL : L ≤ n) (hn : n ≤ 100000) :
    Calls Tryz.prog 19 #[.pointer (some ⟨sp, 0, none⟩), .agg #[.int .i64 6, .bool false, .int .i64 0, .int .i64 0, .string ⟨#[]⟩, .int .i64 (r : Int), .int .i64 0, .int .i64 (L : Int)]] w fun e w' => e = .returned (.bool true) ∧ Below w.heap.size w w' := by
  have h1 : (0 : Int) ≤ (r : Int) := by omega
  have h2 : (r : Int) < (m : Int) := by omega
  have HW := Lib.hid (fun w => within_ok (r : Int) L n w hL hn)
  have hb0 := obj_box w (.cells #[.int .i64 6, .bool false, .int .i64 0, .int .i64 0, .string ⟨#[]⟩, .int .i64 (r : Int), .int .i64 0, .int .i64 (L : Int)] 27)
  have cS : (w.alloc (.cells #[.int .i64 6, .bool false, .int .i64 0, .int .i64 0, .string ⟨#[]⟩, .int .i64 (r : Int), .int .i64 0, .int .i64 (L : Int)] 27)).cell? ⟨sp, 1, none⟩ = some (.slice (some ⟨tb, 0, none⟩) m cap) := Lib.cell_of_heap (hS.below hb0) 1
  have cT := cell_below hT hb0
  have cO := heap_alloc_new w (.cells #[.int .i64 6, .bool false, .int .i64 0, .int .i64 0, .string ⟨#[]⟩, .int .i64 (r : Int), .int .i64 0, .int .i64 (L : Int)] 27)
  have HB := Lib.hid hb0
  clear hS hT hb0 hL hn hr
  go_enter Tryz.func19, Tryz.ntmps19
  go_upto_region 5 with fail
  generalize w.alloc (.cells #[.int .i64 6, .bool false, .int .i64 0, .int .i64 0, .string ⟨#[]⟩, .int .i64 (r : Int), .int .i64 0, .int .i64 (L : Int)] 27) = W at *
  have o0 : W.cell? ⟨w.heap.size, 0, none⟩ = some (.int .i64 6) := Lib.cell_of_heap cO 0
  have o1 : W.cell? ⟨w.heap.size, 1, none⟩ = some (.bool false) := Lib.cell_of_heap cO 1
  have o2 : W.cell? ⟨w.heap.size, 2, none⟩ = some (.int .i64 0) := Lib.cell_of_heap cO 2
  have o3 : W.cell? ⟨w.heap.size, 3, none⟩ = some (.int .i64 0) := Lib.cell_of_heap cO 3
  have o4 : W.cell? ⟨w.heap.size, 4, none⟩ = some (.string ⟨#[]⟩) := Lib.cell_of_heap cO 4
  have o5 : W.cell? ⟨w.heap.size, 5, none⟩ = some (.int .i64 (r : Int)) := Lib.cell_of_heap cO 5
  have o6 : W.cell? ⟨w.heap.size, 6, none⟩ = some (.int .i64 0) := Lib.cell_of_heap cO 6
  have o7 : W.cell? ⟨w.heap.size, 7, none⟩ = some (.int .i64 (L : Int)) := Lib.cell_of_heap cO 7
  clear cO
  go_region_held3 (fun w' => w'.cell? ⟨sp, 1, none⟩ = some (.slice (some ⟨tb, 0, none⟩) m cap) ∧ w'.cell? ⟨tb, r, none⟩ = some (.slice (some ⟨bb, 0, none⟩) n n) ∧ w'.cell? ⟨w.heap.size, 0, none⟩ = some (.int .i64 6) ∧ w'.cell? ⟨w.heap.size, 1, none⟩ = some (.bool false) ∧ w'.cell? ⟨w.heap.size, 2, none⟩ = some (.int .i64 0) ∧ w'.cell? ⟨w.heap.size, 3, none⟩ = some (.int .i64 0) ∧ w'.cell? ⟨w.heap.size, 4, none⟩ = some (.string ⟨#[]⟩) ∧ w'.cell? ⟨w.heap.size, 5, none⟩ = some (.int .i64 (r : Int)) ∧ w'.cell? ⟨w.heap.size, 6, none⟩ = some (.int .i64 0) ∧ w'.cell? ⟨w.heap.size, 7, none⟩ = some (.int .i64 (L : Int)))
    (first | exact ⟨cS, cT, o0, o1, o2, o3, o4, o5, o6, o7⟩ | exact ⟨cell_below cS hb2, cell_below cT hb2, cell_below o0 hb2, cell_below o1 hb2, cell_below o2 hb2, cell_below o3 hb2, cell_below o4 hb2, cell_below o5 hb2, cell_below o6 hb2, cell_below o7 hb2⟩)
    (first | (go_at_call 37; refine (HW.out _).mono ?_; rintro e w4 ⟨rfl, hb⟩; have hb2 := ((Below.refl W.heap.size W).drew).trans hb))
  all_goals (go_wp2_with fail)
  all_goals go_ret
  all_goals exact ⟨rfl, HB.out.trans (hb2.mono HB.out.size)⟩

end Go.Proofs.YtlbedeiehhgphaaGreatDoor.CV

/-! ## CB -/
namespace Go.Proofs.YtlbedeiehhgphaaGreatDoor.CV
open Go Go.RowKit Go.ChangeShapes Go.Proofs Go.Proofs.YtlbedeiehhgphaaGreatDoor Go.Proofs.YtlbedeiehhgphaaGreatDoor.QD Go.Proofs.YtlbedeiehhgphaaGreatDoorW.PrintWords Go.Proofs.YtlbedeiehhgphaaGreatDoorW.PrintLast

theorem wrapEq (x : Int) : IntKind.i64.wrap x = wrap64 x := by rw [IntKind.wrap_i64]; unfold wrap64; rfl
theorem obj_facts {w : World} {g : Nat} {a0 a1 a2 a3 a4 a5 a6 a7 : Value} {t : TypeId} (h : w.heap[g]? = some (.cells #[a0, a1, a2, a3, a4, a5, a6, a7] t (0, 0))) :
    (w.cell? ⟨g, 0, none⟩ = some a0 ∧ w.cell? ⟨g, 1, none⟩ = some a1 ∧ w.cell? ⟨g, 2, none⟩ = some a2 ∧ w.cell? ⟨g, 3, none⟩ = some a3 ∧ w.cell? ⟨g, 4, none⟩ = some a4 ∧ w.cell? ⟨g, 5, none⟩ = some a5 ∧ w.cell? ⟨g, 6, none⟩ = some a6 ∧ w.cell? ⟨g, 7, none⟩ = some a7) ∧
    (w.frozen? ⟨g, 0, none⟩ = false ∧ w.frozen? ⟨g, 1, none⟩ = false ∧ w.frozen? ⟨g, 2, none⟩ = false ∧ w.frozen? ⟨g, 3, none⟩ = false ∧ w.frozen? ⟨g, 4, none⟩ = false ∧ w.frozen? ⟨g, 5, none⟩ = false ∧ w.frozen? ⟨g, 6, none⟩ = false ∧ w.frozen? ⟨g, 7, none⟩ = false) :=
  ⟨⟨Lib.cell_of_heap h 0, Lib.cell_of_heap h 1, Lib.cell_of_heap h 2, Lib.cell_of_heap h 3, Lib.cell_of_heap h 4, Lib.cell_of_heap h 5, Lib.cell_of_heap h 6, Lib.cell_of_heap h 7⟩,
    Lib.frozen_of_heap h 0, Lib.frozen_of_heap h 1, Lib.frozen_of_heap h 2, Lib.frozen_of_heap h 3, Lib.frozen_of_heap h 4, Lib.frozen_of_heap h 5, Lib.frozen_of_heap h 6, Lib.frozen_of_heap h 7⟩
theorem set_heap {w : World} {g : Nat} {cs : Array Value} {t : TypeId} {fr : Nat × Nat} (h : w.heap[g]? = some (.cells cs t fr)) (i : Nat) (v : Value) : (w.setCell ⟨g, i, none⟩ v).heap[g]? = some (.cells (cs.setIfInBounds i v) t fr) := by
  rw [setCell_eq_setRow w g i cs t fr v h]
  exact setRow_heap w g cs _ t fr h
theorem obj_set8 {w : World} {g : Nat} {a0 a1 a2 a3 a4 a5 a6 a7 : Value} {t : TypeId} {fr : Nat × Nat} (h : w.heap[g]? = some (.cells #[a0, a1, a2, a3, a4, a5, a6, a7] t fr)) (v0 v1 v2 v3 v4 v5 v6 v7 : Value) :
    ((((((((w.setCell ⟨g, 0, none⟩ v0).setCell ⟨g, 1, none⟩ v1).setCell ⟨g, 2, none⟩ v2).setCell ⟨g, 3, none⟩ v3).setCell ⟨g, 4, none⟩ v4).setCell ⟨g, 5, none⟩ v5).setCell ⟨g, 6, none⟩ v6).setCell ⟨g, 7, none⟩ v7).heap[g]? = some (.cells #[v0, v1, v2, v3, v4, v5, v6, v7] t fr) := by
  have e := set_heap (set_heap (set_heap (set_heap (set_heap (set_heap (set_heap (set_heap h 0 v0) 1 v1) 2 v2) 3 v3) 4 v4) 5 v5) 6 v6) 7 v7
  simp only [List.setIfInBounds_toArray, List.set_cons_zero, List.set_cons_succ] at e
  exact e
theorem obj_set67 {w : World} {g : Nat} {a0 a1 a2 a3 a4 a5 a6 a7 : Value} {t : TypeId} {fr : Nat × Nat} (h : w.heap[g]? = some (.cells #[a0, a1, a2, a3, a4, a5, a6, a7] t fr)) (v6 v7 : Value) :
    ((w.setCell ⟨g, 6, none⟩ v6).setCell ⟨g, 7, none⟩ v7).heap[g]? = some (.cells #[a0, a1, a2, a3, a4, a5, v6, v7] t fr) := by
  have e := set_heap (set_heap h 6 v6) 7 v7
  simp only [List.setIfInBounds_toArray, List.set_cons_zero, List.set_cons_succ] at e
  exact e
theorem set8_below {B g : Nat} {w0 w : World} (h : Below B w0 w) (hg : B ≤ g) (v0 v1 v2 v3 v4 v5 v6 v7 : Value) :
    Below B w0 ((((((((w.setCell ⟨g, 0, none⟩ v0).setCell ⟨g, 1, none⟩ v1).setCell ⟨g, 2, none⟩ v2).setCell ⟨g, 3, none⟩ v3).setCell ⟨g, 4, none⟩ v4).setCell ⟨g, 5, none⟩ v5).setCell ⟨g, 6, none⟩ v6).setCell ⟨g, 7, none⟩ v7) :=
  (((((((h.setCell (p := ⟨g, 0, none⟩) hg _).setCell (p := ⟨g, 1, none⟩) hg _).setCell (p := ⟨g, 2, none⟩) hg _).setCell (p := ⟨g, 3, none⟩) hg _).setCell (p := ⟨g, 4, none⟩) hg _).setCell (p := ⟨g, 5, none⟩) hg _).setCell (p := ⟨g, 6, none⟩) hg _).setCell (p := ⟨g, 7, none⟩) hg _
theorem blk_far {w : World} {b b' o : Nat} {v : Value} (h : b ≠ b') : (w.setCell ⟨b', o, none⟩ v).heap[b]? = w.heap[b]? := Below.heap_setCell w ⟨b', o, none⟩ v b h
theorem obj_second (w : World) (o p : Obj) : ((w.alloc o).alloc p).heap[w.heap.size + 1]? = some p := by
  have h := heap_alloc_new (w.alloc o) p
  have hs : (w.alloc o).heap.size = w.heap.size + 1 := by simp
  rw [hs] at h
  exact h

set_option maxHeartbeats 4000000 in
set_option maxRecDepth 100000 in
theorem is_str (sp tb m cap bb n r L : Nat) (fr : Int) (w : World) (hS : StB w sp fr tb m cap) (hT : w.cell? ⟨tb, r, none⟩ = some (.slice (some ⟨bb, 0, none⟩) n n)) (hr : r < m) (hL : L ≤ n) (hn : n ≤ 100000) :
    Calls Tryz.prog 25 #[.pointer (some ⟨sp, 0, none⟩), .agg #[.int .i64 6, .bool false, .int .i64 0, .int .i64 0, .string ⟨#[]⟩, .int .i64 (r : Int), .int .i64 0, .int .i64 (L : Int)], .int .i64 6] w fun e w' => e = .returned (.bool true) ∧ Below w.heap.size w w' := by
  have hb0 := obj_box w (.cells #[.int .i64 6, .bool false, .int .i64 0, .int .i64 0, .string ⟨#[]⟩, .int .i64 (r : Int), .int .i64 0, .int .i64 (L : Int)] 27)
  have HV := Lib.hid (valid_str sp tb m cap bb n r L fr (w.alloc (.cells #[.int .i64 6, .bool false, .int .i64 0, .int .i64 0, .string ⟨#[]⟩, .int .i64 (r : Int), .int .i64 0, .int .i64 (L : Int)] 27)) (hS.below hb0) (cell_below hT hb0) hr hL hn)
  have HB := Lib.hid hb0
  clear hS hT hb0
  go_enter Tryz.func25, Tryz.ntmps25
  go_wp2_with fail
  refine HV.out.mono ?_
  rintro e w1 ⟨rfl, hb⟩
  have HB1 := Lib.hid (HB.out.trans (hb.mono HB.out.size))
  clear hb
  go_wp2_with fail
  go_ret
  exact ⟨rfl, HB1.out⟩

set_option maxHeartbeats 4000000 in
set_option maxRecDepth 100000 in
theorem text_is (sp tb m cap bb n r L : Nat) (fr : Int) (w : World) (hS : StB w sp fr tb m cap) (hT : w.cell? ⟨tb, r, none⟩ = some (.slice (some ⟨bb, 0, none⟩) n n)) (hr : r < m) (hL : L ≤ n) (hn : n ≤ 100000) :
    Calls Tryz.prog 27 #[.pointer (some ⟨sp, 0, none⟩), .agg #[.int .i64 6, .bool false, .int .i64 0, .int .i64 0, .string ⟨#[]⟩, .int .i64 (r : Int), .int .i64 0, .int .i64 (L : Int)]] w fun e w' => e = .returned (.slice (some ⟨bb, 0, none⟩) L n) ∧ Below w.heap.size w w' := by
  have h1 : (0 : Int) ≤ (r : Int) := by omega
  have h2 : (r : Int) < (m : Int) := by omega
  have h3 : (0 : Int) ≤ (L : Int) := by omega
  have h4 : (L : Int) ≤ (n : Int) := by omega
  have h5 : wrap64 (L : Int) = (L : Int) := w64 _ (by omega) (by omega)
  have h6 : IntKind.i64.wrap (L : Int) = (L : Int) := (wrapEq _).trans h5
  have h8 : IntKind.i64.wrap ((0 : Int) + (L : Int)) = (L : Int) := by rw [Int.zero_add]; exact h6
  have h9 : wrap64 ((0 : Int) + (L : Int)) = (L : Int) := by rw [Int.zero_add]; exact h5
  have hb0 := obj_box w (.cells #[.int .i64 6, .bool false, .int .i64 0, .int .i64 0, .string ⟨#[]⟩, .int .i64 (r : Int), .int .i64 0, .int .i64 (L : Int)] 27)
  have cS : (w.alloc (.cells #[.int .i64 6, .bool false, .int .i64 0, .int .i64 0, .string ⟨#[]⟩, .int .i64 (r : Int), .int .i64 0, .int .i64 (L : Int)] 27)).cell? ⟨sp, 1, none⟩ = some (.slice (some ⟨tb, 0, none⟩) m cap) := Lib.cell_of_heap (hS.below hb0) 1
  have cT := cell_below hT hb0
  have cO := heap_alloc_new w (.cells #[.int .i64 6, .bool false, .int .i64 0, .int .i64 0, .string ⟨#[]⟩, .int .i64 (r : Int), .int .i64 0, .int .i64 (L : Int)] 27)
  have HB := Lib.hid hb0
  clear hS hT hb0 hL hn hr
  go_enter Tryz.func27, Tryz.ntmps27
  go_upto_region 1 with fail
  generalize w.alloc (.cells #[.int .i64 6, .bool false, .int .i64 0, .int .i64 0, .string ⟨#[]⟩, .int .i64 (r : Int), .int .i64 0, .int .i64 (L : Int)] 27) = W at *
  have o0 : W.cell? ⟨w.heap.size, 0, none⟩ = some (.int .i64 6) := Lib.cell_of_heap cO 0
  have o1 : W.cell? ⟨w.heap.size, 1, none⟩ = some (.bool false) := Lib.cell_of_heap cO 1
  have o2 : W.cell? ⟨w.heap.size, 2, none⟩ = some (.int .i64 0) := Lib.cell_of_heap cO 2
  have o3 : W.cell? ⟨w.heap.size, 3, none⟩ = some (.int .i64 0) := Lib.cell_of_heap cO 3
  have o4 : W.cell? ⟨w.heap.size, 4, none⟩ = some (.string ⟨#[]⟩) := Lib.cell_of_heap cO 4
  have o5 : W.cell? ⟨w.heap.size, 5, none⟩ = some (.int .i64 (r : Int)) := Lib.cell_of_heap cO 5
  have o6 : W.cell? ⟨w.heap.size, 6, none⟩ = some (.int .i64 0) := Lib.cell_of_heap cO 6
  have o7 : W.cell? ⟨w.heap.size, 7, none⟩ = some (.int .i64 (L : Int)) := Lib.cell_of_heap cO 7
  clear cO
  go_region_held3 (fun w' => w'.cell? ⟨sp, 1, none⟩ = some (.slice (some ⟨tb, 0, none⟩) m cap) ∧ w'.cell? ⟨tb, r, none⟩ = some (.slice (some ⟨bb, 0, none⟩) n n) ∧ w'.cell? ⟨w.heap.size, 0, none⟩ = some (.int .i64 6) ∧ w'.cell? ⟨w.heap.size, 1, none⟩ = some (.bool false) ∧ w'.cell? ⟨w.heap.size, 2, none⟩ = some (.int .i64 0) ∧ w'.cell? ⟨w.heap.size, 3, none⟩ = some (.int .i64 0) ∧ w'.cell? ⟨w.heap.size, 4, none⟩ = some (.string ⟨#[]⟩) ∧ w'.cell? ⟨w.heap.size, 5, none⟩ = some (.int .i64 (r : Int)) ∧ w'.cell? ⟨w.heap.size, 6, none⟩ = some (.int .i64 0) ∧ w'.cell? ⟨w.heap.size, 7, none⟩ = some (.int .i64 (L : Int)))
    (exact ⟨cS, cT, o0, o1, o2, o3, o4, o5, o6, o7⟩)
    (fail)
  all_goals (go_wp2_with fail)
  all_goals go_ret
  all_goals exact ⟨rfl, HB.out.drew⟩

set_option maxHeartbeats 4000000 in
set_option maxRecDepth 100000 in
theorem part_is (sp tb m cap bb n r L K : Nat) (fr : Int) (w : World) (hS : StB w sp fr tb m cap) (hT : w.cell? ⟨tb, r, none⟩ = some (.slice (some ⟨bb, 0, none⟩) n n)) (hr : r < m) (hL : L ≤ n) (hn : n ≤ 100000) (hK : K ≤ L) :
    Calls Tryz.prog 46 #[.pointer (some ⟨sp, 0, none⟩), .agg #[.int .i64 6, .bool false, .int .i64 0, .int .i64 0, .string ⟨#[]⟩, .int .i64 (r : Int), .int .i64 0, .int .i64 (L : Int)], .int .i64 0, .int .i64 (K : Int)] w fun e w' => e = .returned (.tuple #[.agg #[.int .i64 6, .bool false, .int .i64 0, .int .i64 0, .string ⟨#[]⟩, .int .i64 (r : Int), .int .i64 0, .int .i64 (K : Int)], .int .i64 0]) ∧ Below w.heap.size w w' := by
  have h3 : (0 : Int) ≤ (K : Int) := by omega
  have h4 : (K : Int) ≤ (L : Int) := by omega
  have h7 : (0 : Int) ≤ (L : Int) := by omega
  have h5 : wrap64 (L : Int) = (L : Int) := w64 _ (by omega) (by omega)
  have hb0 := obj_box w (.cells #[.int .i64 6, .bool false, .int .i64 0, .int .i64 0, .string ⟨#[]⟩, .int .i64 (r : Int), .int .i64 0, .int .i64 (L : Int)] 27)
  have hb1 := hb0.alloc hb0.size (.cells #[.int .i64 0, .bool false, .int .i64 0, .int .i64 0, .string ⟨#[]⟩, .int .i64 0, .int .i64 0, .int .i64 0] 27)
  have HV := Lib.hid (valid_str sp tb m cap bb n r L fr _ (hS.below hb1) (cell_below hT hb1) hr hL hn)
  have HB := Lib.hid hb1
  have H0 := Lib.hid ((((obj_box (w.alloc (.cells #[.int .i64 6, .bool false, .int .i64 0, .int .i64 0, .string ⟨#[]⟩, .int .i64 (r : Int), .int .i64 0, .int .i64 (L : Int)] 27)) (.cells #[.int .i64 0, .bool false, .int .i64 0, .int .i64 0, .string ⟨#[]⟩, .int .i64 0, .int .i64 0, .int .i64 0] 27)).block w.heap.size (by simp)).trans (heap_alloc_new w (.cells #[.int .i64 6, .bool false, .int .i64 0, .int .i64 0, .string ⟨#[]⟩, .int .i64 (r : Int), .int .i64 0, .int .i64 (L : Int)] 27))))
  have H1 := Lib.hid (obj_second w (.cells #[.int .i64 6, .bool false, .int .i64 0, .int .i64 0, .string ⟨#[]⟩, .int .i64 (r : Int), .int .i64 0, .int .i64 (L : Int)] 27) (.cells #[.int .i64 0, .bool false, .int .i64 0, .int .i64 0, .string ⟨#[]⟩, .int .i64 0, .int .i64 0, .int .i64 0] 27))
  clear hS hT hb0 hb1
  go_enter Tryz.func46, Tryz.ntmps46
  go_wp2_with fail
  refine HV.out.mono ?_
  rintro e w1 ⟨rfl, hb⟩
  have HB1 := Lib.hid (HB.out.trans (hb.mono HB.out.size))
  have h0 := (hb.block w.heap.size (by simp; omega)).trans H0.out
  have h1 := (hb.block (w.heap.size + 1) (by simp)).trans H1.out
  obtain ⟨⟨a0, a1, a2, a3, a4, a5, a6, a7⟩, q0, q1, q2, q3, q4, q5, q6, q7⟩ := obj_facts h0
  have G0 := Lib.hid (obj_set67 h0 (.int .i64 0) (.int .i64 (K : Int)))
  have G1 := Lib.hid (((blk_far (w := w1.setCell ⟨w.heap.size, 6, none⟩ (.int .i64 0)) (b := w.heap.size + 1) (b' := w.heap.size) (o := 7) (v := .int .i64 (K : Int)) (by omega)).trans (blk_far (w := w1) (b := w.heap.size + 1) (b' := w.heap.size) (o := 6) (v := .int .i64 0) (by omega))).trans h1)
  have HB2 := Lib.hid ((HB1.out.setCell (p := ⟨w.heap.size, 6, none⟩) (Nat.le_refl _) (.int .i64 0)).setCell (p := ⟨w.heap.size, 7, none⟩) (Nat.le_refl _) (.int .i64 (K : Int)))
  clear hb HV HB h0 h1 H0 H1
  go_upto_region 7 with fail
  generalize (w1.setCell ⟨w.heap.size, 6, none⟩ (.int .i64 0)).setCell ⟨w.heap.size, 7, none⟩ (.int .i64 (K : Int)) = W2 at *
  clear a0 a1 a2 a3 a4 a5 a6 a7 q0 q1 q2 q3 q4 q5 q6 q7
  obtain ⟨⟨a0, a1, a2, a3, a4, a5, a6, a7⟩, -⟩ := obj_facts G0.out
  obtain ⟨⟨b0, b1, b2, b3, b4, b5, b6, b7⟩, p0, p1, p2, p3, p4, p5, p6, p7⟩ := obj_facts G1.out
  have hG1 := G1.out
  go_wp2_with fail
  have hF := obj_set8 hG1 (.int .i64 6) (.bool false) (.int .i64 0) (.int .i64 0) (.string ⟨#[]⟩) (.int .i64 (r : Int)) (.int .i64 0) (.int .i64 (K : Int))
  have hFB := Lib.hid (set8_below HB2.out (g := w.heap.size + 1) (by simp) (.int .i64 6) (.bool false) (.int .i64 0) (.int .i64 0) (.string ⟨#[]⟩) (.int .i64 (r : Int)) (.int .i64 0) (.int .i64 (K : Int)))
  generalize ((((((((W2.setCell ⟨w.heap.size + 1, 0, none⟩ (.int .i64 6)).setCell ⟨w.heap.size + 1, 1, none⟩ (.bool false)).setCell ⟨w.heap.size + 1, 2, none⟩ (.int .i64 0)).setCell ⟨w.heap.size + 1, 3, none⟩ (.int .i64 0)).setCell ⟨w.heap.size + 1, 4, none⟩ (.string ⟨#[]⟩)).setCell ⟨w.heap.size + 1, 5, none⟩ (.int .i64 (r : Int))).setCell ⟨w.heap.size + 1, 6, none⟩ (.int .i64 0)).setCell ⟨w.heap.size + 1, 7, none⟩ (.int .i64 (K : Int))) = W3 at *
  obtain ⟨⟨r0, r1, r2, r3, r4, r5, r6, r7⟩, -⟩ := obj_facts hF
  refine bodyPost_ret (v := .tuple #[.agg #[.int .i64 6, .bool false, .int .i64 0, .int .i64 0, .string ⟨#[]⟩, .int .i64 (r : Int), .int .i64 0, .int .i64 (K : Int)], .int .i64 0]) (by simp [results, Tryz.results46, go_sem, r0, r1, r2, r3, r4, r5, r6, r7]) rfl ⟨rfl, hFB.out⟩

end Go.Proofs.YtlbedeiehhgphaaGreatDoor.CV

/-! ## CC -/
namespace Go.Proofs.YtlbedeiehhgphaaGreatDoor.CV
open Go Go.RowKit Go.ChangeShapes Go.Proofs Go.Proofs.YtlbedeiehhgphaaGreatDoor Go.Proofs.YtlbedeiehhgphaaGreatDoor.QD Go.Proofs.YtlbedeiehhgphaaGreatDoorW.PrintWords Go.Proofs.YtlbedeiehhgphaaGreatDoorW.PrintLast

def bI (l : List UInt8) : List Int := l.map fun c => (c.toNat : Int)
theorem bI_len (l : List UInt8) : (bI l).length = l.length := by simp [bI]
theorem two_box (w : World) (o p : Obj) : Below w.heap.size w ((w.alloc o).alloc p) := (obj_box w o).alloc (obj_box w o).size p

set_option maxHeartbeats 4000000 in
set_option maxRecDepth 100000 in
theorem access_str (sp : Nat) (r L : Int) (w : World) :
    Calls Tryz.prog 59 #[.agg #[.pointer (some ⟨sp, 0, none⟩)], .agg #[.int .i64 6, .bool false, .int .i64 0, .int .i64 0, .string ⟨#[]⟩, .int .i64 r, .int .i64 0, .int .i64 L]] w fun e w' => e = .returned (.int .i64 0) ∧ Below w.heap.size w w' := by
  go_enter Tryz.func59, Tryz.ntmps59
  go_wp2_with fail
  go_ret
  exact ⟨rfl, two_box w _ _⟩

set_option maxHeartbeats 4000000 in
set_option maxRecDepth 100000 in
theorem writable_str (sp : Nat) (r L : Int) (w : World) :
    Calls Tryz.prog 44 #[.agg #[.pointer (some ⟨sp, 0, none⟩)], .agg #[.int .i64 6, .bool false, .int .i64 0, .int .i64 0, .string ⟨#[]⟩, .int .i64 r, .int .i64 0, .int .i64 L]] w fun e w' => e = .returned (.bool true) ∧ Below w.heap.size w w' := by
  have HA := Lib.hid (fun w => access_str sp r L w)
  have HB := Lib.hid (two_box w (.cells #[.pointer (some ⟨sp, 0, none⟩)] 72) (.cells #[.int .i64 6, .bool false, .int .i64 0, .int .i64 0, .string ⟨#[]⟩, .int .i64 r, .int .i64 0, .int .i64 L] 27))
  go_enter Tryz.func44, Tryz.ntmps44
  go_wp2_with fail
  refine (HA.out _).mono ?_
  rintro e w1 ⟨rfl, hb⟩
  have HB1 := Lib.hid (HB.out.trans (hb.mono HB.out.size))
  clear hb
  go_wp2_with fail
  go_ret
  exact ⟨rfl, HB1.out⟩

set_option maxHeartbeats 4000000 in
set_option maxRecDepth 100000 in
theorem bytes_is (sp tb m cap bb n r L : Nat) (fr : Int) (xs : List UInt8) (w : World) (hS : StB w sp fr tb m cap) (hT : w.cell? ⟨tb, r, none⟩ = some (.slice (some ⟨bb, 0, none⟩) n n)) (hr : r < m) (hL : L ≤ n) (hn : n ≤ 100000)
    (hx : xs.length = L) (hB : ∀ i, i < L → w.cell? ⟨bb, i, none⟩ = some (.int .u8 ((bI xs).getD i 0))) :
    Calls Tryz.prog 10 #[.pointer (some ⟨sp, 0, none⟩), .agg #[.int .i64 6, .bool false, .int .i64 0, .int .i64 0, .string ⟨#[]⟩, .int .i64 (r : Int), .int .i64 0, .int .i64 (L : Int)]] w fun e w' => ∃ A c, e = .returned (.tuple #[.slice A xs.length c, .int .i64 0]) ∧ xs.length ≤ c ∧ (Kd.int .u8).C w' A xs.length (bI xs) ∧ Below w.heap.size w w' := by
  have hb0 := obj_box w (.cells #[.int .i64 6, .bool false, .int .i64 0, .int .i64 0, .string ⟨#[]⟩, .int .i64 (r : Int), .int .i64 0, .int .i64 (L : Int)] 27)
  have HI := Lib.hid (is_str sp tb m cap bb n r L fr _ (hS.below hb0) (cell_below hT hb0) hr hL hn)
  have HB := Lib.hid hb0
  have H0 := Lib.hid (heap_alloc_new w (.cells #[.int .i64 6, .bool false, .int .i64 0, .int .i64 0, .string ⟨#[]⟩, .int .i64 (r : Int), .int .i64 0, .int .i64 (L : Int)] 27))
  have HS := Lib.hid hS
  have HT := Lib.hid hT
  have HX := Lib.hid hB
  have HL := Lib.hid (And.intro hr (And.intro hL hn))
  clear hS hT hb0 hB hr hL hn
  go_enter Tryz.func10, Tryz.ntmps10
  go_wp2_with fail
  refine HI.out.mono ?_
  rintro e w1 ⟨rfl, hb⟩
  have HB1 := Lib.hid (HB.out.trans (hb.mono HB.out.size))
  obtain ⟨⟨a0, a1, a2, a3, a4, a5, a6, a7⟩, -⟩ := obj_facts ((hb.block w.heap.size (by simp)).trans H0.out)
  have HTX := Lib.hid (text_is sp tb m cap bb n r L fr w1 (HS.out.below HB1.out) (cell_below HT.out HB1.out) HL.out.1 HL.out.2.1 HL.out.2.2)
  clear hb HI HB H0
  go_wp2_with fail
  refine HTX.out.mono ?_
  rintro e w2 ⟨rfl, hb⟩
  have HB2 := Lib.hid (HB1.out.trans (hb.mono HB1.out.size))
  have HC := Lib.hid (Tryz.bytes_Clone_at ⟨bb, 0, none⟩ L n (bI xs) w2 (by rw [bI_len, hx]) (by have := HL.out; omega) (fun i hi => by
    have e : (⟨bb, 0, none⟩ : Addr).add i = ⟨bb, i, none⟩ := by
      simp [Addr.add]
      intro h; exact h.symm
    rw [e]
    exact cell_below (HX.out i hi) HB2.out))
  clear hb HTX HB1
  go_wp2_with fail
  refine HC.out.mono ?_
  rintro e w3 ⟨v, rfl, ho, hne, hb⟩
  obtain ⟨A, c, rfl, hc, hC⟩ := Kd.R_reads (Kd.R_of_own (enc := Value.int .u8) (h1 := fun _ => rfl) (xs := bI xs) (ok := fun _ => True) (by rw [bI_len, hx]; exact ho) (fun _ _ => trivial))
  rw [bI_len] at hc hC
  have HB3 := Lib.hid (HB2.out.trans (hb.mono HB2.out.size))
  clear hb ho hne
  go_wp2_with fail
  rw [← bI_len xs]
  refine bodyPost_ret (v := .tuple #[.slice A (bI xs).length c, .int .i64 0]) (by simp [results, Tryz.results10, go_sem]) rfl ⟨A, c, rfl, by rw [bI_len]; exact hc, by rw [bI_len]; exact hC, HB3.out⟩

set_option maxHeartbeats 4000000 in
set_option maxRecDepth 100000 in
theorem take_ok (sp : Nat) (fr most k n : Int) (x1 x2 x3 x4 x5 : Value) (w : World) (hS : w.heap[sp]? = some (.cells #[.int .i64 fr, x1, x2, x3, x4, x5] 65 (0, 0))) (h0 : 0 ≤ n) (h1 : n ≤ most) (h2 : k ≤ fr) (h3 : wrap64 (fr - k) = fr - k) :
    Calls Tryz.prog 15 #[.pointer (some ⟨sp, 0, none⟩), .int .i64 n, .int .i64 most, .int .i64 k] w fun e w' => e = .returned (.int .i64 0) ∧ w' = w.setCell ⟨sp, 0, none⟩ (.int .i64 (fr - k)) := by
  have c0 : w.cell? ⟨sp, 0, none⟩ = some (.int .i64 fr) := Lib.cell_of_heap hS 0
  have f0 := Lib.frozen_of_heap hS 0
  have g1 : ¬ n < 0 := by omega
  have g2 : ¬ most < n := by omega
  have g3 : ¬ fr < k := by omega
  clear hS
  go_enter Tryz.func15, Tryz.ntmps15
  go_wp2_with fail
  go_ret
  exact ⟨rfl, rfl⟩

set_option maxHeartbeats 4000000 in
set_option maxRecDepth 100000 in
theorem new_is (n : Nat) (w : World) (h1 : 1 ≤ n) (h2 : n ≤ 1048576) :
    Calls Tryz.prog 6 #[.int .i64 (n : Int)] w fun e w' => e = .returned (.tuple #[.pointer (some ⟨w.heap.size, 0, none⟩), .int .i64 0]) ∧ w' = w.alloc (.cells #[.int .i64 (n : Int), .slice none 0 0, .slice none 0 0, .slice none 0 0, .slice none 0 0, .slice none 0 0] 65) := by
  have g1 : ¬ (n : Int) < 1 := by omega
  have g2 : ¬ (1048576 : Int) < (n : Int) := by omega
  go_enter Tryz.func6, Tryz.ntmps6
  go_wp2_with fail
  refine bodyPost_ret (v := .tuple #[.pointer (some ⟨w.heap.size, 0, none⟩), .int .i64 0]) (by simp [results, Tryz.results6, go_sem]) rfl ⟨rfl, rfl⟩

end Go.Proofs.YtlbedeiehhgphaaGreatDoor.CV
