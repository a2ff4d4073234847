/- Made by a program of this session (wip/given.py) out of the translation: Lean functions for the Go functions, with the walks that show it; of a law: its row, at every input, no condition of its own. Strings by their bytes; the digits of a text; the value of digits, as the program and as the reference reckon it. The reference's plain (an optional sign, digits, a point): its walk, and its Lean function in plain words. The reference's plain: the walks where a point stands behind the digits. The reference's plain: its Lean function in plain words, in the printed form. dec.shift: its walk. What dec.Token answers, in plain words. dec.Token: its walks, one for each way through it. dec.Token in plain words, in the printed form. Made by a program of this session (wip/given.py) out of the translation: Lean functions for the Go functions, with the walks that show it; of a law: its row, at every input, no condition of its own. Made by a program of this session (wip/given.py) out of the translation: Lean functions for the Go functions, with the walks that show it; of a law: its row, at every input, no condition of its own. -/
import Derived.Test.YtiocgpfnbmlfaaaDoorBSu1
import Derived.Test.YtiocgpfnbmlfaaaDoorBSu0
import Derived.Deep.RegionWith
import Derived.Test.YtiocgpfnbmlfaaaDoorProg
import Derived.Below
import Derived.Deep.Draws
import Derived.Deep.AppendLies
import Derived.Maps.AppendAt
import Derived.OwnWalk
import Derived.Laws.BytesArg
import Derived.Laws.MakeOwn
import Derived.Laws.OwnMore
import Derived.Deep.OwnRows
import Derived.Tactics
import Derived.Lib.ConvBytes
import Derived.Laws.Slices
import Derived.WalkKit
import Derived.KernelRfl
import Derived.RowKit3
import Derived.Deep.LoopGhost
import Derived.Deep.QuietTactic
import Derived.BigQuiet
import Derived.WideLaws
import Derived.Deep.DeepCutAuto
import Derived.Deep.CutBlock
import Derived.Deep.RegionHeld3
import Derived.Laws.Rows
import Derived.Lib.AppendStr
import Derived.ArgAppend
import Derived.Laws.IdiomCopy
import Derived.OrdersHeld
import Derived.Laws.BitsLemmas
import Derived.RowKit
import Derived.Test.YtiocgpfnbmlfaaaDoorWWords
import Derived.Test.YtiocgpfnbmlfaaaDoorWLast
import Derived.Test.YtiocgpfnbmlfaaaDoorWTab
import Derived.Test.YtiocgpfnbmlfaaaDoorWFour
import Derived.Test.YtiocgpfnbmlfaaaDoorWQPut
import Derived.Test.YtiocgpfnbmlfaaaDoorWApart
import Derived.Test.YtiocgpfnbmlfaaaDoorWArr
import Derived.Test.YtiocgpfnbmlfaaaDoorWZeros
import Derived.Test.YtiocgpfnbmlfaaaDoorWFoot
import Derived.Test.YtiocgpfnbmlfaaaDoorWKept
import Derived.Test.YtiocgpfnbmlfaaaDoorWShare
import Derived.Test.YtiocgpfnbmlfaaaDoorWN
import Derived.Test.YtiocgpfnbmlfaaaDoorWFootNe
import Derived.Test.YtiocgpfnbmlfaaaDoorWAt
import Derived.Test.YtiocgpfnbmlfaaaDoorWEqStruct
import Derived.Test.YtiocgpfnbmlfaaaDoorWRepsOne
import Derived.Test.YtiocgpfnbmlfaaaDoorWInv
import Derived.Test.YtiocgpfnbmlfaaaDoorWInvWords
import Derived.Test.YtiocgpfnbmlfaaaDoorWGuard
import Derived.Test.YtiocgpfnbmlfaaaDoorWNEv
import Derived.Test.YtiocgpfnbmlfaaaDoorWMore

/-! ## PEx1 -/
namespace Go.Proofs.YtiocgpfnbmlfaaaDoor.PE
open Go.RowKit Go.Proofs.YtiocgpfnbmlfaaaDoorW.PrintWords Go.Proofs.YtiocgpfnbmlfaaaDoorW.PrintLast Go.Proofs.YtiocgpfnbmlfaaaDoorW.PrintMore
attribute [local go_sem] max2_int min2_int max_two min_two max_three min_three max_four min_four   -- for this text's walks alone
set_option linter.unusedVariables false
set_option linter.unusedSimpArgs false

/-! ### mezzotintref01_Digits: function 43 -/
def mezzotintref01_Digits.l0 : Nat → ByteArray → Int → Option (Int)
  | 0, _, _ => none
  | k + 1, x0, x3 => if x3 < (x0.size : Int) then (if 0 ≤ x3 then (if (bt x0 x3) ≥ 48 then (if (bt x0 x3) ≤ 57 then (mezzotintref01_Digits.l0 k x0 (wrap64 (x3 + 1))) else (some x3)) else (some x3)) else (none)) else (some x3)
def mezzotintref01_Digits.f (k : Nat) (a0 : ByteArray) : Option (Int) := mezzotintref01_Digits.l0 k a0 0
theorem mezzotintref01_Digits.mono_l : ∀ k, (∀ y0 y1, LeO (mezzotintref01_Digits.l0 k y0 y1) (mezzotintref01_Digits.l0 (k + 1) y0 y1))
  | 0 => fun _ _ r h => by simp [mezzotintref01_Digits.l0] at h
  | k + 1 => by
    have ih0 := mezzotintref01_Digits.mono_l k
    · intro y0 y1
      unfold mezzotintref01_Digits.l0
      repeat' first
      | (with_reducible exact ih0 _ _)
      | (with_reducible exact LeO.refl _)
      | (with_reducible exact LeO.none _)
      | (with_reducible refine LeO.ite ?_ ?_)
      | (with_reducible refine LeO.bind ?_ (fun _ => ?_))
      | exact ih0 _ _
      | exact LeO.none _
      | refine LeO.ite ?_ ?_
      | refine LeO.bind ?_ (fun _ => ?_)
theorem mezzotintref01_Digits.mono : ∀ a0 k, LeO (mezzotintref01_Digits.f k a0) (mezzotintref01_Digits.f (k + 1) a0) := by
  intro a0 k
  have ih0 := mezzotintref01_Digits.mono_l k
  unfold mezzotintref01_Digits.f
  repeat' first
      | (with_reducible exact ih0 _ _)
      | (with_reducible exact LeO.refl _)
      | (with_reducible exact LeO.none _)
      | (with_reducible refine LeO.ite ?_ ?_)
      | (with_reducible refine LeO.bind ?_ (fun _ => ?_))
      | exact ih0 _ _
      | exact LeO.none _
      | refine LeO.ite ?_ ?_
      | refine LeO.bind ?_ (fun _ => ?_)
set_option maxHeartbeats 8000000 in
set_option maxRecDepth 100000 in
theorem mezzotintref01_Digits.calls (k : Nat) (a0 : ByteArray) (r : Int) (w : World) (h : mezzotintref01_Digits.f k a0 = some r) :
    Calls Tryd.prog 43 #[.string a0] w fun e w' => e = .returned (.int .i64 r) ∧ Drawn0 w w' := by
  have H : (mezzotintref01_Digits.l0 k a0 0) = some r := h
  clear h
  have H' := Aside0.mk H
  clear H
  go_enter Tryd.func43, Tryd.ntmps43
  go_wp2
  go_loopg [3] k (fun kq v3 w' => ∃ (x3_1 : Int), v3 = .int .i64 x3_1 ∧ Aside0 (mezzotintref01_Digits.l0 kq a0 x3_1 = some r) ∧ Aside0 (kq ≤ k) ∧ Drawn0 w w')
  case atStart => exact ⟨(0), (by first | rfl | (simp; done) | (simp [*]; done)), H', ⟨Nat.le_refl _⟩, by repeat (first | exact Drawn0.refl _ | apply Drawn0.step)⟩
  case round =>
    clear H'
    obtain ⟨x3_1, rfl, HA, HK1, ⟨m1, rfl⟩⟩ := hrel
    cases gk with
    | zero => exact absurd HA.out (by simp [mezzotintref01_Digits.l0])
    | succ k1 =>
      have H := HA.out
      clear HA
      simp only [mezzotintref01_Digits.l0] at H
      by_cases c2 : x3_1 < (a0.size : Int)
      · rw [if_pos c2] at H
        have c2b0 : decide (x3_1 < (a0.size : Int)) = true := decide_eq_true c2
        clear c2
        by_cases c3 : 0 ≤ x3_1
        · rw [if_pos c3] at H
          have c3b0 : decide (0 ≤ x3_1) = true := decide_eq_true c3
          clear c3
          by_cases c5 : (bt a0 x3_1) ≥ 48
          · rw [if_pos c5] at H
            have c5b0 : decide (48 ≤ (bt a0 x3_1)) = true := decide_eq_true c5
            clear c5
            by_cases c7 : (bt a0 x3_1) ≤ 57
            · rw [if_pos c7] at H
              have c7b0 : decide ((bt a0 x3_1) ≤ 57) = true := decide_eq_true c7
              clear c7
              have H' := Aside0.mk H
              clear H
              have p4 : 0 ≤ (x3_1 : Int) := of_decide_eq_true (by first | (with_reducible assumption) | assumption)
              have q4 : x3_1 < (a0.size : Int) := of_decide_eq_true (by first | (with_reducible assumption) | assumption)
              have hx4 := bt_at a0 x3_1
              replace p4 := eq_true p4
              replace q4 := eq_true q4
              have p6 : 0 ≤ (x3_1 : Int) := of_decide_eq_true (by first | (with_reducible assumption) | assumption)
              have q6 : x3_1 < (a0.size : Int) := of_decide_eq_true (by first | (with_reducible assumption) | assumption)
              have hx6 := bt_at a0 x3_1
              replace p6 := eq_true p6
              replace q6 := eq_true q6
              go_wp2
              go_roundg k1
              case measure => have := HK1.out; omega
              case rel => exact ⟨(wrap64 (x3_1 + 1)), (by first | rfl | (simp; done) | (simp [*]; done)), H', ⟨by have := HK1.out; omega⟩, by repeat (first | exact Drawn0.refl _ | apply Drawn0.step)⟩
            · rw [if_neg c7] at H
              have c7b0 : decide ((bt a0 x3_1) ≤ 57) = false := decide_eq_false c7
              clear c7
              obtain rfl := Option.some.inj H
              have p4 : 0 ≤ (x3_1 : Int) := of_decide_eq_true (by first | (with_reducible assumption) | assumption)
              have q4 : x3_1 < (a0.size : Int) := of_decide_eq_true (by first | (with_reducible assumption) | assumption)
              have hx4 := bt_at a0 x3_1
              replace p4 := eq_true p4
              replace q4 := eq_true q4
              have p6 : 0 ≤ (x3_1 : Int) := of_decide_eq_true (by first | (with_reducible assumption) | assumption)
              have q6 : x3_1 < (a0.size : Int) := of_decide_eq_true (by first | (with_reducible assumption) | assumption)
              have hx6 := bt_at a0 x3_1
              replace p6 := eq_true p6
              replace q6 := eq_true q6
              go_wp2
              go_ret
              exact ⟨by first | rfl | (simp; done) | (simp [*]; done), by repeat (first | exact Drawn0.refl _ | apply Drawn0.step)⟩
          · rw [if_neg c5] at H
            have c5b0 : decide (48 ≤ (bt a0 x3_1)) = false := decide_eq_false c5
            clear c5
            obtain rfl := Option.some.inj H
            have p4 : 0 ≤ (x3_1 : Int) := of_decide_eq_true (by first | (with_reducible assumption) | assumption)
            have q4 : x3_1 < (a0.size : Int) := of_decide_eq_true (by first | (with_reducible assumption) | assumption)
            have hx4 := bt_at a0 x3_1
            replace p4 := eq_true p4
            replace q4 := eq_true q4
            go_wp2
            go_ret
            exact ⟨by first | rfl | (simp; done) | (simp [*]; done), by repeat (first | exact Drawn0.refl _ | apply Drawn0.step)⟩
        · rw [if_neg c3] at H
          exact absurd H (by simp)
      · rw [if_neg c2] at H
        have c2b0 : decide (x3_1 < (a0.size : Int)) = false := decide_eq_false c2
        clear c2
        obtain rfl := Option.some.inj H
        go_wp2
        go_ret
        exact ⟨by first | rfl | (simp; done) | (simp [*]; done), by repeat (first | exact Drawn0.refl _ | apply Drawn0.step)⟩

/-! ### mezzotintref01_Hex: function 44 -/
mutual
def mezzotintref01_Hex.j0 : Nat → Int → Bool → Option (Int)
  | 0, _, _ => none
  | k + 1, x0, x8 => if x8 = true then (some ((x0 - 48) % 256)) else (if x0 ≥ 97 then (mezzotintref01_Hex.j1 k x0 (decide (x0 ≤ 122))) else (mezzotintref01_Hex.j1 k x0 false))
def mezzotintref01_Hex.j1 : Nat → Int → Bool → Option (Int)
  | 0, _, _ => none
  | k + 1, x0, x17 => if x17 = true then (some (((x0 - 97) % 256) + 10)) else (if x0 ≥ 65 then (if x0 ≤ 90 then (some (((x0 - 65) % 256) + 10)) else (some 99)) else (some 99))
end
def mezzotintref01_Hex.f (k : Nat) (a0 : Int) : Option (Int) := if a0 ≥ 48 then (mezzotintref01_Hex.j0 k a0 (decide (a0 ≤ 57))) else (mezzotintref01_Hex.j0 k a0 false)
theorem mezzotintref01_Hex.mono_l : ∀ k, (∀ y0 y1, LeO (mezzotintref01_Hex.j0 k y0 y1) (mezzotintref01_Hex.j0 (k + 1) y0 y1)) ∧ (∀ y0 y1, LeO (mezzotintref01_Hex.j1 k y0 y1) (mezzotintref01_Hex.j1 (k + 1) y0 y1))
  | 0 => ⟨fun _ _ r h => by simp [mezzotintref01_Hex.j0] at h, fun _ _ r h => by simp [mezzotintref01_Hex.j1] at h⟩
  | k + 1 => by
    obtain ⟨ih0, ih1⟩ := mezzotintref01_Hex.mono_l k
    refine ⟨?_, ?_⟩
    · intro y0 y1
      unfold mezzotintref01_Hex.j0
      repeat' first
      | (with_reducible exact ih0 _ _)
      | (with_reducible exact ih1 _ _)
      | (with_reducible exact LeO.refl _)
      | (with_reducible exact LeO.none _)
      | (with_reducible refine LeO.ite ?_ ?_)
      | (with_reducible refine LeO.bind ?_ (fun _ => ?_))
      | exact ih0 _ _
      | exact ih1 _ _
      | exact LeO.none _
      | refine LeO.ite ?_ ?_
      | refine LeO.bind ?_ (fun _ => ?_)
    · intro y0 y1
      unfold mezzotintref01_Hex.j1
      repeat' first
      | (with_reducible exact ih0 _ _)
      | (with_reducible exact ih1 _ _)
      | (with_reducible exact LeO.refl _)
      | (with_reducible exact LeO.none _)
      | (with_reducible refine LeO.ite ?_ ?_)
      | (with_reducible refine LeO.bind ?_ (fun _ => ?_))
      | exact ih0 _ _
      | exact ih1 _ _
      | exact LeO.none _
      | refine LeO.ite ?_ ?_
      | refine LeO.bind ?_ (fun _ => ?_)
theorem mezzotintref01_Hex.mono : ∀ a0 k, LeO (mezzotintref01_Hex.f k a0) (mezzotintref01_Hex.f (k + 1) a0) := by
  intro a0 k
  obtain ⟨ih0, ih1⟩ := mezzotintref01_Hex.mono_l k
  unfold mezzotintref01_Hex.f
  repeat' first
      | (with_reducible exact ih0 _ _)
      | (with_reducible exact ih1 _ _)
      | (with_reducible exact LeO.refl _)
      | (with_reducible exact LeO.none _)
      | (with_reducible refine LeO.ite ?_ ?_)
      | (with_reducible refine LeO.bind ?_ (fun _ => ?_))
      | exact ih0 _ _
      | exact ih1 _ _
      | exact LeO.none _
      | refine LeO.ite ?_ ?_
      | refine LeO.bind ?_ (fun _ => ?_)
set_option maxHeartbeats 8000000 in
set_option maxRecDepth 100000 in
theorem mezzotintref01_Hex.calls (k : Nat) (a0 : Int) (r : Int) (w : World) (h : mezzotintref01_Hex.f k a0 = some r) :
    Calls Tryd.prog 44 #[.int .u8 a0] w fun e w' => e = .returned (.int .i64 r) ∧ Drawn0 w w' := by
  have H : (if a0 ≥ 48 then (mezzotintref01_Hex.j0 k a0 (decide (a0 ≤ 57))) else (mezzotintref01_Hex.j0 k a0 false)) = some r := h
  clear h
  have HC2 := Aside0.mk H
  clear H
  go_enter Tryd.func44, Tryd.ntmps44
  go_upto_region 1 with (fail)
  go_cut [8] (fun v8 wc => ∃ (kq : Nat) (x8_1 : Bool), v8 = .bool x8_1 ∧ Aside0 (mezzotintref01_Hex.j0 kq a0 x8_1 = some r) ∧ Aside0 (kq ≤ k) ∧ Drawn0 w wc)
  case first =>
    have H := HC2.out
    clear HC2
    by_cases c3 : a0 ≥ 48
    · rw [if_pos c3] at H
      have c3b0 : decide (48 ≤ a0) = true := decide_eq_true c3
      clear c3
      (first | rw [c3b0] | (simp only [i64_w, i32_w]; rw [c3b0]) | skip)
      have H' := Aside0.mk H
      clear H
      go_wp2
      go_meet
      case rel => exact ⟨_, (decide (a0 ≤ 57)), (by first | rfl | (simp; done) | (simp [*]; done)), H', ⟨by first | omega | exact Nat.le_refl _⟩, by repeat (first | exact Drawn0.refl _ | apply Drawn0.step)⟩
    · rw [if_neg c3] at H
      have c3b0 : decide (48 ≤ a0) = false := decide_eq_false c3
      clear c3
      (first | rw [c3b0] | (simp only [i64_w, i32_w]; rw [c3b0]) | skip)
      have H' := Aside0.mk H
      clear H
      go_wp2
      go_meet
      case rel => exact ⟨_, (false), (by first | rfl | (simp; done) | (simp [*]; done)), H', ⟨by first | omega | exact Nat.le_refl _⟩, by repeat (first | exact Drawn0.refl _ | apply Drawn0.step)⟩
  case rest =>
    clear HC2
    try clear p2
    try clear c3
    try clear c3b0
    obtain ⟨kq, x8_1, rfl, HA, HJ1, ⟨mc1, rfl⟩⟩ := hcut
    cases kq with
    | zero => exact absurd HA.out (by simp [mezzotintref01_Hex.j0])
    | succ kj1 =>
      have H := HA.out
      clear HA
      simp only [mezzotintref01_Hex.j0] at H
      by_cases c4 : x8_1 = true
      · subst c4
        have H1 : (some ((a0 - 48) % 256)) = some r := by rw [if_pos rfl] at H; exact H
        clear H
        have H := H1
        clear H1
        obtain rfl := Option.some.inj H
        go_wp2
        go_ret
        exact ⟨by first | rfl | (simp; done) | (simp [*]; done), by repeat (first | exact Drawn0.refl _ | apply Drawn0.step)⟩
      · replace c4 := Bool.eq_false_iff.mpr c4
        subst c4
        have H1 : (if a0 ≥ 97 then (mezzotintref01_Hex.j1 kj1 a0 (decide (a0 ≤ 122))) else (mezzotintref01_Hex.j1 kj1 a0 false)) = some r := by rw [if_neg (show ¬ (false = true) by decide)] at H; exact H
        clear H
        have H := H1
        clear H1
        have HC5 := Aside0.mk H
        clear H
        go_upto_region 3 with (fail)
        go_cut [17] (fun v17 wc => ∃ (kq : Nat) (x17_4 : Bool), v17 = .bool x17_4 ∧ Aside0 (mezzotintref01_Hex.j1 kq a0 x17_4 = some r) ∧ Aside0 (kq ≤ kj1) ∧ Drawn0 w wc)
        case first =>
          have H := HC5.out
          clear HC5
          by_cases c6 : a0 ≥ 97
          · rw [if_pos c6] at H
            have c6b0 : decide (97 ≤ a0) = true := decide_eq_true c6
            clear c6
            (first | rw [c6b0] | (simp only [i64_w, i32_w]; rw [c6b0]) | skip)
            have H' := Aside0.mk H
            clear H
            go_wp2
            go_meet
            case rel => exact ⟨_, (decide (a0 ≤ 122)), (by first | rfl | (simp; done) | (simp [*]; done)), H', ⟨by have := HJ1.out; first | omega | exact Nat.le_refl _⟩, by repeat (first | exact Drawn0.refl _ | apply Drawn0.step)⟩
          · rw [if_neg c6] at H
            have c6b0 : decide (97 ≤ a0) = false := decide_eq_false c6
            clear c6
            (first | rw [c6b0] | (simp only [i64_w, i32_w]; rw [c6b0]) | skip)
            have H' := Aside0.mk H
            clear H
            go_wp2
            go_meet
            case rel => exact ⟨_, (false), (by first | rfl | (simp; done) | (simp [*]; done)), H', ⟨by have := HJ1.out; first | omega | exact Nat.le_refl _⟩, by repeat (first | exact Drawn0.refl _ | apply Drawn0.step)⟩
        case rest =>
          clear HC5
          try clear c1
          try clear p2
          try clear c3
          try clear c3b0
          try clear c4
          try clear c6
          try clear c6b0
          try clear p2
          obtain ⟨kq, x17_4, rfl, HA, HJ4, ⟨mc4, rfl⟩⟩ := hcut
          cases kq with
          | zero => exact absurd HA.out (by simp [mezzotintref01_Hex.j1])
          | succ kj4 =>
            have H := HA.out
            clear HA
            simp only [mezzotintref01_Hex.j1] at H
            by_cases c7 : x17_4 = true
            · subst c7
              have H1 : (some (((a0 - 97) % 256) + 10)) = some r := by rw [if_pos rfl] at H; exact H
              clear H
              have H := H1
              clear H1
              obtain rfl := Option.some.inj H
              go_wp2
              go_ret
              exact ⟨by first | rfl | (simp; done) | (simp [*]; done), by repeat (first | exact Drawn0.refl _ | apply Drawn0.step)⟩
            · replace c7 := Bool.eq_false_iff.mpr c7
              subst c7
              have H1 : (if a0 ≥ 65 then (if a0 ≤ 90 then (some (((a0 - 65) % 256) + 10)) else (some 99)) else (some 99)) = some r := by rw [if_neg (show ¬ (false = true) by decide)] at H; exact H
              clear H
              have H := H1
              clear H1
              by_cases c8 : a0 ≥ 65
              · rw [if_pos c8] at H
                have c8b0 : decide (65 ≤ a0) = true := decide_eq_true c8
                clear c8
                by_cases c9 : a0 ≤ 90
                · rw [if_pos c9] at H
                  have c9b0 : decide (a0 ≤ 90) = true := decide_eq_true c9
                  clear c9
                  obtain rfl := Option.some.inj H
                  go_wp2
                  go_ret
                  exact ⟨by first | rfl | (simp; done) | (simp [*]; done), by repeat (first | exact Drawn0.refl _ | apply Drawn0.step)⟩
                · rw [if_neg c9] at H
                  have c9b0 : decide (a0 ≤ 90) = false := decide_eq_false c9
                  clear c9
                  obtain rfl := Option.some.inj H
                  go_wp2
                  go_ret
                  exact ⟨by first | rfl | (simp; done) | (simp [*]; done), by repeat (first | exact Drawn0.refl _ | apply Drawn0.step)⟩
              · rw [if_neg c8] at H
                have c8b0 : decide (65 ≤ a0) = false := decide_eq_false c8
                clear c8
                obtain rfl := Option.some.inj H
                go_wp2
                go_ret
                exact ⟨by first | rfl | (simp; done) | (simp [*]; done), by repeat (first | exact Drawn0.refl _ | apply Drawn0.step)⟩

end Go.Proofs.YtiocgpfnbmlfaaaDoor.PE

/-! ## QS -/
namespace Go.Proofs.YtiocgpfnbmlfaaaDoor.QD
open Go Go.RowKit Go.Proofs.YtiocgpfnbmlfaaaDoor Go.Proofs.YtiocgpfnbmlfaaaDoorW.PrintWords

/-- a string by its bytes -/
def S (l : List UInt8) : ByteArray := ⟨l.toArray⟩
theorem S_append (a b : List UInt8) : S a ++ S b = S (a ++ b) := by apply ByteArray.ext; simp [S]
theorem S_size (a : List UInt8) : (S a).size = a.length := by simp [S, ByteArray.size]
theorem S_list (a : List UInt8) : (S a).toList = a := by rw [Lib.toList_data]; simp [S]
theorem S_data (a : List UInt8) : (S a).data.toList = a := by simp [S]
theorem S_of (s : ByteArray) : s = S s.data.toList := by apply ext_list; rw [S_data]
theorem S_to (l : List UInt8) (n : Nat) : (S l).extract 0 n = S (l.take n) := by rw [Lib.extract_eq]; simp [S]
theorem S_from (l : List UInt8) (n : Nat) : (S l).extract n (S l).size = S (l.drop n) := by
  rw [Lib.extract_eq, S_data, List.take_of_length_le (by rw [S_size, List.length_drop]; omega)]
  rfl
theorem S_bt (pre suf : List UInt8) (c : UInt8) : bt (S (pre ++ c :: suf)) (pre.length : Int) = (c.toNat : Int) := by
  rw [bt_nat _ _ (by rw [S_size]; simp)]
  simp [S]
theorem S_bt0 (suf : List UInt8) (c : UInt8) : bt (S (c :: suf)) 0 = (c.toNat : Int) := S_bt [] suf c

theorem tm (a b : Int) (h : 0 ≤ a) : a.tmod b = a % b := Int.tmod_eq_emod_of_nonneg h
theorem td (a b : Int) (h : 0 ≤ a) : a.tdiv b = a / b := Int.tdiv_eq_ediv_of_nonneg h
theorem w64 (n : Int) (h : -9223372036854775808 ≤ n) (h2 : n < 9223372036854775808) : wrap64 n = n := by unfold wrap64; omega

theorem isDig_iff (c : UInt8) : isDig c = true ↔ 48 ≤ c.toNat ∧ c.toNat ≤ 57 := by simp [isDig]

/-! ### what the digits come to -/
theorem valD_from (n : Nat) : ∀ l : List UInt8, l.foldl (fun n b => 10 * n + (b.toNat - 48)) n = n * 10 ^ l.length + valD l := by
  intro l
  induction l generalizing n with
  | nil => simp [valD]
  | cons c l ih =>
    show List.foldl _ (10 * n + (c.toNat - 48)) l = n * 10 ^ (l.length + 1) + List.foldl _ (10 * 0 + (c.toNat - 48)) l
    rw [ih, ih (10 * 0 + (c.toNat - 48)), Nat.pow_succ]
    have h : (10 * n + (c.toNat - 48)) * 10 ^ l.length = n * (10 ^ l.length * 10) + (c.toNat - 48) * 10 ^ l.length := by
      rw [Nat.add_mul, Nat.mul_comm 10 n, Nat.mul_assoc, Nat.mul_comm 10]
    rw [h]; simp; omega
theorem valD_cons (c : UInt8) (l : List UInt8) : valD (c :: l) = (c.toNat - 48) * 10 ^ l.length + valD l := by
  show List.foldl _ (10 * 0 + (c.toNat - 48)) l = _
  rw [valD_from]; simp
theorem valD_append (a b : List UInt8) : valD (a ++ b) = valD a * 10 ^ b.length + valD b := by
  show List.foldl _ 0 (a ++ b) = _
  rw [List.foldl_append, valD_from]
  rfl
theorem valD_lt10 : ∀ l : List UInt8, l.all isDig = true → valD l < 10 ^ l.length
  | [], _ => by simp [valD]
  | c :: l, h => by
    simp only [List.all_cons, Bool.and_eq_true] at h
    have ih := valD_lt10 l h.2
    have hc := (isDig_iff c).1 h.1
    rw [valD_cons, List.length_cons, Nat.pow_succ]
    have : (c.toNat - 48) * 10 ^ l.length ≤ 9 * 10 ^ l.length := Nat.mul_le_mul_right _ (by omega)
    omega
theorem strip0_cons (c : UInt8) (l : List UInt8) : strip0 (c :: l) = if c = 48 then strip0 l else c :: l := by
  unfold strip0 Lib.trimLeftS
  by_cases h : c = 48
  · subst h; simp
  · rw [if_neg h, List.dropWhile_cons, if_neg (by simpa using h)]
theorem strip0_val : ∀ l : List UInt8, valD (strip0 l) = valD l
  | [] => rfl
  | c :: l => by
    rw [strip0_cons]
    split
    · rename_i h; subst h; rw [strip0_val l, valD_cons]; simp
    · rfl
theorem strip0_len : ∀ l : List UInt8, l.all isDig = true → (5 < (strip0 l).length ↔ 99999 < valD l)
  | [], _ => by simp [strip0, Lib.trimLeftS, valD]
  | c :: l, h => by
    have h0 := h
    simp only [List.all_cons, Bool.and_eq_true] at h
    rw [strip0_cons]
    split
    · rename_i hc; subst hc; rw [valD_cons]; simpa using strip0_len l h.2
    · rename_i hc
      have hd := (isDig_iff c).1 h.1
      have hc' : c.toNat ≠ 48 := fun e => hc (UInt8.toNat_inj.1 (by rw [e]; rfl))
      have hlt := valD_lt10 _ h0
      rw [valD_cons] at hlt ⊢
      simp only [List.length_cons] at hlt ⊢
      have hge : 1 * 10 ^ l.length ≤ (c.toNat - 48) * 10 ^ l.length := Nat.mul_le_mul_right _ (by omega)
      constructor
      · intro h5
        have : 10 ^ 5 ≤ 10 ^ l.length := Nat.pow_le_pow_right (by omega) (by omega)
        omega
      · intro h5
        rcases Nat.lt_or_ge 5 (l.length + 1) with hh | hh
        · exact hh
        · have : 10 ^ (l.length + 1) ≤ 10 ^ 5 := Nat.pow_le_pow_right (by omega) hh
          omega

/-! ### the bits behind the point -/
theorem iterD_from (k : Nat) : ∀ n ds, iterD k n ds = (2 ^ k * n + (iterD k 0 ds).1, (iterD k 0 ds).2) := by
  induction k with
  | zero => intro n ds; simp [iterD]
  | succ k ih =>
    intro n ds
    rw [iterD, ih, iterD, ih (2 * 0 + (dbl ds).1)]
    have : 2 ^ (k + 1) * n = 2 ^ k * (2 * n) := by rw [Nat.pow_succ, Nat.mul_assoc]
    have h2 := Nat.mul_add (2 ^ k) (2 * n) (dbl ds).1
    have h3 := Nat.mul_add (2 ^ k) (2 * 0) (dbl ds).1
    refine Prod.ext ?_ rfl
    show 2 ^ k * (2 * n + (dbl ds).1) + (iterD k 0 (dbl ds).2).1 = 2 ^ (k + 1) * n + (2 ^ k * (2 * 0 + (dbl ds).1) + (iterD k 0 (dbl ds).2).1)
    omega

/-- the reference's number of digits ahead of and behind the point -/
def sclL (a b : List UInt8) : Int × Bool :=
  if 99999 < valD a then (0, false) else (((valD a * 65536 + ((iterD 17 0 (digsOf b)).1 + 1) / 2 : Nat) : Int), true)
def sgnR (n : Int) (m : Bool) : Int × Bool := if fitsB (if m then -n else n) then (if m then -n else n, true) else (0, false)

theorem mag_scl (a b : List UInt8) (hb : b.all isDig = true) : magL a b = valD a * 65536 + ((iterD 17 0 (digsOf b)).1 + 1) / 2 := by
  unfold magL
  have e17 : iterD 17 0 (digsOf b) = _ := iterD_succ 16 0 (digsOf b)
  rw [iterD_from 16 (valD (strip0 a)), e17, strip0_val]
  have hd : ∀ d ∈ digsOf b, d ≤ 9 := by
    intro d hd
    unfold digsOf at hd
    obtain ⟨c, hc, rfl⟩ := List.mem_map.1 hd
    have := (isDig_iff c).1 (List.all_eq_true.1 hb c hc)
    omega
  have h := (dbl_le _ (iterD_ok 16 0 (digsOf b) hd).2.1).1
  generalize (iterD 16 0 (digsOf b)).1 = B at *
  generalize (dbl (iterD 16 0 (digsOf b)).2).1 = c at *
  simp only
  omega

theorem val_agree (m : Bool) (a b : List UInt8) (ha : a.all isDig = true) (hb : b.all isDig = true) :
    (if (valueL m a b).2 = true then ((valueL m a b).1, true) else (0, false)) = (if (sclL a b).2 = true then sgnR (sclL a b).1 m else (0, false)) := by
  have h5 := strip0_len a ha
  by_cases h : 99999 < valD a
  · have hv : valueL m a b = (0, false) := by unfold valueL; rw [if_pos (h5.2 h)]
    have hs : sclL a b = (0, false) := by unfold sclL; rw [if_pos h]
    rw [hv, hs]
    simp
  · have hv : valueL m a b = (if m then -(magL a b : Int) else magL a b, fitsB (if m then -(magL a b : Int) else magL a b)) := by unfold valueL; rw [if_neg (fun h' => h (h5.1 h'))]
    have hs : sclL a b = ((magL a b : Int), true) := by unfold sclL; rw [if_neg h, mag_scl a b hb]
    rw [hv, hs]
    simp only [sgnR, if_true]

/-! ### sign, digits, point -/
def ptL : List UInt8 → Bool × List UInt8
  | [] => (false, [])
  | b :: t => if b = 46 then (true, t) else (false, b :: t)
/-- ahead of the point, behind it, is there one, are all others digits (and is there one at least) -/
def mantL (r : List UInt8) : List UInt8 × List UInt8 × Bool × Bool :=
  ((cut1 46 r).1, (cut1 46 r).2.1, (cut1 46 r).2.2, (cut1 46 r).1.all isDig && (cut1 46 r).2.1.all isDig && decide (0 < (cut1 46 r).1.length + (cut1 46 r).2.1.length))

theorem cut1_split (a q : List UInt8) (h : ∀ x ∈ a, x ≠ 46) : cut1 46 (a ++ q) = (a ++ (cut1 46 q).1, (cut1 46 q).2.1, (cut1 46 q).2.2) := by
  induction a with
  | nil => rfl
  | cons c a ih =>
    have hc : c ≠ 46 := h c (by simp)
    rw [List.cons_append, cut1, if_neg hc, ih (fun x hx => h x (by simp [hx]))]
    rfl

/-- the reference's reading of digits and a point -/
def plainL (r : List UInt8) : List UInt8 × Nat × Bool × Bool :=
  if (ptL (r.dropWhile isDig)).1 = true then
    (r.takeWhile isDig ++ (ptL (r.dropWhile isDig)).2.takeWhile isDig, (r.takeWhile isDig).length, true,
      decide ((ptL (r.dropWhile isDig)).2.dropWhile isDig = []) && decide (0 < (r.takeWhile isDig ++ (ptL (r.dropWhile isDig)).2.takeWhile isDig).length))
  else (r.takeWhile isDig, (r.takeWhile isDig).length, false, decide (r.dropWhile isDig = []) && decide (0 < (r.takeWhile isDig).length))

theorem not46 (a : List UInt8) (h : a.all isDig = true) : ∀ x ∈ a, x ≠ 46 := by
  intro x hx e
  have := (isDig_iff x).1 (List.all_eq_true.1 h x hx)
  rw [e] at this
  revert this; decide
theorem takeW_all (r : List UInt8) : (r.takeWhile isDig).all isDig = true := by
  exact List.all_takeWhile
theorem dropW_nil (t : List UInt8) : t.dropWhile isDig = [] ↔ t.all isDig = true := by
  rw [dropWhile_nil, List.all_eq_true]
theorem takeW_id (t : List UInt8) (h : t.all isDig = true) : t.takeWhile isDig = t := by
  have := List.takeWhile_append_dropWhile (p := isDig) (l := t)
  rw [(dropW_nil t).2 h, List.append_nil] at this
  exact this

/-- the two agree -/
theorem plain_mant (r : List UInt8) : (plainL r).2.2.2 = (mantL r).2.2.2 ∧
    ((mantL r).2.2.2 = true → (plainL r).1 = (mantL r).1 ++ (mantL r).2.1 ∧ (plainL r).2.1 = (mantL r).1.length ∧ (mantL r).1.all isDig = true ∧ (mantL r).2.1.all isDig = true ∧ (plainL r).2.2.1 = (mantL r).2.2.1) := by
  have hr := (List.takeWhile_append_dropWhile (p := isDig) (l := r)).symm
  have ha := takeW_all r
  unfold plainL
  generalize hA : r.takeWhile isDig = a at *
  generalize hQ : r.dropWhile isDig = q at *
  have hn := not46 a ha
  have hc := cut1_split a q hn
  rw [← hr] at hc
  unfold mantL
  rw [hc]
  match q, hQ with
  | [], _ => simp [ptL, cut1, ha]
  | c :: t, hQ =>
    by_cases h46 : c = 46
    · subst h46
      simp only [ptL, cut1, if_true, List.append_nil, ha, Bool.true_and]
      by_cases ht : t.all isDig = true
      · simp [ht, takeW_id t ht, (dropW_nil t).2 ht]
      · have h1 : ¬ t.dropWhile isDig = [] := fun h => ht ((dropW_nil t).1 h)
        simp [ht, h1]
    · have hcd : isDig c = false := by
        rcases hcc : isDig c with _ | _
        · rfl
        · have := List.head?_dropWhile_not (p := isDig) r
          rw [hQ] at this
          simp [hcc] at this
      simp only [ptL, cut1, if_neg h46]
      simp [hcd]

/-- the program's answer -/
def parseL (l : List UInt8) : Int × Bool :=
  if 64 < l.length then (0, false)
  else if (mantL (sgnL l).2).2.2.2 = true then
    (if (valueL (sgnL l).1 (mantL (sgnL l).2).1 (mantL (sgnL l).2).2.1).2 = true then ((valueL (sgnL l).1 (mantL (sgnL l).2).1 (mantL (sgnL l).2).2.1).1, true) else (0, false))
  else (0, false)

end Go.Proofs.YtiocgpfnbmlfaaaDoor.QD

/-! ## GTa -/
namespace Go.Proofs.YtiocgpfnbmlfaaaDoor.QE
open Go Go.RowKit Go.Proofs.YtiocgpfnbmlfaaaDoor Go.Proofs.YtiocgpfnbmlfaaaDoor.PE Go.Proofs.YtiocgpfnbmlfaaaDoor.QD Go.Proofs.YtiocgpfnbmlfaaaDoorW.PrintWords Go.Proofs.YtiocgpfnbmlfaaaDoorW.PrintLast

theorem Digits_l0 (suf : List UInt8) : ∀ pre : List UInt8, pre.length + suf.length < 1000000000000 →
    Ev (fun r => mezzotintref01_Digits.l0 r (S (pre ++ suf)) (pre.length : Int)) ((pre.length + (suf.takeWhile isDig).length : Nat) : Int) := by
  induction suf with
  | nil =>
    intro pre _
    refine Ev.step (f := fun _ => some ((pre.length : Nat) : Int)) (fun r => ?_) (Ev.now _)
    simp only [mezzotintref01_Digits.l0, List.append_nil, S_size]
    rw [if_neg (by omega)]
  | cons c suf ih =>
    intro pre hb
    simp only [List.length_cons] at hb
    have hbt := S_bt pre suf c
    have hsz : ((pre.length : Nat) : Int) < ((S (pre ++ c :: suf)).size : Int) := by rw [S_size]; simp; omega
    by_cases hc : isDig c = true
    · have hd := (isDig_iff c).1 hc
      have := ih (pre ++ [c]) (by simp; omega)
      rw [show (pre ++ [c]) ++ suf = pre ++ c :: suf from by simp, show ((pre ++ [c]).length : Int) = (pre.length : Int) + 1 from by simp] at this
      rw [show pre.length + ((c :: suf).takeWhile isDig).length = (pre ++ [c]).length + (suf.takeWhile isDig).length from by rw [List.takeWhile_cons, if_pos hc]; simp; omega]
      refine Ev.step (fun r => ?_) this
      simp only [mezzotintref01_Digits.l0]
      rw [if_pos hsz, if_pos (by omega), hbt, if_pos (by omega), if_pos (by omega), w64 _ (by omega) (by omega)]
    · have hd : ¬ (48 ≤ c.toNat ∧ c.toNat ≤ 57) := fun h => hc ((isDig_iff c).2 h)
      refine Ev.step (f := fun _ => some ((pre.length : Nat) : Int)) (fun r => ?_) ?_
      · simp only [mezzotintref01_Digits.l0]
        rw [if_pos hsz, if_pos (by omega), hbt]
        by_cases h1 : 48 ≤ c.toNat
        · rw [if_pos (by omega), if_neg (by omega)]
        · rw [if_neg (by omega)]
      · rw [List.takeWhile_cons, if_neg hc]
        exact Ev.now _

theorem Digits_ev (l : List UInt8) (h : l.length < 1000000000000) : Ev (fun r => mezzotintref01_Digits.f r (S l)) (((l.takeWhile isDig).length : Nat) : Int) := by
  have := Digits_l0 l [] (by simpa using h)
  simpa [mezzotintref01_Digits.f] using this

theorem Digits_any (s : ByteArray) (n : Nat) (hs : s.size < 1000000000000) (hn : (s.data.toList.takeWhile isDig).length = n) (w : World) :
    Calls Tryd.prog 43 #[.string s] w fun e w' => e = .returned (.int .i64 (n : Nat)) ∧ Drawn0 w w' := by
  subst hn
  obtain ⟨k, hk⟩ := (Digits_ev s.data.toList (by rw [← Lib.size_eq]; exact hs)).rounds
  rw [← S_of] at hk
  exact mezzotintref01_Digits.calls k s _ w hk

theorem drawn_drewN {w w' : World} (h : Drawn0 w w') : ∃ n, w' = w.drewN n := by
  obtain ⟨n, h⟩ := h
  exact ⟨n, h⟩

/-- how a text begins: s is the text, r what is behind its sign -/
def SignIs (s r : ByteArray) (m : Bool) : Prop :=
  (s.size = 0 ∧ r = s ∧ m = false) ∨ (∃ (h : 0 < s.size), (s[0]'h) = 45 ∧ s.extract 1 s.size = r ∧ m = true) ∨ (∃ (h : 0 < s.size), (s[0]'h) = 43 ∧ s.extract 1 s.size = r ∧ m = false) ∨
  (∃ (h : 0 < s.size) (x : UInt8), (s[0]'h) = x ∧ ((x.toNat : Int) == 45) = false ∧ ((x.toNat : Int) == 43) = false ∧ r = s ∧ m = false)

set_option maxHeartbeats 4000000 in
set_option maxRecDepth 100000 in
theorem plain_none (s r a q : ByteArray) (m : Bool) (n : Nat) (hS : SignIs s r m) (hs : s.size ≤ 100000000) (hr : r.size ≤ 100000000) (hn : (r.data.toList.takeWhile isDig).length = n) (hle : n ≤ r.size)
    (ha : r.extract 0 n = a) (hq : r.extract n r.size = q) (h0 : q.size = 0) (w : World) (ok : Bool) (hok : decide (0 < a.size) = ok) :
    Calls Tryd.prog 35 #[.string s] w fun e w' => e = .returned (.tuple #[.bool m, .string a, .int .i64 (n : Nat), .bool false, .bool ok]) ∧ Drawn0 w w' := by
  have HD := Lib.hid (fun w => Digits_any r n (by omega) hn w)
  have c0 : (0 : Int) ≤ (n : Int) := by omega
  have c1 : (n : Int) ≤ (r.size : Int) := by omega
  have z1 : q.size + n = r.size := by rw [← hq]; simp; omega
  have c2 : ((q.size : Int) = 0) = True := eq_true (by omega)
  clear hn
  rcases hS with ⟨hz, hrs, rfl⟩ | ⟨hz, hc, hx, rfl⟩ | ⟨hz, hc, hx, rfl⟩ | ⟨hz, x, hc, hc1, hc2, hrs, rfl⟩
  · subst hrs
    go_enter Tryd.func35, Tryd.ntmps35
    go_wp2_with (first | (go_at_call_of 43 (Value.string r); refine (HD.out _).mono ?_; rintro e w' ⟨rfl, hd⟩; obtain ⟨nd, rfl⟩ := drawn_drewN hd))
    refine bodyPost_ret (results_list (rs := [.tmp 2, .tmp 3, .tmp 4, .tmp 5, .tmp 6]) rfl (by simp) (.tmp (.tmp (.tmp (.tmp (.tmp .nil)))))) rfl ?_
    exact ⟨rfl, _, by first | rfl | (simp only [World.drewN_drewN]; done) | (simp only [World.drewN_drewN]; rfl)⟩
  · have z0 : r.size + 1 = s.size := by rw [← hx]; simp; omega
    go_enter Tryd.func35, Tryd.ntmps35
    go_wp2_with (first | (go_at_call_of 43 (Value.string r); refine (HD.out _).mono ?_; rintro e w' ⟨rfl, hd⟩; obtain ⟨nd, rfl⟩ := drawn_drewN hd))
    refine bodyPost_ret (results_list (rs := [.tmp 2, .tmp 3, .tmp 4, .tmp 5, .tmp 6]) rfl (by simp) (.tmp (.tmp (.tmp (.tmp (.tmp .nil)))))) rfl ?_
    exact ⟨rfl, _, by first | rfl | (simp only [World.drewN_drewN]; done) | (simp only [World.drewN_drewN]; rfl)⟩
  · have z0 : r.size + 1 = s.size := by rw [← hx]; simp; omega
    go_enter Tryd.func35, Tryd.ntmps35
    go_wp2_with (first | (go_at_call_of 43 (Value.string r); refine (HD.out _).mono ?_; rintro e w' ⟨rfl, hd⟩; obtain ⟨nd, rfl⟩ := drawn_drewN hd))
    refine bodyPost_ret (results_list (rs := [.tmp 2, .tmp 3, .tmp 4, .tmp 5, .tmp 6]) rfl (by simp) (.tmp (.tmp (.tmp (.tmp (.tmp .nil)))))) rfl ?_
    exact ⟨rfl, _, by first | rfl | (simp only [World.drewN_drewN]; done) | (simp only [World.drewN_drewN]; rfl)⟩
  · subst hrs
    go_enter Tryd.func35, Tryd.ntmps35
    go_wp2_with (first | (go_at_call_of 43 (Value.string r); refine (HD.out _).mono ?_; rintro e w' ⟨rfl, hd⟩; obtain ⟨nd, rfl⟩ := drawn_drewN hd))
    refine bodyPost_ret (results_list (rs := [.tmp 2, .tmp 3, .tmp 4, .tmp 5, .tmp 6]) rfl (by simp) (.tmp (.tmp (.tmp (.tmp (.tmp .nil)))))) rfl ?_
    exact ⟨rfl, _, by first | rfl | (simp only [World.drewN_drewN]; done) | (simp only [World.drewN_drewN]; rfl)⟩

set_option maxHeartbeats 4000000 in
set_option maxRecDepth 100000 in
theorem plain_other (s r a q : ByteArray) (m : Bool) (n : Nat) (hS : SignIs s r m) (hs : s.size ≤ 100000000) (hr : r.size ≤ 100000000) (hn : (r.data.toList.takeWhile isDig).length = n) (hle : n ≤ r.size)
    (ha : r.extract 0 n = a) (hq : r.extract n r.size = q) (h0 : 0 < q.size) (y : UInt8) (hy : (q[0]'h0) = y) (hy2 : ((y.toNat : Int) == 46) = false) (w : World) (ok : Bool) (hok : false = ok) :
    Calls Tryd.prog 35 #[.string s] w fun e w' => e = .returned (.tuple #[.bool m, .string a, .int .i64 (n : Nat), .bool false, .bool ok]) ∧ Drawn0 w w' := by
  have HD := Lib.hid (fun w => Digits_any r n (by omega) hn w)
  have c0 : (0 : Int) ≤ (n : Int) := by omega
  have c1 : (n : Int) ≤ (r.size : Int) := by omega
  have z1 : q.size + n = r.size := by rw [← hq]; simp; omega
  subst hok
  have c2 : ((q.size : Int) == 0) = false := beq_eq_false_iff_ne.2 (by omega)
  have c3 : ((0 : Int) < (q.size : Int)) = True := eq_true (by omega)
  clear hn
  rcases hS with ⟨hz, hrs, rfl⟩ | ⟨hz, hc, hx, rfl⟩ | ⟨hz, hc, hx, rfl⟩ | ⟨hz, x, hc, hc1, hc2, hrs, rfl⟩
  · subst hrs
    exact absurd h0 (by omega)
  · have z0 : r.size + 1 = s.size := by rw [← hx]; simp; omega
    go_enter Tryd.func35, Tryd.ntmps35
    go_wp2_with (first | (go_at_call_of 43 (Value.string r); refine (HD.out _).mono ?_; rintro e w' ⟨rfl, hd⟩; obtain ⟨nd, rfl⟩ := drawn_drewN hd))
    refine bodyPost_ret (results_list (rs := [.tmp 2, .tmp 3, .tmp 4, .tmp 5, .tmp 6]) rfl (by simp) (.tmp (.tmp (.tmp (.tmp (.tmp .nil)))))) rfl ?_
    exact ⟨rfl, _, by first | rfl | (simp only [World.drewN_drewN]; done) | (simp only [World.drewN_drewN]; rfl)⟩
  · have z0 : r.size + 1 = s.size := by rw [← hx]; simp; omega
    go_enter Tryd.func35, Tryd.ntmps35
    go_wp2_with (first | (go_at_call_of 43 (Value.string r); refine (HD.out _).mono ?_; rintro e w' ⟨rfl, hd⟩; obtain ⟨nd, rfl⟩ := drawn_drewN hd))
    refine bodyPost_ret (results_list (rs := [.tmp 2, .tmp 3, .tmp 4, .tmp 5, .tmp 6]) rfl (by simp) (.tmp (.tmp (.tmp (.tmp (.tmp .nil)))))) rfl ?_
    exact ⟨rfl, _, by first | rfl | (simp only [World.drewN_drewN]; done) | (simp only [World.drewN_drewN]; rfl)⟩
  · subst hrs
    go_enter Tryd.func35, Tryd.ntmps35
    go_wp2_with (first | (go_at_call_of 43 (Value.string r); refine (HD.out _).mono ?_; rintro e w' ⟨rfl, hd⟩; obtain ⟨nd, rfl⟩ := drawn_drewN hd))
    refine bodyPost_ret (results_list (rs := [.tmp 2, .tmp 3, .tmp 4, .tmp 5, .tmp 6]) rfl (by simp) (.tmp (.tmp (.tmp (.tmp (.tmp .nil)))))) rfl ?_
    exact ⟨rfl, _, by first | rfl | (simp only [World.drewN_drewN]; done) | (simp only [World.drewN_drewN]; rfl)⟩

end Go.Proofs.YtiocgpfnbmlfaaaDoor.QE

/-! ## GTb -/
namespace Go.Proofs.YtiocgpfnbmlfaaaDoor.QE
open Go Go.RowKit Go.Proofs.YtiocgpfnbmlfaaaDoor Go.Proofs.YtiocgpfnbmlfaaaDoor.PE Go.Proofs.YtiocgpfnbmlfaaaDoor.QD Go.Proofs.YtiocgpfnbmlfaaaDoorW.PrintWords Go.Proofs.YtiocgpfnbmlfaaaDoorW.PrintLast

set_option maxHeartbeats 4000000 in
set_option maxRecDepth 100000 in
theorem plain_point (s r a q : ByteArray) (m : Bool) (n : Nat) (hS : SignIs s r m) (hs : s.size ≤ 100000000) (hr : r.size ≤ 100000000) (hn : (r.data.toList.takeWhile isDig).length = n) (hle : n ≤ r.size)
    (ha : r.extract 0 n = a) (hq : r.extract n r.size = q) (h0 : 0 < q.size) (hy : (q[0]'h0) = 46) (t b z : ByteArray) (ht : q.extract 1 q.size = t) (n2 : Nat) (hts : t.size ≤ 100000000) (hn2 : (t.data.toList.takeWhile isDig).length = n2) (hle2 : n2 ≤ t.size) (hab : a.size ≤ 100000000) (hbb : b.size ≤ 100000000) (hb : t.extract 0 n2 = b) (hzz : t.extract n2 t.size = z) (d : ByteArray) (hd0 : a ++ b = d) (hz0 : z.size = 0) (w : World) (ok : Bool) (hok : decide (0 < d.size) = ok) :
    Calls Tryd.prog 35 #[.string s] w fun e w' => e = .returned (.tuple #[.bool m, .string d, .int .i64 (n : Nat), .bool true, .bool ok]) ∧ Drawn0 w w' := by
  have HD := Lib.hid (fun w => Digits_any r n (by omega) hn w)
  have c0 : (0 : Int) ≤ (n : Int) := by omega
  have c1 : (n : Int) ≤ (r.size : Int) := by omega
  have z1 : q.size + n = r.size := by rw [← hq]; simp; omega
  have c2 : ((q.size : Int) == 0) = false := beq_eq_false_iff_ne.2 (by omega)
  have c3 : ((0 : Int) < (q.size : Int)) = True := eq_true (by omega)
  have c4 : ((1 : Int) ≤ (q.size : Int)) = True := eq_true (by omega)
  have HE := Lib.hid (fun w => Digits_any t n2 (by omega) hn2 w)
  have c5 : (0 : Int) ≤ (n2 : Int) := by omega
  have c6 : (n2 : Int) ≤ (t.size : Int) := by omega
  have z3 : t.size + 1 = q.size := by rw [← ht]; simp; omega
  have z5 : z.size + n2 = t.size := by rw [← hzz]; simp; omega
  have c7 : a.size + b.size ≤ 9223372036854775807 := by omega
  clear hn2
  have c8 : ((z.size : Int) = 0) = True := eq_true (by omega)
  clear hn
  rcases hS with ⟨hz, hrs, rfl⟩ | ⟨hz, hc, hx, rfl⟩ | ⟨hz, hc, hx, rfl⟩ | ⟨hz, x, hc, hc1, hc2, hrs, rfl⟩
  · subst hrs
    exact absurd h0 (by omega)
  · have z0 : r.size + 1 = s.size := by rw [← hx]; simp; omega
    go_enter Tryd.func35, Tryd.ntmps35
    go_wp2_with (first | (go_at_call_of 43 (Value.string r); refine (HD.out _).mono ?_; rintro e w' ⟨rfl, hd⟩; obtain ⟨nd, rfl⟩ := drawn_drewN hd) | (go_at_call_of 43 (Value.string t); refine (HE.out _).mono ?_; rintro e w' ⟨rfl, hd⟩; obtain ⟨nd, rfl⟩ := drawn_drewN hd))
    refine bodyPost_ret (results_list (rs := [.tmp 2, .tmp 3, .tmp 4, .tmp 5, .tmp 6]) rfl (by simp) (.tmp (.tmp (.tmp (.tmp (.tmp .nil)))))) rfl ?_
    exact ⟨rfl, _, by first | rfl | (simp only [World.drewN_drewN]; done) | (simp only [World.drewN_drewN]; rfl)⟩
  · have z0 : r.size + 1 = s.size := by rw [← hx]; simp; omega
    go_enter Tryd.func35, Tryd.ntmps35
    go_wp2_with (first | (go_at_call_of 43 (Value.string r); refine (HD.out _).mono ?_; rintro e w' ⟨rfl, hd⟩; obtain ⟨nd, rfl⟩ := drawn_drewN hd) | (go_at_call_of 43 (Value.string t); refine (HE.out _).mono ?_; rintro e w' ⟨rfl, hd⟩; obtain ⟨nd, rfl⟩ := drawn_drewN hd))
    refine bodyPost_ret (results_list (rs := [.tmp 2, .tmp 3, .tmp 4, .tmp 5, .tmp 6]) rfl (by simp) (.tmp (.tmp (.tmp (.tmp (.tmp .nil)))))) rfl ?_
    exact ⟨rfl, _, by first | rfl | (simp only [World.drewN_drewN]; done) | (simp only [World.drewN_drewN]; rfl)⟩
  · subst hrs
    go_enter Tryd.func35, Tryd.ntmps35
    go_wp2_with (first | (go_at_call_of 43 (Value.string r); refine (HD.out _).mono ?_; rintro e w' ⟨rfl, hd⟩; obtain ⟨nd, rfl⟩ := drawn_drewN hd) | (go_at_call_of 43 (Value.string t); refine (HE.out _).mono ?_; rintro e w' ⟨rfl, hd⟩; obtain ⟨nd, rfl⟩ := drawn_drewN hd))
    refine bodyPost_ret (results_list (rs := [.tmp 2, .tmp 3, .tmp 4, .tmp 5, .tmp 6]) rfl (by simp) (.tmp (.tmp (.tmp (.tmp (.tmp .nil)))))) rfl ?_
    exact ⟨rfl, _, by first | rfl | (simp only [World.drewN_drewN]; done) | (simp only [World.drewN_drewN]; rfl)⟩

set_option maxHeartbeats 4000000 in
set_option maxRecDepth 100000 in
theorem plain_more (s r a q : ByteArray) (m : Bool) (n : Nat) (hS : SignIs s r m) (hs : s.size ≤ 100000000) (hr : r.size ≤ 100000000) (hn : (r.data.toList.takeWhile isDig).length = n) (hle : n ≤ r.size)
    (ha : r.extract 0 n = a) (hq : r.extract n r.size = q) (h0 : 0 < q.size) (hy : (q[0]'h0) = 46) (t b z : ByteArray) (ht : q.extract 1 q.size = t) (n2 : Nat) (hts : t.size ≤ 100000000) (hn2 : (t.data.toList.takeWhile isDig).length = n2) (hle2 : n2 ≤ t.size) (hab : a.size ≤ 100000000) (hbb : b.size ≤ 100000000) (hb : t.extract 0 n2 = b) (hzz : t.extract n2 t.size = z) (d : ByteArray) (hd0 : a ++ b = d) (hz0 : 0 < z.size) (w : World) (ok : Bool) (hok : false = ok) :
    Calls Tryd.prog 35 #[.string s] w fun e w' => e = .returned (.tuple #[.bool m, .string d, .int .i64 (n : Nat), .bool true, .bool ok]) ∧ Drawn0 w w' := by
  have HD := Lib.hid (fun w => Digits_any r n (by omega) hn w)
  have c0 : (0 : Int) ≤ (n : Int) := by omega
  have c1 : (n : Int) ≤ (r.size : Int) := by omega
  have z1 : q.size + n = r.size := by rw [← hq]; simp; omega
  subst hok
  have c2 : ((q.size : Int) == 0) = false := beq_eq_false_iff_ne.2 (by omega)
  have c3 : ((0 : Int) < (q.size : Int)) = True := eq_true (by omega)
  have c4 : ((1 : Int) ≤ (q.size : Int)) = True := eq_true (by omega)
  have HE := Lib.hid (fun w => Digits_any t n2 (by omega) hn2 w)
  have c5 : (0 : Int) ≤ (n2 : Int) := by omega
  have c6 : (n2 : Int) ≤ (t.size : Int) := by omega
  have z3 : t.size + 1 = q.size := by rw [← ht]; simp; omega
  have z5 : z.size + n2 = t.size := by rw [← hzz]; simp; omega
  have c7 : a.size + b.size ≤ 9223372036854775807 := by omega
  clear hn2
  have c8 : ((z.size : Int) == 0) = false := beq_eq_false_iff_ne.2 (by omega)
  clear hn
  rcases hS with ⟨hz, hrs, rfl⟩ | ⟨hz, hc, hx, rfl⟩ | ⟨hz, hc, hx, rfl⟩ | ⟨hz, x, hc, hc1, hc2, hrs, rfl⟩
  · subst hrs
    exact absurd h0 (by omega)
  · have z0 : r.size + 1 = s.size := by rw [← hx]; simp; omega
    go_enter Tryd.func35, Tryd.ntmps35
    go_wp2_with (first | (go_at_call_of 43 (Value.string r); refine (HD.out _).mono ?_; rintro e w' ⟨rfl, hd⟩; obtain ⟨nd, rfl⟩ := drawn_drewN hd) | (go_at_call_of 43 (Value.string t); refine (HE.out _).mono ?_; rintro e w' ⟨rfl, hd⟩; obtain ⟨nd, rfl⟩ := drawn_drewN hd))
    refine bodyPost_ret (results_list (rs := [.tmp 2, .tmp 3, .tmp 4, .tmp 5, .tmp 6]) rfl (by simp) (.tmp (.tmp (.tmp (.tmp (.tmp .nil)))))) rfl ?_
    exact ⟨rfl, _, by first | rfl | (simp only [World.drewN_drewN]; done) | (simp only [World.drewN_drewN]; rfl)⟩
  · have z0 : r.size + 1 = s.size := by rw [← hx]; simp; omega
    go_enter Tryd.func35, Tryd.ntmps35
    go_wp2_with (first | (go_at_call_of 43 (Value.string r); refine (HD.out _).mono ?_; rintro e w' ⟨rfl, hd⟩; obtain ⟨nd, rfl⟩ := drawn_drewN hd) | (go_at_call_of 43 (Value.string t); refine (HE.out _).mono ?_; rintro e w' ⟨rfl, hd⟩; obtain ⟨nd, rfl⟩ := drawn_drewN hd))
    refine bodyPost_ret (results_list (rs := [.tmp 2, .tmp 3, .tmp 4, .tmp 5, .tmp 6]) rfl (by simp) (.tmp (.tmp (.tmp (.tmp (.tmp .nil)))))) rfl ?_
    exact ⟨rfl, _, by first | rfl | (simp only [World.drewN_drewN]; done) | (simp only [World.drewN_drewN]; rfl)⟩
  · subst hrs
    go_enter Tryd.func35, Tryd.ntmps35
    go_wp2_with (first | (go_at_call_of 43 (Value.string r); refine (HD.out _).mono ?_; rintro e w' ⟨rfl, hd⟩; obtain ⟨nd, rfl⟩ := drawn_drewN hd) | (go_at_call_of 43 (Value.string t); refine (HE.out _).mono ?_; rintro e w' ⟨rfl, hd⟩; obtain ⟨nd, rfl⟩ := drawn_drewN hd))
    refine bodyPost_ret (results_list (rs := [.tmp 2, .tmp 3, .tmp 4, .tmp 5, .tmp 6]) rfl (by simp) (.tmp (.tmp (.tmp (.tmp (.tmp .nil)))))) rfl ?_
    exact ⟨rfl, _, by first | rfl | (simp only [World.drewN_drewN]; done) | (simp only [World.drewN_drewN]; rfl)⟩

end Go.Proofs.YtiocgpfnbmlfaaaDoor.QE

/-! ## GTc -/
namespace Go.Proofs.YtiocgpfnbmlfaaaDoor.QE
open Go Go.RowKit Go.Proofs.YtiocgpfnbmlfaaaDoor Go.Proofs.YtiocgpfnbmlfaaaDoor.PE Go.Proofs.YtiocgpfnbmlfaaaDoor.QD Go.Proofs.YtiocgpfnbmlfaaaDoorW.PrintWords Go.Proofs.YtiocgpfnbmlfaaaDoorW.PrintLast

theorem signIs (l : List UInt8) : SignIs (S l) (S (sgnL l).2) (sgnL l).1 := by
  match l with
  | [] => exact Or.inl ⟨rfl, rfl, rfl⟩
  | c :: t =>
    have hsz : 0 < (S (c :: t)).size := by rw [S_size]; simp
    have hx : (S (c :: t)).extract 1 (S (c :: t)).size = S t := by rw [S_from]; rfl
    have h0 : (S (c :: t))[0]'hsz = c := rfl
    by_cases h45 : c = 45
    · subst h45
      exact Or.inr (Or.inl ⟨hsz, h0, hx, rfl⟩)
    · by_cases h43 : c = 43
      · subst h43
        exact Or.inr (Or.inr (Or.inl ⟨hsz, h0, hx, rfl⟩))
      · have hs : sgnL (c :: t) = (false, c :: t) := by simp [sgnL, h45, h43]
        rw [hs]
        refine Or.inr (Or.inr (Or.inr ⟨hsz, c, h0, beq_eq_false_iff_ne.2 (fun h => h45 (UInt8.toNat_inj.1 (by show c.toNat = 45; omega))), beq_eq_false_iff_ne.2 (fun h => h43 (UInt8.toNat_inj.1 (by show c.toNat = 43; omega))), rfl, rfl⟩))

theorem split_at (r : List UInt8) : r.drop (r.takeWhile isDig).length = r.dropWhile isDig ∧ r.take (r.takeWhile isDig).length = r.takeWhile isDig ∧ r.length = (r.takeWhile isDig).length + (r.dropWhile isDig).length := by
  have hr := (List.takeWhile_append_dropWhile (p := isDig) (l := r)).symm
  refine ⟨?_, ?_, ?_⟩
  · conv => lhs; rw [hr]
    rw [List.drop_left' (by rw [← hr])]
  · conv => lhs; rw [hr]
    rw [List.take_left' (by rw [← hr])]
  · rw [← List.length_append, ← hr]

theorem plain_any (l : List UInt8) (hl : l.length ≤ 100000000) (w : World) :
    Calls Tryd.prog 35 #[.string (S l)] w fun e w' =>
      e = .returned (.tuple #[.bool (sgnL l).1, .string (S (plainL (sgnL l).2).1), .int .i64 ((plainL (sgnL l).2).2.1 : Nat), .bool (plainL (sgnL l).2).2.2.1, .bool (plainL (sgnL l).2).2.2.2]) ∧ Drawn0 w w' := by
  have hS := signIs l
  have hle := sgnL_len l
  generalize (sgnL l).1 = m at *
  generalize (sgnL l).2 = r at *
  obtain ⟨h1, h2, h3⟩ := split_at r
  have hA : (S r).extract 0 (r.takeWhile isDig).length = S (r.takeWhile isDig) := by rw [S_to, h2]
  have hQ : (S r).extract (r.takeWhile isDig).length (S r).size = S (r.dropWhile isDig) := by rw [S_from, h1]
  have hn : ((S r).data.toList.takeWhile isDig).length = (r.takeWhile isDig).length := by rw [S_data]
  have hs : (S l).size ≤ 100000000 := by rw [S_size]; exact hl
  have hr : (S r).size ≤ 100000000 := by rw [S_size]; omega
  have hle' : (r.takeWhile isDig).length ≤ (S r).size := by rw [S_size]; omega
  unfold plainL
  generalize hq : r.dropWhile isDig = q at *
  match q, hq with
  | [], _ =>
    simp only [ptL]
    exact plain_none (S l) (S r) _ (S []) m _ hS hs hr hn hle' hA hQ rfl w _ (by rw [S_size]; simp)
  | c :: t, hq =>
    have hq0 : 0 < (S (c :: t)).size := by rw [S_size]; simp
    by_cases h46 : c = 46
    · subst h46
      obtain ⟨g1, g2, g3⟩ := split_at t
      have htl : t.length ≤ 100000000 := by simp only [List.length_cons] at h3; omega
      simp only [ptL, if_true]
      have ht : (S (46 :: t)).extract 1 (S (46 :: t)).size = S t := by rw [S_from]; rfl
      have hB : (S t).extract 0 (t.takeWhile isDig).length = S (t.takeWhile isDig) := by rw [S_to, g2]
      have hZ : (S t).extract (t.takeWhile isDig).length (S t).size = S (t.dropWhile isDig) := by rw [S_from, g1]
      have hn2 : ((S t).data.toList.takeWhile isDig).length = (t.takeWhile isDig).length := by rw [S_data]
      by_cases hz : t.dropWhile isDig = []
      · exact plain_point (S l) (S r) _ (S (46 :: t)) m _ hS hs hr hn hle' hA hQ hq0 rfl (S t) _ _ ht _ (by rw [S_size]; exact htl) hn2 (by rw [S_size]; omega) (by rw [S_size]; omega) (by rw [S_size]; omega) hB hZ _ (S_append _ _)
          (by rw [S_size, hz]; rfl) w _ (by rw [S_size, hz]; simp)
      · exact plain_more (S l) (S r) _ (S (46 :: t)) m _ hS hs hr hn hle' hA hQ hq0 rfl (S t) _ _ ht _ (by rw [S_size]; exact htl) hn2 (by rw [S_size]; omega) (by rw [S_size]; omega) (by rw [S_size]; omega) hB hZ _ (S_append _ _)
          (by rw [S_size]; exact List.length_pos_iff.2 hz) w _ (by simp [hz])
    · simp only [ptL, if_neg h46]
      exact plain_other (S l) (S r) _ (S (c :: t)) m _ hS hs hr hn hle' hA hQ hq0 c rfl (beq_eq_false_iff_ne.2 (fun h => h46 (UInt8.toNat_inj.1 (by show c.toNat = 46; omega)))) w _ (by simp)

end Go.Proofs.YtiocgpfnbmlfaaaDoor.QE
namespace Go.Proofs.YtiocgpfnbmlfaaaDoor
open Go Go.RowKit Go.Proofs.YtiocgpfnbmlfaaaDoorW.PrintWords

def mezzotintref01_plain.f (a0 : ByteArray) : Option (Bool × ByteArray × Int × Bool × Bool) :=
  if a0.size ≤ 100000000 then some ((sgnL a0.data.toList).1, QD.S (QD.plainL (sgnL a0.data.toList).2).1, ((QD.plainL (sgnL a0.data.toList).2).2.1 : Nat), (QD.plainL (sgnL a0.data.toList).2).2.2.1, (QD.plainL (sgnL a0.data.toList).2).2.2.2) else none

theorem mezzotintref01_plain.calls (a0 : ByteArray) (r1 : Bool) (r2 : ByteArray) (r3 : Int) (r4 r5 : Bool) (w : World) (h : mezzotintref01_plain.f a0 = some (r1, r2, r3, r4, r5)) :
    Calls Tryd.prog 35 #[.string a0] w fun e w' => e = .returned (.tuple #[.bool r1, .string r2, .int .i64 r3, .bool r4, .bool r5]) ∧ Drawn0 w w' := by
  unfold mezzotintref01_plain.f at h
  split at h
  · rename_i hs
    simp only [Option.some.injEq, Prod.mk.injEq] at h
    obtain ⟨rfl, rfl, rfl, rfl, rfl⟩ := h
    have := QE.plain_any a0.data.toList (by rw [← Lib.size_eq]; exact hs) w
    rw [← QD.S_of] at this
    exact this
  · cases h

end Go.Proofs.YtiocgpfnbmlfaaaDoor

/-! ## GK -/
namespace Go.Proofs.YtiocgpfnbmlfaaaDoor.QD
open Go Go.RowKit Go.Proofs.YtiocgpfnbmlfaaaDoor Go.Proofs.YtiocgpfnbmlfaaaDoorW.PrintWords

/-- the digits ahead of the point, with noughts where they do not reach -/
def aOf (D : List UInt8) (n : Nat) : List UInt8 := (D ++ List.replicate n 48).take n
theorem aOf_len (D : List UInt8) (n : Nat) : (aOf D n).length = n := by simp [aOf]
theorem aOf_all (D : List UInt8) (n : Nat) (hD : D.all isDig = true) : (aOf D n).all isDig = true := by
  rw [List.all_eq_true] at *
  intro x hx
  have := List.mem_of_mem_take hx
  rcases List.mem_append.1 this with h | h
  · exact hD x h
  · rw [(List.mem_replicate.1 h).2]; decide
/-- the digits behind the point -/
def bOf (D : List UInt8) (p : Int) : List UInt8 := List.replicate (-p).toNat 48 ++ D.drop p.toNat
theorem bOf_all (D : List UInt8) (p : Int) (hD : D.all isDig = true) : (bOf D p).all isDig = true := by
  rw [List.all_eq_true] at *
  intro x hx
  rcases List.mem_append.1 hx with h | h
  · rw [(List.mem_replicate.1 h).2]; decide
  · exact hD x (List.mem_of_mem_drop h)
theorem bOf_len (D : List UInt8) (p : Int) : (bOf D p).length ≤ (-p).toNat + D.length := by simp [bOf]

theorem repeat0 (n : Nat) : Lib.repeatL [48] n = List.replicate n 48 := by
  induction n with
  | zero => rfl
  | succ n ih =>
    have : Lib.repeatL [48] (n + 1) = [48] ++ Lib.repeatL [48] n := rfl
    rw [this, ih]; rfl
theorem repeat_f (n : Nat) (hn : n ≤ 100000) (k : Int) (hk : k = n) : strings_Repeat.f ⟨#[48]⟩ k = some (S (List.replicate n 48)) := by
  subst hk
  unfold strings_Repeat.f
  rw [if_pos ⟨by omega, by omega, by decide⟩, Int.toNat_natCast]
  show some (S (Lib.repeatL [48] n)) = _
  rw [repeat0]

def ShQ (x y : ByteArray) (w : World) (e : Ending) (w' : World) : Prop := e = .returned (.tuple #[.string x, .string y]) ∧ Below w.heap.size w w'

set_option maxHeartbeats 2000000 in
set_option maxRecDepth 100000 in
theorem shift_neg (a b d z r : ByteArray) (k : Int) (n : Nat) (w : World) (hd : a ++ b = d) (ha : a.size ≤ 100000) (hb : b.size ≤ 100000) (hk1 : -100000 ≤ k) (hk2 : k ≤ 100000)
    (hn : (a.size : Int) + k = -(n : Int)) (h0 : 0 < n) (hz : strings_Repeat.f ⟨#[48]⟩ (n : Int) = some z) (hzs : z.size = n) (hr : z ++ d = r) :
    Calls Tryd.prog 42 #[.string a, .string b, .int .i64 k] w (ShQ ⟨#[]⟩ r w) := by
  have hds : d.size = a.size + b.size := by rw [← hd]; simp
  have HZ := Lib.hid (fun w => strings_Repeat.calls ⟨#[48]⟩ (n : Int) z w hz)
  have c0 : a.size + b.size ≤ 9223372036854775807 := by omega
  have c1 : z.size + d.size ≤ 9223372036854775807 := by omega
  have c2 : (-(n : Int)) < 0 := by omega
  clear hz hds
  go_enter Tryd.func42, Tryd.ntmps42
  go_wp2_with (go_at_call 70; refine (HZ.out _).mono ?_; rintro e w' ⟨rfl, hb⟩; have HB := Lib.hid hb; clear hb)
  go_ret2
  exact ⟨rfl, HB.out⟩

set_option maxHeartbeats 2000000 in
set_option maxRecDepth 100000 in
theorem shift_far (a b d z r : ByteArray) (k : Int) (n m : Nat) (w : World) (hd : a ++ b = d) (ha : a.size ≤ 100000) (hb : b.size ≤ 100000) (hk1 : -100000 ≤ k) (hk2 : k ≤ 100000)
    (hn : (a.size : Int) + k = (n : Int)) (h0 : (n : Int) = (d.size : Int) + (m : Int)) (h1 : 0 < m) (hz : strings_Repeat.f ⟨#[48]⟩ (m : Int) = some z) (hzs : z.size = m) (hr : d ++ z = r) (hrs : r.size = n) (hr1 : r.extract 0 n = r) (_ : r.extract n n = ⟨#[]⟩) :
    Calls Tryd.prog 42 #[.string a, .string b, .int .i64 k] w (ShQ r ⟨#[]⟩ w) := by
  have hds : d.size = a.size + b.size := by rw [← hd]; simp
  have HZ := Lib.hid (fun w => strings_Repeat.calls ⟨#[48]⟩ (m : Int) z w hz)
  have c0 : a.size + b.size ≤ 9223372036854775807 := by omega
  have c1 : d.size + z.size ≤ 9223372036854775807 := by omega
  have c2 : ((n : Int) - (d.size : Int)) = (m : Int) := by omega
  have c3 : ¬ ((n : Int) < 0) := by omega
  have c4 : (d.size : Int) < (n : Int) := by omega
  have c5 : (0 : Int) ≤ (n : Int) := by omega
  clear hz hds h0
  go_enter Tryd.func42, Tryd.ntmps42
  go_wp2_with (go_at_call 70; refine (HZ.out _).mono ?_; rintro e w' ⟨rfl, hb⟩; have HB := Lib.hid hb; clear hb)
  go_quiet (fail)
  go_wp2_with fail
  go_ret2
  exact ⟨rfl, HB.out.trans ((Go.Proofs.YtiocgpfnbmlfaaaDoorW.PrintWords.Drawn0.mk ⟨_, rfl⟩).below.mono HB.out.size)⟩

set_option maxHeartbeats 2000000 in
set_option maxRecDepth 100000 in
theorem shift_mid (a b d x y : ByteArray) (k : Int) (n : Nat) (w : World) (hd : a ++ b = d) (ha : a.size ≤ 100000) (hb : b.size ≤ 100000) (hk1 : -100000 ≤ k) (hk2 : k ≤ 100000)
    (hn : (a.size : Int) + k = (n : Int)) (h0 : n ≤ d.size) (hx : d.extract 0 n = x) (hy : d.extract n d.size = y) :
    Calls Tryd.prog 42 #[.string a, .string b, .int .i64 k] w (ShQ x y w) := by
  have hds : d.size = a.size + b.size := by rw [← hd]; simp
  have c0 : a.size + b.size ≤ 9223372036854775807 := by omega
  have c3 : ¬ ((n : Int) < 0) := by omega
  have c4 : ¬ ((d.size : Int) < (n : Int)) := by omega
  have c5 : (0 : Int) ≤ (n : Int) := by omega
  have c6 : (n : Int) ≤ (d.size : Int) := by omega
  clear hds
  go_enter Tryd.func42, Tryd.ntmps42
  go_wp2_with fail
  go_quiet (fail)
  go_wp2_with fail
  go_ret2
  exact ⟨rfl, (Go.Proofs.YtiocgpfnbmlfaaaDoorW.PrintWords.Drawn0.mk ⟨_, rfl⟩).below⟩

def shiftL (a b : List UInt8) (k : Int) : List UInt8 × List UInt8 := (aOf (a ++ b) ((a.length : Int) + k).toNat, bOf (a ++ b) ((a.length : Int) + k))

theorem shift_any (a b : List UInt8) (k : Int) (w : World) (ha : a.length ≤ 10000) (hb : b.length ≤ 10000) (hk1 : -10000 ≤ k) (hk2 : k ≤ 10000) :
    Calls Tryd.prog 42 #[.string (S a), .string (S b), .int .i64 k] w (ShQ (S (shiftL a b k).1) (S (shiftL a b k).2) w) := by
  have hD := S_append a b
  have hDs : (S (a ++ b)).size = a.length + b.length := by rw [S_size]; simp
  have hA := S_size a
  have hB := S_size b
  unfold shiftL
  by_cases hneg : (a.length : Int) + k < 0
  · obtain ⟨n, hn⟩ : ∃ n : Nat, (a.length : Int) + k = -(n : Int) := ⟨(-((a.length : Int) + k)).toNat, by omega⟩
    have := shift_neg (S a) (S b) (S (a ++ b)) (S (List.replicate n 48)) (S (List.replicate n 48 ++ (a ++ b))) k n w hD (by omega) (by omega) (by omega) (by omega) (by rw [hA]; exact hn) (by omega) (repeat_f n (by omega) _ rfl) (by rw [S_size]; simp) (S_append _ _)
    rw [hn]
    have e1 : (-(n : Int)).toNat = 0 := by omega
    have e2 : (-(-(n : Int))).toNat = n := by omega
    unfold bOf aOf
    rw [e1, e2, List.take_zero, List.drop_zero]
    exact this
  · obtain ⟨n, hn⟩ : ∃ n : Nat, (a.length : Int) + k = (n : Int) := ⟨((a.length : Int) + k).toNat, by omega⟩
    rw [hn]
    have e1 : ((n : Int)).toNat = n := by omega
    have e2 : (-((n : Int))).toNat = 0 := by omega
    unfold bOf aOf
    rw [e1, e2, List.replicate_zero, List.nil_append]
    by_cases hfar : (a ++ b).length < n
    · obtain ⟨m, hm⟩ : ∃ m, n = (a ++ b).length + m := ⟨n - (a ++ b).length, by omega⟩
      have hdrop : (a ++ b).drop n = [] := List.drop_eq_nil_of_le (by omega)
      have htake : ((a ++ b) ++ List.replicate n 48).take n = (a ++ b) ++ List.replicate m 48 := by
        rw [List.take_append, List.take_of_length_le (by omega), List.take_replicate]
        congr 2
        omega
      have hrs : (S ((a ++ b) ++ List.replicate m 48)).size = n := by rw [S_size, List.length_append, List.length_replicate]; omega
      rw [hdrop, htake]
      refine shift_far (S a) (S b) (S (a ++ b)) (S (List.replicate m 48)) _ k n m w hD (by omega) (by omega) (by omega) (by omega) (by rw [hA]; exact hn) (by rw [S_size]; omega) (by omega) (repeat_f m (by omega) _ rfl) (by rw [S_size]; simp) (S_append _ _) hrs ?_ ?_
      · show (S ((a ++ b) ++ List.replicate m 48)).extract 0 n = S ((a ++ b) ++ List.replicate m 48)
        rw [S_to, List.take_of_length_le (by rw [← S_size]; omega)]
      · have := S_from ((a ++ b) ++ List.replicate m 48) n
        rw [hrs, List.drop_eq_nil_of_le (by rw [← S_size]; omega)] at this
        exact this
    · have htake : ((a ++ b) ++ List.replicate n 48).take n = (a ++ b).take n := List.take_append_of_le_length (by omega)
      rw [htake]
      exact shift_mid (S a) (S b) (S (a ++ b)) _ _ k n w hD (by omega) (by omega) (by omega) (by omega) (by rw [hA]; exact hn) (by rw [S_size]; omega) (S_to _ _) (S_from _ _)

end Go.Proofs.YtiocgpfnbmlfaaaDoor.QD

/-! ## GN -/
namespace Go.Proofs.YtiocgpfnbmlfaaaDoor.QD
open Go Go.RowKit Go.Proofs.YtiocgpfnbmlfaaaDoor Go.Proofs.YtiocgpfnbmlfaaaDoorW.PrintWords

/-- what is left of a world below a mark: the result's block, and what was there when the call began -/
def Kept (w wn : World) : Prop := TokBlk w.heap.size wn ∧ Below w.heap.size w wn
theorem Kept.step {w wn wm : World} (h : Kept w wn) (hb : Below wn.heap.size wn wm) : Kept w wm :=
  ⟨h.1.below hb h.1.lt, h.2.trans (hb.mono h.2.size)⟩
theorem Kept.first {w wn : World} {o : Obj} (h : TokBlk w.heap.size (w.alloc o)) (hb : Below (w.alloc o).heap.size (w.alloc o) wn) : Kept w wn :=
  ⟨h.below hb (by simp), below_alloc0 hb⟩
theorem setCell_size (w : World) (a : Addr) (v : Value) : (w.setCell a v).heap.size = w.heap.size := by simp [World.setCell]
/-- the last store, the result's three cells -/
theorem Kept.done {w wn : World} {v0 v1 v2 : Value} {a0 a1 a2 : Addr} (h : Kept w wn) (h0 : a0.block = w.heap.size) (h1 : a1.block = w.heap.size) (h2 : a2.block = w.heap.size) :
    Below w.heap.size w (((wn.setCell a0 v0).setCell a1 v1).setCell a2 v2) :=
  ((h.2.setCell (by omega) _).setCell (by omega) _).setCell (by omega) _

set_option maxHeartbeats 4000000 in
set_option maxRecDepth 100000 in
theorem tok_radix (s : ByteArray) (w : World) (hs : s.size ≤ 64) (kr nr er : Int) (okr : Bool) (hR : ∀ w, Calls Tryd.prog 38 #[.string s] w (RQ kr nr okr er w)) (hok : okr = true)  :
    Calls Tryd.prog 17 #[.string s] w (RQ kr nr true er w) := by
  have HR := Lib.hid hR
  have HT := Lib.hid (TokBlk.new w)
  have hsz : ¬ ((64 : Int) < (s.size : Int)) := by omega
  clear hR
  subst hok
  go_enter Tryd.func17, Tryd.ntmps17
  go_wp2_with fail
  refine (HR.out _).mono ?_
  rintro e w1 ⟨rfl, hb⟩
  have K := Lib.hid (Kept.first HT.out hb)
  clear hb HT
  obtain ⟨⟨c0, c1, c2⟩, f0, f1, f2⟩ := K.out.1.facts
  have hlt := K.out.1.lt
  go_wp2_with fail
  refine bodyPost_ret (v := .tuple #[.agg #[.int .i64 kr, .int .i64 nr, .string ⟨#[]⟩], .bool true, .int .i64 er]) (by simp [results, Tryd.results17, go_sem, c0, c1, c2, hlt]) rfl ⟨rfl, ?_⟩
  exact (K.out.done rfl rfl rfl).alloc (by simp only [setCell_size]; omega) _

set_option maxHeartbeats 4000000 in
set_option maxRecDepth 100000 in
theorem tok_whole (s : ByteArray) (w : World) (hs : s.size ≤ 64) (kr nr er : Int) (okr : Bool) (nw : Int) (okw : Bool) (hR : ∀ w, Calls Tryd.prog 38 #[.string s] w (RQ kr nr okr er w)) (hW : ∀ w, Calls Tryd.prog 39 #[.string s] w fun e w' => e = .returned (.tuple #[.int .i64 nw, .bool okw]) ∧ Below w.heap.size w w') (hokr : okr = false) (hokw : okw = true)  :
    Calls Tryd.prog 17 #[.string s] w (RQ 1 nw true 0 w) := by
  have HR := Lib.hid hR
  have HW := Lib.hid hW
  have HT := Lib.hid (TokBlk.new w)
  have hsz : ¬ ((64 : Int) < (s.size : Int)) := by omega
  clear hR hW
  subst hokr hokw
  go_enter Tryd.func17, Tryd.ntmps17
  go_wp2_with fail
  refine (HR.out _).mono ?_
  rintro e w1 ⟨rfl, hb⟩
  have K := Lib.hid (Kept.first HT.out hb)
  clear hb HT
  go_wp2_with fail
  refine (HW.out _).mono ?_
  rintro e w2 ⟨rfl, hb⟩
  replace K := Lib.hid (K.out.step (below_alloc0 hb))
  clear hb
  obtain ⟨⟨c0, c1, c2⟩, f0, f1, f2⟩ := K.out.1.facts
  have hlt := K.out.1.lt
  go_wp2_with fail
  refine bodyPost_ret (v := .tuple #[.agg #[.int .i64 1, .int .i64 nw, .string ⟨#[]⟩], .bool true, .int .i64 0]) (by simp [results, Tryd.results17, go_sem, c0, c1, c2]) rfl ⟨rfl, ?_⟩
  exact K.out.done rfl rfl rfl

set_option maxHeartbeats 4000000 in
set_option maxRecDepth 100000 in
theorem tok_badexp (s : ByteArray) (w : World) (hs : s.size ≤ 64) (kr nr er : Int) (okr : Bool) (nw : Int) (okw : Bool) (m : Bool) (r : ByteArray) (ix : Int) (q : ByteArray) (np : Int) (okp : Bool) (hR : ∀ w, Calls Tryd.prog 38 #[.string s] w (RQ kr nr okr er w)) (hW : ∀ w, Calls Tryd.prog 39 #[.string s] w fun e w' => e = .returned (.tuple #[.int .i64 nw, .bool okw]) ∧ Below w.heap.size w w') (hS : ∀ w, Calls Tryd.prog 32 #[.string s] w fun e w' => e = .returned (.tuple #[.bool m, .string r]) ∧ Below w.heap.size w w') (hI : ∀ w, Calls Tryd.prog 40 #[.string r, .string ⟨#[101, 69]⟩] w fun e w' => e = .returned (.int .i64 ix) ∧ Below w.heap.size w w') (hP : ∀ w, Calls Tryd.prog 41 #[.string q] w fun e w' => e = .returned (.tuple #[.int .i64 np, .bool okp]) ∧ Below w.heap.size w w') (hokr : okr = false) (hokw : okw = false) (i : Nat) (hix : ix = (i : Int)) (hil : i < r.size) (hrs : r.size ≤ 64) (hq : r.extract (i + 1) r.size = q) (hokp : okp = false)  :
    Calls Tryd.prog 17 #[.string s] w (RQ 0 0 false 0 w) := by
  have HR := Lib.hid hR
  have HW := Lib.hid hW
  have HS := Lib.hid hS
  have HI := Lib.hid hI
  have HP := Lib.hid hP
  have HT := Lib.hid (TokBlk.new w)
  have hsz : ¬ ((64 : Int) < (s.size : Int)) := by omega
  clear hR hW hS hI hP
  subst hokr hokw hix
  have d1 : (0 : Int) ≤ (i : Int) := by omega
  have d2 : (0 : Int) ≤ (i : Int) + 1 := by omega
  have d3 : (i : Int) + 1 ≤ (r.size : Int) := by omega
  have d4 : (i : Int) ≤ (r.size : Int) := by omega
  subst hokp
  go_enter Tryd.func17, Tryd.ntmps17
  go_wp2_with fail
  refine (HR.out _).mono ?_
  rintro e w1 ⟨rfl, hb⟩
  have K := Lib.hid (Kept.first HT.out hb)
  clear hb HT
  go_wp2_with fail
  refine (HW.out _).mono ?_
  rintro e w2 ⟨rfl, hb⟩
  replace K := Lib.hid (K.out.step (below_alloc0 hb))
  clear hb
  go_wp2_with fail
  refine (HS.out _).mono ?_
  rintro e w3 ⟨rfl, hb⟩
  replace K := Lib.hid (K.out.step hb)
  clear hb
  go_wp2_with fail
  refine (HI.out _).mono ?_
  rintro e w4 ⟨rfl, hb⟩
  replace K := Lib.hid (K.out.step hb)
  clear hb
  go_wp2_with fail
  refine (HP.out _).mono ?_
  rintro e w5 ⟨rfl, hb⟩
  replace K := Lib.hid (K.out.step hb)
  clear hb
  obtain ⟨⟨c0, c1, c2⟩, f0, f1, f2⟩ := K.out.1.facts
  have hlt := K.out.1.lt
  go_wp2_with fail
  refine bodyPost_ret (v := .tuple #[.agg #[.int .i64 0, .int .i64 0, .string ⟨#[]⟩], .bool false, .int .i64 0]) (by simp [results, Tryd.results17, go_sem, c0, c1, c2]) rfl ⟨rfl, ?_⟩
  exact K.out.done rfl rfl rfl

set_option maxHeartbeats 4000000 in
set_option maxRecDepth 100000 in
theorem tok_badmant_e (s : ByteArray) (w : World) (hs : s.size ≤ 64) (kr nr er : Int) (okr : Bool) (nw : Int) (okw : Bool) (m : Bool) (r : ByteArray) (ix : Int) (q : ByteArray) (np : Int) (okp : Bool) (r2 ma mb : ByteArray) (mp okm : Bool) (hR : ∀ w, Calls Tryd.prog 38 #[.string s] w (RQ kr nr okr er w)) (hW : ∀ w, Calls Tryd.prog 39 #[.string s] w fun e w' => e = .returned (.tuple #[.int .i64 nw, .bool okw]) ∧ Below w.heap.size w w') (hS : ∀ w, Calls Tryd.prog 32 #[.string s] w fun e w' => e = .returned (.tuple #[.bool m, .string r]) ∧ Below w.heap.size w w') (hI : ∀ w, Calls Tryd.prog 40 #[.string r, .string ⟨#[101, 69]⟩] w fun e w' => e = .returned (.int .i64 ix) ∧ Below w.heap.size w w') (hP : ∀ w, Calls Tryd.prog 41 #[.string q] w fun e w' => e = .returned (.tuple #[.int .i64 np, .bool okp]) ∧ Below w.heap.size w w') (hM : ∀ w, Calls Tryd.prog 33 #[.string r2] w fun e w' => e = .returned (.tuple #[.string ma, .string mb, .bool mp, .bool okm]) ∧ Below w.heap.size w w') (hokr : okr = false) (hokw : okw = false) (i : Nat) (hix : ix = (i : Int)) (hil : i < r.size) (hrs : r.size ≤ 64) (hq : r.extract (i + 1) r.size = q) (hokp : okp = true) (hr2 : r.extract 0 i = r2) (hokm : okm = false)  :
    Calls Tryd.prog 17 #[.string s] w (RQ 0 0 false 0 w) := by
  have HR := Lib.hid hR
  have HW := Lib.hid hW
  have HS := Lib.hid hS
  have HI := Lib.hid hI
  have HP := Lib.hid hP
  have HM := Lib.hid hM
  have HT := Lib.hid (TokBlk.new w)
  have hsz : ¬ ((64 : Int) < (s.size : Int)) := by omega
  clear hR hW hS hI hP hM
  subst hokr hokw hix
  have d1 : (0 : Int) ≤ (i : Int) := by omega
  have d2 : (0 : Int) ≤ (i : Int) + 1 := by omega
  have d3 : (i : Int) + 1 ≤ (r.size : Int) := by omega
  have d4 : (i : Int) ≤ (r.size : Int) := by omega
  subst hokp hokm
  go_enter Tryd.func17, Tryd.ntmps17
  go_wp2_with fail
  refine (HR.out _).mono ?_
  rintro e w1 ⟨rfl, hb⟩
  have K := Lib.hid (Kept.first HT.out hb)
  clear hb HT
  go_wp2_with fail
  refine (HW.out _).mono ?_
  rintro e w2 ⟨rfl, hb⟩
  replace K := Lib.hid (K.out.step (below_alloc0 hb))
  clear hb
  go_wp2_with fail
  refine (HS.out _).mono ?_
  rintro e w3 ⟨rfl, hb⟩
  replace K := Lib.hid (K.out.step hb)
  clear hb
  go_wp2_with fail
  refine (HI.out _).mono ?_
  rintro e w4 ⟨rfl, hb⟩
  replace K := Lib.hid (K.out.step hb)
  clear hb
  go_wp2_with fail
  refine (HP.out _).mono ?_
  rintro e w5 ⟨rfl, hb⟩
  replace K := Lib.hid (K.out.step hb)
  clear hb
  go_wp2_with fail
  refine (HM.out _).mono ?_
  rintro e w6 ⟨rfl, hb⟩
  replace K := Lib.hid (K.out.step hb)
  clear hb
  obtain ⟨⟨c0, c1, c2⟩, f0, f1, f2⟩ := K.out.1.facts
  have hlt := K.out.1.lt
  go_wp2_with fail
  refine bodyPost_ret (v := .tuple #[.agg #[.int .i64 0, .int .i64 0, .string ⟨#[]⟩], .bool false, .int .i64 0]) (by simp [results, Tryd.results17, go_sem, c0, c1, c2]) rfl ⟨rfl, ?_⟩
  exact K.out.done rfl rfl rfl

set_option maxHeartbeats 4000000 in
set_option maxRecDepth 100000 in
theorem tok_big_e (s : ByteArray) (w : World) (hs : s.size ≤ 64) (kr nr er : Int) (okr : Bool) (nw : Int) (okw : Bool) (m : Bool) (r : ByteArray) (ix : Int) (q : ByteArray) (np : Int) (okp : Bool) (r2 ma mb : ByteArray) (mp okm : Bool) (x y : ByteArray) (nv : Int) (okv : Bool) (hR : ∀ w, Calls Tryd.prog 38 #[.string s] w (RQ kr nr okr er w)) (hW : ∀ w, Calls Tryd.prog 39 #[.string s] w fun e w' => e = .returned (.tuple #[.int .i64 nw, .bool okw]) ∧ Below w.heap.size w w') (hS : ∀ w, Calls Tryd.prog 32 #[.string s] w fun e w' => e = .returned (.tuple #[.bool m, .string r]) ∧ Below w.heap.size w w') (hI : ∀ w, Calls Tryd.prog 40 #[.string r, .string ⟨#[101, 69]⟩] w fun e w' => e = .returned (.int .i64 ix) ∧ Below w.heap.size w w') (hP : ∀ w, Calls Tryd.prog 41 #[.string q] w fun e w' => e = .returned (.tuple #[.int .i64 np, .bool okp]) ∧ Below w.heap.size w w') (hM : ∀ w, Calls Tryd.prog 33 #[.string r2] w fun e w' => e = .returned (.tuple #[.string ma, .string mb, .bool mp, .bool okm]) ∧ Below w.heap.size w w') (hH : ∀ w, Calls Tryd.prog 42 #[.string ma, .string mb, .int .i64 np] w (ShQ x y w)) (hV : ∀ w, Calls Tryd.prog 34 #[.bool m, .string x, .string y] w fun e w' => e = .returned (.tuple #[.int .i64 nv, .bool okv]) ∧ Below w.heap.size w w') (hokr : okr = false) (hokw : okw = false) (i : Nat) (hix : ix = (i : Int)) (hil : i < r.size) (hrs : r.size ≤ 64) (hq : r.extract (i + 1) r.size = q) (hokp : okp = true) (hr2 : r.extract 0 i = r2) (hokm : okm = true) (hokv : okv = false)  :
    Calls Tryd.prog 17 #[.string s] w (RQ 0 0 true 9 w) := by
  have HR := Lib.hid hR
  have HW := Lib.hid hW
  have HS := Lib.hid hS
  have HI := Lib.hid hI
  have HP := Lib.hid hP
  have HM := Lib.hid hM
  have HH := Lib.hid hH
  have HV := Lib.hid hV
  have HT := Lib.hid (TokBlk.new w)
  have hsz : ¬ ((64 : Int) < (s.size : Int)) := by omega
  clear hR hW hS hI hP hM hH hV
  subst hokr hokw hix
  have d1 : (0 : Int) ≤ (i : Int) := by omega
  have d2 : (0 : Int) ≤ (i : Int) + 1 := by omega
  have d3 : (i : Int) + 1 ≤ (r.size : Int) := by omega
  have d4 : (i : Int) ≤ (r.size : Int) := by omega
  subst hokp hokm hokv
  go_enter Tryd.func17, Tryd.ntmps17
  go_wp2_with fail
  refine (HR.out _).mono ?_
  rintro e w1 ⟨rfl, hb⟩
  have K := Lib.hid (Kept.first HT.out hb)
  clear hb HT
  go_wp2_with fail
  refine (HW.out _).mono ?_
  rintro e w2 ⟨rfl, hb⟩
  replace K := Lib.hid (K.out.step (below_alloc0 hb))
  clear hb
  go_wp2_with fail
  refine (HS.out _).mono ?_
  rintro e w3 ⟨rfl, hb⟩
  replace K := Lib.hid (K.out.step hb)
  clear hb
  go_wp2_with fail
  refine (HI.out _).mono ?_
  rintro e w4 ⟨rfl, hb⟩
  replace K := Lib.hid (K.out.step hb)
  clear hb
  go_wp2_with fail
  refine (HP.out _).mono ?_
  rintro e w5 ⟨rfl, hb⟩
  replace K := Lib.hid (K.out.step hb)
  clear hb
  go_wp2_with fail
  refine (HM.out _).mono ?_
  rintro e w6 ⟨rfl, hb⟩
  replace K := Lib.hid (K.out.step hb)
  clear hb
  go_wp2_with fail
  refine (HH.out _).mono ?_
  rintro e w7 ⟨rfl, hb⟩
  replace K := Lib.hid (K.out.step hb)
  clear hb
  go_wp2_with fail
  refine (HV.out _).mono ?_
  rintro e w8 ⟨rfl, hb⟩
  replace K := Lib.hid (K.out.step hb)
  clear hb
  obtain ⟨⟨c0, c1, c2⟩, f0, f1, f2⟩ := K.out.1.facts
  have hlt := K.out.1.lt
  go_wp2_with fail
  refine bodyPost_ret (v := .tuple #[.agg #[.int .i64 0, .int .i64 0, .string ⟨#[]⟩], .bool true, .int .i64 9]) (by simp [results, Tryd.results17, go_sem, c0, c1, c2]) rfl ⟨rfl, ?_⟩
  exact K.out.done rfl rfl rfl

set_option maxHeartbeats 4000000 in
set_option maxRecDepth 100000 in
theorem tok_real_e (s : ByteArray) (w : World) (hs : s.size ≤ 64) (kr nr er : Int) (okr : Bool) (nw : Int) (okw : Bool) (m : Bool) (r : ByteArray) (ix : Int) (q : ByteArray) (np : Int) (okp : Bool) (r2 ma mb : ByteArray) (mp okm : Bool) (x y : ByteArray) (nv : Int) (okv : Bool) (hR : ∀ w, Calls Tryd.prog 38 #[.string s] w (RQ kr nr okr er w)) (hW : ∀ w, Calls Tryd.prog 39 #[.string s] w fun e w' => e = .returned (.tuple #[.int .i64 nw, .bool okw]) ∧ Below w.heap.size w w') (hS : ∀ w, Calls Tryd.prog 32 #[.string s] w fun e w' => e = .returned (.tuple #[.bool m, .string r]) ∧ Below w.heap.size w w') (hI : ∀ w, Calls Tryd.prog 40 #[.string r, .string ⟨#[101, 69]⟩] w fun e w' => e = .returned (.int .i64 ix) ∧ Below w.heap.size w w') (hP : ∀ w, Calls Tryd.prog 41 #[.string q] w fun e w' => e = .returned (.tuple #[.int .i64 np, .bool okp]) ∧ Below w.heap.size w w') (hM : ∀ w, Calls Tryd.prog 33 #[.string r2] w fun e w' => e = .returned (.tuple #[.string ma, .string mb, .bool mp, .bool okm]) ∧ Below w.heap.size w w') (hH : ∀ w, Calls Tryd.prog 42 #[.string ma, .string mb, .int .i64 np] w (ShQ x y w)) (hV : ∀ w, Calls Tryd.prog 34 #[.bool m, .string x, .string y] w fun e w' => e = .returned (.tuple #[.int .i64 nv, .bool okv]) ∧ Below w.heap.size w w') (hokr : okr = false) (hokw : okw = false) (i : Nat) (hix : ix = (i : Int)) (hil : i < r.size) (hrs : r.size ≤ 64) (hq : r.extract (i + 1) r.size = q) (hokp : okp = true) (hr2 : r.extract 0 i = r2) (hokm : okm = true) (hokv : okv = true)  :
    Calls Tryd.prog 17 #[.string s] w (RQ 2 nv true 0 w) := by
  have HR := Lib.hid hR
  have HW := Lib.hid hW
  have HS := Lib.hid hS
  have HI := Lib.hid hI
  have HP := Lib.hid hP
  have HM := Lib.hid hM
  have HH := Lib.hid hH
  have HV := Lib.hid hV
  have HT := Lib.hid (TokBlk.new w)
  have hsz : ¬ ((64 : Int) < (s.size : Int)) := by omega
  clear hR hW hS hI hP hM hH hV
  subst hokr hokw hix
  have d1 : (0 : Int) ≤ (i : Int) := by omega
  have d2 : (0 : Int) ≤ (i : Int) + 1 := by omega
  have d3 : (i : Int) + 1 ≤ (r.size : Int) := by omega
  have d4 : (i : Int) ≤ (r.size : Int) := by omega
  subst hokp hokm hokv
  go_enter Tryd.func17, Tryd.ntmps17
  go_wp2_with fail
  refine (HR.out _).mono ?_
  rintro e w1 ⟨rfl, hb⟩
  have K := Lib.hid (Kept.first HT.out hb)
  clear hb HT
  go_wp2_with fail
  refine (HW.out _).mono ?_
  rintro e w2 ⟨rfl, hb⟩
  replace K := Lib.hid (K.out.step (below_alloc0 hb))
  clear hb
  go_wp2_with fail
  refine (HS.out _).mono ?_
  rintro e w3 ⟨rfl, hb⟩
  replace K := Lib.hid (K.out.step hb)
  clear hb
  go_wp2_with fail
  refine (HI.out _).mono ?_
  rintro e w4 ⟨rfl, hb⟩
  replace K := Lib.hid (K.out.step hb)
  clear hb
  go_wp2_with fail
  refine (HP.out _).mono ?_
  rintro e w5 ⟨rfl, hb⟩
  replace K := Lib.hid (K.out.step hb)
  clear hb
  go_wp2_with fail
  refine (HM.out _).mono ?_
  rintro e w6 ⟨rfl, hb⟩
  replace K := Lib.hid (K.out.step hb)
  clear hb
  go_wp2_with fail
  refine (HH.out _).mono ?_
  rintro e w7 ⟨rfl, hb⟩
  replace K := Lib.hid (K.out.step hb)
  clear hb
  go_wp2_with fail
  refine (HV.out _).mono ?_
  rintro e w8 ⟨rfl, hb⟩
  replace K := Lib.hid (K.out.step hb)
  clear hb
  obtain ⟨⟨c0, c1, c2⟩, f0, f1, f2⟩ := K.out.1.facts
  have hlt := K.out.1.lt
  go_wp2_with fail
  refine bodyPost_ret (v := .tuple #[.agg #[.int .i64 2, .int .i64 nv, .string ⟨#[]⟩], .bool true, .int .i64 0]) (by simp [results, Tryd.results17, go_sem, c0, c1, c2]) rfl ⟨rfl, ?_⟩
  exact K.out.done rfl rfl rfl

set_option maxHeartbeats 4000000 in
set_option maxRecDepth 100000 in
theorem tok_badmant (s : ByteArray) (w : World) (hs : s.size ≤ 64) (kr nr er : Int) (okr : Bool) (nw : Int) (okw : Bool) (m : Bool) (r : ByteArray) (ix : Int) (r2 ma mb : ByteArray) (mp okm : Bool) (hR : ∀ w, Calls Tryd.prog 38 #[.string s] w (RQ kr nr okr er w)) (hW : ∀ w, Calls Tryd.prog 39 #[.string s] w fun e w' => e = .returned (.tuple #[.int .i64 nw, .bool okw]) ∧ Below w.heap.size w w') (hS : ∀ w, Calls Tryd.prog 32 #[.string s] w fun e w' => e = .returned (.tuple #[.bool m, .string r]) ∧ Below w.heap.size w w') (hI : ∀ w, Calls Tryd.prog 40 #[.string r, .string ⟨#[101, 69]⟩] w fun e w' => e = .returned (.int .i64 ix) ∧ Below w.heap.size w w') (hM : ∀ w, Calls Tryd.prog 33 #[.string r2] w fun e w' => e = .returned (.tuple #[.string ma, .string mb, .bool mp, .bool okm]) ∧ Below w.heap.size w w') (hokr : okr = false) (hokw : okw = false) (hix : ix < 0) (hokm : okm = false) (hr2 : r = r2)  :
    Calls Tryd.prog 17 #[.string s] w (RQ 0 0 false 0 w) := by
  have HR := Lib.hid hR
  have HW := Lib.hid hW
  have HS := Lib.hid hS
  have HI := Lib.hid hI
  have HM := Lib.hid hM
  have HT := Lib.hid (TokBlk.new w)
  have hsz : ¬ ((64 : Int) < (s.size : Int)) := by omega
  clear hR hW hS hI hM
  subst hokr hokw
  have d1 : ¬ ((0 : Int) ≤ ix) := by omega
  subst hokm hr2
  go_enter Tryd.func17, Tryd.ntmps17
  go_wp2_with fail
  refine (HR.out _).mono ?_
  rintro e w1 ⟨rfl, hb⟩
  have K := Lib.hid (Kept.first HT.out hb)
  clear hb HT
  go_wp2_with fail
  refine (HW.out _).mono ?_
  rintro e w2 ⟨rfl, hb⟩
  replace K := Lib.hid (K.out.step (below_alloc0 hb))
  clear hb
  go_wp2_with fail
  refine (HS.out _).mono ?_
  rintro e w3 ⟨rfl, hb⟩
  replace K := Lib.hid (K.out.step hb)
  clear hb
  go_wp2_with fail
  refine (HI.out _).mono ?_
  rintro e w4 ⟨rfl, hb⟩
  replace K := Lib.hid (K.out.step hb)
  clear hb
  go_wp2_with fail
  refine (HM.out _).mono ?_
  rintro e w5 ⟨rfl, hb⟩
  replace K := Lib.hid (K.out.step hb)
  clear hb
  obtain ⟨⟨c0, c1, c2⟩, f0, f1, f2⟩ := K.out.1.facts
  have hlt := K.out.1.lt
  go_wp2_with fail
  refine bodyPost_ret (v := .tuple #[.agg #[.int .i64 0, .int .i64 0, .string ⟨#[]⟩], .bool false, .int .i64 0]) (by simp [results, Tryd.results17, go_sem, c0, c1, c2]) rfl ⟨rfl, ?_⟩
  exact K.out.done rfl rfl rfl

set_option maxHeartbeats 4000000 in
set_option maxRecDepth 100000 in
theorem tok_big (s : ByteArray) (w : World) (hs : s.size ≤ 64) (kr nr er : Int) (okr : Bool) (nw : Int) (okw : Bool) (m : Bool) (r : ByteArray) (ix : Int) (r2 ma mb : ByteArray) (mp okm : Bool) (x y : ByteArray) (nv : Int) (okv : Bool) (hR : ∀ w, Calls Tryd.prog 38 #[.string s] w (RQ kr nr okr er w)) (hW : ∀ w, Calls Tryd.prog 39 #[.string s] w fun e w' => e = .returned (.tuple #[.int .i64 nw, .bool okw]) ∧ Below w.heap.size w w') (hS : ∀ w, Calls Tryd.prog 32 #[.string s] w fun e w' => e = .returned (.tuple #[.bool m, .string r]) ∧ Below w.heap.size w w') (hI : ∀ w, Calls Tryd.prog 40 #[.string r, .string ⟨#[101, 69]⟩] w fun e w' => e = .returned (.int .i64 ix) ∧ Below w.heap.size w w') (hM : ∀ w, Calls Tryd.prog 33 #[.string r2] w fun e w' => e = .returned (.tuple #[.string ma, .string mb, .bool mp, .bool okm]) ∧ Below w.heap.size w w') (hH : ∀ w, Calls Tryd.prog 42 #[.string ma, .string mb, .int .i64 0] w (ShQ x y w)) (hV : ∀ w, Calls Tryd.prog 34 #[.bool m, .string x, .string y] w fun e w' => e = .returned (.tuple #[.int .i64 nv, .bool okv]) ∧ Below w.heap.size w w') (hokr : okr = false) (hokw : okw = false) (hix : ix < 0) (hokm : okm = true) (hokv : okv = false) (hr2 : r = r2)  :
    Calls Tryd.prog 17 #[.string s] w (RQ 0 0 true 9 w) := by
  have HR := Lib.hid hR
  have HW := Lib.hid hW
  have HS := Lib.hid hS
  have HI := Lib.hid hI
  have HM := Lib.hid hM
  have HH := Lib.hid hH
  have HV := Lib.hid hV
  have HT := Lib.hid (TokBlk.new w)
  have hsz : ¬ ((64 : Int) < (s.size : Int)) := by omega
  clear hR hW hS hI hM hH hV
  subst hokr hokw
  have d1 : ¬ ((0 : Int) ≤ ix) := by omega
  subst hokm hokv hr2
  go_enter Tryd.func17, Tryd.ntmps17
  go_wp2_with fail
  refine (HR.out _).mono ?_
  rintro e w1 ⟨rfl, hb⟩
  have K := Lib.hid (Kept.first HT.out hb)
  clear hb HT
  go_wp2_with fail
  refine (HW.out _).mono ?_
  rintro e w2 ⟨rfl, hb⟩
  replace K := Lib.hid (K.out.step (below_alloc0 hb))
  clear hb
  go_wp2_with fail
  refine (HS.out _).mono ?_
  rintro e w3 ⟨rfl, hb⟩
  replace K := Lib.hid (K.out.step hb)
  clear hb
  go_wp2_with fail
  refine (HI.out _).mono ?_
  rintro e w4 ⟨rfl, hb⟩
  replace K := Lib.hid (K.out.step hb)
  clear hb
  go_wp2_with fail
  refine (HM.out _).mono ?_
  rintro e w5 ⟨rfl, hb⟩
  replace K := Lib.hid (K.out.step hb)
  clear hb
  go_wp2_with fail
  refine (HH.out _).mono ?_
  rintro e w6 ⟨rfl, hb⟩
  replace K := Lib.hid (K.out.step hb)
  clear hb
  go_wp2_with fail
  refine (HV.out _).mono ?_
  rintro e w7 ⟨rfl, hb⟩
  replace K := Lib.hid (K.out.step hb)
  clear hb
  obtain ⟨⟨c0, c1, c2⟩, f0, f1, f2⟩ := K.out.1.facts
  have hlt := K.out.1.lt
  go_wp2_with fail
  refine bodyPost_ret (v := .tuple #[.agg #[.int .i64 0, .int .i64 0, .string ⟨#[]⟩], .bool true, .int .i64 9]) (by simp [results, Tryd.results17, go_sem, c0, c1, c2]) rfl ⟨rfl, ?_⟩
  exact K.out.done rfl rfl rfl

set_option maxHeartbeats 4000000 in
set_option maxRecDepth 100000 in
theorem tok_real (s : ByteArray) (w : World) (hs : s.size ≤ 64) (kr nr er : Int) (okr : Bool) (nw : Int) (okw : Bool) (m : Bool) (r : ByteArray) (ix : Int) (r2 ma mb : ByteArray) (mp okm : Bool) (x y : ByteArray) (nv : Int) (okv : Bool) (hR : ∀ w, Calls Tryd.prog 38 #[.string s] w (RQ kr nr okr er w)) (hW : ∀ w, Calls Tryd.prog 39 #[.string s] w fun e w' => e = .returned (.tuple #[.int .i64 nw, .bool okw]) ∧ Below w.heap.size w w') (hS : ∀ w, Calls Tryd.prog 32 #[.string s] w fun e w' => e = .returned (.tuple #[.bool m, .string r]) ∧ Below w.heap.size w w') (hI : ∀ w, Calls Tryd.prog 40 #[.string r, .string ⟨#[101, 69]⟩] w fun e w' => e = .returned (.int .i64 ix) ∧ Below w.heap.size w w') (hM : ∀ w, Calls Tryd.prog 33 #[.string r2] w fun e w' => e = .returned (.tuple #[.string ma, .string mb, .bool mp, .bool okm]) ∧ Below w.heap.size w w') (hH : ∀ w, Calls Tryd.prog 42 #[.string ma, .string mb, .int .i64 0] w (ShQ x y w)) (hV : ∀ w, Calls Tryd.prog 34 #[.bool m, .string x, .string y] w fun e w' => e = .returned (.tuple #[.int .i64 nv, .bool okv]) ∧ Below w.heap.size w w') (hokr : okr = false) (hokw : okw = false) (hix : ix < 0) (hokm : okm = true) (hokv : okv = true) (hr2 : r = r2)  :
    Calls Tryd.prog 17 #[.string s] w (RQ 2 nv true 0 w) := by
  have HR := Lib.hid hR
  have HW := Lib.hid hW
  have HS := Lib.hid hS
  have HI := Lib.hid hI
  have HM := Lib.hid hM
  have HH := Lib.hid hH
  have HV := Lib.hid hV
  have HT := Lib.hid (TokBlk.new w)
  have hsz : ¬ ((64 : Int) < (s.size : Int)) := by omega
  clear hR hW hS hI hM hH hV
  subst hokr hokw
  have d1 : ¬ ((0 : Int) ≤ ix) := by omega
  subst hokm hokv hr2
  go_enter Tryd.func17, Tryd.ntmps17
  go_wp2_with fail
  refine (HR.out _).mono ?_
  rintro e w1 ⟨rfl, hb⟩
  have K := Lib.hid (Kept.first HT.out hb)
  clear hb HT
  go_wp2_with fail
  refine (HW.out _).mono ?_
  rintro e w2 ⟨rfl, hb⟩
  replace K := Lib.hid (K.out.step (below_alloc0 hb))
  clear hb
  go_wp2_with fail
  refine (HS.out _).mono ?_
  rintro e w3 ⟨rfl, hb⟩
  replace K := Lib.hid (K.out.step hb)
  clear hb
  go_wp2_with fail
  refine (HI.out _).mono ?_
  rintro e w4 ⟨rfl, hb⟩
  replace K := Lib.hid (K.out.step hb)
  clear hb
  go_wp2_with fail
  refine (HM.out _).mono ?_
  rintro e w5 ⟨rfl, hb⟩
  replace K := Lib.hid (K.out.step hb)
  clear hb
  go_wp2_with fail
  refine (HH.out _).mono ?_
  rintro e w6 ⟨rfl, hb⟩
  replace K := Lib.hid (K.out.step hb)
  clear hb
  go_wp2_with fail
  refine (HV.out _).mono ?_
  rintro e w7 ⟨rfl, hb⟩
  replace K := Lib.hid (K.out.step hb)
  clear hb
  obtain ⟨⟨c0, c1, c2⟩, f0, f1, f2⟩ := K.out.1.facts
  have hlt := K.out.1.lt
  go_wp2_with fail
  refine bodyPost_ret (v := .tuple #[.agg #[.int .i64 2, .int .i64 nv, .string ⟨#[]⟩], .bool true, .int .i64 0]) (by simp [results, Tryd.results17, go_sem, c0, c1, c2]) rfl ⟨rfl, ?_⟩
  exact K.out.done rfl rfl rfl

set_option maxHeartbeats 4000000 in
set_option maxRecDepth 100000 in
theorem tok_long (s : ByteArray) (w : World) (hs : 64 < s.size) :
    Calls Tryd.prog 17 #[.string s] w (RQ 0 0 false 0 w) := by
  have hT := TokBlk.new w
  have hlt := hT.lt
  obtain ⟨⟨c0, c1, c2⟩, f0, f1, f2⟩ := hT.facts
  have hsz : (64 : Int) < (s.size : Int) := by omega
  clear hT
  go_enter Tryd.func17, Tryd.ntmps17
  go_wp2_with fail
  refine bodyPost_ret (v := .tuple #[.agg #[.int .i64 0, .int .i64 0, .string ⟨#[]⟩], .bool false, .int .i64 0]) (by simp [results, Tryd.results17, go_sem, c0, c1, c2]) rfl ⟨rfl, ?_⟩
  exact (Below.refl _ _).alloc (Nat.le_refl _) _

end Go.Proofs.YtiocgpfnbmlfaaaDoor.QD

/-! ## GO -/
namespace Go.Proofs.YtiocgpfnbmlfaaaDoor.QD
open Go Go.RowKit Go.Proofs.YtiocgpfnbmlfaaaDoor Go.Proofs.YtiocgpfnbmlfaaaDoorW.PrintWords

/-- ahead of an e, what it raises by, is that well formed -/
def expL (r : List UInt8) : List UInt8 × Int × Bool :=
  if Lib.indexAny r [101, 69] < 0 then (r, 0, true)
  else (r.take (Lib.indexAny r [101, 69]).toNat, (powL (r.drop ((Lib.indexAny r [101, 69]).toNat + 1))).1, (powL (r.drop ((Lib.indexAny r [101, 69]).toNat + 1))).2)
/-- the mantissa's answer -/
def realL (m : Bool) (r : List UInt8) (k : Int) : Int × Int × Bool × Int :=
  if (mantL r).2.2.2 = true then
    (if (valueL m (shiftL (mantL r).1 (mantL r).2.1 k).1 (shiftL (mantL r).1 (mantL r).2.1 k).2).2 = true then (2, (valueL m (shiftL (mantL r).1 (mantL r).2.1 k).1 (shiftL (mantL r).1 (mantL r).2.1 k).2).1, true, 0) else (0, 0, true, 9))
  else (0, 0, false, 0)
/-- kind, number, is it one, error -/
def tokL (l : List UInt8) : Int × Int × Bool × Int :=
  if 64 < l.length then (0, 0, false, 0)
  else if (radixL l).2.2.1 = true then ((radixL l).1, (radixL l).2.1, true, (radixL l).2.2.2)
  else if (wholeL l).2 = true then (1, (wholeL l).1, true, 0)
  else if (expL (sgnL l).2).2.2 = true then realL (sgnL l).1 (expL (sgnL l).2).1 (expL (sgnL l).2).2.1
  else (0, 0, false, 0)

theorem indexAny_lt (chars : List UInt8) : ∀ l : List UInt8, Lib.indexAny l chars < l.length
  | [] => by show (-1 : Int) < 0; omega
  | b :: l => by
    have ih := indexAny_lt chars l
    have hg := Lib.indexAny_ge chars l
    simp only [List.length_cons]
    unfold Lib.indexAny
    split
    · omega
    · split
      · omega
      · omega

theorem powL_bound (l : List UInt8) : -1000 < (powL l).1 ∧ (powL l).1 < 1000 := by
  unfold powL
  split
  · simp
  · rename_i h
    have h3 : (sgnL l).2.length ≤ 3 := by
      rcases Nat.lt_or_ge 3 (sgnL l).2.length with hh | hh
      · exact absurd (by simp [hh]) h
      · exact hh
    have hd : (sgnL l).2.all isDig = true := by
      cases hh : (sgnL l).2.all isDig with
      | true => rfl
      | false => exact absurd (by simp [hh]) h
    have hv := valD_lt10 _ hd
    have hp : 10 ^ (sgnL l).2.length ≤ 10 ^ 3 := Nat.pow_le_pow_right (by omega) h3
    simp only
    split <;> omega

theorem mant_all (l : List UInt8) (h : (mantL l).2.2.2 = true) : (mantL l).1.all isDig = true ∧ (mantL l).2.1.all isDig = true := by
  unfold mantL at *
  simp only [Bool.and_eq_true] at h
  exact h.1
theorem mant_len (l : List UInt8) : (mantL l).1.length ≤ l.length ∧ (mantL l).2.1.length ≤ l.length := cut1_len 46 l

theorem mantR_f (l : List UInt8) (hs : l.length ≤ 1000000) : PR.dec_mantissa.f (S l) = some (S (mantL l).1, S (mantL l).2.1, (mantL l).2.2.1, (mantL l).2.2.2) := by
  have hc := cut1_len 46 l
  have h0 : strings_Cut.f (S l) ⟨#[46]⟩ = some (S (cut1 46 l).1, S (cut1 46 l).2.1, (cut1 46 l).2.2) := by
    unfold strings_Cut.f
    rw [if_pos ⟨by decide, by rw [S_size]; omega⟩, S_data]
    rfl
  unfold PR.dec_mantissa.f mantL
  rw [h0]
  simp only [Option.bind_some]
  rw [plain_f _ (by rw [S_size]; omega), plain_f _ (by rw [S_size]; omega)]
  simp only [Option.bind_some, S_data, S_size]
  rw [show wrap64 (((cut1 46 l).1.length : Int) + ((cut1 46 l).2.1.length : Int)) = ((cut1 46 l).1.length : Int) + ((cut1 46 l).2.1.length : Int) from w64 _ (by omega) (by omega)]
  cases (cut1 46 l).1.all isDig <;> cases (cut1 46 l).2.1.all isDig <;> simp
  omega

theorem shift_len (a b : List UInt8) (k : Int) : (shiftL a b k).2.length ≤ k.natAbs + a.length + b.length := by
  unfold shiftL
  have := bOf_len (a ++ b) ((a.length : Int) + k)
  rw [List.length_append] at this
  simp only
  omega

theorem tok_any (l : List UInt8) (w : World) : Calls Tryd.prog 17 #[.string (S l)] w (RQ (tokL l).1 (tokL l).2.1 (tokL l).2.2.1 (tokL l).2.2.2 w) := by
  by_cases hlong : 64 < l.length
  · rw [show tokL l = (0, 0, false, 0) from by unfold tokL; rw [if_pos hlong]]
    exact tok_long (S l) w (by rw [S_size]; exact hlong)
  have hs : (S l).size ≤ 64 := by rw [S_size]; omega
  have hR : ∀ w, Calls Tryd.prog 38 #[.string (S l)] w (RQ (radixL l).1 (radixL l).2.1 (radixL l).2.2.1 (radixL l).2.2.2 w) := fun w => radix_any (S l) w (by omega) _ _ _ _ (by rw [S_data])
  have hW : ∀ w, Calls Tryd.prog 39 #[.string (S l)] w fun e w' => e = .returned (.tuple #[.int .i64 (wholeL l).1, .bool (wholeL l).2]) ∧ Below w.heap.size w w' := fun w =>
    dec_whole.calls (S l) _ _ w (by unfold dec_whole.f; rw [if_pos (by omega), S_data])
  have hS : ∀ w, Calls Tryd.prog 32 #[.string (S l)] w fun e w' => e = .returned (.tuple #[.bool (sgnL l).1, .string (S (sgnL l).2)]) ∧ Below w.heap.size w w' := fun w => by
    have := signed_any (S l) w
    rw [S_data] at this
    exact this
  have hrl := sgnL_len l
  have htok : tokL l = if (radixL l).2.2.1 = true then ((radixL l).1, (radixL l).2.1, true, (radixL l).2.2.2)
      else if (wholeL l).2 = true then (1, (wholeL l).1, true, 0)
      else if (expL (sgnL l).2).2.2 = true then realL (sgnL l).1 (expL (sgnL l).2).1 (expL (sgnL l).2).2.1 else (0, 0, false, 0) := by
    unfold tokL; rw [if_neg hlong]
  rw [htok]
  generalize (radixL l).1 = kr at *
  generalize (radixL l).2.1 = nr at *
  generalize (radixL l).2.2.2 = er at *
  cases hokr : (radixL l).2.2.1 with
  | true =>
    rw [hokr] at hR
    exact tok_radix (S l) w hs kr nr er true hR rfl
  | false =>
  rw [hokr] at hR
  rw [if_neg Bool.false_ne_true]
  generalize (wholeL l).1 = nw at *
  cases hokw : (wholeL l).2 with
  | true =>
    rw [hokw] at hW
    exact tok_whole (S l) w hs kr nr er false nw true hR hW rfl rfl
  | false =>
  rw [hokw] at hW
  rw [if_neg Bool.false_ne_true]
  generalize (sgnL l).1 = m at *
  generalize (sgnL l).2 = r at *
  have hI : ∀ w, Calls Tryd.prog 40 #[.string (S r), .string ⟨#[101, 69]⟩] w fun e w' => e = .returned (.int .i64 (Lib.indexAny r [101, 69])) ∧ Below w.heap.size w w' := fun w =>
    strings_IndexAny.calls (S r) _ _ w (by unfold strings_IndexAny.f; rw [if_pos ⟨rfl, by rw [S_size]; omega⟩, S_data])
  have hilt := indexAny_lt [101, 69] r
  have hige := Lib.indexAny_ge [101, 69] r
  have hM : ∀ (r2 : List UInt8), r2.length ≤ 64 → ∀ w, Calls Tryd.prog 33 #[.string (S r2)] w fun e w' => e = .returned (.tuple #[.string (S (mantL r2).1), .string (S (mantL r2).2.1), .bool (mantL r2).2.2.1, .bool (mantL r2).2.2.2]) ∧ Below w.heap.size w w' := fun r2 h2 w =>
    PR.dec_mantissa.calls (S r2) _ _ _ _ w (mantR_f r2 (by omega))
  have hV : ∀ (r2 : List UInt8) (k : Int), r2.length ≤ 64 → -1000 < k → k < 1000 → (mantL r2).2.2.2 = true → ∀ w, Calls Tryd.prog 34 #[.bool m, .string (S (shiftL (mantL r2).1 (mantL r2).2.1 k).1), .string (S (shiftL (mantL r2).1 (mantL r2).2.1 k).2)] w fun e w' =>
      e = .returned (.tuple #[.int .i64 (valueL m (shiftL (mantL r2).1 (mantL r2).2.1 k).1 (shiftL (mantL r2).1 (mantL r2).2.1 k).2).1, .bool (valueL m (shiftL (mantL r2).1 (mantL r2).2.1 k).1 (shiftL (mantL r2).1 (mantL r2).2.1 k).2).2]) ∧ Below w.heap.size w w' := fun r2 k h2 hk1 hk2 hok w => by
    obtain ⟨h3, h4⟩ := mant_all r2 hok
    obtain ⟨h5, h6⟩ := mant_len r2
    have h7 := shift_len (mantL r2).1 (mantL r2).2.1 k
    have hD : ((mantL r2).1 ++ (mantL r2).2.1).all isDig = true := by rw [List.all_append, h3, h4]; rfl
    refine dec_value.calls m _ _ _ _ w ?_
    unfold dec_value.f
    rw [S_data, S_data, if_pos ⟨aOf_all _ _ hD, bOf_all _ _ hD, by rw [S_size]; omega⟩]
  have hH : ∀ (r2 : List UInt8) (k : Int), r2.length ≤ 64 → -1000 < k → k < 1000 → ∀ w, Calls Tryd.prog 42 #[.string (S (mantL r2).1), .string (S (mantL r2).2.1), .int .i64 k] w (ShQ (S (shiftL (mantL r2).1 (mantL r2).2.1 k).1) (S (shiftL (mantL r2).1 (mantL r2).2.1 k).2) w) := fun r2 k h2 hk1 hk2 w => by
    obtain ⟨h5, h6⟩ := mant_len r2
    exact shift_any _ _ k w (by omega) (by omega) (by omega) (by omega)
  unfold expL
  generalize hix : Lib.indexAny r [101, 69] = ix at *
  by_cases hneg : ix < 0
  · rw [if_pos hneg, if_pos rfl]
    have hrr : r.length ≤ 64 := by omega
    have hMr := hM r hrr
    have hHr := hH r 0 hrr (by omega) (by omega)
    have hVr := hV r 0 hrr (by omega) (by omega)
    unfold realL
    cases hokm : (mantL r).2.2.2 with
    | false =>
      rw [hokm] at hMr
      exact tok_badmant (S l) w hs kr nr er false nw false m (S r) ix (S r) _ _ _ false hR hW hS hI hMr rfl rfl hneg rfl rfl
    | true =>
      rw [hokm] at hMr
      have hVr := hVr hokm
      rw [if_pos rfl]
      generalize valueL m (shiftL (mantL r).1 (mantL r).2.1 0).1 (shiftL (mantL r).1 (mantL r).2.1 0).2 = v at *
      obtain ⟨nv, okv⟩ := v
      cases okv with
      | false => exact tok_big (S l) w hs kr nr er false nw false m (S r) ix (S r) _ _ _ true _ _ nv false hR hW hS hI hMr hHr hVr rfl rfl hneg rfl rfl rfl
      | true => exact tok_real (S l) w hs kr nr er false nw false m (S r) ix (S r) _ _ _ true _ _ nv true hR hW hS hI hMr hHr hVr rfl rfl hneg rfl rfl rfl
  · rw [if_neg hneg]
    obtain ⟨i, hi⟩ : ∃ i : Nat, ix = (i : Int) := ⟨ix.toNat, by omega⟩
    have hi' : ix.toNat = i := by omega
    rw [hi']
    have hq : (S r).extract (i + 1) (S r).size = S (r.drop (i + 1)) := S_from r (i + 1)
    have hr2 : (S r).extract 0 i = S (r.take i) := S_to r i
    have hil : i < (S r).size := by rw [S_size]; omega
    have hrs : (S r).size ≤ 64 := by rw [S_size]; omega
    have hP : ∀ w, Calls Tryd.prog 41 #[.string (S (r.drop (i + 1)))] w fun e w' => e = .returned (.tuple #[.int .i64 (powL (r.drop (i + 1))).1, .bool (powL (r.drop (i + 1))).2]) ∧ Below w.heap.size w w' := fun w =>
      dec_power.calls (S (r.drop (i + 1))) _ _ w (by unfold dec_power.f; rw [if_pos (by rw [S_size, List.length_drop]; omega), S_data])
    obtain ⟨hk1, hk2⟩ := powL_bound (r.drop (i + 1))
    have hrr : (r.take i).length ≤ 64 := by rw [List.length_take]; omega
    have hMr := hM (r.take i) hrr
    generalize (powL (r.drop (i + 1))).1 = np at *
    have hHr := hH (r.take i) np hrr hk1 hk2
    have hVr := hV (r.take i) np hrr hk1 hk2
    cases hokp : (powL (r.drop (i + 1))).2 with
    | false =>
      rw [hokp] at hP
      exact tok_badexp (S l) w hs kr nr er false nw false m (S r) ix (S (r.drop (i + 1))) np false hR hW hS hI hP rfl rfl i hi hil hrs hq rfl
    | true =>
      rw [hokp] at hP
      rw [if_pos rfl]
      unfold realL
      cases hokm : (mantL (r.take i)).2.2.2 with
      | false =>
        rw [hokm] at hMr
        exact tok_badmant_e (S l) w hs kr nr er false nw false m (S r) ix (S (r.drop (i + 1))) np true (S (r.take i)) _ _ _ false hR hW hS hI hP hMr rfl rfl i hi hil hrs hq rfl hr2 rfl
      | true =>
        rw [hokm] at hMr
        have hVr := hVr hokm
        rw [if_pos rfl]
        generalize valueL m (shiftL (mantL (r.take i)).1 (mantL (r.take i)).2.1 np).1 (shiftL (mantL (r.take i)).1 (mantL (r.take i)).2.1 np).2 = v at *
        obtain ⟨nv, okv⟩ := v
        cases okv with
        | false => exact tok_big_e (S l) w hs kr nr er false nw false m (S r) ix (S (r.drop (i + 1))) np true (S (r.take i)) _ _ _ true _ _ nv false hR hW hS hI hP hMr hHr hVr rfl rfl i hi hil hrs hq rfl hr2 rfl rfl
        | true => exact tok_real_e (S l) w hs kr nr er false nw false m (S r) ix (S (r.drop (i + 1))) np true (S (r.take i)) _ _ _ true _ _ nv true hR hW hS hI hP hMr hHr hVr rfl rfl i hi hil hrs hq rfl hr2 rfl rfl

end Go.Proofs.YtiocgpfnbmlfaaaDoor.QD
namespace Go.Proofs.YtiocgpfnbmlfaaaDoor
open Go Go.RowKit Go.Proofs.YtiocgpfnbmlfaaaDoorW.PrintWords

def dec_Token.f (a0 : ByteArray) : Option (Int × Int × ByteArray × Bool × Int) :=
  some ((QD.tokL a0.data.toList).1, (QD.tokL a0.data.toList).2.1, ⟨#[]⟩, (QD.tokL a0.data.toList).2.2.1, (QD.tokL a0.data.toList).2.2.2)
theorem dec_Token.calls (a0 : ByteArray) (r1 r2 : Int) (r3 : ByteArray) (r4 : Bool) (r5 : Int) (w : World) (h : dec_Token.f a0 = some (r1, r2, r3, r4, r5)) :
    Calls Tryd.prog 17 #[.string a0] w fun e w' => e = .returned (.tuple #[.agg #[.int .i64 r1, .int .i64 r2, .string r3], .bool r4, .int .i64 r5]) ∧ Below w.heap.size w w' := by
  unfold dec_Token.f at h
  simp only [Option.some.injEq, Prod.mk.injEq] at h
  obtain ⟨rfl, rfl, rfl, rfl, rfl⟩ := h
  have := QD.tok_any a0.data.toList w
  rw [← QD.S_of] at this
  exact this

end Go.Proofs.YtiocgpfnbmlfaaaDoor

/-! ## PS1x0 -/
namespace Go.Proofs.YtiocgpfnbmlfaaaDoor.PS1
open Go.RowKit Go.Proofs.YtiocgpfnbmlfaaaDoorW.PrintWords Go.Proofs.YtiocgpfnbmlfaaaDoorW.PrintLast Go.Proofs.YtiocgpfnbmlfaaaDoorW.PrintMore
attribute [local go_sem] max2_int min2_int max_two min_two max_three min_three max_four min_four   -- for this text's walks alone
set_option linter.unusedVariables false
set_option linter.unusedSimpArgs false



def errW : Option Int → Value
  | none => .nilIface
  | some c => .iface 0 (.int .i64 c)
theorem errW_none : errW none = .nilIface := rfl
theorem errW_some (c : Int) : errW (some c) = .iface 0 (.int .i64 c) := rfl

-- the values' own types

end Go.Proofs.YtiocgpfnbmlfaaaDoor.PS1

/-! ## PS1x1 -/
namespace Go.Proofs.YtiocgpfnbmlfaaaDoor.PS1
open Go.RowKit Go.Proofs.YtiocgpfnbmlfaaaDoorW.PrintWords Go.Proofs.YtiocgpfnbmlfaaaDoorW.PrintLast Go.Proofs.YtiocgpfnbmlfaaaDoorW.PrintMore
attribute [local go_sem] max2_int min2_int max_two min_two max_three min_three max_four min_four   -- for this text's walks alone
set_option linter.unusedVariables false
set_option linter.unusedSimpArgs false

/-- A state of type 71 at block g of W; what its slices lead to came in by w0. -/
def IsS71 (w0 W : World) (g : Nat) (f0 : List Int) (f1 : Int) : Prop := ∃ A0 c0, W.heap[g]? = some (.cells #[.slice A0 f0.length c0, .int .i64 f1] 71 (0, 0)) ∧ w0.heap.size ≤ g ∧ Kd.C (Kd.int .u8) w0 A0 f0.length f0
theorem IsS71.grown {w0 W : World} {g : Nat} {f0 : List Int} {f1 : Int} {W1 : World} {row : Option Nat} (h : IsS71 w0 W g f0 f1) (hw : W.grownBy W1 row) (hne : some g ≠ row) : IsS71 w0 W1 g f0 f1 := by
  obtain ⟨A0, c0, hb, hg, hr0⟩ := h
  exact ⟨A0, c0, blk_grown hb hw hne, hg, hr0⟩
theorem IsS71.own_neN {w0 W : World} {g : Nat} {f0 : List Int} {f1 : Int} {α : Type} {d : Kd α} {e : Nat} {base : Nat} {ok : Nat → Prop} {v : Value} {xs : List α} (h : IsS71 w0 W g f0 f1) (ho : Kd.N d e W base ok v xs) (ht : e ≠ 71) : some g ≠ v.ownBlock := by
  obtain ⟨A0, c0, hb, hg, hr0⟩ := h
  exact Kd.N_ne ho hb ht
theorem IsS71.fresh {w0 W : World} {g : Nat} {f0 : List Int} {f1 : Int} (h : IsS71 w0 W g f0 f1) : ∀ k, W.heap.size ≤ k → k ≠ g := by
  obtain ⟨A0, c0, hb, hg, hr0⟩ := h
  exact Kd.freshB hb
theorem IsS71.kept {w0 W : World} {g : Nat} {f0 : List Int} {f1 : Int} {W1 : World} {S : Nat → Prop} (h : IsS71 w0 W g f0 f1) (hk : Kept W W1 S) (hne : ¬ S g) : IsS71 w0 W1 g f0 f1 := by
  obtain ⟨A0, c0, hb, hg, hr0⟩ := h
  exact ⟨A0, c0, blk_kept hb hk hne, hg, hr0⟩
theorem IsS71.below {w0 W : World} {g : Nat} {f0 : List Int} {f1 : Int} {W1 : World} (h : IsS71 w0 W g f0 f1) (hw : Below W.heap.size W W1) : IsS71 w0 W1 g f0 f1 := h.grown (grown_of_below hw none) (by simp)
theorem IsS71.alloc {w0 W : World} {g : Nat} {f0 : List Int} {f1 : Int} (h : IsS71 w0 W g f0 f1) (o : Obj) : IsS71 w0 (W.alloc o) g f0 f1 := h.below (below_alloc (Below.refl _ _) o)
theorem IsS71.drewN {w0 W : World} {g : Nat} {f0 : List Int} {f1 : Int} (h : IsS71 w0 W g f0 f1) (m : Nat) : IsS71 w0 (W.drewN m) g f0 f1 := h
theorem IsS71.drew {w0 W : World} {g : Nat} {f0 : List Int} {f1 : Int} (h : IsS71 w0 W g f0 f1) : IsS71 w0 W.drew g f0 f1 := h
theorem IsS71.at_ {w0 W : World} {g : Nat} {f0 : List Int} {f1 : Int} {w' : World} {m : Nat} (hq : W.drewN m = w') (h : IsS71 w0 W g f0 f1) : IsS71 w0 w' g f0 f1 := by subst hq; exact IsS71.drewN h m
theorem IsS71.apart {w0 W : World} {g : Nat} {f0 : List Int} {f1 : Int} {α : Type} {d : Kd α} {e : Nat} {base : Nat} {ok : Nat → Prop} {v : Value} {xs : List α} (h : IsS71 w0 W g f0 f1) (ho : d.R e W base ok v xs) (ht : ∀ q, q ∈ e :: d.E → q ≠ 71) : d.R e W base (fun k => ok k ∧ k ≠ g) v xs := by
  obtain ⟨A0, c0, hb, hg, hr0⟩ := h
  exact Kd.R_types ho hb ht
theorem IsS71.own_ne {w0 W : World} {g : Nat} {f0 : List Int} {f1 : Int} {α : Type} {d : Kd α} {e : Nat} {base : Nat} {ok : Nat → Prop} {v : Value} {xs : List α} (h : IsS71 w0 W g f0 f1) (ho : d.R e W base ok v xs) (ht : e ≠ 71) : some g ≠ v.ownBlock := by
  obtain ⟨A0, c0, hb, hg, hr0⟩ := h
  exact Kd.R_ne ho hb ht
theorem IsS71.apartQ {w0 W : World} {g : Nat} {f0 : List Int} {f1 : Int} {α : Type} {d : Kd α} {e : Nat} {base : Nat} {ok : Nat → Prop} {v : Value} {xs : List α} (h : IsS71 w0 W g f0 f1) (ho : d.Q e W base ok v xs) (ht : ∀ q, q ∈ e :: d.E → q ≠ 71) : d.Q e W base (fun k => ok k ∧ k ≠ g) v xs := by
  obtain ⟨A0, c0, hb, hg, hr0⟩ := h
  exact Kd.Q_types ho hb ht
theorem IsS71.own_neQ {w0 W : World} {g : Nat} {f0 : List Int} {f1 : Int} {α : Type} {d : Kd α} {e : Nat} {base : Nat} {ok : Nat → Prop} {v : Value} {xs : List α} (h : IsS71 w0 W g f0 f1) (ho : d.Q e W base ok v xs) (ht : e ≠ 71) : some g ≠ v.ownBlock := by
  obtain ⟨A0, c0, hb, hg, hr0⟩ := h
  exact Kd.Q_ne ho hb ht
theorem IsS71.apartS {w0 W : World} {g : Nat} {f0 : List Int} {f1 : Int} {α : Type} {d : Kd α} {e : Nat} {base : Nat} {ok : Nat → Prop} {v : Value} {xs : List α} (h : IsS71 w0 W g f0 f1) (ho : d.S e W base ok v xs) (ht : ∀ q, q ∈ e :: d.E → q ≠ 71) : d.S e W base (fun k => ok k ∧ k ≠ g) v xs := by
  obtain ⟨A0, c0, hb, hg, hr0⟩ := h
  exact Kd.S_types ho hb ht
theorem IsS71.own_neS {w0 W : World} {g : Nat} {f0 : List Int} {f1 : Int} {α : Type} {d : Kd α} {e : Nat} {base : Nat} {ok : Nat → Prop} {v : Value} {xs : List α} (h : IsS71 w0 W g f0 f1) (ho : d.S e W base ok v xs) (ht : e ≠ 71) : some g ≠ v.ownBlock := by
  obtain ⟨A0, c0, hb, hg, hr0⟩ := h
  exact Kd.S_ne ho hb ht
theorem IsS71.lt {w0 W : World} {g : Nat} {f0 : List Int} {f1 : Int} (h : IsS71 w0 W g f0 f1) : g < W.heap.size := by
  obtain ⟨A0, c0, hb, hg, hr0⟩ := h
  exact blk_lt hb
theorem IsS71.ge {w0 W : World} {g : Nat} {f0 : List Int} {f1 : Int} (h : IsS71 w0 W g f0 f1) : w0.heap.size ≤ g := by
  obtain ⟨A0, c0, hb, hg, hr0⟩ := h
  exact hg
theorem IsS71.ne_blk {w0 W : World} {g : Nat} {f0 : List Int} {f1 : Int} {a : Nat} {cs : Array Value} {t : TypeId} {fr : Nat × Nat} (h : IsS71 w0 W g f0 f1) (hb2 : W.heap[a]? = some (.cells cs t fr)) (ht : t ≠ 71) : g ≠ a := by
  obtain ⟨A0, c0, hb, hg, hr0⟩ := h
  rintro rfl
  rw [hb] at hb2
  injection hb2 with hb2
  injection hb2 with _ ht2
  exact ht ht2.symm
theorem IsS71.far {w0 W : World} {g : Nat} {f0 : List Int} {f1 : Int} {p : Addr} (h : IsS71 w0 W g f0 f1) (hne : g ≠ p.block) (u : Value) : IsS71 w0 (W.setCell p u) g f0 f1 := by
  obtain ⟨A0, c0, hb, hg, hr0⟩ := h
  exact ⟨A0, c0, blk_far hb hne u, hg, hr0⟩
theorem cellS71_0 {W : World} {g : Nat} {A0 : Option Addr} {c0 : Nat} {f0 : List Int} {f1 : Int} (h : W.heap[g]? = some (.cells #[.slice A0 f0.length c0, .int .i64 f1] 71 (0, 0))) : W.cell? ⟨g, 0, none⟩ = some (.slice A0 f0.length c0) := (blk_cell h 0).trans rfl
theorem cellS71_1 {W : World} {g : Nat} {A0 : Option Addr} {c0 : Nat} {f0 : List Int} {f1 : Int} (h : W.heap[g]? = some (.cells #[.slice A0 f0.length c0, .int .i64 f1] 71 (0, 0))) : W.cell? ⟨g, 1, none⟩ = some (.int .i64 f1) := (blk_cell h 1).trans rfl
theorem IsS71.set_1 {w0 W : World} {g : Nat} {f0 : List Int} {f1 : Int} (h : IsS71 w0 W g f0 f1) (x : Int) : IsS71 w0 (W.setCell ⟨g, 1, none⟩ (.int .i64 x)) g f0 x := by
  obtain ⟨A0, c0, hb, hg, hr0⟩ := h
  exact ⟨A0, c0, by simpa using blk_set hb 1 (.int .i64 x), hg, hr0⟩
theorem IsS71.new (w0 W : World) (A0 : Option Addr) (c0 : Nat) (f0 : List Int) (f1 : Int) (hB : Below w0.heap.size w0 W) (hr0 : Kd.C (Kd.int .u8) w0 A0 f0.length f0) : IsS71 w0 (W.alloc (.cells #[.slice A0 f0.length c0, .int .i64 f1] 71)) W.heap.size f0 f1 := ⟨A0, c0, by simpa using heap_alloc_new W _, hB.size, hr0⟩

/-! ### scan_reader_more: function 76 -/
def scan_reader_more.f (s0_0 : List Int) (s0_1 : Int) : Option (Bool × Int) := some (decide (s0_1 < (s0_0.length : Int)), s0_1)
set_option maxHeartbeats 8000000 in
set_option maxRecDepth 100000 in
theorem scan_reader_more.calls (g : Nat) (s0_0 : List Int) (s0_1 : Int) (r1 : Bool) (r2 : Int) (w0 w : World) (hI : IsS71 w0 w g s0_0 s0_1) (hB : Below w0.heap.size w0 w) (h : scan_reader_more.f s0_0 s0_1 = some (r1, r2)) :
    Calls Tryd.prog 76 #[.pointer (some ⟨g, 0, none⟩)] w fun e w' => e = .returned (.bool r1) ∧ IsS71 w0 w' g s0_0 r2 ∧ Below w0.heap.size w0 w' ∧ KeepBut w w' g none := by
  have HI0 := Aside0.mk hI
  have HK := Aside0.mk (KeepBut.refl w g none)
  have HL := Aside0.mk hB.size
  clear hI
  have HW0 := Aside0.mk hB.size
  have HB := Aside0.mk hB
  clear hB
  have H : (some (decide (s0_1 < (s0_0.length : Int)), s0_1)) = some (r1, r2) := h
  clear h
  simp only [Option.some.injEq, Prod.mk.injEq] at H
  obtain ⟨rfl, rfl⟩ := H
  obtain ⟨ASz2_0, cSz2_0, HGz2, hgz2, HSz2_0⟩ := HI0.out
  have hcz2_0 := cellS71_0 HGz2
  have hcz2_1 := cellS71_1 HGz2
  have hfz2_1 := blk_frozen HGz2 1
  clear HGz2 hgz2
  go_enter Tryd.func76, Tryd.ntmps76
  go_wp2
  repeat (go_quiet (fail); try go_wp2)
  go_ret
  exact ⟨by first | rfl | (simp [errW_none, errW_some] <;> rfl) | (simp [*, errW_none, errW_some] <;> rfl), by repeat (first | (with_reducible first | exact HI0.out | apply IsS71.alloc | apply IsS71.drewN | apply IsS71.drew | apply IsS71.set_1) | exact HI0.out), by repeat (first | (with_reducible first | exact HB.out | apply below_alloc | apply pw_below_drewN | apply below_drew1 | refine below_set ?_ (IsS71.ge HI0.out)) | exact HB.out), by repeat (first | (with_reducible first | exact HK.out | apply KeepBut.set_ | apply keep_drewN | apply keep_drew | apply keep_alloc) | exact HK.out)⟩

-- given: function 90 (strings_IndexByte)

/-! ### scan_blank: function 99 -/
def scan_blank.f (a0 : Int) : Option (Bool) := (strings_IndexByte.f (⟨#[0, 9, 10, 12, 13, 32]⟩ : ByteArray) a0).bind fun t101 => (some (decide (t101 ≥ 0)))
set_option maxHeartbeats 8000000 in
set_option maxRecDepth 100000 in
theorem scan_blank.calls (a0 : Int) (r : Bool) (w : World) (h : scan_blank.f a0 = some r) :
    Calls Tryd.prog 99 #[.int .u8 a0] w fun e w' => e = .returned (.bool r) ∧ Drawn0 w w' := by
  have H : ((strings_IndexByte.f (⟨#[0, 9, 10, 12, 13, 32]⟩ : ByteArray) a0).bind fun t101 => (some (decide (t101 ≥ 0)))) = some r := h
  clear h
  replace H := Option.bind_eq_some_iff.mp H
  obtain ⟨t101, A20, H⟩ := H
  replace H : (some (decide (t101 ≥ 0))) = some r := H
  have A2 := Aside0.mk A20
  clear A20
  obtain rfl := Option.some.inj H
  go_enter Tryd.func99, Tryd.ntmps99
  go_wp2_with (first | ((with_reducible refine gate_callee (f := 90) rfl ?_); refine goesL_ (some 4) rfl rfl Tryd.func90 (by kernel_rfl) rfl #[.string (⟨#[0, 9, 10, 12, 13, 32]⟩ : ByteArray), .int .u8 a0] rfl (by (try simp only [List.map_toArray, List.map_cons, List.map_nil]); first | done | rfl | (simp only [List.length_drop, List.length_take]; rfl)) ?_; (with_reducible refine (strings_IndexByte.calls (⟨#[0, 9, 10, 12, 13, 32]⟩ : ByteArray) a0 t101 _ A2.out).mono ?_); rintro e w' ⟨rfl, ⟨nd, rfl⟩⟩; refine ⟨_, rfl, ?_⟩))
  go_ret
  exact ⟨by first | rfl | (simp; done) | (simp [*]; done), by repeat (first | exact Drawn0.refl _ | apply Drawn0.step)⟩

/-- THE ONE PURE STATEMENT of scan_blank: yours. -/
def scan_blank.Pure : Prop := ∀ (a0 : Int), (Lit.int .u8 a0).wf = true → scan_blank.f a0 = some true
theorem scan_blank.walk (P : scan_blank.Pure) (a0 : Int) (w : World) (w0 : (Lit.int .u8 a0).wf = true) :
    Calls Tryd.prog 99 #[.int .u8 a0] w fun e w' => e = .returned (.bool true) ∧ Below w.heap.size w w' := by
  have h := P a0 w0
  refine (scan_blank.calls a0 true w h).mono ?_
  rintro e w' ⟨rfl, hd⟩
  exact ⟨rfl, hd.below⟩

/-! ### scan_regular: function 105 -/
def scan_regular.f (a0 : Int) : Option (Bool) := (scan_blank.f a0).bind fun t102 => (if t102 = true then (some false) else ((strings_IndexByte.f (⟨#[40, 41, 60, 62, 91, 93, 123, 125, 47, 37]⟩ : ByteArray) a0).bind fun t103 => (some (decide (t103 < 0)))))
set_option maxHeartbeats 8000000 in
set_option maxRecDepth 100000 in
theorem scan_regular.calls (a0 : Int) (r : Bool) (w : World) (h : scan_regular.f a0 = some r) :
    Calls Tryd.prog 105 #[.int .u8 a0] w fun e w' => e = .returned (.bool r) ∧ Drawn0 w w' := by
  have H : ((scan_blank.f a0).bind fun t102 => (if t102 = true then (some false) else ((strings_IndexByte.f (⟨#[40, 41, 60, 62, 91, 93, 123, 125, 47, 37]⟩ : ByteArray) a0).bind fun t103 => (some (decide (t103 < 0)))))) = some r := h
  clear h
  replace H := Option.bind_eq_some_iff.mp H
  obtain ⟨t102, A20, H⟩ := H
  replace H : (if t102 = true then (some false) else ((strings_IndexByte.f (⟨#[40, 41, 60, 62, 91, 93, 123, 125, 47, 37]⟩ : ByteArray) a0).bind fun t103 => (some (decide (t103 < 0))))) = some r := H
  have A2 := Aside0.mk A20
  clear A20
  by_cases c3 : t102 = true
  · subst c3
    have H1 : (some false) = some r := by rw [if_pos rfl] at H; exact H
    clear H
    have H := H1
    clear H1
    obtain rfl := Option.some.inj H
    go_enter Tryd.func105, Tryd.ntmps105
    go_wp2_with (first | ((with_reducible refine gate_callee (f := 99) rfl ?_); refine goesL_ (some 4) rfl rfl Tryd.func99 (by kernel_rfl) rfl #[.int .u8 a0] rfl (by (try simp only [List.map_toArray, List.map_cons, List.map_nil]); first | done | rfl | (simp only [List.length_drop, List.length_take]; rfl)) ?_; (with_reducible refine (scan_blank.calls a0 true _ A2.out).mono ?_); rintro e w' ⟨rfl, ⟨nd, rfl⟩⟩; refine ⟨_, rfl, ?_⟩))
    go_ret
    exact ⟨by first | rfl | (simp; done) | (simp [*]; done), by repeat (first | exact Drawn0.refl _ | apply Drawn0.step)⟩
  · replace c3 := Bool.eq_false_iff.mpr c3
    subst c3
    have H1 : ((strings_IndexByte.f (⟨#[40, 41, 60, 62, 91, 93, 123, 125, 47, 37]⟩ : ByteArray) a0).bind fun t103 => (some (decide (t103 < 0)))) = some r := by rw [if_neg (show ¬ (false = true) by decide)] at H; exact H
    clear H
    have H := H1
    clear H1
    replace H := Option.bind_eq_some_iff.mp H
    obtain ⟨t103, A40, H⟩ := H
    replace H : (some (decide (t103 < 0))) = some r := H
    have A4 := Aside0.mk A40
    clear A40
    obtain rfl := Option.some.inj H
    go_enter Tryd.func105, Tryd.ntmps105
    go_wp2_with (first | ((with_reducible refine gate_callee (f := 99) rfl ?_); refine goesL_ (some 4) rfl rfl Tryd.func99 (by kernel_rfl) rfl #[.int .u8 a0] rfl (by (try simp only [List.map_toArray, List.map_cons, List.map_nil]); first | done | rfl | (simp only [List.length_drop, List.length_take]; rfl)) ?_; (with_reducible refine (scan_blank.calls a0 false _ A2.out).mono ?_); rintro e w' ⟨rfl, ⟨nd, rfl⟩⟩; refine ⟨_, rfl, ?_⟩) | (go_at_call 90; (with_reducible refine (strings_IndexByte.calls (⟨#[40, 41, 60, 62, 91, 93, 123, 125, 47, 37]⟩ : ByteArray) a0 t103 _ A4.out).mono ?_); rintro e w' ⟨rfl, ⟨nd, rfl⟩⟩))
    go_ret
    exact ⟨by first | rfl | (simp; done) | (simp [*]; done), by repeat (first | exact Drawn0.refl _ | apply Drawn0.step)⟩

/-- THE ONE PURE STATEMENT of scan_regular: yours. -/
def scan_regular.Pure : Prop := ∀ (a0 : Int), (Lit.int .u8 a0).wf = true → scan_regular.f a0 = some true
theorem scan_regular.walk (P : scan_regular.Pure) (a0 : Int) (w : World) (w0 : (Lit.int .u8 a0).wf = true) :
    Calls Tryd.prog 105 #[.int .u8 a0] w fun e w' => e = .returned (.bool true) ∧ Below w.heap.size w w' := by
  have h := P a0 w0
  refine (scan_regular.calls a0 true w h).mono ?_
  rintro e w' ⟨rfl, hd⟩
  exact ⟨rfl, hd.below⟩

/-! ### scan_digit: function 118 -/
mutual
def scan_digit.j0 : Nat → Int → Bool → Option (Int)
  | 0, _, _ => none
  | k + 1, x0, x3 => if x3 = true then (some ((x0 - 48) % 256)) else (if x0 ≥ 97 then (scan_digit.j1 k x0 (decide (x0 ≤ 102))) else (scan_digit.j1 k x0 false))
def scan_digit.j1 : Nat → Int → Bool → Option (Int)
  | 0, _, _ => none
  | k + 1, x0, x13 => if x13 = true then (some (((x0 - 97) % 256) + 10)) else (if x0 ≥ 65 then (if x0 ≤ 70 then (some (((x0 - 65) % 256) + 10)) else (some (-1))) else (some (-1)))
end
def scan_digit.f (k : Nat) (a0 : Int) : Option (Int) := if a0 ≥ 48 then (scan_digit.j0 k a0 (decide (a0 ≤ 57))) else (scan_digit.j0 k a0 false)
theorem scan_digit.mono_l : ∀ k, (∀ y0 y1, LeO (scan_digit.j0 k y0 y1) (scan_digit.j0 (k + 1) y0 y1)) ∧ (∀ y0 y1, LeO (scan_digit.j1 k y0 y1) (scan_digit.j1 (k + 1) y0 y1))
  | 0 => ⟨fun _ _ r h => by simp [scan_digit.j0] at h, fun _ _ r h => by simp [scan_digit.j1] at h⟩
  | k + 1 => by
    obtain ⟨ih0, ih1⟩ := scan_digit.mono_l k
    refine ⟨?_, ?_⟩
    · intro y0 y1
      unfold scan_digit.j0
      repeat' first
      | (with_reducible exact ih0 _ _)
      | (with_reducible exact ih1 _ _)
      | (with_reducible exact LeO.refl _)
      | (with_reducible exact LeO.none _)
      | (with_reducible refine LeO.ite ?_ ?_)
      | (with_reducible refine LeO.bind ?_ (fun _ => ?_))
      | exact ih0 _ _
      | exact ih1 _ _
      | exact LeO.none _
      | refine LeO.ite ?_ ?_
      | refine LeO.bind ?_ (fun _ => ?_)
    · intro y0 y1
      unfold scan_digit.j1
      repeat' first
      | (with_reducible exact ih0 _ _)
      | (with_reducible exact ih1 _ _)
      | (with_reducible exact LeO.refl _)
      | (with_reducible exact LeO.none _)
      | (with_reducible refine LeO.ite ?_ ?_)
      | (with_reducible refine LeO.bind ?_ (fun _ => ?_))
      | exact ih0 _ _
      | exact ih1 _ _
      | exact LeO.none _
      | refine LeO.ite ?_ ?_
      | refine LeO.bind ?_ (fun _ => ?_)
theorem scan_digit.mono : ∀ a0 k, LeO (scan_digit.f k a0) (scan_digit.f (k + 1) a0) := by
  intro a0 k
  obtain ⟨ih0, ih1⟩ := scan_digit.mono_l k
  unfold scan_digit.f
  repeat' first
      | (with_reducible exact ih0 _ _)
      | (with_reducible exact ih1 _ _)
      | (with_reducible exact LeO.refl _)
      | (with_reducible exact LeO.none _)
      | (with_reducible refine LeO.ite ?_ ?_)
      | (with_reducible refine LeO.bind ?_ (fun _ => ?_))
      | exact ih0 _ _
      | exact ih1 _ _
      | exact LeO.none _
      | refine LeO.ite ?_ ?_
      | refine LeO.bind ?_ (fun _ => ?_)
set_option maxHeartbeats 8000000 in
set_option maxRecDepth 100000 in
theorem scan_digit.calls (k : Nat) (a0 : Int) (r : Int) (w : World) (h : scan_digit.f k a0 = some r) :
    Calls Tryd.prog 118 #[.int .u8 a0] w fun e w' => e = .returned (.int .i64 r) ∧ Drawn0 w w' := by
  have H : (if a0 ≥ 48 then (scan_digit.j0 k a0 (decide (a0 ≤ 57))) else (scan_digit.j0 k a0 false)) = some r := h
  clear h
  have HC2 := Aside0.mk H
  clear H
  go_enter Tryd.func118, Tryd.ntmps118
  go_upto_region 1 with (fail)
  go_cut [3] (fun v3 wc => ∃ (kq : Nat) (x3_1 : Bool), v3 = .bool x3_1 ∧ Aside0 (scan_digit.j0 kq a0 x3_1 = some r) ∧ Aside0 (kq ≤ k) ∧ Drawn0 w wc)
  case first =>
    have H := HC2.out
    clear HC2
    by_cases c3 : a0 ≥ 48
    · rw [if_pos c3] at H
      have c3b0 : decide (48 ≤ a0) = true := decide_eq_true c3
      clear c3
      (first | rw [c3b0] | (simp only [i64_w, i32_w]; rw [c3b0]) | skip)
      have H' := Aside0.mk H
      clear H
      go_wp2
      go_meet
      case rel => exact ⟨_, (decide (a0 ≤ 57)), (by first | rfl | (simp; done) | (simp [*]; done)), H', ⟨by first | omega | exact Nat.le_refl _⟩, by repeat (first | exact Drawn0.refl _ | apply Drawn0.step)⟩
    · rw [if_neg c3] at H
      have c3b0 : decide (48 ≤ a0) = false := decide_eq_false c3
      clear c3
      (first | rw [c3b0] | (simp only [i64_w, i32_w]; rw [c3b0]) | skip)
      have H' := Aside0.mk H
      clear H
      go_wp2
      go_meet
      case rel => exact ⟨_, (false), (by first | rfl | (simp; done) | (simp [*]; done)), H', ⟨by first | omega | exact Nat.le_refl _⟩, by repeat (first | exact Drawn0.refl _ | apply Drawn0.step)⟩
  case rest =>
    clear HC2
    try clear c1
    try clear p2
    try clear c3
    try clear c3b0
    obtain ⟨kq, x3_1, rfl, HA, HJ1, ⟨mc1, rfl⟩⟩ := hcut
    cases kq with
    | zero => exact absurd HA.out (by simp [scan_digit.j0])
    | succ kj1 =>
      have H := HA.out
      clear HA
      simp only [scan_digit.j0] at H
      by_cases c4 : x3_1 = true
      · subst c4
        have H1 : (some ((a0 - 48) % 256)) = some r := by rw [if_pos rfl] at H; exact H
        clear H
        have H := H1
        clear H1
        obtain rfl := Option.some.inj H
        go_wp2
        go_ret
        exact ⟨by first | rfl | (simp; done) | (simp [*]; done), by repeat (first | exact Drawn0.refl _ | apply Drawn0.step)⟩
      · replace c4 := Bool.eq_false_iff.mpr c4
        subst c4
        have H1 : (if a0 ≥ 97 then (scan_digit.j1 kj1 a0 (decide (a0 ≤ 102))) else (scan_digit.j1 kj1 a0 false)) = some r := by rw [if_neg (show ¬ (false = true) by decide)] at H; exact H
        clear H
        have H := H1
        clear H1
        have HC5 := Aside0.mk H
        clear H
        go_upto_region 3 with (fail)
        go_cut [13] (fun v13 wc => ∃ (kq : Nat) (x13_4 : Bool), v13 = .bool x13_4 ∧ Aside0 (scan_digit.j1 kq a0 x13_4 = some r) ∧ Aside0 (kq ≤ kj1) ∧ Drawn0 w wc)
        case first =>
          have H := HC5.out
          clear HC5
          by_cases c6 : a0 ≥ 97
          · rw [if_pos c6] at H
            have c6b0 : decide (97 ≤ a0) = true := decide_eq_true c6
            clear c6
            (first | rw [c6b0] | (simp only [i64_w, i32_w]; rw [c6b0]) | skip)
            have H' := Aside0.mk H
            clear H
            go_wp2
            go_meet
            case rel => exact ⟨_, (decide (a0 ≤ 102)), (by first | rfl | (simp; done) | (simp [*]; done)), H', ⟨by have := HJ1.out; first | omega | exact Nat.le_refl _⟩, by repeat (first | exact Drawn0.refl _ | apply Drawn0.step)⟩
          · rw [if_neg c6] at H
            have c6b0 : decide (97 ≤ a0) = false := decide_eq_false c6
            clear c6
            (first | rw [c6b0] | (simp only [i64_w, i32_w]; rw [c6b0]) | skip)
            have H' := Aside0.mk H
            clear H
            go_wp2
            go_meet
            case rel => exact ⟨_, (false), (by first | rfl | (simp; done) | (simp [*]; done)), H', ⟨by have := HJ1.out; first | omega | exact Nat.le_refl _⟩, by repeat (first | exact Drawn0.refl _ | apply Drawn0.step)⟩
        case rest =>
          clear HC5
          try clear c1
          try clear p2
          try clear c3
          try clear c3b0
          try clear c4
          try clear c6
          try clear c6b0
          try clear p2
          obtain ⟨kq, x13_4, rfl, HA, HJ4, ⟨mc4, rfl⟩⟩ := hcut
          cases kq with
          | zero => exact absurd HA.out (by simp [scan_digit.j1])
          | succ kj4 =>
            have H := HA.out
            clear HA
            simp only [scan_digit.j1] at H
            by_cases c7 : x13_4 = true
            · subst c7
              have H1 : (some (((a0 - 97) % 256) + 10)) = some r := by rw [if_pos rfl] at H; exact H
              clear H
              have H := H1
              clear H1
              obtain rfl := Option.some.inj H
              go_wp2
              go_ret
              exact ⟨by first | rfl | (simp; done) | (simp [*]; done), by repeat (first | exact Drawn0.refl _ | apply Drawn0.step)⟩
            · replace c7 := Bool.eq_false_iff.mpr c7
              subst c7
              have H1 : (if a0 ≥ 65 then (if a0 ≤ 70 then (some (((a0 - 65) % 256) + 10)) else (some (-1))) else (some (-1))) = some r := by rw [if_neg (show ¬ (false = true) by decide)] at H; exact H
              clear H
              have H := H1
              clear H1
              by_cases c8 : a0 ≥ 65
              · rw [if_pos c8] at H
                have c8b0 : decide (65 ≤ a0) = true := decide_eq_true c8
                clear c8
                by_cases c9 : a0 ≤ 70
                · rw [if_pos c9] at H
                  have c9b0 : decide (a0 ≤ 70) = true := decide_eq_true c9
                  clear c9
                  obtain rfl := Option.some.inj H
                  go_wp2
                  go_ret
                  exact ⟨by first | rfl | (simp; done) | (simp [*]; done), by repeat (first | exact Drawn0.refl _ | apply Drawn0.step)⟩
                · rw [if_neg c9] at H
                  have c9b0 : decide (a0 ≤ 70) = false := decide_eq_false c9
                  clear c9
                  obtain rfl := Option.some.inj H
                  go_wp2
                  go_ret
                  exact ⟨by first | rfl | (simp; done) | (simp [*]; done), by repeat (first | exact Drawn0.refl _ | apply Drawn0.step)⟩
              · rw [if_neg c8] at H
                have c8b0 : decide (65 ≤ a0) = false := decide_eq_false c8
                clear c8
                obtain rfl := Option.some.inj H
                go_wp2
                go_ret
                exact ⟨by first | rfl | (simp; done) | (simp [*]; done), by repeat (first | exact Drawn0.refl _ | apply Drawn0.step)⟩

end Go.Proofs.YtiocgpfnbmlfaaaDoor.PS1
