/- Own texts of this claim, one behind the other (wip/prune.py). -/
import Derived.Test.YtiocgpfnbmlfaaaDoorBSx3

/-! ## PNx4 -/
namespace Go.Proofs.YtiocgpfnbmlfaaaDoor.PN
open Go.RowKit Go.Proofs.YtiocgpfnbmlfaaaDoorW.PrintWords Go.Proofs.YtiocgpfnbmlfaaaDoorW.PrintLast Go.Proofs.YtiocgpfnbmlfaaaDoorW.PrintMore
attribute [local go_sem] max2_int min2_int max_two min_two max_three min_three max_four min_four   -- for this text's walks alone
set_option linter.unusedVariables false
set_option linter.unusedSimpArgs false

/-! ### mezzotintref01_Hex: function 44 -/
mutual
def mezzotintref01_Hex.j0 : Nat → Int → Bool → Option (Int)
 | 0, _, _ => none
 | k + 1, x0, x8 => if x8 = true then (some ((x0 - 48) % 256)) else (if x0 ≥ 97 then (mezzotintref01_Hex.j1 k x0 (decide (x0 ≤ 122))) else (mezzotintref01_Hex.j1 k x0 false))
def mezzotintref01_Hex.j1 : Nat → Int → Bool → Option (Int)
 | 0, _, _ => none
 | k + 1, x0, x17 => if x17 = true then (some (((x0 - 97) % 256) + 10)) else (if x0 ≥ 65 then (if x0 ≤ 90 then (some (((x0 - 65) % 256) + 10)) else (some 99)) else (some 99))
end
def mezzotintref01_Hex.f (k : Nat) (a0 : Int) : Option (Int) := if a0 ≥ 48 then (mezzotintref01_Hex.j0 k a0 (decide (a0 ≤ 57))) else (mezzotintref01_Hex.j0 k a0 false)
theorem mezzotintref01_Hex.mono_l : ∀ k, (∀ y0 y1, LeO (mezzotintref01_Hex.j0 k y0 y1) (mezzotintref01_Hex.j0 (k + 1) y0 y1)) ∧ (∀ y0 y1, LeO (mezzotintref01_Hex.j1 k y0 y1) (mezzotintref01_Hex.j1 (k + 1) y0 y1))
 | 0 => ⟨fun _ _ r h => by simp [mezzotintref01_Hex.j0] at h, fun _ _ r h => by simp [mezzotintref01_Hex.j1] at h⟩
 | k + 1 => by
  obtain ⟨ih0, ih1⟩ := mezzotintref01_Hex.mono_l k
  refine ⟨?_, ?_⟩
  ·intro y0 y1
   unfold mezzotintref01_Hex.j0
   repeat' first
   | (with_reducible exact ih0 _ _)
   | (with_reducible exact ih1 _ _)
   | (with_reducible exact LeO.refl _)
   | (with_reducible exact LeO.none _)
   | (with_reducible refine LeO.ite ?_ ?_)
   | (with_reducible refine LeO.bind ?_ (fun _ => ?_))
   | exact ih0 _ _
   | exact ih1 _ _
   | exact LeO.none _
   | refine LeO.ite ?_ ?_
   | refine LeO.bind ?_ (fun _ => ?_)
  ·intro y0 y1
   unfold mezzotintref01_Hex.j1
   repeat' first
   | (with_reducible exact ih0 _ _)
   | (with_reducible exact ih1 _ _)
   | (with_reducible exact LeO.refl _)
   | (with_reducible exact LeO.none _)
   | (with_reducible refine LeO.ite ?_ ?_)
   | (with_reducible refine LeO.bind ?_ (fun _ => ?_))
   | exact ih0 _ _
   | exact ih1 _ _
   | exact LeO.none _
   | refine LeO.ite ?_ ?_
   | refine LeO.bind ?_ (fun _ => ?_)
theorem mezzotintref01_Hex.mono : ∀ a0 k, LeO (mezzotintref01_Hex.f k a0) (mezzotintref01_Hex.f (k + 1) a0) := by
 intro a0 k
 obtain ⟨ih0, ih1⟩ := mezzotintref01_Hex.mono_l k
 unfold mezzotintref01_Hex.f
 repeat' first
   | (with_reducible exact ih0 _ _)
   | (with_reducible exact ih1 _ _)
   | (with_reducible exact LeO.refl _)
   | (with_reducible exact LeO.none _)
   | (with_reducible refine LeO.ite ?_ ?_)
   | (with_reducible refine LeO.bind ?_ (fun _ => ?_))
   | exact ih0 _ _
   | exact ih1 _ _
   | exact LeO.none _
   | refine LeO.ite ?_ ?_
   | refine LeO.bind ?_ (fun _ => ?_)
set_option maxHeartbeats 8000000 in
set_option maxRecDepth 100000 in
theorem mezzotintref01_Hex.calls (k : Nat) (a0 : Int) (r : Int) (w : World) (h : mezzotintref01_Hex.f k a0 = some r) :
  Calls Tryd.prog 44 #[.int .u8 a0] w fun e w' => e = .returned (.int .i64 r) ∧ Drawn0 w w' := by
 have H : (if a0 ≥ 48 then (mezzotintref01_Hex.j0 k a0 (decide (a0 ≤ 57))) else (mezzotintref01_Hex.j0 k a0 false)) = some r := h
 clear h
 have HC2 := Aside0.mk H
 clear H
 go_enter Tryd.func44, Tryd.ntmps44
 go_upto_region 1 with (fail)
 go_cut [8] (fun v8 wc => ∃ (kq : Nat) (x8_1 : Bool), v8 = .bool x8_1 ∧ Aside0 (mezzotintref01_Hex.j0 kq a0 x8_1 = some r) ∧ Aside0 (kq ≤ k) ∧ Drawn0 w wc)
 case first =>
  have H := HC2.out
  clear HC2
  by_cases c3 : a0 ≥ 48
  ·rw [if_pos c3] at H
   have c3b0 : decide (48 ≤ a0) = true := decide_eq_true c3
   clear c3
   (first | rw [c3b0] | (simp only [i64_w, i32_w]; rw [c3b0]) | skip)
   have H' := Aside0.mk H
   clear H
   go_wp2
   go_meet
   case rel => exact ⟨_, (decide (a0 ≤ 57)), (by first | rfl | (simp; done) | (simp [*]; done)), H', ⟨by first | omega | exact Nat.le_refl _⟩, by repeat (first | exact Drawn0.refl _ | apply Drawn0.step)⟩
  ·rw [if_neg c3] at H
   have c3b0 : decide (48 ≤ a0) = false := decide_eq_false c3
   clear c3
   (first | rw [c3b0] | (simp only [i64_w, i32_w]; rw [c3b0]) | skip)
   have H' := Aside0.mk H
   clear H
   go_wp2
   go_meet
   case rel => exact ⟨_, (false), (by first | rfl | (simp; done) | (simp [*]; done)), H', ⟨by first | omega | exact Nat.le_refl _⟩, by repeat (first | exact Drawn0.refl _ | apply Drawn0.step)⟩
 case rest =>
  clear HC2
  try clear p2
  try clear c3
  try clear c3b0
  obtain ⟨kq, x8_1, rfl, HA, HJ1, ⟨mc1, rfl⟩⟩ := hcut
  cases kq with
  | zero => exact absurd HA.out (by simp [mezzotintref01_Hex.j0])
  | succ kj1 =>
   have H := HA.out
   clear HA
   simp only [mezzotintref01_Hex.j0] at H
   by_cases c4 : x8_1 = true
   ·subst c4
    have H1 : (some ((a0 - 48) % 256)) = some r := by rw [if_pos rfl] at H; exact H
    clear H
    have H := H1
    clear H1
    obtain rfl := Option.some.inj H
    go_wp2
    go_ret
    exact ⟨by first | rfl | (simp; done) | (simp [*]; done), by repeat (first | exact Drawn0.refl _ | apply Drawn0.step)⟩
   ·replace c4 := Bool.eq_false_iff.mpr c4
    subst c4
    have H1 : (if a0 ≥ 97 then (mezzotintref01_Hex.j1 kj1 a0 (decide (a0 ≤ 122))) else (mezzotintref01_Hex.j1 kj1 a0 false)) = some r := by rw [if_neg (show ¬ (false = true) by decide)] at H; exact H
    clear H
    have H := H1
    clear H1
    have HC5 := Aside0.mk H
    clear H
    go_upto_region 3 with (fail)
    go_cut [17] (fun v17 wc => ∃ (kq : Nat) (x17_4 : Bool), v17 = .bool x17_4 ∧ Aside0 (mezzotintref01_Hex.j1 kq a0 x17_4 = some r) ∧ Aside0 (kq ≤ kj1) ∧ Drawn0 w wc)
    case first =>
     have H := HC5.out
     clear HC5
     by_cases c6 : a0 ≥ 97
     ·rw [if_pos c6] at H
      have c6b0 : decide (97 ≤ a0) = true := decide_eq_true c6
      clear c6
      (first | rw [c6b0] | (simp only [i64_w, i32_w]; rw [c6b0]) | skip)
      have H' := Aside0.mk H
      clear H
      go_wp2
      go_meet
      case rel => exact ⟨_, (decide (a0 ≤ 122)), (by first | rfl | (simp; done) | (simp [*]; done)), H', ⟨by have := HJ1.out; first | omega | exact Nat.le_refl _⟩, by repeat (first | exact Drawn0.refl _ | apply Drawn0.step)⟩
     ·rw [if_neg c6] at H
      have c6b0 : decide (97 ≤ a0) = false := decide_eq_false c6
      clear c6
      (first | rw [c6b0] | (simp only [i64_w, i32_w]; rw [c6b0]) | skip)
      have H' := Aside0.mk H
      clear H
      go_wp2
      go_meet
      case rel => exact ⟨_, (false), (by first | rfl | (simp; done) | (simp [*]; done)), H', ⟨by have := HJ1.out; first | omega | exact Nat.le_refl _⟩, by repeat (first | exact Drawn0.refl _ | apply Drawn0.step)⟩
    case rest =>
     clear HC5
     try clear c1
     try clear p2
     try clear c3
     try clear c3b0
     try clear c4
     try clear c6
     try clear c6b0
     try clear p2
     obtain ⟨kq, x17_4, rfl, HA, HJ4, ⟨mc4, rfl⟩⟩ := hcut
     cases kq with
     | zero => exact absurd HA.out (by simp [mezzotintref01_Hex.j1])
     | succ kj4 =>
      have H := HA.out
      clear HA
      simp only [mezzotintref01_Hex.j1] at H
      by_cases c7 : x17_4 = true
      ·subst c7
       have H1 : (some (((a0 - 97) % 256) + 10)) = some r := by rw [if_pos rfl] at H; exact H
       clear H
       have H := H1
       clear H1
       obtain rfl := Option.some.inj H
       go_wp2
       go_ret
       exact ⟨by first | rfl | (simp; done) | (simp [*]; done), by repeat (first | exact Drawn0.refl _ | apply Drawn0.step)⟩
      ·replace c7 := Bool.eq_false_iff.mpr c7
       subst c7
       have H1 : (if a0 ≥ 65 then (if a0 ≤ 90 then (some (((a0 - 65) % 256) + 10)) else (some 99)) else (some 99)) = some r := by rw [if_neg (show ¬ (false = true) by decide)] at H; exact H
       clear H
       have H := H1
       clear H1
       by_cases c8 : a0 ≥ 65
       ·rw [if_pos c8] at H
        have c8b0 : decide (65 ≤ a0) = true := decide_eq_true c8
        clear c8
        by_cases c9 : a0 ≤ 90
        ·rw [if_pos c9] at H
         have c9b0 : decide (a0 ≤ 90) = true := decide_eq_true c9
         clear c9
         obtain rfl := Option.some.inj H
         go_wp2
         go_ret
         exact ⟨by first | rfl | (simp; done) | (simp [*]; done), by repeat (first | exact Drawn0.refl _ | apply Drawn0.step)⟩
        ·rw [if_neg c9] at H
         have c9b0 : decide (a0 ≤ 90) = false := decide_eq_false c9
         clear c9
         obtain rfl := Option.some.inj H
         go_wp2
         go_ret
         exact ⟨by first | rfl | (simp; done) | (simp [*]; done), by repeat (first | exact Drawn0.refl _ | apply Drawn0.step)⟩
       ·rw [if_neg c8] at H
        have c8b0 : decide (65 ≤ a0) = false := decide_eq_false c8
        clear c8
        obtain rfl := Option.some.inj H
        go_wp2
        go_ret
        exact ⟨by first | rfl | (simp; done) | (simp [*]; done), by repeat (first | exact Drawn0.refl _ | apply Drawn0.step)⟩

/-! ### mezzotintref04_Hex: function 53 -/
def mezzotintref04_Hex.l0 : Nat → List Int → List Int → Int → Int → Option (List Int × Int × Int)
 | 0, _, _, _, _ => none
 | k + 1, x0, x7, x8, x9 => if x9 < (x0.length : Int) then (if 0 ≤ x9 then ((mezzotintref04_Blank.f (rd x0 x9)).bind fun t149 => (if t149 = true then (mezzotintref04_Hex.l0 k x0 x7 x8 (wrap64 (x9 + 1))) else (if (rd x0 x9) = 62 then (if x8 ≥ 0 then (if x7.length < 140737488355328 then (some ((x7 ++ [(wrap64 (x8 * 16)) % 256]), wrap64 (x9 + 1), 0)) else (none)) else (some (x7, wrap64 (x9 + 1), 0))) else ((mezzotintref01_Hex.f k (rd x0 x9)).bind fun t155 => (if t155 > 15 then (some (([] : List Int), 0, 14)) else (if x8 < 0 then (mezzotintref04_Hex.l0 k x0 x7 t155 (wrap64 (x9 + 1))) else (if x7.length < 140737488355328 then (mezzotintref04_Hex.l0 k x0 (x7 ++ [(wrap64 ((wrap64 (x8 * 16)) + t155)) % 256]) (-1) (wrap64 (x9 + 1))) else (none)))))))) else (none)) else (some (([] : List Int), 0, 14))
def mezzotintref04_Hex.f (k : Nat) (l0 : List Int) (a1 : Int) : Option (List Int × Int × Int) := mezzotintref04_Hex.l0 k l0 ([] : List Int) (-1) (wrap64 (a1 + 1))
set_option maxHeartbeats 8000000 in
set_option maxRecDepth 100000 in
theorem mezzotintref04_Hex.calls (k : Nat) (A0 : Option Addr) (c0 : Nat) (l0 : List Int) (a1 : Int) (r1 : List Int) (r2 : Int) (r3 : Int) (w : World) (hr0 : Kd.C (Kd.int .u8) w A0 l0.length l0) (hc0 : l0.length ≤ c0) (h : mezzotintref04_Hex.f k l0 a1 = some (r1, r2, r3)) :
  Calls Tryd.prog 53 #[.slice A0 l0.length c0, .int .i64 a1] w fun e w' => ∃ v0_ : Value, e = .returned (.tuple #[v0_, .int .i64 r2, .int .i64 r3]) ∧ Kd.R (Kd.int .u8) 5 w' w.heap.size (fun _ => True) v0_ r1 ∧ Below w.heap.size w w' := by
 have HR0 := Aside0.mk hr0
 have HC0 := Aside0.mk hc0
 clear hr0 hc0
 have HB := Aside0.mk (Below.refl w.heap.size w)
 have H : (mezzotintref04_Hex.l0 k l0 ([] : List Int) (-1) (wrap64 (a1 + 1))) = some (r1, r2, r3) := h
 clear h
 have H' := Aside0.mk H
 clear H
 go_enter Tryd.func53, Tryd.ntmps53
 go_wp2
 go_loopg [7, 8, 9] k (fun kq v7 v8 v9 w' => ∃ (x7_1 : List Int) (x8_1 : Int) (x9_1 : Int), v8 = .int .i64 x8_1 ∧ v9 = .int .i64 x9_1 ∧ Aside0 (mezzotintref04_Hex.l0 kq l0 x7_1 x8_1 x9_1 = some (r1, r2, r3)) ∧ Aside0 (kq ≤ k) ∧ Aside0 (Kd.R (Kd.int .u8) 5 w' w.heap.size (fun _ => True) v7 x7_1) ∧ Aside0 (Below w.heap.size w w'))
 case atStart => exact ⟨(([] : List Int)), ((-1)), (wrap64 (a1 + 1)), (by first | rfl | (simp; done) | (simp [*]; done)), (by first | rfl | (simp; done) | (simp [*]; done)), H', ⟨Nat.le_refl _⟩, ⟨by first | exact Kd.R_nil _ _ _ _ _ | exact Kd.N_nil _ _ _ _ _ | exact Kd.V_nil _ _ _ _ _ | exact Kd.Q_nil _ _ _ _ _ | exact Kd.S_nil _ _ _ _ _⟩, ⟨by repeat (first | (with_reducible first | exact HB.out | apply below_alloc | apply pw_below_drewN | apply below_drew1) | exact HB.out)⟩⟩
 case round =>
  clear H'
  try clear p2
  obtain ⟨x7_1, x8_1, x9_1, rfl, rfl, HA, HK1, HO_7, HB⟩ := hrel
  cases gk with
  | zero => exact absurd HA.out (by simp [mezzotintref04_Hex.l0])
  | succ k1 =>
   have H := HA.out
   clear HA
   simp only [mezzotintref04_Hex.l0] at H
   by_cases c3 : x9_1 < (l0.length : Int)
   ·rw [if_pos c3] at H
    have c3b0 : decide (x9_1 < (l0.length : Int)) = true := decide_eq_true c3
    clear c3
    by_cases c4 : 0 ≤ x9_1
    ·rw [if_pos c4] at H
     have c4b0 : decide (0 ≤ x9_1) = true := decide_eq_true c4
     clear c4
     replace H := Option.bind_eq_some_iff.mp H
     obtain ⟨t149, A50, H⟩ := H
     replace H : (if t149 = true then (mezzotintref04_Hex.l0 k1 l0 x7_1 x8_1 (wrap64 (x9_1 + 1))) else (if (rd l0 x9_1) = 62 then (if x8_1 ≥ 0 then (if x7_1.length < 140737488355328 then (some ((x7_1 ++ [(wrap64 (x8_1 * 16)) % 256]), wrap64 (x9_1 + 1), 0)) else (none)) else (some (x7_1, wrap64 (x9_1 + 1), 0))) else ((mezzotintref01_Hex.f k1 (rd l0 x9_1)).bind fun t155 => (if t155 > 15 then (some (([] : List Int), 0, 14)) else (if x8_1 < 0 then (mezzotintref04_Hex.l0 k1 l0 x7_1 t155 (wrap64 (x9_1 + 1))) else (if x7_1.length < 140737488355328 then (mezzotintref04_Hex.l0 k1 l0 (x7_1 ++ [(wrap64 ((wrap64 (x8_1 * 16)) + t155)) % 256]) (-1) (wrap64 (x9_1 + 1))) else (none))))))) = some (r1, r2, r3) := H
     have A5 := Aside0.mk A50
     clear A50
     by_cases c6 : t149 = true
     ·subst c6
      have H1 : (mezzotintref04_Hex.l0 k1 l0 x7_1 x8_1 (wrap64 (x9_1 + 1))) = some (r1, r2, r3) := by rw [if_pos rfl] at H; exact H
      clear H
      have H := H1
      clear H1
      have H' := Aside0.mk H
      clear H
      have p148 : 0 ≤ (x9_1 : Int) := of_decide_eq_true (by first | (with_reducible assumption) | assumption)
      have q148 : x9_1 < (l0.length : Int) := of_decide_eq_true (by first | (with_reducible assumption) | assumption)
      obtain ⟨ad148, e148, hx148_0⟩ := Kd.at_int HR0.out x9_1 p148 q148
      cases e148
      replace hx148_0 := (HB.out.cell (World.block_lt_of_cell? w _ hx148_0)).trans hx148_0
      replace p148 := eq_true p148
      replace q148 := eq_true q148
      go_wp2_with (first | ((with_reducible refine gate_callee (f := 82) rfl ?_); refine goesL_ (some 23) rfl rfl Tryd.func82 (by kernel_rfl) rfl #[.int .u8 (rd l0 x9_1)] rfl (by (try simp only [List.map_toArray, List.map_cons, List.map_nil]); first | done | rfl | (simp only [List.length_drop, List.length_take]; rfl)) ?_; (with_reducible refine (mezzotintref04_Blank.calls (rd l0 x9_1) true _ A5.out).mono ?_); rintro e w' ⟨rfl, ⟨nd, rfl⟩⟩; refine ⟨_, rfl, ?_⟩))
      go_roundg k1
      case measure => have := HK1.out; omega
      case rel => exact ⟨(x7_1), (x8_1), (wrap64 (x9_1 + 1)), (by first | rfl | (simp; done) | (simp [*]; done)), (by first | rfl | (simp; done) | (simp [*]; done)), H', ⟨by have := HK1.out; omega⟩, ⟨by (with_reducible repeat (first | apply Kd.R_alloc | apply Kd.R_drewN | apply Kd.R_drew)); exact HO_7.out⟩, ⟨by repeat (first | (with_reducible first | exact HB.out | apply below_alloc | apply pw_below_drewN | apply below_drew1) | exact HB.out)⟩⟩
     ·replace c6 := Bool.eq_false_iff.mpr c6
      subst c6
      have H1 : (if (rd l0 x9_1) = 62 then (if x8_1 ≥ 0 then (if x7_1.length < 140737488355328 then (some ((x7_1 ++ [(wrap64 (x8_1 * 16)) % 256]), wrap64 (x9_1 + 1), 0)) else (none)) else (some (x7_1, wrap64 (x9_1 + 1), 0))) else ((mezzotintref01_Hex.f k1 (rd l0 x9_1)).bind fun t155 => (if t155 > 15 then (some (([] : List Int), 0, 14)) else (if x8_1 < 0 then (mezzotintref04_Hex.l0 k1 l0 x7_1 t155 (wrap64 (x9_1 + 1))) else (if x7_1.length < 140737488355328 then (mezzotintref04_Hex.l0 k1 l0 (x7_1 ++ [(wrap64 ((wrap64 (x8_1 * 16)) + t155)) % 256]) (-1) (wrap64 (x9_1 + 1))) else (none)))))) = some (r1, r2, r3) := by rw [if_neg (show ¬ (false = true) by decide)] at H; exact H
      clear H
      have H := H1
      clear H1
      by_cases c7 : (rd l0 x9_1) = 62
      ·rw [if_pos c7] at H
       have c7b0 : ((rd l0 x9_1) == 62) = true := beq_iff_eq.mpr c7
       have c7b1 : ((rd l0 x9_1) != 62) = false := bne_eq_false_iff_eq.mpr c7
       clear c7
       by_cases c8 : x8_1 ≥ 0
       ·rw [if_pos c8] at H
        have c8b0 : decide (0 ≤ x8_1) = true := decide_eq_true c8
        clear c8
        by_cases c9 : x7_1.length < 140737488355328
        ·rw [if_pos c9] at H
         have LMc9 := Aside0.mk c9
         clear c9
         obtain ⟨y151, hy151⟩ : ∃ y_ : List Int, y_ = (x7_1 ++ [(wrap64 (x8_1 * 16)) % 256]) := ⟨_, rfl⟩
         replace H : (some (y151, wrap64 (x9_1 + 1), 0)) = some (r1, r2, r3) := by first | (rw [hy151]; with_reducible exact H) | (have H2_ := (Option.bind_some _ _).symm.trans H; rw [hy151]; with_reducible exact H2_) | (have H2_ := (Option.bind_some _ _).symm.trans H; with_reducible exact H2_) | with_reducible exact H | (rw [hy151]; exact H) | exact H
         have Ny151 := Aside0.mk hy151
         clear hy151
         simp only [Option.some.injEq, Prod.mk.injEq] at H
         obtain ⟨rfl, rfl, rfl⟩ := H
         have p148 : 0 ≤ (x9_1 : Int) := of_decide_eq_true (by first | (with_reducible assumption) | assumption)
         have q148 : x9_1 < (l0.length : Int) := of_decide_eq_true (by first | (with_reducible assumption) | assumption)
         obtain ⟨ad148, e148, hx148_0⟩ := Kd.at_int HR0.out x9_1 p148 q148
         cases e148
         replace hx148_0 := (HB.out.cell (World.block_lt_of_cell? w _ hx148_0)).trans hx148_0
         replace p148 := eq_true p148
         replace q148 := eq_true q148
         go_wp2_with (first | ((with_reducible refine gate_callee (f := 82) rfl ?_); refine goesL_ (some 23) rfl rfl Tryd.func82 (by kernel_rfl) rfl #[.int .u8 (rd l0 x9_1)] rfl (by (try simp only [List.map_toArray, List.map_cons, List.map_nil]); first | done | rfl | (simp only [List.length_drop, List.length_take]; rfl)) ?_; (with_reducible refine (mezzotintref04_Blank.calls (rd l0 x9_1) false _ A5.out).mono ?_); rintro e w' ⟨rfl, ⟨nd, rfl⟩⟩; refine ⟨_, rfl, ?_⟩; have p150 : 0 ≤ (x9_1 : Int) := of_decide_eq_true (by first | (with_reducible assumption) | assumption); have q150 : x9_1 < (l0.length : Int) := of_decide_eq_true (by first | (with_reducible assumption) | assumption); obtain ⟨ad150, e150, hx150_0⟩ := Kd.at_int HR0.out x9_1 p150 q150; obtain rfl : ad148 = ad150 := (by injection e150); replace hx150_0 := (HB.out.cell (World.block_lt_of_cell? w _ hx150_0)).trans hx150_0; replace p150 := eq_true p150; replace q150 := eq_true q150) | ((with_reducible refine gate_builtin (b := .append) (xs := #[.tmp 31, .tmp 35]) rfl ?_); at_builtin; refine Kd.R_append (Kd.int .u8) (w0 := w) w.heap.size rfl (.tmp 31) (.tmp 35) 32 5 (.int .u8 0) 1 rfl Tryd.underlying32 info5 rfl (by decide) (by omega) u7 x7_1 ((wrap64 (x8_1 * 16)) % 256) [.int .u8 ((wrap64 (x8_1 * 16)) % 256)] (fun _ => True) (fun _ => False) rfl rfl ?aP (fun _ hk => hk.elim) ?aF ?aO ?aB ?aS ?aL ?_; (case aP => exact rfl); (case aB => exact (by repeat (first | (with_reducible first | exact HB.out | apply below_alloc | apply pw_below_drewN | apply below_drew1) | exact HB.out))); (case aF => exact (fun _ _ => trivial)); (case aO => exact (by (with_reducible repeat (first | apply Kd.R_alloc | apply Kd.R_drewN | apply Kd.R_drew)); exact HO_7.out)); (case aS => exact (below_size (by repeat (first | (with_reducible first | exact HB.out | apply below_alloc | apply pw_below_drewN | apply below_drew1) | exact HB.out)))); (case aL => have := LMc9.out; omega); intro v152 w10 ho hb hg hat; rw [← Ny151.out] at ho; have n0_ := Aside0.mk (hb); have n1_ := Aside0.mk (ho); clear HB; clear HO_7; have HB := n0_; have HO153 := n1_; clear n0_ n1_; clear ho hb hg hat))
         go_ret3
         exact ⟨_, by first | rfl | (simp [errW_none, errW_some] <;> rfl) | (simp [*, errW_none, errW_some] <;> rfl), by (with_reducible repeat (first | apply Kd.R_alloc | apply Kd.R_drewN | apply Kd.R_drew)); exact HO153.out, by repeat (first | (with_reducible first | exact HB.out | apply below_alloc | apply pw_below_drewN | apply below_drew1) | exact HB.out)⟩
        ·rw [if_neg c9] at H
         exact absurd H (by simp)
       ·rw [if_neg c8] at H
        have c8b0 : decide (0 ≤ x8_1) = false := decide_eq_false c8
        clear c8
        simp only [Option.some.injEq, Prod.mk.injEq] at H
        obtain ⟨rfl, rfl, rfl⟩ := H
        have p148 : 0 ≤ (x9_1 : Int) := of_decide_eq_true (by first | (with_reducible assumption) | assumption)
        have q148 : x9_1 < (l0.length : Int) := of_decide_eq_true (by first | (with_reducible assumption) | assumption)
        obtain ⟨ad148, e148, hx148_0⟩ := Kd.at_int HR0.out x9_1 p148 q148
        cases e148
        replace hx148_0 := (HB.out.cell (World.block_lt_of_cell? w _ hx148_0)).trans hx148_0
        replace p148 := eq_true p148
        replace q148 := eq_true q148
        go_wp2_with (first | ((with_reducible refine gate_callee (f := 82) rfl ?_); refine goesL_ (some 23) rfl rfl Tryd.func82 (by kernel_rfl) rfl #[.int .u8 (rd l0 x9_1)] rfl (by (try simp only [List.map_toArray, List.map_cons, List.map_nil]); first | done | rfl | (simp only [List.length_drop, List.length_take]; rfl)) ?_; (with_reducible refine (mezzotintref04_Blank.calls (rd l0 x9_1) false _ A5.out).mono ?_); rintro e w' ⟨rfl, ⟨nd, rfl⟩⟩; refine ⟨_, rfl, ?_⟩; have p150 : 0 ≤ (x9_1 : Int) := of_decide_eq_true (by first | (with_reducible assumption) | assumption); have q150 : x9_1 < (l0.length : Int) := of_decide_eq_true (by first | (with_reducible assumption) | assumption); obtain ⟨ad150, e150, hx150_0⟩ := Kd.at_int HR0.out x9_1 p150 q150; obtain rfl : ad148 = ad150 := (by injection e150); replace hx150_0 := (HB.out.cell (World.block_lt_of_cell? w _ hx150_0)).trans hx150_0; replace p150 := eq_true p150; replace q150 := eq_true q150))
        go_ret3
        exact ⟨_, by first | rfl | (simp [errW_none, errW_some] <;> rfl) | (simp [*, errW_none, errW_some] <;> rfl), by (with_reducible repeat (first | apply Kd.R_alloc | apply Kd.R_drewN | apply Kd.R_drew)); exact HO_7.out, by repeat (first | (with_reducible first | exact HB.out | apply below_alloc | apply pw_below_drewN | apply below_drew1) | exact HB.out)⟩
      ·rw [if_neg c7] at H
       have c7b0 : ((rd l0 x9_1) == 62) = false := beq_eq_false_iff_ne.mpr c7
       have c7b1 : ((rd l0 x9_1) != 62) = true := bne_iff_ne.mpr c7
       replace H := Option.bind_eq_some_iff.mp H
       obtain ⟨t155, A110, H⟩ := H
       replace H : (if t155 > 15 then (some (([] : List Int), 0, 14)) else (if x8_1 < 0 then (mezzotintref04_Hex.l0 k1 l0 x7_1 t155 (wrap64 (x9_1 + 1))) else (if x7_1.length < 140737488355328 then (mezzotintref04_Hex.l0 k1 l0 (x7_1 ++ [(wrap64 ((wrap64 (x8_1 * 16)) + t155)) % 256]) (-1) (wrap64 (x9_1 + 1))) else (none)))) = some (r1, r2, r3) := H
       have A11 := Aside0.mk A110
       clear A110
       by_cases c12 : t155 > 15
       ·rw [if_pos c12] at H
        have c12b0 : decide (15 < t155) = true := decide_eq_true c12
        clear c12
        simp only [Option.some.injEq, Prod.mk.injEq] at H
        obtain ⟨rfl, rfl, rfl⟩ := H
        have p148 : 0 ≤ (x9_1 : Int) := of_decide_eq_true (by first | (with_reducible assumption) | assumption)
        have q148 : x9_1 < (l0.length : Int) := of_decide_eq_true (by first | (with_reducible assumption) | assumption)
        obtain ⟨ad148, e148, hx148_0⟩ := Kd.at_int HR0.out x9_1 p148 q148
        cases e148
        replace hx148_0 := (HB.out.cell (World.block_lt_of_cell? w _ hx148_0)).trans hx148_0
        replace p148 := eq_true p148
        replace q148 := eq_true q148
        go_wp2_with (first | ((with_reducible refine gate_callee (f := 82) rfl ?_); refine goesL_ (some 23) rfl rfl Tryd.func82 (by kernel_rfl) rfl #[.int .u8 (rd l0 x9_1)] rfl (by (try simp only [List.map_toArray, List.map_cons, List.map_nil]); first | done | rfl | (simp only [List.length_drop, List.length_take]; rfl)) ?_; (with_reducible refine (mezzotintref04_Blank.calls (rd l0 x9_1) false _ A5.out).mono ?_); rintro e w' ⟨rfl, ⟨nd, rfl⟩⟩; refine ⟨_, rfl, ?_⟩; have p150 : 0 ≤ (x9_1 : Int) := of_decide_eq_true (by first | (with_reducible assumption) | assumption); have q150 : x9_1 < (l0.length : Int) := of_decide_eq_true (by first | (with_reducible assumption) | assumption); obtain ⟨ad150, e150, hx150_0⟩ := Kd.at_int HR0.out x9_1 p150 q150; obtain rfl : ad148 = ad150 := (by injection e150); replace hx150_0 := (HB.out.cell (World.block_lt_of_cell? w _ hx150_0)).trans hx150_0; replace p150 := eq_true p150; replace q150 := eq_true q150; have p154 : 0 ≤ (x9_1 : Int) := of_decide_eq_true (by first | (with_reducible assumption) | assumption); have q154 : x9_1 < (l0.length : Int) := of_decide_eq_true (by first | (with_reducible assumption) | assumption); obtain ⟨ad154, e154, hx154_0⟩ := Kd.at_int HR0.out x9_1 p154 q154; obtain rfl : ad148 = ad154 := (by injection e154); replace hx154_0 := (HB.out.cell (World.block_lt_of_cell? w _ hx154_0)).trans hx154_0; replace p154 := eq_true p154; replace q154 := eq_true q154) | ((with_reducible refine gate_callee (f := 44) rfl ?_); refine goesL_ (some 44) rfl rfl Tryd.func44 (by kernel_rfl) rfl #[.int .u8 (rd l0 x9_1)] rfl (by (try simp only [List.map_toArray, List.map_cons, List.map_nil]); first | done | rfl | (simp only [List.length_drop, List.length_take]; rfl)) ?_; (with_reducible refine (mezzotintref01_Hex.calls k1 (rd l0 x9_1) t155 _ A11.out).mono ?_); rintro e w' ⟨rfl, ⟨nd, rfl⟩⟩; refine ⟨_, rfl, ?_⟩))
        go_ret3
        exact ⟨_, by first | rfl | (simp [errW_none, errW_some] <;> rfl) | (simp [*, errW_none, errW_some] <;> rfl), by first | exact Kd.R_nil _ _ _ _ _ | exact Kd.N_nil _ _ _ _ _ | exact Kd.V_nil _ _ _ _ _ | exact Kd.Q_nil _ _ _ _ _ | exact Kd.S_nil _ _ _ _ _, by repeat (first | (with_reducible first | exact HB.out | apply below_alloc | apply pw_below_drewN | apply below_drew1) | exact HB.out)⟩
       ·rw [if_neg c12] at H
        have c12b0 : decide (15 < t155) = false := decide_eq_false c12
        clear c12
        by_cases c13 : x8_1 < 0
        ·rw [if_pos c13] at H
         have c13b0 : decide (x8_1 < 0) = true := decide_eq_true c13
         clear c13
         have H' := Aside0.mk H
         clear H
         have p148 : 0 ≤ (x9_1 : Int) := of_decide_eq_true (by first | (with_reducible assumption) | assumption)
         have q148 : x9_1 < (l0.length : Int) := of_decide_eq_true (by first | (with_reducible assumption) | assumption)
         obtain ⟨ad148, e148, hx148_0⟩ := Kd.at_int HR0.out x9_1 p148 q148
         cases e148
         replace hx148_0 := (HB.out.cell (World.block_lt_of_cell? w _ hx148_0)).trans hx148_0
         replace p148 := eq_true p148
         replace q148 := eq_true q148
         go_wp2_with (first | ((with_reducible refine gate_callee (f := 82) rfl ?_); refine goesL_ (some 23) rfl rfl Tryd.func82 (by kernel_rfl) rfl #[.int .u8 (rd l0 x9_1)] rfl (by (try simp only [List.map_toArray, List.map_cons, List.map_nil]); first | done | rfl | (simp only [List.length_drop, List.length_take]; rfl)) ?_; (with_reducible refine (mezzotintref04_Blank.calls (rd l0 x9_1) false _ A5.out).mono ?_); rintro e w' ⟨rfl, ⟨nd, rfl⟩⟩; refine ⟨_, rfl, ?_⟩; have p150 : 0 ≤ (x9_1 : Int) := of_decide_eq_true (by first | (with_reducible assumption) | assumption); have q150 : x9_1 < (l0.length : Int) := of_decide_eq_true (by first | (with_reducible assumption) | assumption); obtain ⟨ad150, e150, hx150_0⟩ := Kd.at_int HR0.out x9_1 p150 q150; obtain rfl : ad148 = ad150 := (by injection e150); replace hx150_0 := (HB.out.cell (World.block_lt_of_cell? w _ hx150_0)).trans hx150_0; replace p150 := eq_true p150; replace q150 := eq_true q150; have p154 : 0 ≤ (x9_1 : Int) := of_decide_eq_true (by first | (with_reducible assumption) | assumption); have q154 : x9_1 < (l0.length : Int) := of_decide_eq_true (by first | (with_reducible assumption) | assumption); obtain ⟨ad154, e154, hx154_0⟩ := Kd.at_int HR0.out x9_1 p154 q154; obtain rfl : ad148 = ad154 := (by injection e154); replace hx154_0 := (HB.out.cell (World.block_lt_of_cell? w _ hx154_0)).trans hx154_0; replace p154 := eq_true p154; replace q154 := eq_true q154) | ((with_reducible refine gate_callee (f := 44) rfl ?_); refine goesL_ (some 44) rfl rfl Tryd.func44 (by kernel_rfl) rfl #[.int .u8 (rd l0 x9_1)] rfl (by (try simp only [List.map_toArray, List.map_cons, List.map_nil]); first | done | rfl | (simp only [List.length_drop, List.length_take]; rfl)) ?_; (with_reducible refine (mezzotintref01_Hex.calls k1 (rd l0 x9_1) t155 _ A11.out).mono ?_); rintro e w' ⟨rfl, ⟨nd, rfl⟩⟩; refine ⟨_, rfl, ?_⟩))
         go_roundg k1
         case measure => have := HK1.out; omega
         case rel => exact ⟨(x7_1), (t155), (wrap64 (x9_1 + 1)), (by first | rfl | (simp; done) | (simp [*]; done)), (by first | rfl | (simp; done) | (simp [*]; done)), H', ⟨by have := HK1.out; omega⟩, ⟨by (with_reducible repeat (first | apply Kd.R_alloc | apply Kd.R_drewN | apply Kd.R_drew)); exact HO_7.out⟩, ⟨by repeat (first | (with_reducible first | exact HB.out | apply below_alloc | apply pw_below_drewN | apply below_drew1) | exact HB.out)⟩⟩
        ·rw [if_neg c13] at H
         have c13b0 : decide (x8_1 < 0) = false := decide_eq_false c13
         clear c13
         by_cases c14 : x7_1.length < 140737488355328
         ·rw [if_pos c14] at H
          have LMc14 := Aside0.mk c14
          clear c14
          obtain ⟨y156, hy156⟩ : ∃ y_ : List Int, y_ = (x7_1 ++ [(wrap64 ((wrap64 (x8_1 * 16)) + t155)) % 256]) := ⟨_, rfl⟩
          replace H : (mezzotintref04_Hex.l0 k1 l0 y156 (-1) (wrap64 (x9_1 + 1))) = some (r1, r2, r3) := by first | (rw [hy156]; with_reducible exact H) | (have H2_ := (Option.bind_some _ _).symm.trans H; rw [hy156]; with_reducible exact H2_) | (have H2_ := (Option.bind_some _ _).symm.trans H; with_reducible exact H2_) | with_reducible exact H | (rw [hy156]; exact H) | exact H
          have Ny156 := Aside0.mk hy156
          clear hy156
          have H' := Aside0.mk H
          clear H
          have p148 : 0 ≤ (x9_1 : Int) := of_decide_eq_true (by first | (with_reducible assumption) | assumption)
          have q148 : x9_1 < (l0.length : Int) := of_decide_eq_true (by first | (with_reducible assumption) | assumption)
          obtain ⟨ad148, e148, hx148_0⟩ := Kd.at_int HR0.out x9_1 p148 q148
          cases e148
          replace hx148_0 := (HB.out.cell (World.block_lt_of_cell? w _ hx148_0)).trans hx148_0
          replace p148 := eq_true p148
          replace q148 := eq_true q148
          go_wp2_with (first | ((with_reducible refine gate_callee (f := 82) rfl ?_); refine goesL_ (some 23) rfl rfl Tryd.func82 (by kernel_rfl) rfl #[.int .u8 (rd l0 x9_1)] rfl (by (try simp only [List.map_toArray, List.map_cons, List.map_nil]); first | done | rfl | (simp only [List.length_drop, List.length_take]; rfl)) ?_; (with_reducible refine (mezzotintref04_Blank.calls (rd l0 x9_1) false _ A5.out).mono ?_); rintro e w' ⟨rfl, ⟨nd, rfl⟩⟩; refine ⟨_, rfl, ?_⟩; have p150 : 0 ≤ (x9_1 : Int) := of_decide_eq_true (by first | (with_reducible assumption) | assumption); have q150 : x9_1 < (l0.length : Int) := of_decide_eq_true (by first | (with_reducible assumption) | assumption); obtain ⟨ad150, e150, hx150_0⟩ := Kd.at_int HR0.out x9_1 p150 q150; obtain rfl : ad148 = ad150 := (by injection e150); replace hx150_0 := (HB.out.cell (World.block_lt_of_cell? w _ hx150_0)).trans hx150_0; replace p150 := eq_true p150; replace q150 := eq_true q150; have p154 : 0 ≤ (x9_1 : Int) := of_decide_eq_true (by first | (with_reducible assumption) | assumption); have q154 : x9_1 < (l0.length : Int) := of_decide_eq_true (by first | (with_reducible assumption) | assumption); obtain ⟨ad154, e154, hx154_0⟩ := Kd.at_int HR0.out x9_1 p154 q154; obtain rfl : ad148 = ad154 := (by injection e154); replace hx154_0 := (HB.out.cell (World.block_lt_of_cell? w _ hx154_0)).trans hx154_0; replace p154 := eq_true p154; replace q154 := eq_true q154) | ((with_reducible refine gate_callee (f := 44) rfl ?_); refine goesL_ (some 44) rfl rfl Tryd.func44 (by kernel_rfl) rfl #[.int .u8 (rd l0 x9_1)] rfl (by (try simp only [List.map_toArray, List.map_cons, List.map_nil]); first | done | rfl | (simp only [List.length_drop, List.length_take]; rfl)) ?_; (with_reducible refine (mezzotintref01_Hex.calls k1 (rd l0 x9_1) t155 _ A11.out).mono ?_); rintro e w' ⟨rfl, ⟨nd, rfl⟩⟩; refine ⟨_, rfl, ?_⟩) | ((with_reducible refine gate_builtin (b := .append) (xs := #[.tmp 50, .tmp 56]) rfl ?_); at_builtin; refine Kd.R_append (Kd.int .u8) (w0 := w) w.heap.size rfl (.tmp 50) (.tmp 56) 32 5 (.int .u8 0) 1 rfl Tryd.underlying32 info5 rfl (by decide) (by omega) u7 x7_1 ((wrap64 ((wrap64 (x8_1 * 16)) + t155)) % 256) [.int .u8 ((wrap64 ((wrap64 (x8_1 * 16)) + t155)) % 256)] (fun _ => True) (fun _ => False) rfl rfl ?aP (fun _ hk => hk.elim) ?aF ?aO ?aB ?aS ?aL ?_; (case aP => exact rfl); (case aB => exact (by repeat (first | (with_reducible first | exact HB.out | apply below_alloc | apply pw_below_drewN | apply below_drew1) | exact HB.out))); (case aF => exact (fun _ _ => trivial)); (case aO => exact (by (with_reducible repeat (first | apply Kd.R_alloc | apply Kd.R_drewN | apply Kd.R_drew)); exact HO_7.out)); (case aS => exact (below_size (by repeat (first | (with_reducible first | exact HB.out | apply below_alloc | apply pw_below_drewN | apply below_drew1) | exact HB.out)))); (case aL => have := LMc14.out; omega); intro v157 w15 ho hb hg hat; rw [← Ny156.out] at ho; have n0_ := Aside0.mk (hb); have n1_ := Aside0.mk (ho); clear HB; clear HO_7; have HB := n0_; have HO158 := n1_; clear n0_ n1_; clear ho hb hg hat))
          go_roundg k1
          case measure => have := HK1.out; omega
          case rel => exact ⟨(y156), ((-1)), (wrap64 (x9_1 + 1)), (by first | rfl | (simp; done) | (simp [*]; done)), (by first | rfl | (simp; done) | (simp [*]; done)), H', ⟨by have := HK1.out; omega⟩, ⟨by (with_reducible repeat (first | apply Kd.R_alloc | apply Kd.R_drewN | apply Kd.R_drew)); exact HO158.out⟩, ⟨by repeat (first | (with_reducible first | exact HB.out | apply below_alloc | apply pw_below_drewN | apply below_drew1) | exact HB.out)⟩⟩
         ·rw [if_neg c14] at H
          exact absurd H (by simp)
    ·rw [if_neg c4] at H
     exact absurd H (by simp)
   ·rw [if_neg c3] at H
    have c3b0 : decide (x9_1 < (l0.length : Int)) = false := decide_eq_false c3
    clear c3
    simp only [Option.some.injEq, Prod.mk.injEq] at H
    obtain ⟨rfl, rfl, rfl⟩ := H
    go_wp2
    go_ret3
    exact ⟨_, by first | rfl | (simp [errW_none, errW_some] <;> rfl) | (simp [*, errW_none, errW_some] <;> rfl), by first | exact Kd.R_nil _ _ _ _ _ | exact Kd.N_nil _ _ _ _ _ | exact Kd.V_nil _ _ _ _ _ | exact Kd.Q_nil _ _ _ _ _ | exact Kd.S_nil _ _ _ _ _, by repeat (first | (with_reducible first | exact HB.out | apply below_alloc | apply pw_below_drewN | apply below_drew1) | exact HB.out)⟩

-- given: function 54 (mezzotintref04_name)

/-! ### mezzotintref04_Delimiter: function 106 -/
def mezzotintref04_Delimiter.f (a0 : Int) : Option (Bool) := if a0 = 40 then (some true) else (if a0 = 41 then (some true) else (if a0 = 60 then (some true) else (if a0 = 62 then (some true) else (if a0 = 91 then (some true) else (if a0 = 93 then (some true) else (if a0 = 123 then (some true) else (if a0 = 125 then (some true) else (if a0 = 47 then (some true) else (if a0 = 37 then (some true) else (some false))))))))))
set_option maxHeartbeats 8000000 in
set_option maxRecDepth 100000 in
theorem mezzotintref04_Delimiter.calls (a0 : Int) (r : Bool) (w : World) (h : mezzotintref04_Delimiter.f a0 = some r) :
  Calls Tryd.prog 106 #[.int .u8 a0] w fun e w' => e = .returned (.bool r) ∧ Drawn0 w w' := by
 have H : (if a0 = 40 then (some true) else (if a0 = 41 then (some true) else (if a0 = 60 then (some true) else (if a0 = 62 then (some true) else (if a0 = 91 then (some true) else (if a0 = 93 then (some true) else (if a0 = 123 then (some true) else (if a0 = 125 then (some true) else (if a0 = 47 then (some true) else (if a0 = 37 then (some true) else (some false))))))))))) = some r := h
 clear h
 by_cases c2 : a0 = 40
 ·rw [if_pos c2] at H
  have c2b0 : (a0 == 40) = true := beq_iff_eq.mpr c2
  have c2b1 : (a0 != 40) = false := bne_eq_false_iff_eq.mpr c2
  clear c2
  obtain rfl := Option.some.inj H
  go_enter Tryd.func106, Tryd.ntmps106
  go_wp2
  go_ret
  exact ⟨by first | rfl | (simp; done) | (simp [*]; done), by repeat (first | exact Drawn0.refl _ | apply Drawn0.step)⟩
 ·rw [if_neg c2] at H
  have c2b0 : (a0 == 40) = false := beq_eq_false_iff_ne.mpr c2
  have c2b1 : (a0 != 40) = true := bne_iff_ne.mpr c2
  by_cases c3 : a0 = 41
  ·rw [if_pos c3] at H
   have c3b0 : (a0 == 41) = true := beq_iff_eq.mpr c3
   have c3b1 : (a0 != 41) = false := bne_eq_false_iff_eq.mpr c3
   clear c3
   obtain rfl := Option.some.inj H
   go_enter Tryd.func106, Tryd.ntmps106
   go_wp2
   go_ret
   exact ⟨by first | rfl | (simp; done) | (simp [*]; done), by repeat (first | exact Drawn0.refl _ | apply Drawn0.step)⟩
  ·rw [if_neg c3] at H
   have c3b0 : (a0 == 41) = false := beq_eq_false_iff_ne.mpr c3
   have c3b1 : (a0 != 41) = true := bne_iff_ne.mpr c3
   by_cases c4 : a0 = 60
   ·rw [if_pos c4] at H
    have c4b0 : (a0 == 60) = true := beq_iff_eq.mpr c4
    have c4b1 : (a0 != 60) = false := bne_eq_false_iff_eq.mpr c4
    clear c4
    obtain rfl := Option.some.inj H
    go_enter Tryd.func106, Tryd.ntmps106
    go_wp2
    go_ret
    exact ⟨by first | rfl | (simp; done) | (simp [*]; done), by repeat (first | exact Drawn0.refl _ | apply Drawn0.step)⟩
   ·rw [if_neg c4] at H
    have c4b0 : (a0 == 60) = false := beq_eq_false_iff_ne.mpr c4
    have c4b1 : (a0 != 60) = true := bne_iff_ne.mpr c4
    by_cases c5 : a0 = 62
    ·rw [if_pos c5] at H
     have c5b0 : (a0 == 62) = true := beq_iff_eq.mpr c5
     have c5b1 : (a0 != 62) = false := bne_eq_false_iff_eq.mpr c5
     clear c5
     obtain rfl := Option.some.inj H
     go_enter Tryd.func106, Tryd.ntmps106
     go_wp2
     go_ret
     exact ⟨by first | rfl | (simp; done) | (simp [*]; done), by repeat (first | exact Drawn0.refl _ | apply Drawn0.step)⟩
    ·rw [if_neg c5] at H
     have c5b0 : (a0 == 62) = false := beq_eq_false_iff_ne.mpr c5
     have c5b1 : (a0 != 62) = true := bne_iff_ne.mpr c5
     by_cases c6 : a0 = 91
     ·rw [if_pos c6] at H
      have c6b0 : (a0 == 91) = true := beq_iff_eq.mpr c6
      have c6b1 : (a0 != 91) = false := bne_eq_false_iff_eq.mpr c6
      clear c6
      obtain rfl := Option.some.inj H
      go_enter Tryd.func106, Tryd.ntmps106
      go_wp2
      go_ret
      exact ⟨by first | rfl | (simp; done) | (simp [*]; done), by repeat (first | exact Drawn0.refl _ | apply Drawn0.step)⟩
     ·rw [if_neg c6] at H
      have c6b0 : (a0 == 91) = false := beq_eq_false_iff_ne.mpr c6
      have c6b1 : (a0 != 91) = true := bne_iff_ne.mpr c6
      by_cases c7 : a0 = 93
      ·rw [if_pos c7] at H
       have c7b0 : (a0 == 93) = true := beq_iff_eq.mpr c7
       have c7b1 : (a0 != 93) = false := bne_eq_false_iff_eq.mpr c7
       clear c7
       obtain rfl := Option.some.inj H
       go_enter Tryd.func106, Tryd.ntmps106
       go_wp2
       go_ret
       exact ⟨by first | rfl | (simp; done) | (simp [*]; done), by repeat (first | exact Drawn0.refl _ | apply Drawn0.step)⟩
      ·rw [if_neg c7] at H
       have c7b0 : (a0 == 93) = false := beq_eq_false_iff_ne.mpr c7
       have c7b1 : (a0 != 93) = true := bne_iff_ne.mpr c7
       by_cases c8 : a0 = 123
       ·rw [if_pos c8] at H
        have c8b0 : (a0 == 123) = true := beq_iff_eq.mpr c8
        have c8b1 : (a0 != 123) = false := bne_eq_false_iff_eq.mpr c8
        clear c8
        obtain rfl := Option.some.inj H
        go_enter Tryd.func106, Tryd.ntmps106
        go_wp2
        go_ret
        exact ⟨by first | rfl | (simp; done) | (simp [*]; done), by repeat (first | exact Drawn0.refl _ | apply Drawn0.step)⟩
       ·rw [if_neg c8] at H
        have c8b0 : (a0 == 123) = false := beq_eq_false_iff_ne.mpr c8
        have c8b1 : (a0 != 123) = true := bne_iff_ne.mpr c8
        by_cases c9 : a0 = 125
        ·rw [if_pos c9] at H
         have c9b0 : (a0 == 125) = true := beq_iff_eq.mpr c9
         have c9b1 : (a0 != 125) = false := bne_eq_false_iff_eq.mpr c9
         clear c9
         obtain rfl := Option.some.inj H
         go_enter Tryd.func106, Tryd.ntmps106
         go_wp2
         go_ret
         exact ⟨by first | rfl | (simp; done) | (simp [*]; done), by repeat (first | exact Drawn0.refl _ | apply Drawn0.step)⟩
        ·rw [if_neg c9] at H
         have c9b0 : (a0 == 125) = false := beq_eq_false_iff_ne.mpr c9
         have c9b1 : (a0 != 125) = true := bne_iff_ne.mpr c9
         by_cases c10 : a0 = 47
         ·rw [if_pos c10] at H
          have c10b0 : (a0 == 47) = true := beq_iff_eq.mpr c10
          have c10b1 : (a0 != 47) = false := bne_eq_false_iff_eq.mpr c10
          clear c10
          obtain rfl := Option.some.inj H
          go_enter Tryd.func106, Tryd.ntmps106
          go_wp2
          go_ret
          exact ⟨by first | rfl | (simp; done) | (simp [*]; done), by repeat (first | exact Drawn0.refl _ | apply Drawn0.step)⟩
         ·rw [if_neg c10] at H
          have c10b0 : (a0 == 47) = false := beq_eq_false_iff_ne.mpr c10
          have c10b1 : (a0 != 47) = true := bne_iff_ne.mpr c10
          by_cases c11 : a0 = 37
          ·rw [if_pos c11] at H
           have c11b0 : (a0 == 37) = true := beq_iff_eq.mpr c11
           have c11b1 : (a0 != 37) = false := bne_eq_false_iff_eq.mpr c11
           clear c11
           obtain rfl := Option.some.inj H
           go_enter Tryd.func106, Tryd.ntmps106
           go_wp2
           go_ret
           exact ⟨by first | rfl | (simp; done) | (simp [*]; done), by repeat (first | exact Drawn0.refl _ | apply Drawn0.step)⟩
          ·rw [if_neg c11] at H
           have c11b0 : (a0 == 37) = false := beq_eq_false_iff_ne.mpr c11
           have c11b1 : (a0 != 37) = true := bne_iff_ne.mpr c11
           obtain rfl := Option.some.inj H
           go_enter Tryd.func106, Tryd.ntmps106
           go_wp2
           go_ret
           exact ⟨by first | rfl | (simp; done) | (simp [*]; done), by repeat (first | exact Drawn0.refl _ | apply Drawn0.step)⟩

/-! ### mezzotintref04_Regular: function 83 -/
def mezzotintref04_Regular.f (a0 : Int) : Option (Bool) := (mezzotintref04_Blank.f a0).bind fun t159 => (if t159 = true then (some false) else ((mezzotintref04_Delimiter.f a0).bind fun t160 => (some (!t160))))
set_option maxHeartbeats 8000000 in
set_option maxRecDepth 100000 in
theorem mezzotintref04_Regular.calls (a0 : Int) (r : Bool) (w : World) (h : mezzotintref04_Regular.f a0 = some r) :
  Calls Tryd.prog 83 #[.int .u8 a0] w fun e w' => e = .returned (.bool r) ∧ Drawn0 w w' := by
 have H : ((mezzotintref04_Blank.f a0).bind fun t159 => (if t159 = true then (some false) else ((mezzotintref04_Delimiter.f a0).bind fun t160 => (some (!t160))))) = some r := h
 clear h
 replace H := Option.bind_eq_some_iff.mp H
 obtain ⟨t159, A20, H⟩ := H
 replace H : (if t159 = true then (some false) else ((mezzotintref04_Delimiter.f a0).bind fun t160 => (some (!t160)))) = some r := H
 have A2 := Aside0.mk A20
 clear A20
 by_cases c3 : t159 = true
 ·subst c3
  have H1 : (some false) = some r := by rw [if_pos rfl] at H; exact H
  clear H
  have H := H1
  clear H1
  obtain rfl := Option.some.inj H
  go_enter Tryd.func83, Tryd.ntmps83
  go_wp2_with (first | ((with_reducible refine gate_callee (f := 82) rfl ?_); refine goesL_ (some 4) rfl rfl Tryd.func82 (by kernel_rfl) rfl #[.int .u8 a0] rfl (by (try simp only [List.map_toArray, List.map_cons, List.map_nil]); first | done | rfl | (simp only [List.length_drop, List.length_take]; rfl)) ?_; (with_reducible refine (mezzotintref04_Blank.calls a0 true _ A2.out).mono ?_); rintro e w' ⟨rfl, ⟨nd, rfl⟩⟩; refine ⟨_, rfl, ?_⟩))
  go_ret
  exact ⟨by first | rfl | (simp; done) | (simp [*]; done), by repeat (first | exact Drawn0.refl _ | apply Drawn0.step)⟩
 ·replace c3 := Bool.eq_false_iff.mpr c3
  subst c3
  have H1 : ((mezzotintref04_Delimiter.f a0).bind fun t160 => (some (!t160))) = some r := by rw [if_neg (show ¬ (false = true) by decide)] at H; exact H
  clear H
  have H := H1
  clear H1
  replace H := Option.bind_eq_some_iff.mp H
  obtain ⟨t160, A40, H⟩ := H
  replace H : (some (!t160)) = some r := H
  have A4 := Aside0.mk A40
  clear A40
  obtain rfl := Option.some.inj H
  go_enter Tryd.func83, Tryd.ntmps83
  go_wp2_with (first | ((with_reducible refine gate_callee (f := 82) rfl ?_); refine goesL_ (some 4) rfl rfl Tryd.func82 (by kernel_rfl) rfl #[.int .u8 a0] rfl (by (try simp only [List.map_toArray, List.map_cons, List.map_nil]); first | done | rfl | (simp only [List.length_drop, List.length_take]; rfl)) ?_; (with_reducible refine (mezzotintref04_Blank.calls a0 false _ A2.out).mono ?_); rintro e w' ⟨rfl, ⟨nd, rfl⟩⟩; refine ⟨_, rfl, ?_⟩) | (go_at_call 106; (with_reducible refine (mezzotintref04_Delimiter.calls a0 t160 _ A4.out).mono ?_); rintro e w' ⟨rfl, ⟨nd, rfl⟩⟩))
  go_ret
  exact ⟨by first | rfl | (simp; done) | (simp [*]; done), by repeat (first | exact Drawn0.refl _ | apply Drawn0.step)⟩

/-! ### mezzotintref04_Word: function 55 -/
def mezzotintref04_Word.l0 : Nat → List Int → Int → Option (Int)
 | 0, _, _ => none
 | k + 1, x0, x1 => if x1 < (x0.length : Int) then (if 0 ≤ x1 then ((mezzotintref04_Regular.f (rd x0 x1)).bind fun t162 => (if t162 = true then (mezzotintref04_Word.l0 k x0 (wrap64 (x1 + 1))) else (some x1))) else (none)) else (some x1)
def mezzotintref04_Word.f (k : Nat) (l0 : List Int) (a1 : Int) : Option (Int) := mezzotintref04_Word.l0 k l0 a1
set_option maxHeartbeats 8000000 in
set_option maxRecDepth 100000 in
theorem mezzotintref04_Word.calls (k : Nat) (A0 : Option Addr) (c0 : Nat) (l0 : List Int) (a1 : Int) (r : Int) (w : World) (hr0 : Kd.C (Kd.int .u8) w A0 l0.length l0) (hc0 : l0.length ≤ c0) (h : mezzotintref04_Word.f k l0 a1 = some r) :
  Calls Tryd.prog 55 #[.slice A0 l0.length c0, .int .i64 a1] w fun e w' => e = .returned (.int .i64 r) ∧ Drawn0 w w' := by
 have HR0 := Aside0.mk hr0
 have HC0 := Aside0.mk hc0
 clear hr0 hc0
 have H : (mezzotintref04_Word.l0 k l0 a1) = some r := h
 clear h
 have H' := Aside0.mk H
 clear H
 go_enter Tryd.func55, Tryd.ntmps55
 go_wp2
 go_loopg [1] k (fun kq v1 w' => ∃ (x1_1 : Int), v1 = .int .i64 x1_1 ∧ Aside0 (mezzotintref04_Word.l0 kq l0 x1_1 = some r) ∧ Aside0 (kq ≤ k) ∧ Drawn0 w w')
 case atStart => exact ⟨(a1), (by first | rfl | (simp; done) | (simp [*]; done)), H', ⟨Nat.le_refl _⟩, by repeat (first | exact Drawn0.refl _ | apply Drawn0.step)⟩
 case round =>
  clear H'
  try clear p2
  obtain ⟨x1_1, rfl, HA, HK1, ⟨m1, rfl⟩⟩ := hrel
  cases gk with
  | zero => exact absurd HA.out (by simp [mezzotintref04_Word.l0])
  | succ k1 =>
   have H := HA.out
   clear HA
   simp only [mezzotintref04_Word.l0] at H
   by_cases c3 : x1_1 < (l0.length : Int)
   ·rw [if_pos c3] at H
    have c3b0 : decide (x1_1 < (l0.length : Int)) = true := decide_eq_true c3
    clear c3
    by_cases c4 : 0 ≤ x1_1
    ·rw [if_pos c4] at H
     have c4b0 : decide (0 ≤ x1_1) = true := decide_eq_true c4
     clear c4
     replace H := Option.bind_eq_some_iff.mp H
     obtain ⟨t162, A50, H⟩ := H
     replace H : (if t162 = true then (mezzotintref04_Word.l0 k1 l0 (wrap64 (x1_1 + 1))) else (some x1_1)) = some r := H
     have A5 := Aside0.mk A50
     clear A50
     by_cases c6 : t162 = true
     ·subst c6
      have H1 : (mezzotintref04_Word.l0 k1 l0 (wrap64 (x1_1 + 1))) = some r := by rw [if_pos rfl] at H; exact H
      clear H
      have H := H1
      clear H1
      have H' := Aside0.mk H
      clear H
      have p161 : 0 ≤ (x1_1 : Int) := of_decide_eq_true (by first | (with_reducible assumption) | assumption)
      have q161 : x1_1 < (l0.length : Int) := of_decide_eq_true (by first | (with_reducible assumption) | assumption)
      obtain ⟨ad161, e161, hx161_0⟩ := Kd.at_int HR0.out x1_1 p161 q161
      cases e161
      replace p161 := eq_true p161
      replace q161 := eq_true q161
      go_wp2_with (first | (go_at_call 83; (with_reducible refine (mezzotintref04_Regular.calls (rd l0 x1_1) true _ A5.out).mono ?_); rintro e w' ⟨rfl, ⟨nd, rfl⟩⟩))
      go_roundg k1
      case measure => have := HK1.out; omega
      case rel => exact ⟨(wrap64 (x1_1 + 1)), (by first | rfl | (simp; done) | (simp [*]; done)), H', ⟨by have := HK1.out; omega⟩, by repeat (first | exact Drawn0.refl _ | apply Drawn0.step)⟩
     ·replace c6 := Bool.eq_false_iff.mpr c6
      subst c6
      have H1 : (some x1_1) = some r := by rw [if_neg (show ¬ (false = true) by decide)] at H; exact H
      clear H
      have H := H1
      clear H1
      obtain rfl := Option.some.inj H
      have p161 : 0 ≤ (x1_1 : Int) := of_decide_eq_true (by first | (with_reducible assumption) | assumption)
      have q161 : x1_1 < (l0.length : Int) := of_decide_eq_true (by first | (with_reducible assumption) | assumption)
      obtain ⟨ad161, e161, hx161_0⟩ := Kd.at_int HR0.out x1_1 p161 q161
      cases e161
      replace p161 := eq_true p161
      replace q161 := eq_true q161
      go_wp2_with (first | (go_at_call 83; (with_reducible refine (mezzotintref04_Regular.calls (rd l0 x1_1) false _ A5.out).mono ?_); rintro e w' ⟨rfl, ⟨nd, rfl⟩⟩))
      go_ret
      exact ⟨by first | rfl | (simp; done) | (simp [*]; done), by repeat (first | exact Drawn0.refl _ | apply Drawn0.step)⟩
    ·rw [if_neg c4] at H
     exact absurd H (by simp)
   ·rw [if_neg c3] at H
    have c3b0 : decide (x1_1 < (l0.length : Int)) = false := decide_eq_false c3
    clear c3
    obtain rfl := Option.some.inj H
    go_wp2
    go_ret
    exact ⟨by first | rfl | (simp; done) | (simp [*]; done), by repeat (first | exact Drawn0.refl _ | apply Drawn0.step)⟩

end Go.Proofs.YtiocgpfnbmlfaaaDoor.PN

/-! ## PNx5 -/
namespace Go.Proofs.YtiocgpfnbmlfaaaDoor.PN
open Go.RowKit Go.Proofs.YtiocgpfnbmlfaaaDoorW.PrintWords Go.Proofs.YtiocgpfnbmlfaaaDoorW.PrintLast Go.Proofs.YtiocgpfnbmlfaaaDoorW.PrintMore
attribute [local go_sem] max2_int min2_int max_two min_two max_three min_three max_four min_four   -- for this text's walks alone
set_option linter.unusedVariables false
set_option linter.unusedSimpArgs false

/-! ### mezzotintref04_Next: function 25 -/
mutual
def mezzotintref04_Next.j0 : Nat → List Int → Int → Bool → Option (Int × Int × ByteArray × Int × Int)
 | 0, _, _, _ => none
 | k + 1, x0, x1, x23 => if x23 = true then ((mezzotintref04_none.f 21).bind fun bt164 => (some (bt164.1, bt164.2.1, bt164.2.2.1, bt164.2.2.2.1, bt164.2.2.2.2))) else ((mezzotintref04_Skip.f k x0 x1).bind fun t169 => (if t169 ≥ (x0.length : Int) then (some (0, 0, (⟨#[]⟩ : ByteArray), (x0.length : Int), 0)) else (if 0 ≤ t169 then (if t169 < (x0.length : Int) then (if (wrap64 (t169 + 1)) < (x0.length : Int) then (if 0 ≤ (wrap64 (t169 + 1)) then (mezzotintref04_Next.j1 k x0 t169 (rd x0 t169) (rd x0 (wrap64 (t169 + 1)))) else (none)) else (mezzotintref04_Next.j1 k x0 t169 (rd x0 t169) 0)) else (none)) else (none))))
def mezzotintref04_Next.j1 : Nat → List Int → Int → Int → Int → Option (Int × Int × ByteArray × Int × Int)
 | 0, _, _, _, _ => none
 | k + 1, x0, x1, x7, x8 => if x7 = 40 then (mezzotintref04_Next.j2 k x0 x1 x7 x8 x7 (x7 == 40)) else (mezzotintref04_Next.j2 k x0 x1 x7 x8 x7 (x7 == 60))
def mezzotintref04_Next.j2 : Nat → List Int → Int → Int → Int → Int → Bool → Option (Int × Int × ByteArray × Int × Int)
 | 0, _, _, _, _, _, _ => none
 | k + 1, x0, x1, x7, x8, x52, x53 => if x53 = true then (if x7 = 60 then (mezzotintref04_Next.j3 k x0 x1 x7 (x8 == 60)) else (mezzotintref04_Next.j3 k x0 x1 x7 false)) else (if x52 = 41 then ((mezzotintref04_none.f 14).bind fun bt192 => (some (bt192.1, bt192.2.1, bt192.2.2.1, bt192.2.2.2.1, bt192.2.2.2.2))) else (if x52 = 62 then (if x8 = 62 then (some (3, 0, (⟨#[62, 62]⟩ : ByteArray), wrap64 (x1 + 2), 0)) else ((mezzotintref04_none.f 14).bind fun bt197 => (some (bt197.1, bt197.2.1, bt197.2.2.1, bt197.2.2.2.1, bt197.2.2.2.2)))) else (if x52 = 123 then (some (7, 0, (⟨#[]⟩ : ByteArray), wrap64 (x1 + 1), 0)) else (if x52 = 125 then (some (8, 0, (⟨#[]⟩ : ByteArray), wrap64 (x1 + 1), 0)) else (if x52 = 91 then (mezzotintref04_Next.j5 k x0 x1 x7 x8 x52 (x52 == 91)) else (mezzotintref04_Next.j5 k x0 x1 x7 x8 x52 (x52 == 93)))))))
def mezzotintref04_Next.j3 : Nat → List Int → Int → Int → Bool → Option (Int × Int × ByteArray × Int × Int)
 | 0, _, _, _, _ => none
 | k + 1, x0, x1, x7, x61 => if x61 = true then (some (3, 0, (⟨#[60, 60]⟩ : ByteArray), wrap64 (x1 + 2), 0)) else (if x7 = 40 then ((mezzotintref04_Round.f k x0 x1).bind fun bt172 => (mezzotintref04_Next.j4 k bt172.1 bt172.2.1 bt172.2.2)) else ((mezzotintref04_Hex.f k x0 x1).bind fun bt177 => (mezzotintref04_Next.j4 k bt177.1 bt177.2.1 bt177.2.2)))
def mezzotintref04_Next.j4 : Nat → List Int → Int → Int → Option (Int × Int × ByteArray × Int × Int)
 | 0, _, _, _ => none
 | k + 1, x9, x10, x11 => if x11 = 0 then (if (x9.length : Int) > 65535 then ((mezzotintref04_none.f 9).bind fun bt182 => (some (bt182.1, bt182.2.1, bt182.2.2.1, bt182.2.2.2.1, bt182.2.2.2.2))) else (some (6, 0, strOfNums x9, x10, 0))) else ((mezzotintref04_none.f x11).bind fun bt187 => (some (bt187.1, bt187.2.1, bt187.2.2.1, bt187.2.2.2.1, bt187.2.2.2.2)))
def mezzotintref04_Next.j5 : Nat → List Int → Int → Int → Int → Int → Bool → Option (Int × Int × ByteArray × Int × Int)
 | 0, _, _, _, _, _, _ => none
 | k + 1, x0, x1, x7, x8, x52, x126 => if x126 = true then (some (3, 0, strOfNums (([x7] : List Int)), wrap64 (x1 + 1), 0)) else (if x52 = 47 then (if x8 = 47 then ((mezzotintref04_Word.f k x0 (wrap64 (x1 + 2))).bind fun t205 => ((mezzotintref04_name.f 5 x0 (wrap64 (x1 + 2)) t205).bind fun bt206 => (some (bt206.1, bt206.2.1, bt206.2.2.1, bt206.2.2.2.1, bt206.2.2.2.2)))) else ((mezzotintref04_Word.f k x0 (wrap64 (x1 + 1))).bind fun t211 => ((mezzotintref04_name.f 4 x0 (wrap64 (x1 + 1)) t211).bind fun bt212 => (some (bt212.1, bt212.2.1, bt212.2.2.1, bt212.2.2.2.1, bt212.2.2.2.2))))) else ((mezzotintref04_Word.f k x0 x1).bind fun t217 => (if 0 ≤ x1 then (if x1 ≤ t217 then (if t217 ≤ (x0.length : Int) then ((mezzotintref01_Token.f (strOfNums ((x0.take (t217 : Int).toNat).drop (x1 : Int).toNat))).bind fun bt219 => (if bt219.2.2.2.1 = true then (mezzotintref04_Next.j6 k x0 x1 t217 bt219.2.2.2.1 bt219.2.2.2.2 (bt219.2.2.2.2 != 0) bt219.1 bt219.2.1 bt219.2.2.1) else (mezzotintref04_Next.j6 k x0 x1 t217 bt219.2.2.2.1 bt219.2.2.2.2 false bt219.1 bt219.2.1 bt219.2.2.1))) else (none)) else (none)) else (none))))
def mezzotintref04_Next.j6 : Nat → List Int → Int → Int → Bool → Int → Bool → Int → Int → ByteArray → Option (Int × Int × ByteArray × Int × Int)
 | 0, _, _, _, _, _, _, _, _, _ => none
 | k + 1, x0, x1, x12, x14, x15, x178, x225000, x225001, x225002 => if x178 = true then ((mezzotintref04_none.f x15).bind fun bt225 => (some (bt225.1, bt225.2.1, bt225.2.2.1, bt225.2.2.2.1, bt225.2.2.2.2))) else (if x14 = true then (some (x225000, x225001, x225002, x12, 0)) else ((mezzotintref04_name.f 3 x0 x1 x12).bind fun bt230 => (some (bt230.1, bt230.2.1, bt230.2.2.1, bt230.2.2.2.1, bt230.2.2.2.2))))
end
def mezzotintref04_Next.f (k : Nat) (l0 : List Int) (a1 : Int) : Option (Int × Int × ByteArray × Int × Int) := if a1 < 0 then (mezzotintref04_Next.j0 k l0 a1 true) else (mezzotintref04_Next.j0 k l0 a1 (decide (a1 > (l0.length : Int))))
set_option maxHeartbeats 8000000 in
set_option maxRecDepth 100000 in
theorem mezzotintref04_Next.calls (k : Nat) (A0 : Option Addr) (c0 : Nat) (l0 : List Int) (a1 : Int) (r1 : Int) (r2 : Int) (r3 : ByteArray) (r4 : Int) (r5 : Int) (w : World) (hr0 : Kd.C (Kd.int .u8) w A0 l0.length l0) (hc0 : l0.length ≤ c0) (h : mezzotintref04_Next.f k l0 a1 = some (r1, r2, r3, r4, r5)) :
  Calls Tryd.prog 25 #[.slice A0 l0.length c0, .int .i64 a1] w fun e w' => e = .returned (.tuple #[.agg #[.int .i64 r1, .int .i64 r2, .string r3], .int .i64 r4, .int .i64 r5]) ∧ Below w.heap.size w w' := by
 have hu27 := Tryd.underlying27
 have HR0 := Aside0.mk hr0
 have HC0 := Aside0.mk hc0
 clear hr0 hc0
 have HB := Aside0.mk (Below.refl w.heap.size w)
 have H : (if a1 < 0 then (mezzotintref04_Next.j0 k l0 a1 true) else (mezzotintref04_Next.j0 k l0 a1 (decide (a1 > (l0.length : Int))))) = some (r1, r2, r3, r4, r5) := h
 clear h
 have HC3 := Aside0.mk H
 clear H
 go_enter Tryd.func25, Tryd.ntmps25
 go_upto_region 1 with (first | ((with_reducible refine gate_dst (N := 4) rfl ?_); (try (refine gate_guard (by rfl) ?_; dsimp only)); refine box_event ?hg (N := 4) ?hd (cs := #[.int .i64 0, .int .i64 0, .string (⟨#[]⟩ : ByteArray)]) (t := 27) ?hr ?_; (case hd => rfl); (case hg => rfl); (case hr => first | (go_simp; done) | (go_simp; rfl)); intro gb163 hg w4 hbox hb; have n0_ := Aside0.mk (below_step (by repeat (first | (with_reducible first | exact HB.out | apply below_alloc | apply pw_below_drewN | apply below_drew1) | exact HB.out)) hb); have n1_ := Aside0.mk (hbox); have n2_ := Aside0.mk ((by rw [hg]; exact (below_size (by repeat (first | (with_reducible first | exact HB.out | apply below_alloc | apply pw_below_drewN | apply below_drew1) | exact HB.out))) : w.heap.size ≤ gb163)); have n3_ := Aside0.mk ((by rw [hg]; exact (below_size (by repeat (first | (with_reducible first | exact HB.out | apply below_alloc | apply pw_below_drewN | apply below_drew1) | exact HB.out))) : w.heap.size ≤ gb163)); clear HB; have HB := n0_; have BK163 := n1_; have GW163 := n2_; have GE163 := n3_; clear n0_ n1_ n2_ n3_; clear hb hbox hg))
 (try simp only [Act.put, List.setIfInBounds_toArray, List.set_cons_zero, List.set_cons_succ])
 go_cut [23] (fun v23 wc => ∃ (kq : Nat) (x23_2 : Bool), v23 = .bool x23_2 ∧ Aside0 (mezzotintref04_Next.j0 kq l0 a1 x23_2 = some (r1, r2, r3, r4, r5)) ∧ Aside0 (kq ≤ k) ∧ Aside0 (wc.heap[gb163]? = some (.cells #[.int .i64 0, .int .i64 0, .string (⟨#[]⟩ : ByteArray)] 27 (0, 0))) ∧ Aside0 (Below w.heap.size w wc))
 case first =>
  have H := HC3.out
  clear HC3
  by_cases c5 : a1 < 0
  ·as_aux_lemma =>
   rw [if_pos c5] at H
   have c5b0 : decide (a1 < 0) = true := decide_eq_true c5
   clear c5
   (first | rw [c5b0] | (simp only [i64_w, i32_w]; rw [c5b0]) | skip)
   have H' := Aside0.mk H
   clear H
   go_wp2
   go_meet
   case rel => exact ⟨_, (true), (by first | rfl | (simp; done) | (simp [*]; done)), H', ⟨by first | omega | exact Nat.le_refl _⟩, ⟨by (with_reducible repeat (first | refine blk_drewN ?_ _ | refine blk_drew ?_ | refine blk_alloc ?_ _)); exact BK163.out⟩, ⟨by repeat (first | (with_reducible first | exact HB.out | apply below_alloc | apply pw_below_drewN | apply below_drew1 | refine below_set ?_ GE163.out) | exact HB.out)⟩⟩
  ·as_aux_lemma =>
   rw [if_neg c5] at H
   have c5b0 : decide (a1 < 0) = false := decide_eq_false c5
   clear c5
   (first | rw [c5b0] | (simp only [i64_w, i32_w]; rw [c5b0]) | skip)
   have H' := Aside0.mk H
   clear H
   go_wp2
   go_meet
   case rel => exact ⟨_, (decide (a1 > (l0.length : Int))), (by first | rfl | (simp; done) | (simp [*]; done)), H', ⟨by first | omega | exact Nat.le_refl _⟩, ⟨by (with_reducible repeat (first | refine blk_drewN ?_ _ | refine blk_drew ?_ | refine blk_alloc ?_ _)); exact BK163.out⟩, ⟨by repeat (first | (with_reducible first | exact HB.out | apply below_alloc | apply pw_below_drewN | apply below_drew1 | refine below_set ?_ GE163.out) | exact HB.out)⟩⟩
 case rest =>
  clear HC3
  try clear c2
  try clear p2
  try clear c5
  try clear c5b0
  obtain ⟨kq, x23_2, rfl, HA, HJ2, BK163, HB⟩ := hcut
  cases kq with
  | zero => exact absurd HA.out (by simp [mezzotintref04_Next.j0])
  | succ kj2 =>
   have H := HA.out
   clear HA
   simp only [mezzotintref04_Next.j0] at H
   by_cases c6 : x23_2 = true
   ·subst c6
    have H1 : ((mezzotintref04_none.f 21).bind fun bt164 => (some (bt164.1, bt164.2.1, bt164.2.2.1, bt164.2.2.2.1, bt164.2.2.2.2))) = some (r1, r2, r3, r4, r5) := by rw [if_pos rfl] at H; exact H
    clear H
    have H := H1
    clear H1
    replace H := Option.bind_eq_some_iff.mp H
    obtain ⟨⟨t164, t165, t166, t167, t168⟩, A70, H⟩ := H
    replace H : (some (t164, t165, t166, t167, t168)) = some (r1, r2, r3, r4, r5) := H
    have A7 := Aside0.mk A70
    clear A70
    simp only [Option.some.injEq, Prod.mk.injEq] at H
    obtain ⟨rfl, rfl, rfl, rfl, rfl⟩ := H
    go_wp2_with (first | ((with_reducible refine gate_callee (f := 50) rfl ?_); refine goesL_ (some 24) rfl rfl Tryd.func50 (by kernel_rfl) rfl #[.int .i64 21] rfl (by (try simp only [List.map_toArray, List.map_cons, List.map_nil]); first | done | rfl | (simp only [List.length_drop, List.length_take]; rfl)) ?_; (with_reducible refine (mezzotintref04_none.calls 21 t164 t165 t166 t167 t168 _ A7.out).mono ?_); rintro e w8 ⟨rfl, hb⟩; refine ⟨_, rfl, ?_⟩; have n0_ := Aside0.mk (blk_below (g := gb163) (o := .cells #[.int .i64 0, .int .i64 0, .string (⟨#[]⟩ : ByteArray)] 27 (0, 0)) (by (with_reducible repeat (first | refine blk_drewN ?_ _ | refine blk_drew ?_ | refine blk_alloc ?_ _)); exact BK163.out) hb); have n1_ := Aside0.mk (below_step (by repeat (first | (with_reducible first | exact HB.out | apply below_alloc | apply pw_below_drewN | apply below_drew1 | refine below_set ?_ GE163.out) | exact HB.out)) hb); clear BK163; clear HB; have BK163 := n0_; have HB := n1_; clear n0_ n1_; (try clear hb); (try clear hb2); (try clear hk); (try clear hi); have hcz9_0 : w8.cell? ⟨gb163, 0, none⟩ = some (.int .i64 0) := (blk_cell BK163.out 0).trans rfl; have hcz9_1 : w8.cell? ⟨gb163, 1, none⟩ = some (.int .i64 0) := (blk_cell BK163.out 1).trans rfl; have hcz9_2 : w8.cell? ⟨gb163, 2, none⟩ = some (.string (⟨#[]⟩ : ByteArray)) := (blk_cell BK163.out 2).trans rfl; have hfz9_0 := blk_frozen BK163.out 0; have hfz9_1 := blk_frozen BK163.out 1; have hfz9_2 := blk_frozen BK163.out 2))
    refine bodyPost_ret (results_ctt rfl _ _ gb163 27 #[.int .i64 t164, .int .i64 t165, .string t166] (0, 0) _ rfl (by (with_reducible repeat (first | refine blk_drewN ?_ _ | refine blk_drew ?_ | refine blk_alloc ?_ _)); refine blk_put (cs := #[.int .i64 t164, .int .i64 t165, .string (⟨#[]⟩ : ByteArray)]) ?_ 2 _ rfl; (with_reducible repeat (first | refine blk_drewN ?_ _ | refine blk_drew ?_ | refine blk_alloc ?_ _)); refine blk_put (cs := #[.int .i64 t164, .int .i64 0, .string (⟨#[]⟩ : ByteArray)]) ?_ 1 _ rfl; (with_reducible repeat (first | refine blk_drewN ?_ _ | refine blk_drew ?_ | refine blk_alloc ?_ _)); refine blk_put (cs := #[.int .i64 0, .int .i64 0, .string (⟨#[]⟩ : ByteArray)]) ?_ 0 _ rfl; (with_reducible repeat (first | refine blk_drewN ?_ _ | refine blk_drew ?_ | refine blk_alloc ?_ _)); exact BK163.out) Tryd.underlying27 rfl (by kernel_rfl)) rfl ?_
    exact ⟨by first | rfl | (simp [errW_none, errW_some] <;> rfl) | (simp [*, errW_none, errW_some] <;> rfl), by repeat (first | (with_reducible first | exact HB.out | apply below_alloc | apply pw_below_drewN | apply below_drew1 | refine below_set ?_ GE163.out) | exact HB.out)⟩
   ·replace c6 := Bool.eq_false_iff.mpr c6
    subst c6
    have H1 : ((mezzotintref04_Skip.f kj2 l0 a1).bind fun t169 => (if t169 ≥ (l0.length : Int) then (some (0, 0, (⟨#[]⟩ : ByteArray), (l0.length : Int), 0)) else (if 0 ≤ t169 then (if t169 < (l0.length : Int) then (if (wrap64 (t169 + 1)) < (l0.length : Int) then (if 0 ≤ (wrap64 (t169 + 1)) then (mezzotintref04_Next.j1 kj2 l0 t169 (rd l0 t169) (rd l0 (wrap64 (t169 + 1)))) else (none)) else (mezzotintref04_Next.j1 kj2 l0 t169 (rd l0 t169) 0)) else (none)) else (none)))) = some (r1, r2, r3, r4, r5) := by rw [if_neg (show ¬ (false = true) by decide)] at H; exact H
    clear H
    have H := H1
    clear H1
    replace H := Option.bind_eq_some_iff.mp H
    obtain ⟨t169, A100, H⟩ := H
    replace H : (if t169 ≥ (l0.length : Int) then (some (0, 0, (⟨#[]⟩ : ByteArray), (l0.length : Int), 0)) else (if 0 ≤ t169 then (if t169 < (l0.length : Int) then (if (wrap64 (t169 + 1)) < (l0.length : Int) then (if 0 ≤ (wrap64 (t169 + 1)) then (mezzotintref04_Next.j1 kj2 l0 t169 (rd l0 t169) (rd l0 (wrap64 (t169 + 1)))) else (none)) else (mezzotintref04_Next.j1 kj2 l0 t169 (rd l0 t169) 0)) else (none)) else (none))) = some (r1, r2, r3, r4, r5) := H
    have A10 := Aside0.mk A100
    clear A100
    by_cases c11 : t169 ≥ (l0.length : Int)
    ·as_aux_lemma =>
     rw [if_pos c11] at H
     have c11b0 : decide ((l0.length : Int) ≤ t169) = true := decide_eq_true c11
     clear c11
     simp only [Option.some.injEq, Prod.mk.injEq] at H
     obtain ⟨rfl, rfl, rfl, rfl, rfl⟩ := H
     go_wp2_with (first | ((with_reducible refine gate_callee (f := 51) rfl ?_); refine goesL_ (some 30) rfl rfl Tryd.func51 (by kernel_rfl) rfl #[.slice A0 l0.length c0, .int .i64 a1] rfl (by (try simp only [List.map_toArray, List.map_cons, List.map_nil]); first | done | rfl | (simp only [List.length_drop, List.length_take]; rfl)) ?_; (with_reducible refine (mezzotintref04_Skip.calls kj2 _ _ l0 a1 t169 _ ?side1 ?side2 A10.out).mono ?_); (case side1 => repeat (first | exact (Kd.C_below HR0.out HB.out) | (with_reducible refine Kd.C_alloc ?_ _) | (with_reducible refine Kd.C_drewN ?_ _) | (with_reducible refine Kd.C_drew ?_))); (case side2 => exact HC0.out); rintro e w' ⟨rfl, ⟨nd, rfl⟩⟩; refine ⟨_, rfl, ?_⟩; (try (rw [drewN_self wc]; generalize hq_ : World.drewN wc _ = wc; have n0_ : Aside0 (wc.heap[gb163]? = some (.cells #[.int .i64 0, .int .i64 0, .string (⟨#[]⟩ : ByteArray)] 27 (0, 0))) := ⟨by rw [← hq_]; exact (by (with_reducible repeat (first | refine blk_drewN ?_ _ | refine blk_drew ?_ | refine blk_alloc ?_ _)); exact BK163.out)⟩; have n1_ : Aside0 (Below w.heap.size w wc) := ⟨by rw [← hq_]; exact (by repeat (first | (with_reducible first | exact HB.out | apply below_alloc | apply pw_below_drewN | apply below_drew1 | refine below_set ?_ GE163.out) | exact HB.out))⟩; clear BK163 HB hq_; have BK163 := n0_; have HB := n1_; clear n0_ n1_)); have hcz12_0 : wc.cell? ⟨gb163, 0, none⟩ = some (.int .i64 0) := (blk_cell BK163.out 0).trans rfl; have hcz12_1 : wc.cell? ⟨gb163, 1, none⟩ = some (.int .i64 0) := (blk_cell BK163.out 1).trans rfl; have hcz12_2 : wc.cell? ⟨gb163, 2, none⟩ = some (.string (⟨#[]⟩ : ByteArray)) := (blk_cell BK163.out 2).trans rfl; have hfz12_0 := blk_frozen BK163.out 0; have hfz12_1 := blk_frozen BK163.out 1; have hfz12_2 := blk_frozen BK163.out 2))
     refine bodyPost_ret (results_ctt rfl _ _ gb163 27 #[.int .i64 0, .int .i64 0, .string (⟨#[]⟩ : ByteArray)] (0, 0) _ rfl (by (with_reducible repeat (first | refine blk_drewN ?_ _ | refine blk_drew ?_ | refine blk_alloc ?_ _)); refine blk_put (cs := #[.int .i64 0, .int .i64 0, .string (⟨#[]⟩ : ByteArray)]) ?_ 2 _ rfl; (with_reducible repeat (first | refine blk_drewN ?_ _ | refine blk_drew ?_ | refine blk_alloc ?_ _)); refine blk_put (cs := #[.int .i64 0, .int .i64 0, .string (⟨#[]⟩ : ByteArray)]) ?_ 1 _ rfl; (with_reducible repeat (first | refine blk_drewN ?_ _ | refine blk_drew ?_ | refine blk_alloc ?_ _)); refine blk_put (cs := #[.int .i64 0, .int .i64 0, .string (⟨#[]⟩ : ByteArray)]) ?_ 0 _ rfl; (with_reducible repeat (first | refine blk_drewN ?_ _ | refine blk_drew ?_ | refine blk_alloc ?_ _)); exact BK163.out) Tryd.underlying27 rfl (by kernel_rfl)) rfl ?_
     exact ⟨by first | rfl | (simp [errW_none, errW_some] <;> rfl) | (simp [*, errW_none, errW_some] <;> rfl), by repeat (first | (with_reducible first | exact HB.out | apply below_alloc | apply pw_below_drewN | apply below_drew1 | refine below_set ?_ GE163.out) | exact HB.out)⟩
    ·rw [if_neg c11] at H
     have c11b0 : decide ((l0.length : Int) ≤ t169) = false := decide_eq_false c11
     clear c11
     by_cases c13 : 0 ≤ t169
     ·rw [if_pos c13] at H
      have c13b0 : decide (0 ≤ t169) = true := decide_eq_true c13
      clear c13
      by_cases c14 : t169 < (l0.length : Int)
      ·rw [if_pos c14] at H
       have c14b0 : decide (t169 < (l0.length : Int)) = true := decide_eq_true c14
       clear c14
       have HC15 := Aside0.mk H
       clear H
       go_upto_if 46 with (first | ((with_reducible refine gate_callee (f := 51) rfl ?_); refine goesL_ (some 30) rfl rfl Tryd.func51 (by kernel_rfl) rfl #[.slice A0 l0.length c0, .int .i64 a1] rfl (by (try simp only [List.map_toArray, List.map_cons, List.map_nil]); first | done | rfl | (simp only [List.length_drop, List.length_take]; rfl)) ?_; (with_reducible refine (mezzotintref04_Skip.calls kj2 _ _ l0 a1 t169 _ ?side1 ?side2 A10.out).mono ?_); (case side1 => repeat (first | exact (Kd.C_below HR0.out HB.out) | (with_reducible refine Kd.C_alloc ?_ _) | (with_reducible refine Kd.C_drewN ?_ _) | (with_reducible refine Kd.C_drew ?_))); (case side2 => exact HC0.out); rintro e w' ⟨rfl, ⟨nd, rfl⟩⟩; refine ⟨_, rfl, ?_⟩; have p170 : 0 ≤ (t169 : Int) := of_decide_eq_true (by first | (with_reducible assumption) | assumption); have q170 : t169 < (l0.length : Int) := of_decide_eq_true (by first | (with_reducible assumption) | assumption); obtain ⟨ad170, e170, hx170_0⟩ := Kd.at_int HR0.out t169 p170 q170; cases e170; replace hx170_0 := (HB.out.cell (World.block_lt_of_cell? w _ hx170_0)).trans hx170_0; replace p170 := eq_true p170; replace q170 := eq_true q170))
       (try simp only [Act.put, List.setIfInBounds_toArray, List.set_cons_zero, List.set_cons_succ])
       go_cut [8] (fun v8 wc => ∃ (kq : Nat) (x8_14 : Int), v8 = .int .u8 x8_14 ∧ Aside0 (mezzotintref04_Next.j1 kq l0 t169 (rd l0 t169) x8_14 = some (r1, r2, r3, r4, r5)) ∧ Aside0 (kq ≤ kj2) ∧ Aside0 (wc.heap[gb163]? = some (.cells #[.int .i64 0, .int .i64 0, .string (⟨#[]⟩ : ByteArray)] 27 (0, 0))) ∧ Aside0 (Below w.heap.size w wc))
       case first =>
        have H := HC15.out
        clear HC15
        by_cases c16 : (wrap64 (t169 + 1)) < (l0.length : Int)
        ·as_aux_lemma =>
         rw [if_pos c16] at H
         have c16b0 : decide ((wrap64 (t169 + 1)) < (l0.length : Int)) = true := decide_eq_true c16
         clear c16
         (first | rw [c16b0] | (simp only [i64_w, i32_w]; rw [c16b0]) | skip)
         obtain ⟨ji17, hji17⟩ : ∃ j_ : Int, (wrap64 (t169 + 1)) = j_ := ⟨_, rfl⟩
         replace H : (if 0 ≤ (ji17) then (mezzotintref04_Next.j1 kj2 l0 t169 (rd l0 t169) (rd l0 (ji17))) else (none)) = some (r1, r2, r3, r4, r5) := by first | (rw [hji17] at H; exact H) | (simp only [hji17] at H ⊢; exact H)
         (try rw [hji17] at c16b0)
         have hji17w : (IntKind.i64.wrap (t169 + 1)) = ji17 := (i64_w _).trans hji17
         by_cases c18 : 0 ≤ (ji17)
         ·rw [if_pos c18] at H
          have c18b0 : decide (0 ≤ (ji17)) = true := decide_eq_true c18
          clear c18
          have H' := Aside0.mk H
          clear H
          have p171 : 0 ≤ ((ji17) : Int) := of_decide_eq_true (by first | (with_reducible assumption) | assumption)
          have q171 : (ji17) < (l0.length : Int) := of_decide_eq_true (by first | (with_reducible assumption) | assumption)
          obtain ⟨ad171, e171, hx171_0⟩ := Kd.at_int HR0.out (ji17) p171 q171
          obtain rfl : ad170 = ad171 := (by injection e171)
          replace hx171_0 := (HB.out.cell (World.block_lt_of_cell? w _ hx171_0)).trans hx171_0
          replace p171 := eq_true p171
          replace q171 := eq_true q171
          go_wp2
          go_meet
          case rel => exact ⟨_, (rd l0 (ji17)), (by first | rfl | (simp; done) | (simp only [← hji17] <;> (first | rfl | simp)) | (simp [*]; done)), H', ⟨by have := HJ2.out; first | omega | exact Nat.le_refl _⟩, ⟨by (with_reducible repeat (first | refine blk_drewN ?_ _ | refine blk_drew ?_ | refine blk_alloc ?_ _)); exact BK163.out⟩, ⟨by repeat (first | (with_reducible first | exact HB.out | apply below_alloc | apply pw_below_drewN | apply below_drew1 | refine below_set ?_ GE163.out) | exact HB.out)⟩⟩
         ·rw [if_neg c18] at H
          exact absurd H (by simp)
        ·as_aux_lemma =>
         rw [if_neg c16] at H
         have c16b0 : decide ((wrap64 (t169 + 1)) < (l0.length : Int)) = false := decide_eq_false c16
         clear c16
         (first | rw [c16b0] | (simp only [i64_w, i32_w]; rw [c16b0]) | skip)
         have H' := Aside0.mk H
         clear H
         go_wp2
         go_meet
         case rel => exact ⟨_, (0), (by first | rfl | (simp; done) | (simp [*]; done)), H', ⟨by have := HJ2.out; first | omega | exact Nat.le_refl _⟩, ⟨by (with_reducible repeat (first | refine blk_drewN ?_ _ | refine blk_drew ?_ | refine blk_alloc ?_ _)); exact BK163.out⟩, ⟨by repeat (first | (with_reducible first | exact HB.out | apply below_alloc | apply pw_below_drewN | apply below_drew1 | refine below_set ?_ GE163.out) | exact HB.out)⟩⟩
       case rest =>
        clear HC15
        try clear c1
        try clear p1
        try clear q1
        try clear hx1
        try clear c2
        try clear p2
        try clear c5
        try clear c5b0
        try clear c6
        try clear p6
        try clear c11
        try clear c11b0
        try clear c13
        try clear c13b0
        try clear c14
        try clear c14b0
        try clear c16
        try clear c16b0
        try clear p17
        try clear q17
        try clear hx17
        try clear c18
        try clear c18b0
        try clear hcz12_0
        try clear hcz12_1
        try clear hcz12_2
        try clear hcz9_0
        try clear hcz9_1
        try clear hcz9_2
        try clear hfz12_0
        try clear hfz12_1
        try clear hfz12_2
        try clear hfz9_0
        try clear hfz9_1
        try clear hfz9_2
        try clear hx170_0
        try clear hx171_0
        try clear p170
        try clear p171
        try clear p2
        try clear q170
        try clear q171
        obtain ⟨kq, x8_14, rfl, HA, HJ14, BK163, HB⟩ := hcut
        cases kq with
        | zero => exact absurd HA.out (by simp [mezzotintref04_Next.j1])
        | succ kj14 =>
         have H := HA.out
         clear HA
         simp only [mezzotintref04_Next.j1] at H
         have HC19 := Aside0.mk H
         clear H
         go_upto_if 53 with (fail)
         go_cut [53] (fun v53 wc => ∃ (kq : Nat) (x53_18 : Bool), v53 = .bool x53_18 ∧ Aside0 (mezzotintref04_Next.j2 kq l0 t169 (rd l0 t169) x8_14 (rd l0 t169) x53_18 = some (r1, r2, r3, r4, r5)) ∧ Aside0 (kq ≤ kj14) ∧ Aside0 (wc.heap[gb163]? = some (.cells #[.int .i64 0, .int .i64 0, .string (⟨#[]⟩ : ByteArray)] 27 (0, 0))) ∧ Aside0 (Below w.heap.size w wc))
         case first =>
          have H := HC19.out
          clear HC19
          by_cases c20 : (rd l0 t169) = 40
          ·as_aux_lemma =>
           rw [if_pos c20] at H
           have c20b0 : ((rd l0 t169) == 40) = true := beq_iff_eq.mpr c20
           have c20b1 : ((rd l0 t169) != 40) = false := bne_eq_false_iff_eq.mpr c20
           clear c20
           (first | rw [c20b0] | (simp only [i64_w, i32_w]; rw [c20b0]) | skip)
           have H' := Aside0.mk H
           clear H
           go_wp2
           go_meet
           case rel => exact ⟨_, (((rd l0 t169) == 40)), (by first | rfl | (simp; done) | (simp [*]; done)), H', ⟨by have := HJ2.out; have := HJ14.out; first | omega | exact Nat.le_refl _⟩, ⟨by (with_reducible repeat (first | refine blk_drewN ?_ _ | refine blk_drew ?_ | refine blk_alloc ?_ _)); exact BK163.out⟩, ⟨by repeat (first | (with_reducible first | exact HB.out | apply below_alloc | apply pw_below_drewN | apply below_drew1 | refine below_set ?_ GE163.out) | exact HB.out)⟩⟩
          ·as_aux_lemma =>
           rw [if_neg c20] at H
           have c20b0 : ((rd l0 t169) == 40) = false := beq_eq_false_iff_ne.mpr c20
           have c20b1 : ((rd l0 t169) != 40) = true := bne_iff_ne.mpr c20
           (first | rw [c20b0] | (simp only [i64_w, i32_w]; rw [c20b0]) | skip)
           have H' := Aside0.mk H
           clear H
           go_wp2
           go_meet
           case rel => exact ⟨_, (((rd l0 t169) == 60)), (by first | rfl | (simp; done) | (simp [*]; done)), H', ⟨by have := HJ2.out; have := HJ14.out; first | omega | exact Nat.le_refl _⟩, ⟨by (with_reducible repeat (first | refine blk_drewN ?_ _ | refine blk_drew ?_ | refine blk_alloc ?_ _)); exact BK163.out⟩, ⟨by repeat (first | (with_reducible first | exact HB.out | apply below_alloc | apply pw_below_drewN | apply below_drew1 | refine below_set ?_ GE163.out) | exact HB.out)⟩⟩
         case rest =>
          clear HC19
          try clear c1
          try clear p1
          try clear q1
          try clear hx1
          try clear c2
          try clear p2
          try clear c5
          try clear c5b0
          try clear c6
          try clear p6
          try clear c11
          try clear c11b0
          try clear c13
          try clear c13b0
          try clear c14
          try clear c14b0
          try clear c16
          try clear c16b0
          try clear p17
          try clear q17
          try clear hx17
          try clear c18
          try clear c18b0
          try clear c20
          try clear c20b0
          try clear c20b1
          try clear hcz12_0
          try clear hcz12_1
          try clear hcz12_2
          try clear hcz9_0
          try clear hcz9_1
          try clear hcz9_2
          try clear hfz12_0
          try clear hfz12_1
          try clear hfz12_2
          try clear hfz9_0
          try clear hfz9_1
          try clear hfz9_2
          try clear hx170_0
          try clear hx171_0
          try clear p1
          try clear p17
          try clear p170
          try clear p171
          try clear p2
          try clear p6
          try clear q1
          try clear q17
          try clear q170
          try clear q171
          obtain ⟨kq, x53_18, rfl, HA, HJ18, BK163, HB⟩ := hcut
          cases kq with
          | zero => exact absurd HA.out (by simp [mezzotintref04_Next.j2])
          | succ kj18 =>
           have H := HA.out
           clear HA
           simp only [mezzotintref04_Next.j2] at H
           by_cases c21 : x53_18 = true
           ·subst c21
            have H1 : (if (rd l0 t169) = 60 then (mezzotintref04_Next.j3 kj18 l0 t169 (rd l0 t169) (x8_14 == 60)) else (mezzotintref04_Next.j3 kj18 l0 t169 (rd l0 t169) false)) = some (r1, r2, r3, r4, r5) := by rw [if_pos rfl] at H; exact H
            clear H
            have H := H1
            clear H1
            have HC22 := Aside0.mk H
            clear H
            go_upto_region 13 with (fail)
            go_cut [61] (fun v61 wc => ∃ (kq : Nat) (x61_21 : Bool), v61 = .bool x61_21 ∧ Aside0 (mezzotintref04_Next.j3 kq l0 t169 (rd l0 t169) x61_21 = some (r1, r2, r3, r4, r5)) ∧ Aside0 (kq ≤ kj18) ∧ Aside0 (wc.heap[gb163]? = some (.cells #[.int .i64 0, .int .i64 0, .string (⟨#[]⟩ : ByteArray)] 27 (0, 0))) ∧ Aside0 (Below w.heap.size w wc))
            case first =>
             have H := HC22.out
             clear HC22
             by_cases c23 : (rd l0 t169) = 60
             ·as_aux_lemma =>
              rw [if_pos c23] at H
              have c23b0 : ((rd l0 t169) == 60) = true := beq_iff_eq.mpr c23
              have c23b1 : ((rd l0 t169) != 60) = false := bne_eq_false_iff_eq.mpr c23
              clear c23
              (first | rw [c23b0] | (simp only [i64_w, i32_w]; rw [c23b0]) | skip)
              have H' := Aside0.mk H
              clear H
              go_wp2
              go_meet
              case rel => exact ⟨_, ((x8_14 == 60)), (by first | rfl | (simp; done) | (simp [*]; done)), H', ⟨by have := HJ2.out; have := HJ14.out; have := HJ18.out; first | omega | exact Nat.le_refl _⟩, ⟨by (with_reducible repeat (first | refine blk_drewN ?_ _ | refine blk_drew ?_ | refine blk_alloc ?_ _)); exact BK163.out⟩, ⟨by repeat (first | (with_reducible first | exact HB.out | apply below_alloc | apply pw_below_drewN | apply below_drew1 | refine below_set ?_ GE163.out) | exact HB.out)⟩⟩
             ·as_aux_lemma =>
              rw [if_neg c23] at H
              have c23b0 : ((rd l0 t169) == 60) = false := beq_eq_false_iff_ne.mpr c23
              have c23b1 : ((rd l0 t169) != 60) = true := bne_iff_ne.mpr c23
              (first | rw [c23b0] | (simp only [i64_w, i32_w]; rw [c23b0]) | skip)
              have H' := Aside0.mk H
              clear H
              go_wp2
              go_meet
              case rel => exact ⟨_, (false), (by first | rfl | (simp; done) | (simp [*]; done)), H', ⟨by have := HJ2.out; have := HJ14.out; have := HJ18.out; first | omega | exact Nat.le_refl _⟩, ⟨by (with_reducible repeat (first | refine blk_drewN ?_ _ | refine blk_drew ?_ | refine blk_alloc ?_ _)); exact BK163.out⟩, ⟨by repeat (first | (with_reducible first | exact HB.out | apply below_alloc | apply pw_below_drewN | apply below_drew1 | refine below_set ?_ GE163.out) | exact HB.out)⟩⟩
            case rest =>
             clear HC22
             try clear c1
             try clear p1
             try clear q1
             try clear hx1
             try clear c2
             try clear p2
             try clear c5
             try clear c5b0
             try clear c6
             try clear p6
             try clear c11
             try clear c11b0
             try clear c13
             try clear c13b0
             try clear c14
             try clear c14b0
             try clear c16
             try clear c16b0
             try clear p17
             try clear q17
             try clear hx17
             try clear c18
             try clear c18b0
             try clear c20
             try clear c20b0
             try clear c20b1
             try clear c21
             try clear c23
             try clear c23b0
             try clear c23b1
             try clear hcz12_0
             try clear hcz12_1
             try clear hcz12_2
             try clear hcz9_0
             try clear hcz9_1
             try clear hcz9_2
             try clear hfz12_0
             try clear hfz12_1
             try clear hfz12_2
             try clear hfz9_0
             try clear hfz9_1
             try clear hfz9_2
             try clear hx170_0
             try clear hx171_0
             try clear p1
             try clear p17
             try clear p170
             try clear p171
             try clear p2
             try clear p6
             try clear q1
             try clear q17
             try clear q170
             try clear q171
             obtain ⟨kq, x61_21, rfl, HA, HJ21, BK163, HB⟩ := hcut
             cases kq with
             | zero => exact absurd HA.out (by simp [mezzotintref04_Next.j3])
             | succ kj21 =>
              have H := HA.out
              clear HA
              simp only [mezzotintref04_Next.j3] at H
              by_cases c24 : x61_21 = true
              ·subst c24
               have H1 : (some (3, 0, (⟨#[60, 60]⟩ : ByteArray), wrap64 (t169 + 2), 0)) = some (r1, r2, r3, r4, r5) := by rw [if_pos rfl] at H; exact H
               clear H
               have H := H1
               clear H1
               simp only [Option.some.injEq, Prod.mk.injEq] at H
               obtain ⟨rfl, rfl, rfl, rfl, rfl⟩ := H
               have hcz25_0 : wc.cell? ⟨gb163, 0, none⟩ = some (.int .i64 0) := (blk_cell BK163.out 0).trans rfl
               have hcz25_1 : wc.cell? ⟨gb163, 1, none⟩ = some (.int .i64 0) := (blk_cell BK163.out 1).trans rfl
               have hcz25_2 : wc.cell? ⟨gb163, 2, none⟩ = some (.string (⟨#[]⟩ : ByteArray)) := (blk_cell BK163.out 2).trans rfl
               have hfz25_0 := blk_frozen BK163.out 0
               have hfz25_1 := blk_frozen BK163.out 1
               have hfz25_2 := blk_frozen BK163.out 2
               go_wp2
               refine bodyPost_ret (results_ctt rfl _ _ gb163 27 #[.int .i64 3, .int .i64 0, .string (⟨#[60, 60]⟩ : ByteArray)] (0, 0) _ rfl (by (with_reducible repeat (first | refine blk_drewN ?_ _ | refine blk_drew ?_ | refine blk_alloc ?_ _)); refine blk_put (cs := #[.int .i64 3, .int .i64 0, .string (⟨#[]⟩ : ByteArray)]) ?_ 2 _ rfl; (with_reducible repeat (first | refine blk_drewN ?_ _ | refine blk_drew ?_ | refine blk_alloc ?_ _)); refine blk_put (cs := #[.int .i64 3, .int .i64 0, .string (⟨#[]⟩ : ByteArray)]) ?_ 1 _ rfl; (with_reducible repeat (first | refine blk_drewN ?_ _ | refine blk_drew ?_ | refine blk_alloc ?_ _)); refine blk_put (cs := #[.int .i64 0, .int .i64 0, .string (⟨#[]⟩ : ByteArray)]) ?_ 0 _ rfl; (with_reducible repeat (first | refine blk_drewN ?_ _ | refine blk_drew ?_ | refine blk_alloc ?_ _)); exact BK163.out) Tryd.underlying27 rfl (by kernel_rfl)) rfl ?_
               exact ⟨by first | rfl | (simp [errW_none, errW_some] <;> rfl) | (simp [*, errW_none, errW_some] <;> rfl), by repeat (first | (with_reducible first | exact HB.out | apply below_alloc | apply pw_below_drewN | apply below_drew1 | refine below_set ?_ GE163.out) | exact HB.out)⟩
              ·replace c24 := Bool.eq_false_iff.mpr c24
               subst c24
               have H1 : (if (rd l0 t169) = 40 then ((mezzotintref04_Round.f kj21 l0 t169).bind fun bt172 => (mezzotintref04_Next.j4 kj21 bt172.1 bt172.2.1 bt172.2.2)) else ((mezzotintref04_Hex.f kj21 l0 t169).bind fun bt177 => (mezzotintref04_Next.j4 kj21 bt177.1 bt177.2.1 bt177.2.2))) = some (r1, r2, r3, r4, r5) := by rw [if_neg (show ¬ (false = true) by decide)] at H; exact H
               clear H
               have H := H1
               clear H1
               have HC26 := Aside0.mk H
               clear H
               go_upto_if 66 with (fail)
               go_cut [9, 10, 11] (fun v9 v10 v11 wc => ∃ (kq : Nat) (x9_25 : List Int) (x10_25 : Int) (x11_25 : Int), v10 = .int .i64 x10_25 ∧ v11 = .int .i64 x11_25 ∧ Aside0 (mezzotintref04_Next.j4 kq x9_25 x10_25 x11_25 = some (r1, r2, r3, r4, r5)) ∧ Aside0 (kq ≤ kj21) ∧ Aside0 (Kd.R (Kd.int .u8) 5 wc w.heap.size (fun _ => True) v9 x9_25) ∧ Aside0 (wc.heap[gb163]? = some (.cells #[.int .i64 0, .int .i64 0, .string (⟨#[]⟩ : ByteArray)] 27 (0, 0))) ∧ Aside0 (Below w.heap.size w wc))
               case first =>
                have H := HC26.out
                clear HC26
                by_cases c27 : (rd l0 t169) = 40
                ·as_aux_lemma =>
                 rw [if_pos c27] at H
                 have c27b0 : ((rd l0 t169) == 40) = true := beq_iff_eq.mpr c27
                 have c27b1 : ((rd l0 t169) != 40) = false := bne_eq_false_iff_eq.mpr c27
                 clear c27
                 (first | rw [c27b0] | (simp only [i64_w, i32_w]; rw [c27b0]) | skip)
                 replace H := Option.bind_eq_some_iff.mp H
                 obtain ⟨⟨t172, t173, t174⟩, A280, H⟩ := H
                 replace H : (mezzotintref04_Next.j4 kj21 t172 t173 t174) = some (r1, r2, r3, r4, r5) := H
                 have A28 := Aside0.mk A280
                 clear A280
                 have H' := Aside0.mk H
                 clear H
                 go_wp2_with (first | ((with_reducible refine gate_callee (f := 52) rfl ?_); refine goesL_ (some 70) rfl rfl Tryd.func52 (by kernel_rfl) rfl #[.slice (some ad170) l0.length c0, .int .i64 t169] rfl (by (try simp only [List.map_toArray, List.map_cons, List.map_nil]); first | done | rfl | (simp only [List.length_drop, List.length_take]; rfl)) ?_; (with_reducible refine (mezzotintref04_Round.calls kj21 _ _ l0 t169 t172 t173 t174 _ ?side1 ?side2 A28.out).mono ?_); (case side1 => repeat (first | exact (Kd.C_below HR0.out HB.out) | (with_reducible refine Kd.C_alloc ?_ _) | (with_reducible refine Kd.C_drewN ?_ _) | (with_reducible refine Kd.C_drew ?_))); (case side2 => exact HC0.out); rintro e w29 ⟨v175, rfl, ho0, hb⟩; refine ⟨_, rfl, ?_⟩; have n0_ := Aside0.mk (Kd.R_lower ho0 (below_size (by repeat (first | (with_reducible first | exact HB.out | apply below_alloc | apply pw_below_drewN | apply below_drew1 | refine below_set ?_ GE163.out) | exact HB.out)))); have n1_ := Aside0.mk (blk_below (g := gb163) (o := .cells #[.int .i64 0, .int .i64 0, .string (⟨#[]⟩ : ByteArray)] 27 (0, 0)) (by (with_reducible repeat (first | refine blk_drewN ?_ _ | refine blk_drew ?_ | refine blk_alloc ?_ _)); exact BK163.out) hb); have n2_ := Aside0.mk (below_step (by repeat (first | (with_reducible first | exact HB.out | apply below_alloc | apply pw_below_drewN | apply below_drew1 | refine below_set ?_ GE163.out) | exact HB.out)) hb); clear BK163; clear HB; have HO176 := n0_; have BK163 := n1_; have HB := n2_; clear n0_ n1_ n2_; (try clear hb); (try clear hb2); (try clear hk); (try clear hi); (try clear ho0)))
                 go_meet
                 case rel => exact ⟨_, (t172), (t173), (t174), (by first | rfl | (simp; done) | (simp [*]; done)), (by first | rfl | (simp; done) | (simp [*]; done)), H', ⟨by have := HJ2.out; have := HJ14.out; have := HJ18.out; have := HJ21.out; first | omega | exact Nat.le_refl _⟩, ⟨by (with_reducible repeat (first | apply Kd.R_alloc | apply Kd.R_drewN | apply Kd.R_drew)); exact HO176.out⟩, ⟨by (with_reducible repeat (first | refine blk_drewN ?_ _ | refine blk_drew ?_ | refine blk_alloc ?_ _)); exact BK163.out⟩, ⟨by repeat (first | (with_reducible first | exact HB.out | apply below_alloc | apply pw_below_drewN | apply below_drew1 | refine below_set ?_ GE163.out) | exact HB.out)⟩⟩
                ·as_aux_lemma =>
                 rw [if_neg c27] at H
                 have c27b0 : ((rd l0 t169) == 40) = false := beq_eq_false_iff_ne.mpr c27
                 have c27b1 : ((rd l0 t169) != 40) = true := bne_iff_ne.mpr c27
                 (first | rw [c27b0] | (simp only [i64_w, i32_w]; rw [c27b0]) | skip)
                 replace H := Option.bind_eq_some_iff.mp H
                 obtain ⟨⟨t177, t178, t179⟩, A300, H⟩ := H
                 replace H : (mezzotintref04_Next.j4 kj21 t177 t178 t179) = some (r1, r2, r3, r4, r5) := H
                 have A30 := Aside0.mk A300
                 clear A300
                 have H' := Aside0.mk H
                 clear H
                 go_wp2_with (first | ((with_reducible refine gate_callee (f := 53) rfl ?_); refine goesL_ (some 77) rfl rfl Tryd.func53 (by kernel_rfl) rfl #[.slice (some ad170) l0.length c0, .int .i64 t169] rfl (by (try simp only [List.map_toArray, List.map_cons, List.map_nil]); first | done | rfl | (simp only [List.length_drop, List.length_take]; rfl)) ?_; (with_reducible refine (mezzotintref04_Hex.calls kj21 _ _ l0 t169 t177 t178 t179 _ ?side1 ?side2 A30.out).mono ?_); (case side1 => repeat (first | exact (Kd.C_below HR0.out HB.out) | (with_reducible refine Kd.C_alloc ?_ _) | (with_reducible refine Kd.C_drewN ?_ _) | (with_reducible refine Kd.C_drew ?_))); (case side2 => exact HC0.out); rintro e w31 ⟨v180, rfl, ho0, hb⟩; refine ⟨_, rfl, ?_⟩; have n0_ := Aside0.mk (Kd.R_lower ho0 (below_size (by repeat (first | (with_reducible first | exact HB.out | apply below_alloc | apply pw_below_drewN | apply below_drew1 | refine below_set ?_ GE163.out) | exact HB.out)))); have n1_ := Aside0.mk (blk_below (g := gb163) (o := .cells #[.int .i64 0, .int .i64 0, .string (⟨#[]⟩ : ByteArray)] 27 (0, 0)) (by (with_reducible repeat (first | refine blk_drewN ?_ _ | refine blk_drew ?_ | refine blk_alloc ?_ _)); exact BK163.out) hb); have n2_ := Aside0.mk (below_step (by repeat (first | (with_reducible first | exact HB.out | apply below_alloc | apply pw_below_drewN | apply below_drew1 | refine below_set ?_ GE163.out) | exact HB.out)) hb); clear BK163; clear HB; have HO181 := n0_; have BK163 := n1_; have HB := n2_; clear n0_ n1_ n2_; (try clear hb); (try clear hb2); (try clear hk); (try clear hi); (try clear ho0)))
                 go_meet
                 case rel => exact ⟨_, (t177), (t178), (t179), (by first | rfl | (simp; done) | (simp [*]; done)), (by first | rfl | (simp; done) | (simp [*]; done)), H', ⟨by have := HJ2.out; have := HJ14.out; have := HJ18.out; have := HJ21.out; first | omega | exact Nat.le_refl _⟩, ⟨by (with_reducible repeat (first | apply Kd.R_alloc | apply Kd.R_drewN | apply Kd.R_drew)); exact HO181.out⟩, ⟨by (with_reducible repeat (first | refine blk_drewN ?_ _ | refine blk_drew ?_ | refine blk_alloc ?_ _)); exact BK163.out⟩, ⟨by repeat (first | (with_reducible first | exact HB.out | apply below_alloc | apply pw_below_drewN | apply below_drew1 | refine below_set ?_ GE163.out) | exact HB.out)⟩⟩
               case rest =>
                clear HC26
                try clear c1
                try clear p1
                try clear q1
                try clear hx1
                try clear c2
                try clear p2
                try clear c5
                try clear c5b0
                try clear c6
                try clear p6
                try clear c11
                try clear c11b0
                try clear c13
                try clear c13b0
                try clear c14
                try clear c14b0
                try clear c16
                try clear c16b0
                try clear p17
                try clear q17
                try clear hx17
                try clear c18
                try clear c18b0
                try clear c20
                try clear c20b0
                try clear c20b1
                try clear c21
                try clear c23
                try clear c23b0
                try clear c23b1
                try clear c24
                try clear c25
                try clear c27
                try clear c27b0
                try clear c27b1
                try clear hcz12_0
                try clear hcz12_1
                try clear hcz12_2
                try clear hcz25_0
                try clear hcz25_1
                try clear hcz25_2
                try clear hcz9_0
                try clear hcz9_1
                try clear hcz9_2
                try clear hfz12_0
                try clear hfz12_1
                try clear hfz12_2
                try clear hfz25_0
                try clear hfz25_1
                try clear hfz25_2
                try clear hfz9_0
                try clear hfz9_1
                try clear hfz9_2
                try clear hx170_0
                try clear hx171_0
                try clear p1
                try clear p17
                try clear p170
                try clear p171
                try clear p2
                try clear p6
                try clear q1
                try clear q17
                try clear q170
                try clear q171
                obtain ⟨kq, x9_25, x10_25, x11_25, rfl, rfl, HA, HJ25, HO_9, BK163, HB⟩ := hcut
                cases kq with
                | zero => exact absurd HA.out (by simp [mezzotintref04_Next.j4])
                | succ kj25 =>
                 have H := HA.out
                 clear HA
                 simp only [mezzotintref04_Next.j4] at H
                 by_cases c32 : x11_25 = 0
                 ·as_aux_lemma =>
                  rw [if_pos c32] at H
                  have c32b0 : (x11_25 == 0) = true := beq_iff_eq.mpr c32
                  have c32b1 : (x11_25 != 0) = false := bne_eq_false_iff_eq.mpr c32
                  clear c32
                  by_cases c33 : (x9_25.length : Int) > 65535
                  ·rw [if_pos c33] at H
                   have c33b0 : decide (65535 < (x9_25.length : Int)) = true := decide_eq_true c33
                   have c33b1 : decide (65535 < x9_25.length) = true := decide_eq_true (by omega)
                   clear c33
                   replace H := Option.bind_eq_some_iff.mp H
                   obtain ⟨⟨t182, t183, t184, t185, t186⟩, A340, H⟩ := H
                   replace H : (some (t182, t183, t184, t185, t186)) = some (r1, r2, r3, r4, r5) := H
                   have A34 := Aside0.mk A340
                   clear A340
                   simp only [Option.some.injEq, Prod.mk.injEq] at H
                   obtain ⟨rfl, rfl, rfl, rfl, rfl⟩ := H
                   obtain ⟨Ao35, co35, eo35⟩ := Kd.R_slice HO_9.out
                   subst eo35
                   go_wp2_with (first | ((with_reducible refine gate_callee (f := 50) rfl ?_); refine goesL_ (some 91) rfl rfl Tryd.func50 (by kernel_rfl) rfl #[.int .i64 9] rfl (by (try simp only [List.map_toArray, List.map_cons, List.map_nil]); first | done | rfl | (simp only [List.length_drop, List.length_take]; rfl)) ?_; (with_reducible refine (mezzotintref04_none.calls 9 t182 t183 t184 t185 t186 _ A34.out).mono ?_); rintro e w36 ⟨rfl, hb⟩; refine ⟨_, rfl, ?_⟩; have n0_ := Aside0.mk (Kd.R_below (by (with_reducible repeat (first | apply Kd.R_alloc | apply Kd.R_drewN | apply Kd.R_drew)); exact HO_9.out) hb); have n1_ := Aside0.mk (blk_below (g := gb163) (o := .cells #[.int .i64 0, .int .i64 0, .string (⟨#[]⟩ : ByteArray)] 27 (0, 0)) (by (with_reducible repeat (first | refine blk_drewN ?_ _ | refine blk_drew ?_ | refine blk_alloc ?_ _)); exact BK163.out) hb); have n2_ := Aside0.mk (below_step (by repeat (first | (with_reducible first | exact HB.out | apply below_alloc | apply pw_below_drewN | apply below_drew1 | refine below_set ?_ GE163.out) | exact HB.out)) hb); clear HO_9; clear BK163; clear HB; have HO_9 := n0_; have BK163 := n1_; have HB := n2_; clear n0_ n1_ n2_; (try clear hb); (try clear hb2); (try clear hk); (try clear hi); have hcz37_0 : w36.cell? ⟨gb163, 0, none⟩ = some (.int .i64 0) := (blk_cell BK163.out 0).trans rfl; have hcz37_1 : w36.cell? ⟨gb163, 1, none⟩ = some (.int .i64 0) := (blk_cell BK163.out 1).trans rfl; have hcz37_2 : w36.cell? ⟨gb163, 2, none⟩ = some (.string (⟨#[]⟩ : ByteArray)) := (blk_cell BK163.out 2).trans rfl; have hfz37_0 := blk_frozen BK163.out 0; have hfz37_1 := blk_frozen BK163.out 1; have hfz37_2 := blk_frozen BK163.out 2))
                   refine bodyPost_ret (results_ctt rfl _ _ gb163 27 #[.int .i64 t182, .int .i64 t183, .string t184] (0, 0) _ rfl (by (with_reducible repeat (first | refine blk_drewN ?_ _ | refine blk_drew ?_ | refine blk_alloc ?_ _)); refine blk_put (cs := #[.int .i64 t182, .int .i64 t183, .string (⟨#[]⟩ : ByteArray)]) ?_ 2 _ rfl; (with_reducible repeat (first | refine blk_drewN ?_ _ | refine blk_drew ?_ | refine blk_alloc ?_ _)); refine blk_put (cs := #[.int .i64 t182, .int .i64 0, .string (⟨#[]⟩ : ByteArray)]) ?_ 1 _ rfl; (with_reducible repeat (first | refine blk_drewN ?_ _ | refine blk_drew ?_ | refine blk_alloc ?_ _)); refine blk_put (cs := #[.int .i64 0, .int .i64 0, .string (⟨#[]⟩ : ByteArray)]) ?_ 0 _ rfl; (with_reducible repeat (first | refine blk_drewN ?_ _ | refine blk_drew ?_ | refine blk_alloc ?_ _)); exact BK163.out) Tryd.underlying27 rfl (by kernel_rfl)) rfl ?_
                   exact ⟨by first | rfl | (simp [errW_none, errW_some] <;> rfl) | (simp [*, errW_none, errW_some] <;> rfl), by repeat (first | (with_reducible first | exact HB.out | apply below_alloc | apply pw_below_drewN | apply below_drew1 | refine below_set ?_ GE163.out) | exact HB.out)⟩
                  ·rw [if_neg c33] at H
                   have c33b0 : decide (65535 < (x9_25.length : Int)) = false := decide_eq_false c33
                   have c33b1 : decide (65535 < x9_25.length) = false := decide_eq_false (by omega)
                   clear c33
                   simp only [Option.some.injEq, Prod.mk.injEq] at H
                   obtain ⟨rfl, rfl, rfl, rfl, rfl⟩ := H
                   obtain ⟨Ao38, co38, eo38⟩ := Kd.R_slice HO_9.out
                   subst eo38
                   have hcv39 := own_string (P := Tryd.prog) Tryd.underlying32 Tryd.underlying5 Tryd.underlying9 (Kd.own_of_R HO_9.out)
                   have hcz40_0 : wc.cell? ⟨gb163, 0, none⟩ = some (.int .i64 0) := (blk_cell BK163.out 0).trans rfl
                   have hcz40_1 : wc.cell? ⟨gb163, 1, none⟩ = some (.int .i64 0) := (blk_cell BK163.out 1).trans rfl
                   have hcz40_2 : wc.cell? ⟨gb163, 2, none⟩ = some (.string (⟨#[]⟩ : ByteArray)) := (blk_cell BK163.out 2).trans rfl
                   have hfz40_0 := blk_frozen BK163.out 0
                   have hfz40_1 := blk_frozen BK163.out 1
                   have hfz40_2 := blk_frozen BK163.out 2
                   go_wp2
                   refine bodyPost_ret (results_ctt rfl _ _ gb163 27 #[.int .i64 6, .int .i64 0, .string (strOfNums x9_25)] (0, 0) _ rfl (by (with_reducible repeat (first | refine blk_drewN ?_ _ | refine blk_drew ?_ | refine blk_alloc ?_ _)); refine blk_put (cs := #[.int .i64 6, .int .i64 0, .string (⟨#[]⟩ : ByteArray)]) ?_ 2 _ rfl; (with_reducible repeat (first | refine blk_drewN ?_ _ | refine blk_drew ?_ | refine blk_alloc ?_ _)); refine blk_put (cs := #[.int .i64 6, .int .i64 0, .string (⟨#[]⟩ : ByteArray)]) ?_ 1 _ rfl; (with_reducible repeat (first | refine blk_drewN ?_ _ | refine blk_drew ?_ | refine blk_alloc ?_ _)); refine blk_put (cs := #[.int .i64 0, .int .i64 0, .string (⟨#[]⟩ : ByteArray)]) ?_ 0 _ rfl; (with_reducible repeat (first | refine blk_drewN ?_ _ | refine blk_drew ?_ | refine blk_alloc ?_ _)); exact BK163.out) Tryd.underlying27 rfl (by kernel_rfl)) rfl ?_
                   exact ⟨by first | rfl | (simp [errW_none, errW_some] <;> rfl) | (simp [*, errW_none, errW_some] <;> rfl), by repeat (first | (with_reducible first | exact HB.out | apply below_alloc | apply pw_below_drewN | apply below_drew1 | refine below_set ?_ GE163.out) | exact HB.out)⟩
                 ·as_aux_lemma =>
                  rw [if_neg c32] at H
                  have c32b0 : (x11_25 == 0) = false := beq_eq_false_iff_ne.mpr c32
                  have c32b1 : (x11_25 != 0) = true := bne_iff_ne.mpr c32
                  replace H := Option.bind_eq_some_iff.mp H
                  obtain ⟨⟨t187, t188, t189, t190, t191⟩, A410, H⟩ := H
                  replace H : (some (t187, t188, t189, t190, t191)) = some (r1, r2, r3, r4, r5) := H
                  have A41 := Aside0.mk A410
                  clear A410
                  simp only [Option.some.injEq, Prod.mk.injEq] at H
                  obtain ⟨rfl, rfl, rfl, rfl, rfl⟩ := H
                  go_wp2_with (first | ((with_reducible refine gate_callee (f := 50) rfl ?_); refine goesL_ (some 84) rfl rfl Tryd.func50 (by kernel_rfl) rfl #[.int .i64 x11_25] rfl (by (try simp only [List.map_toArray, List.map_cons, List.map_nil]); first | done | rfl | (simp only [List.length_drop, List.length_take]; rfl)) ?_; (with_reducible refine (mezzotintref04_none.calls x11_25 t187 t188 t189 t190 t191 _ A41.out).mono ?_); rintro e w42 ⟨rfl, hb⟩; refine ⟨_, rfl, ?_⟩; have n0_ := Aside0.mk (Kd.R_below (by (with_reducible repeat (first | apply Kd.R_alloc | apply Kd.R_drewN | apply Kd.R_drew)); exact HO_9.out) hb); have n1_ := Aside0.mk (blk_below (g := gb163) (o := .cells #[.int .i64 0, .int .i64 0, .string (⟨#[]⟩ : ByteArray)] 27 (0, 0)) (by (with_reducible repeat (first | refine blk_drewN ?_ _ | refine blk_drew ?_ | refine blk_alloc ?_ _)); exact BK163.out) hb); have n2_ := Aside0.mk (below_step (by repeat (first | (with_reducible first | exact HB.out | apply below_alloc | apply pw_below_drewN | apply below_drew1 | refine below_set ?_ GE163.out) | exact HB.out)) hb); clear HO_9; clear BK163; clear HB; have HO_9 := n0_; have BK163 := n1_; have HB := n2_; clear n0_ n1_ n2_; (try clear hb); (try clear hb2); (try clear hk); (try clear hi); have hcz43_0 : w42.cell? ⟨gb163, 0, none⟩ = some (.int .i64 0) := (blk_cell BK163.out 0).trans rfl; have hcz43_1 : w42.cell? ⟨gb163, 1, none⟩ = some (.int .i64 0) := (blk_cell BK163.out 1).trans rfl; have hcz43_2 : w42.cell? ⟨gb163, 2, none⟩ = some (.string (⟨#[]⟩ : ByteArray)) := (blk_cell BK163.out 2).trans rfl; have hfz43_0 := blk_frozen BK163.out 0; have hfz43_1 := blk_frozen BK163.out 1; have hfz43_2 := blk_frozen BK163.out 2))
                  refine bodyPost_ret (results_ctt rfl _ _ gb163 27 #[.int .i64 t187, .int .i64 t188, .string t189] (0, 0) _ rfl (by (with_reducible repeat (first | refine blk_drewN ?_ _ | refine blk_drew ?_ | refine blk_alloc ?_ _)); refine blk_put (cs := #[.int .i64 t187, .int .i64 t188, .string (⟨#[]⟩ : ByteArray)]) ?_ 2 _ rfl; (with_reducible repeat (first | refine blk_drewN ?_ _ | refine blk_drew ?_ | refine blk_alloc ?_ _)); refine blk_put (cs := #[.int .i64 t187, .int .i64 0, .string (⟨#[]⟩ : ByteArray)]) ?_ 1 _ rfl; (with_reducible repeat (first | refine blk_drewN ?_ _ | refine blk_drew ?_ | refine blk_alloc ?_ _)); refine blk_put (cs := #[.int .i64 0, .int .i64 0, .string (⟨#[]⟩ : ByteArray)]) ?_ 0 _ rfl; (with_reducible repeat (first | refine blk_drewN ?_ _ | refine blk_drew ?_ | refine blk_alloc ?_ _)); exact BK163.out) Tryd.underlying27 rfl (by kernel_rfl)) rfl ?_
                  exact ⟨by first | rfl | (simp [errW_none, errW_some] <;> rfl) | (simp [*, errW_none, errW_some] <;> rfl), by repeat (first | (with_reducible first | exact HB.out | apply below_alloc | apply pw_below_drewN | apply below_drew1 | refine below_set ?_ GE163.out) | exact HB.out)⟩
           ·replace c21 := Bool.eq_false_iff.mpr c21
            subst c21
            have H1 : (if (rd l0 t169) = 41 then ((mezzotintref04_none.f 14).bind fun bt192 => (some (bt192.1, bt192.2.1, bt192.2.2.1, bt192.2.2.2.1, bt192.2.2.2.2))) else (if (rd l0 t169) = 62 then (if x8_14 = 62 then (some (3, 0, (⟨#[62, 62]⟩ : ByteArray), wrap64 (t169 + 2), 0)) else ((mezzotintref04_none.f 14).bind fun bt197 => (some (bt197.1, bt197.2.1, bt197.2.2.1, bt197.2.2.2.1, bt197.2.2.2.2)))) else (if (rd l0 t169) = 123 then (some (7, 0, (⟨#[]⟩ : ByteArray), wrap64 (t169 + 1), 0)) else (if (rd l0 t169) = 125 then (some (8, 0, (⟨#[]⟩ : ByteArray), wrap64 (t169 + 1), 0)) else (if (rd l0 t169) = 91 then (mezzotintref04_Next.j5 kj18 l0 t169 (rd l0 t169) x8_14 (rd l0 t169) ((rd l0 t169) == 91)) else (mezzotintref04_Next.j5 kj18 l0 t169 (rd l0 t169) x8_14 (rd l0 t169) ((rd l0 t169) == 93))))))) = some (r1, r2, r3, r4, r5) := by rw [if_neg (show ¬ (false = true) by decide)] at H; exact H
            clear H
            have H := H1
            clear H1
            by_cases c44 : (rd l0 t169) = 41
            ·as_aux_lemma =>
             rw [if_pos c44] at H
             have c44b0 : ((rd l0 t169) == 41) = true := beq_iff_eq.mpr c44
             have c44b1 : ((rd l0 t169) != 41) = false := bne_eq_false_iff_eq.mpr c44
             clear c44
             replace H := Option.bind_eq_some_iff.mp H
             obtain ⟨⟨t192, t193, t194, t195, t196⟩, A450, H⟩ := H
             replace H : (some (t192, t193, t194, t195, t196)) = some (r1, r2, r3, r4, r5) := H
             have A45 := Aside0.mk A450
             clear A450
             simp only [Option.some.injEq, Prod.mk.injEq] at H
             obtain ⟨rfl, rfl, rfl, rfl, rfl⟩ := H
             go_wp2_with (first | ((with_reducible refine gate_callee (f := 50) rfl ?_); refine goesL_ (some 101) rfl rfl Tryd.func50 (by kernel_rfl) rfl #[.int .i64 14] rfl (by (try simp only [List.map_toArray, List.map_cons, List.map_nil]); first | done | rfl | (simp only [List.length_drop, List.length_take]; rfl)) ?_; (with_reducible refine (mezzotintref04_none.calls 14 t192 t193 t194 t195 t196 _ A45.out).mono ?_); rintro e w46 ⟨rfl, hb⟩; refine ⟨_, rfl, ?_⟩; have n0_ := Aside0.mk (blk_below (g := gb163) (o := .cells #[.int .i64 0, .int .i64 0, .string (⟨#[]⟩ : ByteArray)] 27 (0, 0)) (by (with_reducible repeat (first | refine blk_drewN ?_ _ | refine blk_drew ?_ | refine blk_alloc ?_ _)); exact BK163.out) hb); have n1_ := Aside0.mk (below_step (by repeat (first | (with_reducible first | exact HB.out | apply below_alloc | apply pw_below_drewN | apply below_drew1 | refine below_set ?_ GE163.out) | exact HB.out)) hb); clear BK163; clear HB; have BK163 := n0_; have HB := n1_; clear n0_ n1_; (try clear hb); (try clear hb2); (try clear hk); (try clear hi); have hcz47_0 : w46.cell? ⟨gb163, 0, none⟩ = some (.int .i64 0) := (blk_cell BK163.out 0).trans rfl; have hcz47_1 : w46.cell? ⟨gb163, 1, none⟩ = some (.int .i64 0) := (blk_cell BK163.out 1).trans rfl; have hcz47_2 : w46.cell? ⟨gb163, 2, none⟩ = some (.string (⟨#[]⟩ : ByteArray)) := (blk_cell BK163.out 2).trans rfl; have hfz47_0 := blk_frozen BK163.out 0; have hfz47_1 := blk_frozen BK163.out 1; have hfz47_2 := blk_frozen BK163.out 2))
             refine bodyPost_ret (results_ctt rfl _ _ gb163 27 #[.int .i64 t192, .int .i64 t193, .string t194] (0, 0) _ rfl (by (with_reducible repeat (first | refine blk_drewN ?_ _ | refine blk_drew ?_ | refine blk_alloc ?_ _)); refine blk_put (cs := #[.int .i64 t192, .int .i64 t193, .string (⟨#[]⟩ : ByteArray)]) ?_ 2 _ rfl; (with_reducible repeat (first | refine blk_drewN ?_ _ | refine blk_drew ?_ | refine blk_alloc ?_ _)); refine blk_put (cs := #[.int .i64 t192, .int .i64 0, .string (⟨#[]⟩ : ByteArray)]) ?_ 1 _ rfl; (with_reducible repeat (first | refine blk_drewN ?_ _ | refine blk_drew ?_ | refine blk_alloc ?_ _)); refine blk_put (cs := #[.int .i64 0, .int .i64 0, .string (⟨#[]⟩ : ByteArray)]) ?_ 0 _ rfl; (with_reducible repeat (first | refine blk_drewN ?_ _ | refine blk_drew ?_ | refine blk_alloc ?_ _)); exact BK163.out) Tryd.underlying27 rfl (by kernel_rfl)) rfl ?_
             exact ⟨by first | rfl | (simp [errW_none, errW_some] <;> rfl) | (simp [*, errW_none, errW_some] <;> rfl), by repeat (first | (with_reducible first | exact HB.out | apply below_alloc | apply pw_below_drewN | apply below_drew1 | refine below_set ?_ GE163.out) | exact HB.out)⟩
            ·rw [if_neg c44] at H
             have c44b0 : ((rd l0 t169) == 41) = false := beq_eq_false_iff_ne.mpr c44
             have c44b1 : ((rd l0 t169) != 41) = true := bne_iff_ne.mpr c44
             by_cases c48 : (rd l0 t169) = 62
             ·as_aux_lemma =>
              rw [if_pos c48] at H
              have c48b0 : ((rd l0 t169) == 62) = true := beq_iff_eq.mpr c48
              have c48b1 : ((rd l0 t169) != 62) = false := bne_eq_false_iff_eq.mpr c48
              clear c48
              by_cases c49 : x8_14 = 62
              ·rw [if_pos c49] at H
               have c49b0 : (x8_14 == 62) = true := beq_iff_eq.mpr c49
               have c49b1 : (x8_14 != 62) = false := bne_eq_false_iff_eq.mpr c49
               clear c49
               simp only [Option.some.injEq, Prod.mk.injEq] at H
               obtain ⟨rfl, rfl, rfl, rfl, rfl⟩ := H
               have hcz50_0 : wc.cell? ⟨gb163, 0, none⟩ = some (.int .i64 0) := (blk_cell BK163.out 0).trans rfl
               have hcz50_1 : wc.cell? ⟨gb163, 1, none⟩ = some (.int .i64 0) := (blk_cell BK163.out 1).trans rfl
               have hcz50_2 : wc.cell? ⟨gb163, 2, none⟩ = some (.string (⟨#[]⟩ : ByteArray)) := (blk_cell BK163.out 2).trans rfl
               have hfz50_0 := blk_frozen BK163.out 0
               have hfz50_1 := blk_frozen BK163.out 1
               have hfz50_2 := blk_frozen BK163.out 2
               go_wp2
               refine bodyPost_ret (results_ctt rfl _ _ gb163 27 #[.int .i64 3, .int .i64 0, .string (⟨#[62, 62]⟩ : ByteArray)] (0, 0) _ rfl (by (with_reducible repeat (first | refine blk_drewN ?_ _ | refine blk_drew ?_ | refine blk_alloc ?_ _)); refine blk_put (cs := #[.int .i64 3, .int .i64 0, .string (⟨#[]⟩ : ByteArray)]) ?_ 2 _ rfl; (with_reducible repeat (first | refine blk_drewN ?_ _ | refine blk_drew ?_ | refine blk_alloc ?_ _)); refine blk_put (cs := #[.int .i64 3, .int .i64 0, .string (⟨#[]⟩ : ByteArray)]) ?_ 1 _ rfl; (with_reducible repeat (first | refine blk_drewN ?_ _ | refine blk_drew ?_ | refine blk_alloc ?_ _)); refine blk_put (cs := #[.int .i64 0, .int .i64 0, .string (⟨#[]⟩ : ByteArray)]) ?_ 0 _ rfl; (with_reducible repeat (first | refine blk_drewN ?_ _ | refine blk_drew ?_ | refine blk_alloc ?_ _)); exact BK163.out) Tryd.underlying27 rfl (by kernel_rfl)) rfl ?_
               exact ⟨by first | rfl | (simp [errW_none, errW_some] <;> rfl) | (simp [*, errW_none, errW_some] <;> rfl), by repeat (first | (with_reducible first | exact HB.out | apply below_alloc | apply pw_below_drewN | apply below_drew1 | refine below_set ?_ GE163.out) | exact HB.out)⟩
              ·rw [if_neg c49] at H
               have c49b0 : (x8_14 == 62) = false := beq_eq_false_iff_ne.mpr c49
               have c49b1 : (x8_14 != 62) = true := bne_iff_ne.mpr c49
               replace H := Option.bind_eq_some_iff.mp H
               obtain ⟨⟨t197, t198, t199, t200, t201⟩, A510, H⟩ := H
               replace H : (some (t197, t198, t199, t200, t201)) = some (r1, r2, r3, r4, r5) := H
               have A51 := Aside0.mk A510
               clear A510
               simp only [Option.some.injEq, Prod.mk.injEq] at H
               obtain ⟨rfl, rfl, rfl, rfl, rfl⟩ := H
               go_wp2_with (first | ((with_reducible refine gate_callee (f := 50) rfl ?_); refine goesL_ (some 109) rfl rfl Tryd.func50 (by kernel_rfl) rfl #[.int .i64 14] rfl (by (try simp only [List.map_toArray, List.map_cons, List.map_nil]); first | done | rfl | (simp only [List.length_drop, List.length_take]; rfl)) ?_; (with_reducible refine (mezzotintref04_none.calls 14 t197 t198 t199 t200 t201 _ A51.out).mono ?_); rintro e w52 ⟨rfl, hb⟩; refine ⟨_, rfl, ?_⟩; have n0_ := Aside0.mk (blk_below (g := gb163) (o := .cells #[.int .i64 0, .int .i64 0, .string (⟨#[]⟩ : ByteArray)] 27 (0, 0)) (by (with_reducible repeat (first | refine blk_drewN ?_ _ | refine blk_drew ?_ | refine blk_alloc ?_ _)); exact BK163.out) hb); have n1_ := Aside0.mk (below_step (by repeat (first | (with_reducible first | exact HB.out | apply below_alloc | apply pw_below_drewN | apply below_drew1 | refine below_set ?_ GE163.out) | exact HB.out)) hb); clear BK163; clear HB; have BK163 := n0_; have HB := n1_; clear n0_ n1_; (try clear hb); (try clear hb2); (try clear hk); (try clear hi); have hcz53_0 : w52.cell? ⟨gb163, 0, none⟩ = some (.int .i64 0) := (blk_cell BK163.out 0).trans rfl; have hcz53_1 : w52.cell? ⟨gb163, 1, none⟩ = some (.int .i64 0) := (blk_cell BK163.out 1).trans rfl; have hcz53_2 : w52.cell? ⟨gb163, 2, none⟩ = some (.string (⟨#[]⟩ : ByteArray)) := (blk_cell BK163.out 2).trans rfl; have hfz53_0 := blk_frozen BK163.out 0; have hfz53_1 := blk_frozen BK163.out 1; have hfz53_2 := blk_frozen BK163.out 2))
               refine bodyPost_ret (results_ctt rfl _ _ gb163 27 #[.int .i64 t197, .int .i64 t198, .string t199] (0, 0) _ rfl (by (with_reducible repeat (first | refine blk_drewN ?_ _ | refine blk_drew ?_ | refine blk_alloc ?_ _)); refine blk_put (cs := #[.int .i64 t197, .int .i64 t198, .string (⟨#[]⟩ : ByteArray)]) ?_ 2 _ rfl; (with_reducible repeat (first | refine blk_drewN ?_ _ | refine blk_drew ?_ | refine blk_alloc ?_ _)); refine blk_put (cs := #[.int .i64 t197, .int .i64 0, .string (⟨#[]⟩ : ByteArray)]) ?_ 1 _ rfl; (with_reducible repeat (first | refine blk_drewN ?_ _ | refine blk_drew ?_ | refine blk_alloc ?_ _)); refine blk_put (cs := #[.int .i64 0, .int .i64 0, .string (⟨#[]⟩ : ByteArray)]) ?_ 0 _ rfl; (with_reducible repeat (first | refine blk_drewN ?_ _ | refine blk_drew ?_ | refine blk_alloc ?_ _)); exact BK163.out) Tryd.underlying27 rfl (by kernel_rfl)) rfl ?_
               exact ⟨by first | rfl | (simp [errW_none, errW_some] <;> rfl) | (simp [*, errW_none, errW_some] <;> rfl), by repeat (first | (with_reducible first | exact HB.out | apply below_alloc | apply pw_below_drewN | apply below_drew1 | refine below_set ?_ GE163.out) | exact HB.out)⟩
             ·rw [if_neg c48] at H
              have c48b0 : ((rd l0 t169) == 62) = false := beq_eq_false_iff_ne.mpr c48
              have c48b1 : ((rd l0 t169) != 62) = true := bne_iff_ne.mpr c48
              by_cases c54 : (rd l0 t169) = 123
              ·as_aux_lemma =>
               rw [if_pos c54] at H
               have c54b0 : ((rd l0 t169) == 123) = true := beq_iff_eq.mpr c54
               have c54b1 : ((rd l0 t169) != 123) = false := bne_eq_false_iff_eq.mpr c54
               clear c54
               simp only [Option.some.injEq, Prod.mk.injEq] at H
               obtain ⟨rfl, rfl, rfl, rfl, rfl⟩ := H
               have hcz55_0 : wc.cell? ⟨gb163, 0, none⟩ = some (.int .i64 0) := (blk_cell BK163.out 0).trans rfl
               have hcz55_1 : wc.cell? ⟨gb163, 1, none⟩ = some (.int .i64 0) := (blk_cell BK163.out 1).trans rfl
               have hcz55_2 : wc.cell? ⟨gb163, 2, none⟩ = some (.string (⟨#[]⟩ : ByteArray)) := (blk_cell BK163.out 2).trans rfl
               have hfz55_0 := blk_frozen BK163.out 0
               have hfz55_1 := blk_frozen BK163.out 1
               have hfz55_2 := blk_frozen BK163.out 2
               go_wp2
               refine bodyPost_ret (results_ctt rfl _ _ gb163 27 #[.int .i64 7, .int .i64 0, .string (⟨#[]⟩ : ByteArray)] (0, 0) _ rfl (by (with_reducible repeat (first | refine blk_drewN ?_ _ | refine blk_drew ?_ | refine blk_alloc ?_ _)); refine blk_put (cs := #[.int .i64 7, .int .i64 0, .string (⟨#[]⟩ : ByteArray)]) ?_ 2 _ rfl; (with_reducible repeat (first | refine blk_drewN ?_ _ | refine blk_drew ?_ | refine blk_alloc ?_ _)); refine blk_put (cs := #[.int .i64 7, .int .i64 0, .string (⟨#[]⟩ : ByteArray)]) ?_ 1 _ rfl; (with_reducible repeat (first | refine blk_drewN ?_ _ | refine blk_drew ?_ | refine blk_alloc ?_ _)); refine blk_put (cs := #[.int .i64 0, .int .i64 0, .string (⟨#[]⟩ : ByteArray)]) ?_ 0 _ rfl; (with_reducible repeat (first | refine blk_drewN ?_ _ | refine blk_drew ?_ | refine blk_alloc ?_ _)); exact BK163.out) Tryd.underlying27 rfl (by kernel_rfl)) rfl ?_
               exact ⟨by first | rfl | (simp [errW_none, errW_some] <;> rfl) | (simp [*, errW_none, errW_some] <;> rfl), by repeat (first | (with_reducible first | exact HB.out | apply below_alloc | apply pw_below_drewN | apply below_drew1 | refine below_set ?_ GE163.out) | exact HB.out)⟩
              ·rw [if_neg c54] at H
               have c54b0 : ((rd l0 t169) == 123) = false := beq_eq_false_iff_ne.mpr c54
               have c54b1 : ((rd l0 t169) != 123) = true := bne_iff_ne.mpr c54
               by_cases c56 : (rd l0 t169) = 125
               ·as_aux_lemma =>
                rw [if_pos c56] at H
                have c56b0 : ((rd l0 t169) == 125) = true := beq_iff_eq.mpr c56
                have c56b1 : ((rd l0 t169) != 125) = false := bne_eq_false_iff_eq.mpr c56
                clear c56
                simp only [Option.some.injEq, Prod.mk.injEq] at H
                obtain ⟨rfl, rfl, rfl, rfl, rfl⟩ := H
                have hcz57_0 : wc.cell? ⟨gb163, 0, none⟩ = some (.int .i64 0) := (blk_cell BK163.out 0).trans rfl
                have hcz57_1 : wc.cell? ⟨gb163, 1, none⟩ = some (.int .i64 0) := (blk_cell BK163.out 1).trans rfl
                have hcz57_2 : wc.cell? ⟨gb163, 2, none⟩ = some (.string (⟨#[]⟩ : ByteArray)) := (blk_cell BK163.out 2).trans rfl
                have hfz57_0 := blk_frozen BK163.out 0
                have hfz57_1 := blk_frozen BK163.out 1
                have hfz57_2 := blk_frozen BK163.out 2
                go_wp2
                refine bodyPost_ret (results_ctt rfl _ _ gb163 27 #[.int .i64 8, .int .i64 0, .string (⟨#[]⟩ : ByteArray)] (0, 0) _ rfl (by (with_reducible repeat (first | refine blk_drewN ?_ _ | refine blk_drew ?_ | refine blk_alloc ?_ _)); refine blk_put (cs := #[.int .i64 8, .int .i64 0, .string (⟨#[]⟩ : ByteArray)]) ?_ 2 _ rfl; (with_reducible repeat (first | refine blk_drewN ?_ _ | refine blk_drew ?_ | refine blk_alloc ?_ _)); refine blk_put (cs := #[.int .i64 8, .int .i64 0, .string (⟨#[]⟩ : ByteArray)]) ?_ 1 _ rfl; (with_reducible repeat (first | refine blk_drewN ?_ _ | refine blk_drew ?_ | refine blk_alloc ?_ _)); refine blk_put (cs := #[.int .i64 0, .int .i64 0, .string (⟨#[]⟩ : ByteArray)]) ?_ 0 _ rfl; (with_reducible repeat (first | refine blk_drewN ?_ _ | refine blk_drew ?_ | refine blk_alloc ?_ _)); exact BK163.out) Tryd.underlying27 rfl (by kernel_rfl)) rfl ?_
                exact ⟨by first | rfl | (simp [errW_none, errW_some] <;> rfl) | (simp [*, errW_none, errW_some] <;> rfl), by repeat (first | (with_reducible first | exact HB.out | apply below_alloc | apply pw_below_drewN | apply below_drew1 | refine below_set ?_ GE163.out) | exact HB.out)⟩
               ·rw [if_neg c56] at H
                have c56b0 : ((rd l0 t169) == 125) = false := beq_eq_false_iff_ne.mpr c56
                have c56b1 : ((rd l0 t169) != 125) = true := bne_iff_ne.mpr c56
                have HC58 := Aside0.mk H
                clear H
                go_upto_if 126 with (fail)
                go_cut [126] (fun v126 wc => ∃ (kq : Nat) (x126_57 : Bool), v126 = .bool x126_57 ∧ Aside0 (mezzotintref04_Next.j5 kq l0 t169 (rd l0 t169) x8_14 (rd l0 t169) x126_57 = some (r1, r2, r3, r4, r5)) ∧ Aside0 (kq ≤ kj18) ∧ Aside0 (wc.heap[gb163]? = some (.cells #[.int .i64 0, .int .i64 0, .string (⟨#[]⟩ : ByteArray)] 27 (0, 0))) ∧ Aside0 (Below w.heap.size w wc))
                case first =>
                 have H := HC58.out
                 clear HC58
                 by_cases c59 : (rd l0 t169) = 91
                 ·as_aux_lemma =>
                  rw [if_pos c59] at H
                  have c59b0 : ((rd l0 t169) == 91) = true := beq_iff_eq.mpr c59
                  have c59b1 : ((rd l0 t169) != 91) = false := bne_eq_false_iff_eq.mpr c59
                  clear c59
                  (first | rw [c59b0] | (simp only [i64_w, i32_w]; rw [c59b0]) | skip)
                  have H' := Aside0.mk H
                  clear H
                  go_wp2
                  go_meet
                  case rel => exact ⟨_, (((rd l0 t169) == 91)), (by first | rfl | (simp; done) | (simp [*]; done)), H', ⟨by have := HJ2.out; have := HJ14.out; have := HJ18.out; first | omega | exact Nat.le_refl _⟩, ⟨by (with_reducible repeat (first | refine blk_drewN ?_ _ | refine blk_drew ?_ | refine blk_alloc ?_ _)); exact BK163.out⟩, ⟨by repeat (first | (with_reducible first | exact HB.out | apply below_alloc | apply pw_below_drewN | apply below_drew1 | refine below_set ?_ GE163.out) | exact HB.out)⟩⟩
                 ·as_aux_lemma =>
                  rw [if_neg c59] at H
                  have c59b0 : ((rd l0 t169) == 91) = false := beq_eq_false_iff_ne.mpr c59
                  have c59b1 : ((rd l0 t169) != 91) = true := bne_iff_ne.mpr c59
                  (first | rw [c59b0] | (simp only [i64_w, i32_w]; rw [c59b0]) | skip)
                  have H' := Aside0.mk H
                  clear H
                  go_wp2
                  go_meet
                  case rel => exact ⟨_, (((rd l0 t169) == 93)), (by first | rfl | (simp; done) | (simp [*]; done)), H', ⟨by have := HJ2.out; have := HJ14.out; have := HJ18.out; first | omega | exact Nat.le_refl _⟩, ⟨by (with_reducible repeat (first | refine blk_drewN ?_ _ | refine blk_drew ?_ | refine blk_alloc ?_ _)); exact BK163.out⟩, ⟨by repeat (first | (with_reducible first | exact HB.out | apply below_alloc | apply pw_below_drewN | apply below_drew1 | refine below_set ?_ GE163.out) | exact HB.out)⟩⟩
                case rest =>
                 clear HC58
                 try clear c1
                 try clear p1
                 try clear q1
                 try clear hx1
                 try clear c2
                 try clear p2
                 try clear c3
                 try clear hcv3
                 try clear c4
                 try clear c5
                 try clear c5b0
                 try clear c6
                 try clear p6
                 try clear c11
                 try clear c11b0
                 try clear c13
                 try clear c13b0
                 try clear c14
                 try clear c14b0
                 try clear c16
                 try clear c16b0
                 try clear p17
                 try clear q17
                 try clear hx17
                 try clear c18
                 try clear c18b0
                 try clear c20
                 try clear c20b0
                 try clear c20b1
                 try clear c21
                 try clear c23
                 try clear c23b0
                 try clear c23b1
                 try clear c24
                 try clear c25
                 try clear c27
                 try clear c27b0
                 try clear c27b1
                 try clear c32
                 try clear c32b0
                 try clear c32b1
                 try clear c33
                 try clear c33b0
                 try clear c33b1
                 try clear hcv39
                 try clear c44
                 try clear c44b0
                 try clear c44b1
                 try clear c48
                 try clear c48b0
                 try clear c48b1
                 try clear c49
                 try clear c49b0
                 try clear c49b1
                 try clear c50
                 try clear c51
                 try clear c52
                 try clear c53
                 try clear c54
                 try clear c54b0
                 try clear c54b1
                 try clear c56
                 try clear c56b0
                 try clear c56b1
                 try clear c59
                 try clear c59b0
                 try clear c59b1
                 try clear hcz12_0
                 try clear hcz12_1
                 try clear hcz12_2
                 try clear hcz25_0
                 try clear hcz25_1
                 try clear hcz25_2
                 try clear hcz37_0
                 try clear hcz37_1
                 try clear hcz37_2
                 try clear hcz40_0
                 try clear hcz40_1
                 try clear hcz40_2
                 try clear hcz43_0
                 try clear hcz43_1
                 try clear hcz43_2
                 try clear hcz47_0
                 try clear hcz47_1
                 try clear hcz47_2
                 try clear hcz50_0
                 try clear hcz50_1
                 try clear hcz50_2
                 try clear hcz53_0
                 try clear hcz53_1
                 try clear hcz53_2
                 try clear hcz55_0
                 try clear hcz55_1
                 try clear hcz55_2
                 try clear hcz57_0
                 try clear hcz57_1
                 try clear hcz57_2
                 try clear hcz9_0
                 try clear hcz9_1
                 try clear hcz9_2
                 try clear hfz12_0
                 try clear hfz12_1
                 try clear hfz12_2
                 try clear hfz25_0
                 try clear hfz25_1
                 try clear hfz25_2
                 try clear hfz37_0
                 try clear hfz37_1
                 try clear hfz37_2
                 try clear hfz40_0
                 try clear hfz40_1
                 try clear hfz40_2
                 try clear hfz43_0
                 try clear hfz43_1
                 try clear hfz43_2
                 try clear hfz47_0
                 try clear hfz47_1
                 try clear hfz47_2
                 try clear hfz50_0
                 try clear hfz50_1
                 try clear hfz50_2
                 try clear hfz53_0
                 try clear hfz53_1
                 try clear hfz53_2
                 try clear hfz55_0
                 try clear hfz55_1
                 try clear hfz55_2
                 try clear hfz57_0
                 try clear hfz57_1
                 try clear hfz57_2
                 try clear hfz9_0
                 try clear hfz9_1
                 try clear hfz9_2
                 try clear hx170_0
                 try clear hx171_0
                 try clear p1
                 try clear p17
                 try clear p170
                 try clear p171
                 try clear p2
                 try clear p6
                 try clear q1
                 try clear q17
                 try clear q170
                 try clear q171
                 obtain ⟨kq, x126_57, rfl, HA, HJ57, BK163, HB⟩ := hcut
                 cases kq with
                 | zero => exact absurd HA.out (by simp [mezzotintref04_Next.j5])
                 | succ kj57 =>
                  have H := HA.out
                  clear HA
                  simp only [mezzotintref04_Next.j5] at H
                  by_cases c60 : x126_57 = true
                  ·subst c60
                   have H1 : (some (3, 0, strOfNums (([(rd l0 t169)] : List Int)), wrap64 (t169 + 1), 0)) = some (r1, r2, r3, r4, r5) := by rw [if_pos rfl] at H; exact H
                   clear H
                   have H := H1
                   clear H1
                   obtain ⟨y202, hy202⟩ : ∃ y_ : List Int, y_ = (([(rd l0 t169)] : List Int)) := ⟨_, rfl⟩
                   replace H : (some (3, 0, strOfNums y202, wrap64 (t169 + 1), 0)) = some (r1, r2, r3, r4, r5) := by first | (rw [hy202]; with_reducible exact H) | (have H2_ := (Option.bind_some _ _).symm.trans H; rw [hy202]; with_reducible exact H2_) | (have H2_ := (Option.bind_some _ _).symm.trans H; with_reducible exact H2_) | with_reducible exact H | (rw [hy202]; exact H) | exact H
                   have Ny202 := Aside0.mk hy202
                   clear hy202
                   simp only [Option.some.injEq, Prod.mk.injEq] at H
                   obtain ⟨rfl, rfl, rfl, rfl, rfl⟩ := H
                   go_wp2_with (first | ((with_reducible refine gate_dst (N := 130) rfl ?_); (try (refine gate_guard (by rfl) ?_; dsimp only)); refine Kd.R_lit (Kd.int .u8) _ 5 ?hg (N := 130) ?hd (xs := ([(rd l0 t169)] : List Int)) (inner := [.int .u8 (rd l0 t169)]) (ok := fun _ => True) (okp := fun _ => True) ?hr ?hp (fun _ hk => hk) trivial (Below.refl _ _) (Nat.le_refl _) (by simp) ?_; (case hd => rfl); (case hg => rfl); (case hr => first | (go_simp; done) | (go_simp; rfl)); (case hp => exact (Reps.one (show Kd.M (Kd.int .u8) _ _ _ (rd l0 t169) [.int .u8 (rd l0 t169)] from rfl) (Reps.none _ _))); intro v203 w61 ho62 hb hg_ hnew_; clear hg_ hnew_; (first | rw [← Ny202.out] at ho62 | (simp only [Int.reduceToNat] at ho62; rw [← Ny202.out] at ho62)); have n0_ := Aside0.mk (Kd.R_lower ho62 (below_size (by repeat (first | (with_reducible first | exact HB.out | apply below_alloc | apply pw_below_drewN | apply below_drew1 | refine below_set ?_ GE163.out) | exact HB.out)))); have n1_ := Aside0.mk (blk_below (g := gb163) (o := .cells #[.int .i64 0, .int .i64 0, .string (⟨#[]⟩ : ByteArray)] 27 (0, 0)) (by (with_reducible repeat (first | refine blk_drewN ?_ _ | refine blk_drew ?_ | refine blk_alloc ?_ _)); exact BK163.out) hb); have n2_ := Aside0.mk (below_step (by repeat (first | (with_reducible first | exact HB.out | apply below_alloc | apply pw_below_drewN | apply below_drew1 | refine below_set ?_ GE163.out) | exact HB.out)) hb); clear BK163; clear HB; have HO204 := n0_; have BK163 := n1_; have HB := n2_; clear n0_ n1_ n2_; clear hb ho62; have hcv63 := own_string (P := Tryd.prog) Tryd.underlying32 Tryd.underlying5 Tryd.underlying9 (Kd.own_of_R HO204.out); have hcz64_0 : w61.cell? ⟨gb163, 0, none⟩ = some (.int .i64 0) := (blk_cell BK163.out 0).trans rfl; have hcz64_1 : w61.cell? ⟨gb163, 1, none⟩ = some (.int .i64 0) := (blk_cell BK163.out 1).trans rfl; have hcz64_2 : w61.cell? ⟨gb163, 2, none⟩ = some (.string (⟨#[]⟩ : ByteArray)) := (blk_cell BK163.out 2).trans rfl; have hfz64_0 := blk_frozen BK163.out 0; have hfz64_1 := blk_frozen BK163.out 1; have hfz64_2 := blk_frozen BK163.out 2))
                   refine bodyPost_ret (results_ctt rfl _ _ gb163 27 #[.int .i64 3, .int .i64 0, .string (strOfNums y202)] (0, 0) _ rfl (by (with_reducible repeat (first | refine blk_drewN ?_ _ | refine blk_drew ?_ | refine blk_alloc ?_ _)); refine blk_put (cs := #[.int .i64 3, .int .i64 0, .string (⟨#[]⟩ : ByteArray)]) ?_ 2 _ rfl; (with_reducible repeat (first | refine blk_drewN ?_ _ | refine blk_drew ?_ | refine blk_alloc ?_ _)); refine blk_put (cs := #[.int .i64 3, .int .i64 0, .string (⟨#[]⟩ : ByteArray)]) ?_ 1 _ rfl; (with_reducible repeat (first | refine blk_drewN ?_ _ | refine blk_drew ?_ | refine blk_alloc ?_ _)); refine blk_put (cs := #[.int .i64 0, .int .i64 0, .string (⟨#[]⟩ : ByteArray)]) ?_ 0 _ rfl; (with_reducible repeat (first | refine blk_drewN ?_ _ | refine blk_drew ?_ | refine blk_alloc ?_ _)); exact BK163.out) Tryd.underlying27 rfl (by kernel_rfl)) rfl ?_
                   exact ⟨by first | rfl | (simp [errW_none, errW_some] <;> rfl) | (simp [*, errW_none, errW_some] <;> rfl), by repeat (first | (with_reducible first | exact HB.out | apply below_alloc | apply pw_below_drewN | apply below_drew1 | refine below_set ?_ GE163.out) | exact HB.out)⟩
                  ·replace c60 := Bool.eq_false_iff.mpr c60
                   subst c60
                   have H1 : (if (rd l0 t169) = 47 then (if x8_14 = 47 then ((mezzotintref04_Word.f kj57 l0 (wrap64 (t169 + 2))).bind fun t205 => ((mezzotintref04_name.f 5 l0 (wrap64 (t169 + 2)) t205).bind fun bt206 => (some (bt206.1, bt206.2.1, bt206.2.2.1, bt206.2.2.2.1, bt206.2.2.2.2)))) else ((mezzotintref04_Word.f kj57 l0 (wrap64 (t169 + 1))).bind fun t211 => ((mezzotintref04_name.f 4 l0 (wrap64 (t169 + 1)) t211).bind fun bt212 => (some (bt212.1, bt212.2.1, bt212.2.2.1, bt212.2.2.2.1, bt212.2.2.2.2))))) else ((mezzotintref04_Word.f kj57 l0 t169).bind fun t217 => (if 0 ≤ t169 then (if t169 ≤ t217 then (if t217 ≤ (l0.length : Int) then ((mezzotintref01_Token.f (strOfNums ((l0.take (t217 : Int).toNat).drop (t169 : Int).toNat))).bind fun bt219 => (if bt219.2.2.2.1 = true then (mezzotintref04_Next.j6 kj57 l0 t169 t217 bt219.2.2.2.1 bt219.2.2.2.2 (bt219.2.2.2.2 != 0) bt219.1 bt219.2.1 bt219.2.2.1) else (mezzotintref04_Next.j6 kj57 l0 t169 t217 bt219.2.2.2.1 bt219.2.2.2.2 false bt219.1 bt219.2.1 bt219.2.2.1))) else (none)) else (none)) else (none)))) = some (r1, r2, r3, r4, r5) := by rw [if_neg (show ¬ (false = true) by decide)] at H; exact H
                   clear H
                   have H := H1
                   clear H1
                   by_cases c65 : (rd l0 t169) = 47
                   ·rw [if_pos c65] at H
                    have c65b0 : ((rd l0 t169) == 47) = true := beq_iff_eq.mpr c65
                    have c65b1 : ((rd l0 t169) != 47) = false := bne_eq_false_iff_eq.mpr c65
                    clear c65
                    by_cases c66 : x8_14 = 47
                    ·as_aux_lemma =>
                     rw [if_pos c66] at H
                     have c66b0 : (x8_14 == 47) = true := beq_iff_eq.mpr c66
                     have c66b1 : (x8_14 != 47) = false := bne_eq_false_iff_eq.mpr c66
                     clear c66
                     replace H := Option.bind_eq_some_iff.mp H
                     obtain ⟨t205, A670, H⟩ := H
                     replace H : ((mezzotintref04_name.f 5 l0 (wrap64 (t169 + 2)) t205).bind fun bt206 => (some (bt206.1, bt206.2.1, bt206.2.2.1, bt206.2.2.2.1, bt206.2.2.2.2))) = some (r1, r2, r3, r4, r5) := H
                     have A67 := Aside0.mk A670
                     clear A670
                     replace H := Option.bind_eq_some_iff.mp H
                     obtain ⟨⟨t206, t207, t208, t209, t210⟩, A680, H⟩ := H
                     replace H : (some (t206, t207, t208, t209, t210)) = some (r1, r2, r3, r4, r5) := H
                     have A68 := Aside0.mk A680
                     clear A680
                     simp only [Option.some.injEq, Prod.mk.injEq] at H
                     obtain ⟨rfl, rfl, rfl, rfl, rfl⟩ := H
                     go_wp2_with (first | ((with_reducible refine gate_callee (f := 55) rfl ?_); refine goesL_ (some 145) rfl rfl Tryd.func55 (by kernel_rfl) rfl #[.slice (some ad170) l0.length c0, .int .i64 (wrap64 (t169 + 2))] rfl (by (try simp only [List.map_toArray, List.map_cons, List.map_nil]); first | done | rfl | (simp only [List.length_drop, List.length_take]; rfl)) ?_; (with_reducible refine (mezzotintref04_Word.calls kj57 _ _ l0 (wrap64 (t169 + 2)) t205 _ ?side1 ?side2 A67.out).mono ?_); (case side1 => repeat (first | exact (Kd.C_below HR0.out HB.out) | (with_reducible refine Kd.C_alloc ?_ _) | (with_reducible refine Kd.C_drewN ?_ _) | (with_reducible refine Kd.C_drew ?_))); (case side2 => exact HC0.out); rintro e w' ⟨rfl, ⟨nd, rfl⟩⟩; refine ⟨_, rfl, ?_⟩; (try (rw [drewN_self wc]; generalize hq_ : World.drewN wc _ = wc; have n0_ : Aside0 (wc.heap[gb163]? = some (.cells #[.int .i64 0, .int .i64 0, .string (⟨#[]⟩ : ByteArray)] 27 (0, 0))) := ⟨by rw [← hq_]; exact (by (with_reducible repeat (first | refine blk_drewN ?_ _ | refine blk_drew ?_ | refine blk_alloc ?_ _)); exact BK163.out)⟩; have n1_ : Aside0 (Below w.heap.size w wc) := ⟨by rw [← hq_]; exact (by repeat (first | (with_reducible first | exact HB.out | apply below_alloc | apply pw_below_drewN | apply below_drew1 | refine below_set ?_ GE163.out) | exact HB.out))⟩; clear BK163 HB hq_; have BK163 := n0_; have HB := n1_; clear n0_ n1_))) | ((with_reducible refine gate_callee (f := 54) rfl ?_); refine goesL_ (some 146) rfl rfl Tryd.func54 (by kernel_rfl) rfl #[.int .i64 5, .slice (some ad170) l0.length c0, .int .i64 (wrap64 (t169 + 2)), .int .i64 t205] rfl (by (try simp only [List.map_toArray, List.map_cons, List.map_nil]); first | done | rfl | (simp only [List.length_drop, List.length_take]; rfl)) ?_; (with_reducible refine (mezzotintref04_name.calls 5 _ _ l0 (wrap64 (t169 + 2)) t205 t206 t207 t208 t209 t210 _ ?side1 ?side2 A68.out).mono ?_); (case side1 => repeat (first | exact (Kd.C_below HR0.out HB.out) | (with_reducible refine Kd.C_alloc ?_ _) | (with_reducible refine Kd.C_drewN ?_ _) | (with_reducible refine Kd.C_drew ?_))); (case side2 => exact HC0.out); rintro e w69 ⟨rfl, hb⟩; refine ⟨_, rfl, ?_⟩; have n0_ := Aside0.mk (blk_below (g := gb163) (o := .cells #[.int .i64 0, .int .i64 0, .string (⟨#[]⟩ : ByteArray)] 27 (0, 0)) (by (with_reducible repeat (first | refine blk_drewN ?_ _ | refine blk_drew ?_ | refine blk_alloc ?_ _)); exact BK163.out) hb); have n1_ := Aside0.mk (below_step (by repeat (first | (with_reducible first | exact HB.out | apply below_alloc | apply pw_below_drewN | apply below_drew1 | refine below_set ?_ GE163.out) | exact HB.out)) hb); clear BK163; clear HB; have BK163 := n0_; have HB := n1_; clear n0_ n1_; (try clear hb); (try clear hb2); (try clear hk); (try clear hi); have hcz70_0 : w69.cell? ⟨gb163, 0, none⟩ = some (.int .i64 0) := (blk_cell BK163.out 0).trans rfl; have hcz70_1 : w69.cell? ⟨gb163, 1, none⟩ = some (.int .i64 0) := (blk_cell BK163.out 1).trans rfl; have hcz70_2 : w69.cell? ⟨gb163, 2, none⟩ = some (.string (⟨#[]⟩ : ByteArray)) := (blk_cell BK163.out 2).trans rfl; have hfz70_0 := blk_frozen BK163.out 0; have hfz70_1 := blk_frozen BK163.out 1; have hfz70_2 := blk_frozen BK163.out 2))
                     refine bodyPost_ret (results_ctt rfl _ _ gb163 27 #[.int .i64 t206, .int .i64 t207, .string t208] (0, 0) _ rfl (by (with_reducible repeat (first | refine blk_drewN ?_ _ | refine blk_drew ?_ | refine blk_alloc ?_ _)); refine blk_put (cs := #[.int .i64 t206, .int .i64 t207, .string (⟨#[]⟩ : ByteArray)]) ?_ 2 _ rfl; (with_reducible repeat (first | refine blk_drewN ?_ _ | refine blk_drew ?_ | refine blk_alloc ?_ _)); refine blk_put (cs := #[.int .i64 t206, .int .i64 0, .string (⟨#[]⟩ : ByteArray)]) ?_ 1 _ rfl; (with_reducible repeat (first | refine blk_drewN ?_ _ | refine blk_drew ?_ | refine blk_alloc ?_ _)); refine blk_put (cs := #[.int .i64 0, .int .i64 0, .string (⟨#[]⟩ : ByteArray)]) ?_ 0 _ rfl; (with_reducible repeat (first | refine blk_drewN ?_ _ | refine blk_drew ?_ | refine blk_alloc ?_ _)); exact BK163.out) Tryd.underlying27 rfl (by kernel_rfl)) rfl ?_
                     exact ⟨by first | rfl | (simp [errW_none, errW_some] <;> rfl) | (simp [*, errW_none, errW_some] <;> rfl), by repeat (first | (with_reducible first | exact HB.out | apply below_alloc | apply pw_below_drewN | apply below_drew1 | refine below_set ?_ GE163.out) | exact HB.out)⟩
                    ·as_aux_lemma =>
                     rw [if_neg c66] at H
                     have c66b0 : (x8_14 == 47) = false := beq_eq_false_iff_ne.mpr c66
                     have c66b1 : (x8_14 != 47) = true := bne_iff_ne.mpr c66
                     replace H := Option.bind_eq_some_iff.mp H
                     obtain ⟨t211, A710, H⟩ := H
                     replace H : ((mezzotintref04_name.f 4 l0 (wrap64 (t169 + 1)) t211).bind fun bt212 => (some (bt212.1, bt212.2.1, bt212.2.2.1, bt212.2.2.2.1, bt212.2.2.2.2))) = some (r1, r2, r3, r4, r5) := H
                     have A71 := Aside0.mk A710
                     clear A710
                     replace H := Option.bind_eq_some_iff.mp H
                     obtain ⟨⟨t212, t213, t214, t215, t216⟩, A720, H⟩ := H
                     replace H : (some (t212, t213, t214, t215, t216)) = some (r1, r2, r3, r4, r5) := H
                     have A72 := Aside0.mk A720
                     clear A720
                     simp only [Option.some.injEq, Prod.mk.injEq] at H
                     obtain ⟨rfl, rfl, rfl, rfl, rfl⟩ := H
                     go_wp2_with (first | ((with_reducible refine gate_callee (f := 55) rfl ?_); refine goesL_ (some 156) rfl rfl Tryd.func55 (by kernel_rfl) rfl #[.slice (some ad170) l0.length c0, .int .i64 (wrap64 (t169 + 1))] rfl (by (try simp only [List.map_toArray, List.map_cons, List.map_nil]); first | done | rfl | (simp only [List.length_drop, List.length_take]; rfl)) ?_; (with_reducible refine (mezzotintref04_Word.calls kj57 _ _ l0 (wrap64 (t169 + 1)) t211 _ ?side1 ?side2 A71.out).mono ?_); (case side1 => repeat (first | exact (Kd.C_below HR0.out HB.out) | (with_reducible refine Kd.C_alloc ?_ _) | (with_reducible refine Kd.C_drewN ?_ _) | (with_reducible refine Kd.C_drew ?_))); (case side2 => exact HC0.out); rintro e w' ⟨rfl, ⟨nd, rfl⟩⟩; refine ⟨_, rfl, ?_⟩; (try (rw [drewN_self wc]; generalize hq_ : World.drewN wc _ = wc; have n0_ : Aside0 (wc.heap[gb163]? = some (.cells #[.int .i64 0, .int .i64 0, .string (⟨#[]⟩ : ByteArray)] 27 (0, 0))) := ⟨by rw [← hq_]; exact (by (with_reducible repeat (first | refine blk_drewN ?_ _ | refine blk_drew ?_ | refine blk_alloc ?_ _)); exact BK163.out)⟩; have n1_ : Aside0 (Below w.heap.size w wc) := ⟨by rw [← hq_]; exact (by repeat (first | (with_reducible first | exact HB.out | apply below_alloc | apply pw_below_drewN | apply below_drew1 | refine below_set ?_ GE163.out) | exact HB.out))⟩; clear BK163 HB hq_; have BK163 := n0_; have HB := n1_; clear n0_ n1_))) | ((with_reducible refine gate_callee (f := 54) rfl ?_); refine goesL_ (some 157) rfl rfl Tryd.func54 (by kernel_rfl) rfl #[.int .i64 4, .slice (some ad170) l0.length c0, .int .i64 (wrap64 (t169 + 1)), .int .i64 t211] rfl (by (try simp only [List.map_toArray, List.map_cons, List.map_nil]); first | done | rfl | (simp only [List.length_drop, List.length_take]; rfl)) ?_; (with_reducible refine (mezzotintref04_name.calls 4 _ _ l0 (wrap64 (t169 + 1)) t211 t212 t213 t214 t215 t216 _ ?side1 ?side2 A72.out).mono ?_); (case side1 => repeat (first | exact (Kd.C_below HR0.out HB.out) | (with_reducible refine Kd.C_alloc ?_ _) | (with_reducible refine Kd.C_drewN ?_ _) | (with_reducible refine Kd.C_drew ?_))); (case side2 => exact HC0.out); rintro e w73 ⟨rfl, hb⟩; refine ⟨_, rfl, ?_⟩; have n0_ := Aside0.mk (blk_below (g := gb163) (o := .cells #[.int .i64 0, .int .i64 0, .string (⟨#[]⟩ : ByteArray)] 27 (0, 0)) (by (with_reducible repeat (first | refine blk_drewN ?_ _ | refine blk_drew ?_ | refine blk_alloc ?_ _)); exact BK163.out) hb); have n1_ := Aside0.mk (below_step (by repeat (first | (with_reducible first | exact HB.out | apply below_alloc | apply pw_below_drewN | apply below_drew1 | refine below_set ?_ GE163.out) | exact HB.out)) hb); clear BK163; clear HB; have BK163 := n0_; have HB := n1_; clear n0_ n1_; (try clear hb); (try clear hb2); (try clear hk); (try clear hi); have hcz74_0 : w73.cell? ⟨gb163, 0, none⟩ = some (.int .i64 0) := (blk_cell BK163.out 0).trans rfl; have hcz74_1 : w73.cell? ⟨gb163, 1, none⟩ = some (.int .i64 0) := (blk_cell BK163.out 1).trans rfl; have hcz74_2 : w73.cell? ⟨gb163, 2, none⟩ = some (.string (⟨#[]⟩ : ByteArray)) := (blk_cell BK163.out 2).trans rfl; have hfz74_0 := blk_frozen BK163.out 0; have hfz74_1 := blk_frozen BK163.out 1; have hfz74_2 := blk_frozen BK163.out 2))
                     refine bodyPost_ret (results_ctt rfl _ _ gb163 27 #[.int .i64 t212, .int .i64 t213, .string t214] (0, 0) _ rfl (by (with_reducible repeat (first | refine blk_drewN ?_ _ | refine blk_drew ?_ | refine blk_alloc ?_ _)); refine blk_put (cs := #[.int .i64 t212, .int .i64 t213, .string (⟨#[]⟩ : ByteArray)]) ?_ 2 _ rfl; (with_reducible repeat (first | refine blk_drewN ?_ _ | refine blk_drew ?_ | refine blk_alloc ?_ _)); refine blk_put (cs := #[.int .i64 t212, .int .i64 0, .string (⟨#[]⟩ : ByteArray)]) ?_ 1 _ rfl; (with_reducible repeat (first | refine blk_drewN ?_ _ | refine blk_drew ?_ | refine blk_alloc ?_ _)); refine blk_put (cs := #[.int .i64 0, .int .i64 0, .string (⟨#[]⟩ : ByteArray)]) ?_ 0 _ rfl; (with_reducible repeat (first | refine blk_drewN ?_ _ | refine blk_drew ?_ | refine blk_alloc ?_ _)); exact BK163.out) Tryd.underlying27 rfl (by kernel_rfl)) rfl ?_
                     exact ⟨by first | rfl | (simp [errW_none, errW_some] <;> rfl) | (simp [*, errW_none, errW_some] <;> rfl), by repeat (first | (with_reducible first | exact HB.out | apply below_alloc | apply pw_below_drewN | apply below_drew1 | refine below_set ?_ GE163.out) | exact HB.out)⟩
                   ·rw [if_neg c65] at H
                    have c65b0 : ((rd l0 t169) == 47) = false := beq_eq_false_iff_ne.mpr c65
                    have c65b1 : ((rd l0 t169) != 47) = true := bne_iff_ne.mpr c65
                    replace H := Option.bind_eq_some_iff.mp H
                    obtain ⟨t217, A750, H⟩ := H
                    replace H : (if 0 ≤ t169 then (if t169 ≤ t217 then (if t217 ≤ (l0.length : Int) then ((mezzotintref01_Token.f (strOfNums ((l0.take (t217 : Int).toNat).drop (t169 : Int).toNat))).bind fun bt219 => (if bt219.2.2.2.1 = true then (mezzotintref04_Next.j6 kj57 l0 t169 t217 bt219.2.2.2.1 bt219.2.2.2.2 (bt219.2.2.2.2 != 0) bt219.1 bt219.2.1 bt219.2.2.1) else (mezzotintref04_Next.j6 kj57 l0 t169 t217 bt219.2.2.2.1 bt219.2.2.2.2 false bt219.1 bt219.2.1 bt219.2.2.1))) else (none)) else (none)) else (none)) = some (r1, r2, r3, r4, r5) := H
                    have A75 := Aside0.mk A750
                    clear A750
                    by_cases c76 : 0 ≤ t169
                    ·rw [if_pos c76] at H
                     have c76b0 := eq_true c76
                     have c76b1 : decide (0 ≤ t169) = true := decide_eq_true c76
                     clear c76
                     by_cases c77 : t169 ≤ t217
                     ·rw [if_pos c77] at H
                      have c77b0 := eq_true c77
                      have c77b1 : decide (t169 ≤ t217) = true := decide_eq_true c77
                      clear c77
                      by_cases c78 : t217 ≤ (l0.length : Int)
                      ·rw [if_pos c78] at H
                       have c78b0 := eq_true c78
                       have c78b1 : decide (t217 ≤ (l0.length : Int)) = true := decide_eq_true c78
                       clear c78
                       replace H := Option.bind_eq_some_iff.mp H
                       obtain ⟨⟨t219, t220, t221, t222, t223⟩, A790, H⟩ := H
                       replace H : (if t222 = true then (mezzotintref04_Next.j6 kj57 l0 t169 t217 t222 t223 (t223 != 0) t219 t220 t221) else (mezzotintref04_Next.j6 kj57 l0 t169 t217 t222 t223 false t219 t220 t221)) = some (r1, r2, r3, r4, r5) := H
                       have A79 := Aside0.mk A790
                       clear A790
                       have HC80 := Aside0.mk H
                       clear H
                       go_upto_region 45 with (first | ((with_reducible refine gate_callee (f := 55) rfl ?_); refine goesL_ (some 163) rfl rfl Tryd.func55 (by kernel_rfl) rfl #[.slice (some ad170) l0.length c0, .int .i64 t169] rfl (by (try simp only [List.map_toArray, List.map_cons, List.map_nil]); first | done | rfl | (simp only [List.length_drop, List.length_take]; rfl)) ?_; (with_reducible refine (mezzotintref04_Word.calls kj57 _ _ l0 t169 t217 _ ?side1 ?side2 A75.out).mono ?_); (case side1 => repeat (first | exact (Kd.C_below HR0.out HB.out) | (with_reducible refine Kd.C_alloc ?_ _) | (with_reducible refine Kd.C_drewN ?_ _) | (with_reducible refine Kd.C_drew ?_))); (case side2 => exact HC0.out); rintro e w' ⟨rfl, ⟨nd, rfl⟩⟩; refine ⟨_, rfl, ?_⟩; (try (rw [drewN_self wc]; generalize hq_ : World.drewN wc _ = wc; have n0_ : Aside0 (wc.heap[gb163]? = some (.cells #[.int .i64 0, .int .i64 0, .string (⟨#[]⟩ : ByteArray)] 27 (0, 0))) := ⟨by rw [← hq_]; exact (by (with_reducible repeat (first | refine blk_drewN ?_ _ | refine blk_drew ?_ | refine blk_alloc ?_ _)); exact BK163.out)⟩; have n1_ : Aside0 (Below w.heap.size w wc) := ⟨by rw [← hq_]; exact (by repeat (first | (with_reducible first | exact HB.out | apply below_alloc | apply pw_below_drewN | apply below_drew1 | refine below_set ?_ GE163.out) | exact HB.out))⟩; clear BK163 HB hq_; have BK163 := n0_; have HB := n1_; clear n0_ n1_)); obtain ⟨i081, hi081, _, hsz81, _⟩ := info_parts info5; obtain ⟨A81, hcut81, hA81, hC81⟩ := print_mid_of (P := Tryd.prog) (Value.int .u8) 0 32 5 .i64 .i64 Tryd.underlying32 hi081 hsz81 (some ad170) c0 l0 t169 t217 (of_decide_eq_true (by first | (with_reducible assumption) | assumption)) (by first | omega | exact of_decide_eq_true (by first | (with_reducible assumption) | assumption)) (of_decide_eq_true (by first | (with_reducible assumption) | assumption)) HC0.out; have HR218 := Aside0.mk (Kd.C_of_reads (h1 := fun _ => rfl) (hA81 _ (Kd.reads_of_C HR0.out))); have HC218 := Aside0.mk hC81; clear hA81 hC81 hi081 hsz81; have hcv82 := Kd.C_string (P := Tryd.prog) (A := A81) (c := (c0 - t169.toNat)) Tryd.underlying32 Tryd.underlying5 Tryd.underlying9 (Kd.C_below HR218.out HB.out); have hcv82b := hcv82; rw [show ((l0.take (t217 : Int).toNat).drop (t169 : Int).toNat).length = (t217 : Int).toNat - (t169 : Int).toNat from by simp only [List.length_drop, List.length_take]; have := of_decide_eq_true c78b1; omega] at hcv82b) | ((with_reducible refine gate_callee (f := 18) rfl ?_); refine goesL_ (some 170) rfl rfl Tryd.func18 (by kernel_rfl) rfl #[.string (strOfNums ((l0.take (t217 : Int).toNat).drop (t169 : Int).toNat))] rfl (by (try simp only [List.map_toArray, List.map_cons, List.map_nil]); first | done | rfl | (simp only [List.length_drop, List.length_take]; rfl)) ?_; (with_reducible refine (mezzotintref01_Token.calls (strOfNums ((l0.take (t217 : Int).toNat).drop (t169 : Int).toNat)) t219 t220 t221 t222 t223 _ A79.out).mono ?_); rintro e w83 ⟨rfl, hb⟩; refine ⟨_, rfl, ?_⟩; have n0_ := Aside0.mk (blk_below (g := gb163) (o := .cells #[.int .i64 0, .int .i64 0, .string (⟨#[]⟩ : ByteArray)] 27 (0, 0)) (by (with_reducible repeat (first | refine blk_drewN ?_ _ | refine blk_drew ?_ | refine blk_alloc ?_ _)); exact BK163.out) hb); have n1_ := Aside0.mk (below_step (by repeat (first | (with_reducible first | exact HB.out | apply below_alloc | apply pw_below_drewN | apply below_drew1 | refine below_set ?_ GE163.out) | exact HB.out)) hb); clear BK163; clear HB; have BK163 := n0_; have HB := n1_; clear n0_ n1_; (try clear hb); (try clear hb2); (try clear hk); (try clear hi)) | ((with_reducible refine gate_dst (N := 13) rfl ?_); (try (refine gate_guard (by rfl) ?_; dsimp only)); refine box_event ?hg (N := 13) ?hd (cs := #[.int .i64 0, .int .i64 0, .string (⟨#[]⟩ : ByteArray)]) (t := 27) ?hr ?_; (case hd => rfl); (case hg => rfl); (case hr => first | (go_simp; done) | (go_simp; rfl)); intro gb224 hg w84 hbox hb; have n0_ := Aside0.mk (blk_below (g := gb163) (o := .cells #[.int .i64 0, .int .i64 0, .string (⟨#[]⟩ : ByteArray)] 27 (0, 0)) (by (with_reducible repeat (first | refine blk_drewN ?_ _ | refine blk_drew ?_ | refine blk_alloc ?_ _)); exact BK163.out) hb); have n1_ := Aside0.mk (below_step (by repeat (first | (with_reducible first | exact HB.out | apply below_alloc | apply pw_below_drewN | apply below_drew1 | refine below_set ?_ GE163.out) | exact HB.out)) hb); have n2_ := Aside0.mk (hbox); have n3_ := Aside0.mk ((by rw [hg]; exact (below_size (by repeat (first | (with_reducible first | exact HB.out | apply below_alloc | apply pw_below_drewN | apply below_drew1 | refine below_set ?_ GE163.out) | exact HB.out))) : w.heap.size ≤ gb224)); have n4_ := Aside0.mk ((by rw [hg]; exact (below_size (by repeat (first | (with_reducible first | exact HB.out | apply below_alloc | apply pw_below_drewN | apply below_drew1 | refine below_set ?_ GE163.out) | exact HB.out))) : w.heap.size ≤ gb224)); have n5_ := Aside0.mk ((by rw [hg]; exact Nat.ne_of_lt (blk_lt (g := gb163) (o := .cells #[.int .i64 0, .int .i64 0, .string (⟨#[]⟩ : ByteArray)] 27 (0, 0)) (by (with_reducible repeat (first | refine blk_drewN ?_ _ | refine blk_drew ?_ | refine blk_alloc ?_ _)); exact BK163.out)) : gb163 ≠ gb224)); have n6_ := Aside0.mk ((by rw [hg]; exact Nat.ne_of_gt (blk_lt (g := gb163) (o := .cells #[.int .i64 0, .int .i64 0, .string (⟨#[]⟩ : ByteArray)] 27 (0, 0)) (by (with_reducible repeat (first | refine blk_drewN ?_ _ | refine blk_drew ?_ | refine blk_alloc ?_ _)); exact BK163.out)) : gb224 ≠ gb163)); clear BK163; clear HB; have BK163 := n0_; have HB := n1_; have BK224 := n2_; have GW224 := n3_; have GE224 := n4_; have NB163_224 := n5_; have NB224_163 := n6_; clear n0_ n1_ n2_ n3_ n4_ n5_ n6_; clear hb hbox hg; have hnb85 := NB224_163.out; have hnc85 := NB163_224.out; have hcz86_0 : w84.cell? ⟨gb224, 0, none⟩ = some (.int .i64 0) := (blk_cell BK224.out 0).trans rfl; have hcz86_1 : w84.cell? ⟨gb224, 1, none⟩ = some (.int .i64 0) := (blk_cell BK224.out 1).trans rfl; have hcz86_2 : w84.cell? ⟨gb224, 2, none⟩ = some (.string (⟨#[]⟩ : ByteArray)) := (blk_cell BK224.out 2).trans rfl; have hfz86_0 := blk_frozen BK224.out 0; have hfz86_1 := blk_frozen BK224.out 1; have hfz86_2 := blk_frozen BK224.out 2))
                       (try simp only [Act.put, List.setIfInBounds_toArray, List.set_cons_zero, List.set_cons_succ])
                       go_cut [178] (fun v178 wc => ∃ (kq : Nat) (x178_79 : Bool), v178 = .bool x178_79 ∧ Aside0 (mezzotintref04_Next.j6 kq l0 t169 t217 t222 t223 x178_79 t219 t220 t221 = some (r1, r2, r3, r4, r5)) ∧ Aside0 (kq ≤ kj57) ∧ Aside0 (wc.heap[gb163]? = some (.cells #[.int .i64 0, .int .i64 0, .string (⟨#[]⟩ : ByteArray)] 27 (0, 0))) ∧ Aside0 (wc.heap[gb224]? = some (.cells #[.int .i64 t219, .int .i64 t220, .string t221] 27 (0, 0))) ∧ Aside0 (Below w.heap.size w wc))
                       case first =>
                        have H := HC80.out
                        clear HC80
                        by_cases c87 : t222 = true
                        ·subst c87
                         have H1 : (mezzotintref04_Next.j6 kj57 l0 t169 t217 true t223 (t223 != 0) t219 t220 t221) = some (r1, r2, r3, r4, r5) := by rw [if_pos rfl] at H; exact H
                         clear H
                         have H := H1
                         clear H1
                         have H' := Aside0.mk H
                         clear H
                         go_wp2
                         go_meet
                         case rel => exact ⟨_, ((t223 != 0)), (by first | rfl | (simp; done) | (simp [*]; done)), H', ⟨by have := HJ2.out; have := HJ14.out; have := HJ18.out; have := HJ57.out; first | omega | exact Nat.le_refl _⟩, ⟨by (with_reducible repeat (first | refine blk_drewN ?_ _ | refine blk_drew ?_ | refine blk_alloc ?_ _)); refine blk_far ?_ NB163_224.out _; (with_reducible repeat (first | refine blk_drewN ?_ _ | refine blk_drew ?_ | refine blk_alloc ?_ _)); refine blk_far ?_ NB163_224.out _; (with_reducible repeat (first | refine blk_drewN ?_ _ | refine blk_drew ?_ | refine blk_alloc ?_ _)); refine blk_far ?_ NB163_224.out _; (with_reducible repeat (first | refine blk_drewN ?_ _ | refine blk_drew ?_ | refine blk_alloc ?_ _)); exact BK163.out⟩, ⟨by (with_reducible repeat (first | refine blk_drewN ?_ _ | refine blk_drew ?_ | refine blk_alloc ?_ _)); refine blk_put (cs := #[.int .i64 t219, .int .i64 t220, .string (⟨#[]⟩ : ByteArray)]) ?_ 2 _ rfl; (with_reducible repeat (first | refine blk_drewN ?_ _ | refine blk_drew ?_ | refine blk_alloc ?_ _)); refine blk_put (cs := #[.int .i64 t219, .int .i64 0, .string (⟨#[]⟩ : ByteArray)]) ?_ 1 _ rfl; (with_reducible repeat (first | refine blk_drewN ?_ _ | refine blk_drew ?_ | refine blk_alloc ?_ _)); refine blk_put (cs := #[.int .i64 0, .int .i64 0, .string (⟨#[]⟩ : ByteArray)]) ?_ 0 _ rfl; (with_reducible repeat (first | refine blk_drewN ?_ _ | refine blk_drew ?_ | refine blk_alloc ?_ _)); exact BK224.out⟩, ⟨by repeat (first | (with_reducible first | exact HB.out | apply below_alloc | apply pw_below_drewN | apply below_drew1 | refine below_set ?_ GE163.out | refine below_set ?_ GE224.out) | exact HB.out)⟩⟩
                        ·replace c87 := Bool.eq_false_iff.mpr c87
                         subst c87
                         have H1 : (mezzotintref04_Next.j6 kj57 l0 t169 t217 false t223 false t219 t220 t221) = some (r1, r2, r3, r4, r5) := by rw [if_neg (show ¬ (false = true) by decide)] at H; exact H
                         clear H
                         have H := H1
                         clear H1
                         have H' := Aside0.mk H
                         clear H
                         go_wp2
                         go_meet
                         case rel => exact ⟨_, (false), (by first | rfl | (simp; done) | (simp [*]; done)), H', ⟨by have := HJ2.out; have := HJ14.out; have := HJ18.out; have := HJ57.out; first | omega | exact Nat.le_refl _⟩, ⟨by (with_reducible repeat (first | refine blk_drewN ?_ _ | refine blk_drew ?_ | refine blk_alloc ?_ _)); refine blk_far ?_ NB163_224.out _; (with_reducible repeat (first | refine blk_drewN ?_ _ | refine blk_drew ?_ | refine blk_alloc ?_ _)); refine blk_far ?_ NB163_224.out _; (with_reducible repeat (first | refine blk_drewN ?_ _ | refine blk_drew ?_ | refine blk_alloc ?_ _)); refine blk_far ?_ NB163_224.out _; (with_reducible repeat (first | refine blk_drewN ?_ _ | refine blk_drew ?_ | refine blk_alloc ?_ _)); exact BK163.out⟩, ⟨by (with_reducible repeat (first | refine blk_drewN ?_ _ | refine blk_drew ?_ | refine blk_alloc ?_ _)); refine blk_put (cs := #[.int .i64 t219, .int .i64 t220, .string (⟨#[]⟩ : ByteArray)]) ?_ 2 _ rfl; (with_reducible repeat (first | refine blk_drewN ?_ _ | refine blk_drew ?_ | refine blk_alloc ?_ _)); refine blk_put (cs := #[.int .i64 t219, .int .i64 0, .string (⟨#[]⟩ : ByteArray)]) ?_ 1 _ rfl; (with_reducible repeat (first | refine blk_drewN ?_ _ | refine blk_drew ?_ | refine blk_alloc ?_ _)); refine blk_put (cs := #[.int .i64 0, .int .i64 0, .string (⟨#[]⟩ : ByteArray)]) ?_ 0 _ rfl; (with_reducible repeat (first | refine blk_drewN ?_ _ | refine blk_drew ?_ | refine blk_alloc ?_ _)); exact BK224.out⟩, ⟨by repeat (first | (with_reducible first | exact HB.out | apply below_alloc | apply pw_below_drewN | apply below_drew1 | refine below_set ?_ GE163.out | refine below_set ?_ GE224.out) | exact HB.out)⟩⟩
                       case rest =>
                        clear HC80
                        try clear c1
                        try clear p1
                        try clear q1
                        try clear hx1
                        try clear c2
                        try clear p2
                        try clear c3
                        try clear hcv3
                        try clear c4
                        try clear c5
                        try clear c5b0
                        try clear c6
                        try clear p6
                        try clear hcv6
                        try clear c7
                        try clear c8
                        try clear hcv8
                        try clear c11
                        try clear c11b0
                        try clear c13
                        try clear c13b0
                        try clear c14
                        try clear c14b0
                        try clear c16
                        try clear c16b0
                        try clear p17
                        try clear q17
                        try clear hx17
                        try clear c18
                        try clear c18b0
                        try clear c20
                        try clear c20b0
                        try clear c20b1
                        try clear c21
                        try clear c23
                        try clear c23b0
                        try clear c23b1
                        try clear c24
                        try clear c25
                        try clear c27
                        try clear c27b0
                        try clear c27b1
                        try clear c32
                        try clear c32b0
                        try clear c32b1
                        try clear c33
                        try clear c33b0
                        try clear c33b1
                        try clear hcv39
                        try clear c44
                        try clear c44b0
                        try clear c44b1
                        try clear c48
                        try clear c48b0
                        try clear c48b1
                        try clear c49
                        try clear c49b0
                        try clear c49b1
                        try clear c50
                        try clear c51
                        try clear c52
                        try clear c53
                        try clear c54
                        try clear c54b0
                        try clear c54b1
                        try clear c55
                        try clear c56
                        try clear c56b0
                        try clear c56b1
                        try clear c59
                        try clear c59b0
                        try clear c59b1
                        try clear c60
                        try clear hcv63
                        try clear p64
                        try clear c65
                        try clear c65b0
                        try clear c65b1
                        try clear c66
                        try clear c66b0
                        try clear c66b1
                        try clear c76
                        try clear c76b0
                        try clear c76b1
                        try clear c77
                        try clear c77b0
                        try clear c77b1
                        try clear c78
                        try clear c78b0
                        try clear c78b1
                        try clear hcv82
                        try clear c85
                        try clear c87
                        try clear hcz12_0
                        try clear hcz12_1
                        try clear hcz12_2
                        try clear hcz25_0
                        try clear hcz25_1
                        try clear hcz25_2
                        try clear hcz37_0
                        try clear hcz37_1
                        try clear hcz37_2
                        try clear hcz40_0
                        try clear hcz40_1
                        try clear hcz40_2
                        try clear hcz43_0
                        try clear hcz43_1
                        try clear hcz43_2
                        try clear hcz47_0
                        try clear hcz47_1
                        try clear hcz47_2
                        try clear hcz50_0
                        try clear hcz50_1
                        try clear hcz50_2
                        try clear hcz53_0
                        try clear hcz53_1
                        try clear hcz53_2
                        try clear hcz55_0
                        try clear hcz55_1
                        try clear hcz55_2
                        try clear hcz57_0
                        try clear hcz57_1
                        try clear hcz57_2
                        try clear hcz64_0
                        try clear hcz64_1
                        try clear hcz64_2
                        try clear hcz70_0
                        try clear hcz70_1
                        try clear hcz70_2
                        try clear hcz74_0
                        try clear hcz74_1
                        try clear hcz74_2
                        try clear hcz86_0
                        try clear hcz86_1
                        try clear hcz86_2
                        try clear hcz9_0
                        try clear hcz9_1
                        try clear hcz9_2
                        try clear hfz12_0
                        try clear hfz12_1
                        try clear hfz12_2
                        try clear hfz25_0
                        try clear hfz25_1
                        try clear hfz25_2
                        try clear hfz37_0
                        try clear hfz37_1
                        try clear hfz37_2
                        try clear hfz40_0
                        try clear hfz40_1
                        try clear hfz40_2
                        try clear hfz43_0
                        try clear hfz43_1
                        try clear hfz43_2
                        try clear hfz47_0
                        try clear hfz47_1
                        try clear hfz47_2
                        try clear hfz50_0
                        try clear hfz50_1
                        try clear hfz50_2
                        try clear hfz53_0
                        try clear hfz53_1
                        try clear hfz53_2
                        try clear hfz55_0
                        try clear hfz55_1
                        try clear hfz55_2
                        try clear hfz57_0
                        try clear hfz57_1
                        try clear hfz57_2
                        try clear hfz64_0
                        try clear hfz64_1
                        try clear hfz64_2
                        try clear hfz70_0
                        try clear hfz70_1
                        try clear hfz70_2
                        try clear hfz74_0
                        try clear hfz74_1
                        try clear hfz74_2
                        try clear hfz86_0
                        try clear hfz86_1
                        try clear hfz86_2
                        try clear hfz9_0
                        try clear hfz9_1
                        try clear hfz9_2
                        try clear hx170_0
                        try clear hx171_0
                        try clear p1
                        try clear p17
                        try clear p170
                        try clear p171
                        try clear p2
                        try clear p6
                        try clear q1
                        try clear q17
                        try clear q170
                        try clear q171
                        obtain ⟨kq, x178_79, rfl, HA, HJ79, BK163, BK224, HB⟩ := hcut
                        cases kq with
                        | zero => exact absurd HA.out (by simp [mezzotintref04_Next.j6])
                        | succ kj79 =>
                         have H := HA.out
                         clear HA
                         simp only [mezzotintref04_Next.j6] at H
                         by_cases c88 : x178_79 = true
                         ·subst c88
                          have H1 : ((mezzotintref04_none.f t223).bind fun bt225 => (some (bt225.1, bt225.2.1, bt225.2.2.1, bt225.2.2.2.1, bt225.2.2.2.2))) = some (r1, r2, r3, r4, r5) := by rw [if_pos rfl] at H; exact H
                          clear H
                          have H := H1
                          clear H1
                          replace H := Option.bind_eq_some_iff.mp H
                          obtain ⟨⟨t225, t226, t227, t228, t229⟩, A890, H⟩ := H
                          replace H : (some (t225, t226, t227, t228, t229)) = some (r1, r2, r3, r4, r5) := H
                          have A89 := Aside0.mk A890
                          clear A890
                          simp only [Option.some.injEq, Prod.mk.injEq] at H
                          obtain ⟨rfl, rfl, rfl, rfl, rfl⟩ := H
                          go_wp2_with (first | ((with_reducible refine gate_callee (f := 50) rfl ?_); refine goesL_ (some 180) rfl rfl Tryd.func50 (by kernel_rfl) rfl #[.int .i64 t223] rfl (by (try simp only [List.map_toArray, List.map_cons, List.map_nil]); first | done | rfl | (simp only [List.length_drop, List.length_take]; rfl)) ?_; (with_reducible refine (mezzotintref04_none.calls t223 t225 t226 t227 t228 t229 _ A89.out).mono ?_); rintro e w90 ⟨rfl, hb⟩; refine ⟨_, rfl, ?_⟩; have n0_ := Aside0.mk (blk_below (g := gb163) (o := .cells #[.int .i64 0, .int .i64 0, .string (⟨#[]⟩ : ByteArray)] 27 (0, 0)) (by (with_reducible repeat (first | refine blk_drewN ?_ _ | refine blk_drew ?_ | refine blk_alloc ?_ _)); exact BK163.out) hb); have n1_ := Aside0.mk (blk_below (g := gb224) (o := .cells #[.int .i64 t219, .int .i64 t220, .string t221] 27 (0, 0)) (by (with_reducible repeat (first | refine blk_drewN ?_ _ | refine blk_drew ?_ | refine blk_alloc ?_ _)); exact BK224.out) hb); have n2_ := Aside0.mk (below_step (by repeat (first | (with_reducible first | exact HB.out | apply below_alloc | apply pw_below_drewN | apply below_drew1 | refine below_set ?_ GE163.out | refine below_set ?_ GE224.out) | exact HB.out)) hb); clear BK163; clear BK224; clear HB; have BK163 := n0_; have BK224 := n1_; have HB := n2_; clear n0_ n1_ n2_; (try clear hb); (try clear hb2); (try clear hk); (try clear hi); have hnb91 := NB163_224.out; have hnc91 := NB224_163.out; have hcz92_0 : w90.cell? ⟨gb163, 0, none⟩ = some (.int .i64 0) := (blk_cell BK163.out 0).trans rfl; have hcz92_1 : w90.cell? ⟨gb163, 1, none⟩ = some (.int .i64 0) := (blk_cell BK163.out 1).trans rfl; have hcz92_2 : w90.cell? ⟨gb163, 2, none⟩ = some (.string (⟨#[]⟩ : ByteArray)) := (blk_cell BK163.out 2).trans rfl; have hfz92_0 := blk_frozen BK163.out 0; have hfz92_1 := blk_frozen BK163.out 1; have hfz92_2 := blk_frozen BK163.out 2))
                          refine bodyPost_ret (results_ctt rfl _ _ gb163 27 #[.int .i64 t225, .int .i64 t226, .string t227] (0, 0) _ rfl (by (with_reducible repeat (first | refine blk_drewN ?_ _ | refine blk_drew ?_ | refine blk_alloc ?_ _)); refine blk_put (cs := #[.int .i64 t225, .int .i64 t226, .string (⟨#[]⟩ : ByteArray)]) ?_ 2 _ rfl; (with_reducible repeat (first | refine blk_drewN ?_ _ | refine blk_drew ?_ | refine blk_alloc ?_ _)); refine blk_put (cs := #[.int .i64 t225, .int .i64 0, .string (⟨#[]⟩ : ByteArray)]) ?_ 1 _ rfl; (with_reducible repeat (first | refine blk_drewN ?_ _ | refine blk_drew ?_ | refine blk_alloc ?_ _)); refine blk_put (cs := #[.int .i64 0, .int .i64 0, .string (⟨#[]⟩ : ByteArray)]) ?_ 0 _ rfl; (with_reducible repeat (first | refine blk_drewN ?_ _ | refine blk_drew ?_ | refine blk_alloc ?_ _)); exact BK163.out) Tryd.underlying27 rfl (by kernel_rfl)) rfl ?_
                          exact ⟨by first | rfl | (simp [errW_none, errW_some] <;> rfl) | (simp [*, errW_none, errW_some] <;> rfl), by repeat (first | (with_reducible first | exact HB.out | apply below_alloc | apply pw_below_drewN | apply below_drew1 | refine below_set ?_ GE163.out | refine below_set ?_ GE224.out) | exact HB.out)⟩
                         ·replace c88 := Bool.eq_false_iff.mpr c88
                          subst c88
                          have H1 : (if t222 = true then (some (t219, t220, t221, t217, 0)) else ((mezzotintref04_name.f 3 l0 t169 t217).bind fun bt230 => (some (bt230.1, bt230.2.1, bt230.2.2.1, bt230.2.2.2.1, bt230.2.2.2.2)))) = some (r1, r2, r3, r4, r5) := by rw [if_neg (show ¬ (false = true) by decide)] at H; exact H
                          clear H
                          have H := H1
                          clear H1
                          by_cases c93 : t222 = true
                          ·subst c93
                           have H1 : (some (t219, t220, t221, t217, 0)) = some (r1, r2, r3, r4, r5) := by rw [if_pos rfl] at H; exact H
                           clear H
                           have H := H1
                           clear H1
                           simp only [Option.some.injEq, Prod.mk.injEq] at H
                           obtain ⟨rfl, rfl, rfl, rfl, rfl⟩ := H
                           have hnb94 := NB224_163.out
                           have hnc94 := NB163_224.out
                           have hcz95_0 : wc.cell? ⟨gb224, 0, none⟩ = some (.int .i64 t219) := (blk_cell BK224.out 0).trans rfl
                           have hcz95_1 : wc.cell? ⟨gb224, 1, none⟩ = some (.int .i64 t220) := (blk_cell BK224.out 1).trans rfl
                           have hcz95_2 : wc.cell? ⟨gb224, 2, none⟩ = some (.string t221) := (blk_cell BK224.out 2).trans rfl
                           have hfz95_0 := blk_frozen BK224.out 0
                           have hfz95_1 := blk_frozen BK224.out 1
                           have hfz95_2 := blk_frozen BK224.out 2
                           have hcz96_0 : wc.cell? ⟨gb163, 0, none⟩ = some (.int .i64 0) := (blk_cell BK163.out 0).trans rfl
                           have hcz96_1 : wc.cell? ⟨gb163, 1, none⟩ = some (.int .i64 0) := (blk_cell BK163.out 1).trans rfl
                           have hcz96_2 : wc.cell? ⟨gb163, 2, none⟩ = some (.string (⟨#[]⟩ : ByteArray)) := (blk_cell BK163.out 2).trans rfl
                           have hfz96_0 := blk_frozen BK163.out 0
                           have hfz96_1 := blk_frozen BK163.out 1
                           have hfz96_2 := blk_frozen BK163.out 2
                           go_wp2
                           refine bodyPost_ret (results_ctt rfl _ _ gb163 27 #[.int .i64 t219, .int .i64 t220, .string t221] (0, 0) _ rfl (by (with_reducible repeat (first | refine blk_drewN ?_ _ | refine blk_drew ?_ | refine blk_alloc ?_ _)); refine blk_put (cs := #[.int .i64 t219, .int .i64 t220, .string (⟨#[]⟩ : ByteArray)]) ?_ 2 _ rfl; (with_reducible repeat (first | refine blk_drewN ?_ _ | refine blk_drew ?_ | refine blk_alloc ?_ _)); refine blk_put (cs := #[.int .i64 t219, .int .i64 0, .string (⟨#[]⟩ : ByteArray)]) ?_ 1 _ rfl; (with_reducible repeat (first | refine blk_drewN ?_ _ | refine blk_drew ?_ | refine blk_alloc ?_ _)); refine blk_put (cs := #[.int .i64 0, .int .i64 0, .string (⟨#[]⟩ : ByteArray)]) ?_ 0 _ rfl; (with_reducible repeat (first | refine blk_drewN ?_ _ | refine blk_drew ?_ | refine blk_alloc ?_ _)); exact BK163.out) Tryd.underlying27 rfl (by kernel_rfl)) rfl ?_
                           exact ⟨by first | rfl | (simp [errW_none, errW_some] <;> rfl) | (simp [*, errW_none, errW_some] <;> rfl), by repeat (first | (with_reducible first | exact HB.out | apply below_alloc | apply pw_below_drewN | apply below_drew1 | refine below_set ?_ GE163.out | refine below_set ?_ GE224.out) | exact HB.out)⟩
                          ·replace c93 := Bool.eq_false_iff.mpr c93
                           subst c93
                           have H1 : ((mezzotintref04_name.f 3 l0 t169 t217).bind fun bt230 => (some (bt230.1, bt230.2.1, bt230.2.2.1, bt230.2.2.2.1, bt230.2.2.2.2))) = some (r1, r2, r3, r4, r5) := by rw [if_neg (show ¬ (false = true) by decide)] at H; exact H
                           clear H
                           have H := H1
                           clear H1
                           replace H := Option.bind_eq_some_iff.mp H
                           obtain ⟨⟨t230, t231, t232, t233, t234⟩, A970, H⟩ := H
                           replace H : (some (t230, t231, t232, t233, t234)) = some (r1, r2, r3, r4, r5) := H
                           have A97 := Aside0.mk A970
                           clear A970
                           simp only [Option.some.injEq, Prod.mk.injEq] at H
                           obtain ⟨rfl, rfl, rfl, rfl, rfl⟩ := H
                           go_wp2_with (first | ((with_reducible refine gate_callee (f := 54) rfl ?_); refine goesL_ (some 190) rfl rfl Tryd.func54 (by kernel_rfl) rfl #[.int .i64 3, .slice (some ad170) l0.length c0, .int .i64 t169, .int .i64 t217] rfl (by (try simp only [List.map_toArray, List.map_cons, List.map_nil]); first | done | rfl | (simp only [List.length_drop, List.length_take]; rfl)) ?_; (with_reducible refine (mezzotintref04_name.calls 3 _ _ l0 t169 t217 t230 t231 t232 t233 t234 _ ?side1 ?side2 A97.out).mono ?_); (case side1 => repeat (first | exact (Kd.C_below HR0.out HB.out) | (with_reducible refine Kd.C_alloc ?_ _) | (with_reducible refine Kd.C_drewN ?_ _) | (with_reducible refine Kd.C_drew ?_))); (case side2 => exact HC0.out); rintro e w98 ⟨rfl, hb⟩; refine ⟨_, rfl, ?_⟩; have n0_ := Aside0.mk (blk_below (g := gb163) (o := .cells #[.int .i64 0, .int .i64 0, .string (⟨#[]⟩ : ByteArray)] 27 (0, 0)) (by (with_reducible repeat (first | refine blk_drewN ?_ _ | refine blk_drew ?_ | refine blk_alloc ?_ _)); exact BK163.out) hb); have n1_ := Aside0.mk (blk_below (g := gb224) (o := .cells #[.int .i64 t219, .int .i64 t220, .string t221] 27 (0, 0)) (by (with_reducible repeat (first | refine blk_drewN ?_ _ | refine blk_drew ?_ | refine blk_alloc ?_ _)); exact BK224.out) hb); have n2_ := Aside0.mk (below_step (by repeat (first | (with_reducible first | exact HB.out | apply below_alloc | apply pw_below_drewN | apply below_drew1 | refine below_set ?_ GE163.out | refine below_set ?_ GE224.out) | exact HB.out)) hb); clear BK163; clear BK224; clear HB; have BK163 := n0_; have BK224 := n1_; have HB := n2_; clear n0_ n1_ n2_; (try clear hb); (try clear hb2); (try clear hk); (try clear hi); have hnb99 := NB163_224.out; have hnc99 := NB224_163.out; have hcz100_0 : w98.cell? ⟨gb163, 0, none⟩ = some (.int .i64 0) := (blk_cell BK163.out 0).trans rfl; have hcz100_1 : w98.cell? ⟨gb163, 1, none⟩ = some (.int .i64 0) := (blk_cell BK163.out 1).trans rfl; have hcz100_2 : w98.cell? ⟨gb163, 2, none⟩ = some (.string (⟨#[]⟩ : ByteArray)) := (blk_cell BK163.out 2).trans rfl; have hfz100_0 := blk_frozen BK163.out 0; have hfz100_1 := blk_frozen BK163.out 1; have hfz100_2 := blk_frozen BK163.out 2))
                           refine bodyPost_ret (results_ctt rfl _ _ gb163 27 #[.int .i64 t230, .int .i64 t231, .string t232] (0, 0) _ rfl (by (with_reducible repeat (first | refine blk_drewN ?_ _ | refine blk_drew ?_ | refine blk_alloc ?_ _)); refine blk_put (cs := #[.int .i64 t230, .int .i64 t231, .string (⟨#[]⟩ : ByteArray)]) ?_ 2 _ rfl; (with_reducible repeat (first | refine blk_drewN ?_ _ | refine blk_drew ?_ | refine blk_alloc ?_ _)); refine blk_put (cs := #[.int .i64 t230, .int .i64 0, .string (⟨#[]⟩ : ByteArray)]) ?_ 1 _ rfl; (with_reducible repeat (first | refine blk_drewN ?_ _ | refine blk_drew ?_ | refine blk_alloc ?_ _)); refine blk_put (cs := #[.int .i64 0, .int .i64 0, .string (⟨#[]⟩ : ByteArray)]) ?_ 0 _ rfl; (with_reducible repeat (first | refine blk_drewN ?_ _ | refine blk_drew ?_ | refine blk_alloc ?_ _)); exact BK163.out) Tryd.underlying27 rfl (by kernel_rfl)) rfl ?_
                           exact ⟨by first | rfl | (simp [errW_none, errW_some] <;> rfl) | (simp [*, errW_none, errW_some] <;> rfl), by repeat (first | (with_reducible first | exact HB.out | apply below_alloc | apply pw_below_drewN | apply below_drew1 | refine below_set ?_ GE163.out | refine below_set ?_ GE224.out) | exact HB.out)⟩
                      ·as_aux_lemma =>
                       rw [if_neg c78] at H
                       exact absurd H (by simp)
                     ·as_aux_lemma =>
                      rw [if_neg c77] at H
                      exact absurd H (by simp)
                    ·as_aux_lemma =>
                     rw [if_neg c76] at H
                     exact absurd H (by simp)
      ·as_aux_lemma =>
       rw [if_neg c14] at H
       exact absurd H (by simp)
     ·as_aux_lemma =>
      rw [if_neg c13] at H
      exact absurd H (by simp)

end Go.Proofs.YtiocgpfnbmlfaaaDoor.PN
