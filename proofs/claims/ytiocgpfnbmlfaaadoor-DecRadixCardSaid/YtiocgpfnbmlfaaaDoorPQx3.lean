/- Made by a program of this session (wip/given.py) out of the translation: Lean functions for the Go functions, with the walks that show it; of a law: its row, at every input, no condition of its own. -/
import Derived.Test.YtiocgpfnbmlfaaaDoorPQx0
import Derived.Test.YtiocgpfnbmlfaaaDoorPQx1
import Derived.Test.YtiocgpfnbmlfaaaDoorPQx2
namespace Go.Proofs.YtiocgpfnbmlfaaaDoor.PQ
open Go.RowKit Go.Proofs.YtiocgpfnbmlfaaaDoorW.PrintWords Go.Proofs.YtiocgpfnbmlfaaaDoorW.PrintLast Go.Proofs.YtiocgpfnbmlfaaaDoorW.PrintMore
attribute [local go_sem] max2_int min2_int max_two min_two max_three min_three max_four min_four   -- for this text's walks alone
set_option linter.unusedVariables false
set_option linter.unusedSimpArgs false

/-! ### mezzotintlaw02_DecBack: function 7 -/
mutual
def mezzotintlaw02_DecBack.j0 : Nat → Int → Int → Int → ByteArray → Bool → Option (Bool)
  | 0, _, _, _, _, _ => none
  | k + 1, x0, x1, x2, x8, x89 => if x89 = true then (some false) else (mezzotintlaw02_DecBack.l0 k x0 x1 x2 x8 0)
def mezzotintlaw02_DecBack.l0 : Nat → Int → Int → Int → ByteArray → Int → Option (Bool)
  | 0, _, _, _, _, _ => none
  | k + 1, x0, x1, x2, x8, x16 => if x16 < (wrap64 (Int.tmod x2 15)) then (if x8.size + 1 ≤ 9223372036854775807 then (mezzotintlaw02_DecBack.l0 k x0 x1 x2 (x8 ++ (⟨#[48]⟩ : ByteArray)) (wrap64 (x16 + 1))) else (none)) else (if 0 < (x8.size : Int) then (if (bt x8 0) = 45 then (if 1 ≤ (x8.size : Int) then (mezzotintlaw02_DecBack.j2 k x0 x1 (x8.extract 1 x8.size) (⟨#[45]⟩ : ByteArray)) else (none)) else (mezzotintlaw02_DecBack.j2 k x0 x1 x8 (⟨#[]⟩ : ByteArray))) else (none))
def mezzotintlaw02_DecBack.j2 : Nat → Int → Int → ByteArray → ByteArray → Option (Bool)
  | 0, _, _, _, _ => none
  | k + 1, x0, x1, x8, x17 => mezzotintlaw02_DecBack.l1 k x0 x1 x8 x17 0
def mezzotintlaw02_DecBack.l1 : Nat → Int → Int → ByteArray → ByteArray → Int → Option (Bool)
  | 0, _, _, _, _, _ => none
  | k + 1, x0, x1, x8, x17, x18 => if x18 < (wrap64 (Int.tmod x1 15)) then (if 1 + x8.size ≤ 9223372036854775807 then (mezzotintlaw02_DecBack.l1 k x0 x1 ((⟨#[48]⟩ : ByteArray) ++ x8) x17 (wrap64 (x18 + 1))) else (none)) else (if x17.size + x8.size ≤ 9223372036854775807 then ((dec_Parse.f (x17 ++ x8)).bind fun bt163 => (if bt163.2 = true then (if bt163.1 = (wrap64 (x0)) then (if x17.toList = ([45] : List UInt8) then (some true) else ((mezzotintlaw02_plus.f x8 (wrap64 (x0))).bind fun t165 => (some t165))) else (some false)) else (some false))) else (none))
end
def mezzotintlaw02_DecBack.f (k : Nat) (a0 : Int) (a1 : Int) (a2 : Int) : Option (Bool) := (dec_Print.f (wrap64 (a0))).bind fun t150 => ((dec_PrintReal.f (wrap64 (a0))).bind fun t151 => ((dec_Parse.f t150).bind fun bt152 => ((dec_Parse.f t151).bind fun bt154 => ((dec_Token.f t151).bind fun bt156 => ((mezzotintlaw02_answers.f).bind fun t162 => (if t162 = true then (if bt152.2 = true then (if bt154.2 = true then (if bt156.2.2.2.1 = true then (if bt156.2.2.2.2 = 0 then (if bt152.1 = (wrap64 (a0)) then (if bt154.1 = (wrap64 (a0)) then (if bt156.1 = 2 then (if bt156.2.1 = (wrap64 (a0)) then (mezzotintlaw02_DecBack.j0 k a0 a1 a2 t151 (decide ((t151.size : Int) > 30))) else (mezzotintlaw02_DecBack.j0 k a0 a1 a2 t151 true)) else (mezzotintlaw02_DecBack.j0 k a0 a1 a2 t151 true)) else (mezzotintlaw02_DecBack.j0 k a0 a1 a2 t151 true)) else (mezzotintlaw02_DecBack.j0 k a0 a1 a2 t151 true)) else (mezzotintlaw02_DecBack.j0 k a0 a1 a2 t151 true)) else (mezzotintlaw02_DecBack.j0 k a0 a1 a2 t151 true)) else (mezzotintlaw02_DecBack.j0 k a0 a1 a2 t151 true)) else (mezzotintlaw02_DecBack.j0 k a0 a1 a2 t151 true)) else (mezzotintlaw02_DecBack.j0 k a0 a1 a2 t151 true)))))))
theorem mezzotintlaw02_DecBack.mono_l : ∀ k, (∀ y0 y1 y2 y3 y4, LeO (mezzotintlaw02_DecBack.j0 k y0 y1 y2 y3 y4) (mezzotintlaw02_DecBack.j0 (k + 1) y0 y1 y2 y3 y4)) ∧ (∀ y0 y1 y2 y3 y4, LeO (mezzotintlaw02_DecBack.l0 k y0 y1 y2 y3 y4) (mezzotintlaw02_DecBack.l0 (k + 1) y0 y1 y2 y3 y4)) ∧ (∀ y0 y1 y2 y3, LeO (mezzotintlaw02_DecBack.j2 k y0 y1 y2 y3) (mezzotintlaw02_DecBack.j2 (k + 1) y0 y1 y2 y3)) ∧ (∀ y0 y1 y2 y3 y4, LeO (mezzotintlaw02_DecBack.l1 k y0 y1 y2 y3 y4) (mezzotintlaw02_DecBack.l1 (k + 1) y0 y1 y2 y3 y4))
  | 0 => ⟨fun _ _ _ _ _ r h => by simp [mezzotintlaw02_DecBack.j0] at h, fun _ _ _ _ _ r h => by simp [mezzotintlaw02_DecBack.l0] at h, fun _ _ _ _ r h => by simp [mezzotintlaw02_DecBack.j2] at h, fun _ _ _ _ _ r h => by simp [mezzotintlaw02_DecBack.l1] at h⟩
  | k + 1 => by
    obtain ⟨ih0, ih1, ih2, ih3⟩ := mezzotintlaw02_DecBack.mono_l k
    refine ⟨?_, ?_, ?_, ?_⟩
    · intro y0 y1 y2 y3 y4
      unfold mezzotintlaw02_DecBack.j0
      repeat' first
      | (with_reducible exact ih0 _ _ _ _ _)
      | (with_reducible exact ih1 _ _ _ _ _)
      | (with_reducible exact ih2 _ _ _ _)
      | (with_reducible exact ih3 _ _ _ _ _)
      | (with_reducible exact LeO.refl _)
      | (with_reducible exact LeO.none _)
      | (with_reducible refine LeO.ite ?_ ?_)
      | (with_reducible refine LeO.bind ?_ (fun _ => ?_))
      | exact ih0 _ _ _ _ _
      | exact ih1 _ _ _ _ _
      | exact ih2 _ _ _ _
      | exact ih3 _ _ _ _ _
      | exact LeO.none _
      | refine LeO.ite ?_ ?_
      | refine LeO.bind ?_ (fun _ => ?_)
    · intro y0 y1 y2 y3 y4
      unfold mezzotintlaw02_DecBack.l0
      repeat' first
      | (with_reducible exact ih0 _ _ _ _ _)
      | (with_reducible exact ih1 _ _ _ _ _)
      | (with_reducible exact ih2 _ _ _ _)
      | (with_reducible exact ih3 _ _ _ _ _)
      | (with_reducible exact LeO.refl _)
      | (with_reducible exact LeO.none _)
      | (with_reducible refine LeO.ite ?_ ?_)
      | (with_reducible refine LeO.bind ?_ (fun _ => ?_))
      | exact ih0 _ _ _ _ _
      | exact ih1 _ _ _ _ _
      | exact ih2 _ _ _ _
      | exact ih3 _ _ _ _ _
      | exact LeO.none _
      | refine LeO.ite ?_ ?_
      | refine LeO.bind ?_ (fun _ => ?_)
    · intro y0 y1 y2 y3
      unfold mezzotintlaw02_DecBack.j2
      repeat' first
      | (with_reducible exact ih0 _ _ _ _ _)
      | (with_reducible exact ih1 _ _ _ _ _)
      | (with_reducible exact ih2 _ _ _ _)
      | (with_reducible exact ih3 _ _ _ _ _)
      | (with_reducible exact LeO.refl _)
      | (with_reducible exact LeO.none _)
      | (with_reducible refine LeO.ite ?_ ?_)
      | (with_reducible refine LeO.bind ?_ (fun _ => ?_))
      | exact ih0 _ _ _ _ _
      | exact ih1 _ _ _ _ _
      | exact ih2 _ _ _ _
      | exact ih3 _ _ _ _ _
      | exact LeO.none _
      | refine LeO.ite ?_ ?_
      | refine LeO.bind ?_ (fun _ => ?_)
    · intro y0 y1 y2 y3 y4
      unfold mezzotintlaw02_DecBack.l1
      repeat' first
      | (with_reducible exact ih0 _ _ _ _ _)
      | (with_reducible exact ih1 _ _ _ _ _)
      | (with_reducible exact ih2 _ _ _ _)
      | (with_reducible exact ih3 _ _ _ _ _)
      | (with_reducible exact LeO.refl _)
      | (with_reducible exact LeO.none _)
      | (with_reducible refine LeO.ite ?_ ?_)
      | (with_reducible refine LeO.bind ?_ (fun _ => ?_))
      | exact ih0 _ _ _ _ _
      | exact ih1 _ _ _ _ _
      | exact ih2 _ _ _ _
      | exact ih3 _ _ _ _ _
      | exact LeO.none _
      | refine LeO.ite ?_ ?_
      | refine LeO.bind ?_ (fun _ => ?_)
theorem mezzotintlaw02_DecBack.mono : ∀ a0 a1 a2 k, LeO (mezzotintlaw02_DecBack.f k a0 a1 a2) (mezzotintlaw02_DecBack.f (k + 1) a0 a1 a2) := by
  intro a0 a1 a2 k
  obtain ⟨ih0, ih1, ih2, ih3⟩ := mezzotintlaw02_DecBack.mono_l k
  unfold mezzotintlaw02_DecBack.f
  repeat' first
      | (with_reducible exact ih0 _ _ _ _ _)
      | (with_reducible exact ih1 _ _ _ _ _)
      | (with_reducible exact ih2 _ _ _ _)
      | (with_reducible exact ih3 _ _ _ _ _)
      | (with_reducible exact LeO.refl _)
      | (with_reducible exact LeO.none _)
      | (with_reducible refine LeO.ite ?_ ?_)
      | (with_reducible refine LeO.bind ?_ (fun _ => ?_))
      | exact ih0 _ _ _ _ _
      | exact ih1 _ _ _ _ _
      | exact ih2 _ _ _ _
      | exact ih3 _ _ _ _ _
      | exact LeO.none _
      | refine LeO.ite ?_ ?_
      | refine LeO.bind ?_ (fun _ => ?_)
set_option maxHeartbeats 8000000 in
set_option maxRecDepth 100000 in
theorem mezzotintlaw02_DecBack.calls (k : Nat) (a0 : Int) (a1 : Int) (a2 : Int) (r : Bool) (w : World) (h : mezzotintlaw02_DecBack.f k a0 a1 a2 = some r) :
    Calls Tryd.prog 7 #[.int .i32 a0, .int .u8 a1, .int .u8 a2] w fun e w' => e = .returned (.bool r) ∧ Below w.heap.size w w' := by
  have hu27 := Tryd.underlying27
  have HB := Aside0.mk (Below.refl w.heap.size w)
  have H : ((dec_Print.f (wrap64 (a0))).bind fun t150 => ((dec_PrintReal.f (wrap64 (a0))).bind fun t151 => ((dec_Parse.f t150).bind fun bt152 => ((dec_Parse.f t151).bind fun bt154 => ((dec_Token.f t151).bind fun bt156 => ((mezzotintlaw02_answers.f).bind fun t162 => (if t162 = true then (if bt152.2 = true then (if bt154.2 = true then (if bt156.2.2.2.1 = true then (if bt156.2.2.2.2 = 0 then (if bt152.1 = (wrap64 (a0)) then (if bt154.1 = (wrap64 (a0)) then (if bt156.1 = 2 then (if bt156.2.1 = (wrap64 (a0)) then (mezzotintlaw02_DecBack.j0 k a0 a1 a2 t151 (decide ((t151.size : Int) > 30))) else (mezzotintlaw02_DecBack.j0 k a0 a1 a2 t151 true)) else (mezzotintlaw02_DecBack.j0 k a0 a1 a2 t151 true)) else (mezzotintlaw02_DecBack.j0 k a0 a1 a2 t151 true)) else (mezzotintlaw02_DecBack.j0 k a0 a1 a2 t151 true)) else (mezzotintlaw02_DecBack.j0 k a0 a1 a2 t151 true)) else (mezzotintlaw02_DecBack.j0 k a0 a1 a2 t151 true)) else (mezzotintlaw02_DecBack.j0 k a0 a1 a2 t151 true)) else (mezzotintlaw02_DecBack.j0 k a0 a1 a2 t151 true)) else (mezzotintlaw02_DecBack.j0 k a0 a1 a2 t151 true)))))))) = some r := h
  clear h
  replace H := Option.bind_eq_some_iff.mp H
  obtain ⟨t150, A40, H⟩ := H
  replace H : ((dec_PrintReal.f (wrap64 (a0))).bind fun t151 => ((dec_Parse.f t150).bind fun bt152 => ((dec_Parse.f t151).bind fun bt154 => ((dec_Token.f t151).bind fun bt156 => ((mezzotintlaw02_answers.f).bind fun t162 => (if t162 = true then (if bt152.2 = true then (if bt154.2 = true then (if bt156.2.2.2.1 = true then (if bt156.2.2.2.2 = 0 then (if bt152.1 = (wrap64 (a0)) then (if bt154.1 = (wrap64 (a0)) then (if bt156.1 = 2 then (if bt156.2.1 = (wrap64 (a0)) then (mezzotintlaw02_DecBack.j0 k a0 a1 a2 t151 (decide ((t151.size : Int) > 30))) else (mezzotintlaw02_DecBack.j0 k a0 a1 a2 t151 true)) else (mezzotintlaw02_DecBack.j0 k a0 a1 a2 t151 true)) else (mezzotintlaw02_DecBack.j0 k a0 a1 a2 t151 true)) else (mezzotintlaw02_DecBack.j0 k a0 a1 a2 t151 true)) else (mezzotintlaw02_DecBack.j0 k a0 a1 a2 t151 true)) else (mezzotintlaw02_DecBack.j0 k a0 a1 a2 t151 true)) else (mezzotintlaw02_DecBack.j0 k a0 a1 a2 t151 true)) else (mezzotintlaw02_DecBack.j0 k a0 a1 a2 t151 true)) else (mezzotintlaw02_DecBack.j0 k a0 a1 a2 t151 true))))))) = some r := H
  have A4 := Aside0.mk A40
  clear A40
  replace H := Option.bind_eq_some_iff.mp H
  obtain ⟨t151, A50, H⟩ := H
  replace H : ((dec_Parse.f t150).bind fun bt152 => ((dec_Parse.f t151).bind fun bt154 => ((dec_Token.f t151).bind fun bt156 => ((mezzotintlaw02_answers.f).bind fun t162 => (if t162 = true then (if bt152.2 = true then (if bt154.2 = true then (if bt156.2.2.2.1 = true then (if bt156.2.2.2.2 = 0 then (if bt152.1 = (wrap64 (a0)) then (if bt154.1 = (wrap64 (a0)) then (if bt156.1 = 2 then (if bt156.2.1 = (wrap64 (a0)) then (mezzotintlaw02_DecBack.j0 k a0 a1 a2 t151 (decide ((t151.size : Int) > 30))) else (mezzotintlaw02_DecBack.j0 k a0 a1 a2 t151 true)) else (mezzotintlaw02_DecBack.j0 k a0 a1 a2 t151 true)) else (mezzotintlaw02_DecBack.j0 k a0 a1 a2 t151 true)) else (mezzotintlaw02_DecBack.j0 k a0 a1 a2 t151 true)) else (mezzotintlaw02_DecBack.j0 k a0 a1 a2 t151 true)) else (mezzotintlaw02_DecBack.j0 k a0 a1 a2 t151 true)) else (mezzotintlaw02_DecBack.j0 k a0 a1 a2 t151 true)) else (mezzotintlaw02_DecBack.j0 k a0 a1 a2 t151 true)) else (mezzotintlaw02_DecBack.j0 k a0 a1 a2 t151 true)))))) = some r := H
  have A5 := Aside0.mk A50
  clear A50
  replace H := Option.bind_eq_some_iff.mp H
  obtain ⟨⟨t152, t153⟩, A60, H⟩ := H
  replace H : ((dec_Parse.f t151).bind fun bt154 => ((dec_Token.f t151).bind fun bt156 => ((mezzotintlaw02_answers.f).bind fun t162 => (if t162 = true then (if t153 = true then (if bt154.2 = true then (if bt156.2.2.2.1 = true then (if bt156.2.2.2.2 = 0 then (if t152 = (wrap64 (a0)) then (if bt154.1 = (wrap64 (a0)) then (if bt156.1 = 2 then (if bt156.2.1 = (wrap64 (a0)) then (mezzotintlaw02_DecBack.j0 k a0 a1 a2 t151 (decide ((t151.size : Int) > 30))) else (mezzotintlaw02_DecBack.j0 k a0 a1 a2 t151 true)) else (mezzotintlaw02_DecBack.j0 k a0 a1 a2 t151 true)) else (mezzotintlaw02_DecBack.j0 k a0 a1 a2 t151 true)) else (mezzotintlaw02_DecBack.j0 k a0 a1 a2 t151 true)) else (mezzotintlaw02_DecBack.j0 k a0 a1 a2 t151 true)) else (mezzotintlaw02_DecBack.j0 k a0 a1 a2 t151 true)) else (mezzotintlaw02_DecBack.j0 k a0 a1 a2 t151 true)) else (mezzotintlaw02_DecBack.j0 k a0 a1 a2 t151 true)) else (mezzotintlaw02_DecBack.j0 k a0 a1 a2 t151 true))))) = some r := H
  have A6 := Aside0.mk A60
  clear A60
  replace H := Option.bind_eq_some_iff.mp H
  obtain ⟨⟨t154, t155⟩, A70, H⟩ := H
  replace H : ((dec_Token.f t151).bind fun bt156 => ((mezzotintlaw02_answers.f).bind fun t162 => (if t162 = true then (if t153 = true then (if t155 = true then (if bt156.2.2.2.1 = true then (if bt156.2.2.2.2 = 0 then (if t152 = (wrap64 (a0)) then (if t154 = (wrap64 (a0)) then (if bt156.1 = 2 then (if bt156.2.1 = (wrap64 (a0)) then (mezzotintlaw02_DecBack.j0 k a0 a1 a2 t151 (decide ((t151.size : Int) > 30))) else (mezzotintlaw02_DecBack.j0 k a0 a1 a2 t151 true)) else (mezzotintlaw02_DecBack.j0 k a0 a1 a2 t151 true)) else (mezzotintlaw02_DecBack.j0 k a0 a1 a2 t151 true)) else (mezzotintlaw02_DecBack.j0 k a0 a1 a2 t151 true)) else (mezzotintlaw02_DecBack.j0 k a0 a1 a2 t151 true)) else (mezzotintlaw02_DecBack.j0 k a0 a1 a2 t151 true)) else (mezzotintlaw02_DecBack.j0 k a0 a1 a2 t151 true)) else (mezzotintlaw02_DecBack.j0 k a0 a1 a2 t151 true)) else (mezzotintlaw02_DecBack.j0 k a0 a1 a2 t151 true)))) = some r := H
  have A7 := Aside0.mk A70
  clear A70
  replace H := Option.bind_eq_some_iff.mp H
  obtain ⟨⟨t156, t157, t158, t159, t160⟩, A80, H⟩ := H
  replace H : ((mezzotintlaw02_answers.f).bind fun t162 => (if t162 = true then (if t153 = true then (if t155 = true then (if t159 = true then (if t160 = 0 then (if t152 = (wrap64 (a0)) then (if t154 = (wrap64 (a0)) then (if t156 = 2 then (if t157 = (wrap64 (a0)) then (mezzotintlaw02_DecBack.j0 k a0 a1 a2 t151 (decide ((t151.size : Int) > 30))) else (mezzotintlaw02_DecBack.j0 k a0 a1 a2 t151 true)) else (mezzotintlaw02_DecBack.j0 k a0 a1 a2 t151 true)) else (mezzotintlaw02_DecBack.j0 k a0 a1 a2 t151 true)) else (mezzotintlaw02_DecBack.j0 k a0 a1 a2 t151 true)) else (mezzotintlaw02_DecBack.j0 k a0 a1 a2 t151 true)) else (mezzotintlaw02_DecBack.j0 k a0 a1 a2 t151 true)) else (mezzotintlaw02_DecBack.j0 k a0 a1 a2 t151 true)) else (mezzotintlaw02_DecBack.j0 k a0 a1 a2 t151 true)) else (mezzotintlaw02_DecBack.j0 k a0 a1 a2 t151 true))) = some r := H
  have A8 := Aside0.mk A80
  clear A80
  have HC9 := Aside0.mk H
  clear H
  go_enter Tryd.func7, Tryd.ntmps7
  go_upto_region 6 with (first | ((with_reducible refine gate_callee (f := 20) rfl ?_); refine goesL_ (some 23) rfl rfl Tryd.func20 (by kernel_rfl) rfl #[.int .i64 (wrap64 (a0))] rfl (by (try simp only [List.map_toArray, List.map_cons, List.map_nil]); first | done | rfl | (simp only [List.length_drop, List.length_take]; rfl)) ?_; (with_reducible refine (dec_Print.calls (wrap64 (a0)) t150 _ A4.out).mono ?_); rintro e w10 ⟨rfl, hb⟩; refine ⟨_, rfl, ?_⟩; have n0_ := Aside0.mk (below_step (by repeat (first | (with_reducible first | exact HB.out | apply below_alloc | apply pw_below_drewN | apply below_drew1) | exact HB.out)) hb); clear HB; have HB := n0_; clear n0_; (try clear hb); (try clear hb2); (try clear hk); (try clear hi)) | ((with_reducible refine gate_callee (f := 21) rfl ?_); refine goesL_ (some 26) rfl rfl Tryd.func21 (by kernel_rfl) rfl #[.int .i64 (wrap64 (a0))] rfl (by (try simp only [List.map_toArray, List.map_cons, List.map_nil]); first | done | rfl | (simp only [List.length_drop, List.length_take]; rfl)) ?_; (with_reducible refine (dec_PrintReal.calls (wrap64 (a0)) t151 _ A5.out).mono ?_); rintro e w11 ⟨rfl, hb⟩; refine ⟨_, rfl, ?_⟩; have n0_ := Aside0.mk (below_step (by repeat (first | (with_reducible first | exact HB.out | apply below_alloc | apply pw_below_drewN | apply below_drew1) | exact HB.out)) hb); clear HB; have HB := n0_; clear n0_; (try clear hb); (try clear hb2); (try clear hk); (try clear hi)) | ((with_reducible refine gate_callee (f := 15) rfl ?_); refine goesL_ (some 29) rfl rfl Tryd.func15 (by kernel_rfl) rfl #[.string t150] rfl (by (try simp only [List.map_toArray, List.map_cons, List.map_nil]); first | done | rfl | (simp only [List.length_drop, List.length_take]; rfl)) ?_; (with_reducible refine (dec_Parse.calls t150 t152 t153 _ A6.out).mono ?_); rintro e w12 ⟨rfl, hb⟩; refine ⟨_, rfl, ?_⟩; have n0_ := Aside0.mk (below_step (by repeat (first | (with_reducible first | exact HB.out | apply below_alloc | apply pw_below_drewN | apply below_drew1) | exact HB.out)) hb); clear HB; have HB := n0_; clear n0_; (try clear hb); (try clear hb2); (try clear hk); (try clear hi)) | ((with_reducible refine gate_callee (f := 15) rfl ?_); refine goesL_ (some 34) rfl rfl Tryd.func15 (by kernel_rfl) rfl #[.string t151] rfl (by (try simp only [List.map_toArray, List.map_cons, List.map_nil]); first | done | rfl | (simp only [List.length_drop, List.length_take]; rfl)) ?_; (with_reducible refine (dec_Parse.calls t151 t154 t155 _ A7.out).mono ?_); rintro e w13 ⟨rfl, hb⟩; refine ⟨_, rfl, ?_⟩; have n0_ := Aside0.mk (below_step (by repeat (first | (with_reducible first | exact HB.out | apply below_alloc | apply pw_below_drewN | apply below_drew1) | exact HB.out)) hb); clear HB; have HB := n0_; clear n0_; (try clear hb); (try clear hb2); (try clear hk); (try clear hi)) | ((with_reducible refine gate_callee (f := 17) rfl ?_); refine goesL_ (some 39) rfl rfl Tryd.func17 (by kernel_rfl) rfl #[.string t151] rfl (by (try simp only [List.map_toArray, List.map_cons, List.map_nil]); first | done | rfl | (simp only [List.length_drop, List.length_take]; rfl)) ?_; (with_reducible refine (dec_Token.calls t151 t156 t157 t158 t159 t160 _ A8.out).mono ?_); rintro e w14 ⟨rfl, hb⟩; refine ⟨_, rfl, ?_⟩; have n0_ := Aside0.mk (below_step (by repeat (first | (with_reducible first | exact HB.out | apply below_alloc | apply pw_below_drewN | apply below_drew1) | exact HB.out)) hb); clear HB; have HB := n0_; clear n0_; (try clear hb); (try clear hb2); (try clear hk); (try clear hi)) | ((with_reducible refine gate_dst (N := 13) rfl ?_); (try (refine gate_guard (by rfl) ?_; dsimp only)); refine box_event ?hg (N := 13) ?hd (cs := #[.int .i64 0, .int .i64 0, .string (⟨#[]⟩ : ByteArray)]) (t := 27) ?hr ?_; (case hd => rfl); (case hg => rfl); (case hr => first | (go_simp; done) | (go_simp; rfl)); intro gb161 hg w15 hbox hb; have n0_ := Aside0.mk (below_step (by repeat (first | (with_reducible first | exact HB.out | apply below_alloc | apply pw_below_drewN | apply below_drew1) | exact HB.out)) hb); have n1_ := Aside0.mk (hbox); have n2_ := Aside0.mk ((by rw [hg]; exact (below_size (by repeat (first | (with_reducible first | exact HB.out | apply below_alloc | apply pw_below_drewN | apply below_drew1) | exact HB.out))) : w.heap.size ≤ gb161)); have n3_ := Aside0.mk ((by rw [hg]; exact (below_size (by repeat (first | (with_reducible first | exact HB.out | apply below_alloc | apply pw_below_drewN | apply below_drew1) | exact HB.out))) : w.heap.size ≤ gb161)); clear HB; have HB := n0_; have BK161 := n1_; have GW161 := n2_; have GE161 := n3_; clear n0_ n1_ n2_ n3_; clear hb hbox hg; have hcz16_0 : w15.cell? ⟨gb161, 0, none⟩ = some (.int .i64 0) := (blk_cell BK161.out 0).trans rfl; have hcz16_1 : w15.cell? ⟨gb161, 1, none⟩ = some (.int .i64 0) := (blk_cell BK161.out 1).trans rfl; have hcz16_2 : w15.cell? ⟨gb161, 2, none⟩ = some (.string (⟨#[]⟩ : ByteArray)) := (blk_cell BK161.out 2).trans rfl; have hfz16_0 := blk_frozen BK161.out 0; have hfz16_1 := blk_frozen BK161.out 1; have hfz16_2 := blk_frozen BK161.out 2))
  (try simp only [Act.put, List.setIfInBounds_toArray, List.set_cons_zero, List.set_cons_succ])
  go_cut [89] (fun v89 wc => ∃ (kq : Nat) (x89_8 : Bool), v89 = .bool x89_8 ∧ Aside0 (mezzotintlaw02_DecBack.j0 kq a0 a1 a2 t151 x89_8 = some r) ∧ Aside0 (kq ≤ k) ∧ Aside0 (wc.heap[gb161]? = some (.cells #[.int .i64 t156, .int .i64 t157, .string t158] 27 (0, 0))) ∧ Aside0 (Below w.heap.size w wc))
  case first =>
    have H := HC9.out
    clear HC9
    replace H := Option.bind_eq_some_iff.mp H
    obtain ⟨t162, A170, H⟩ := H
    replace H : (if t162 = true then (if t153 = true then (if t155 = true then (if t159 = true then (if t160 = 0 then (if t152 = (wrap64 (a0)) then (if t154 = (wrap64 (a0)) then (if t156 = 2 then (if t157 = (wrap64 (a0)) then (mezzotintlaw02_DecBack.j0 k a0 a1 a2 t151 (decide ((t151.size : Int) > 30))) else (mezzotintlaw02_DecBack.j0 k a0 a1 a2 t151 true)) else (mezzotintlaw02_DecBack.j0 k a0 a1 a2 t151 true)) else (mezzotintlaw02_DecBack.j0 k a0 a1 a2 t151 true)) else (mezzotintlaw02_DecBack.j0 k a0 a1 a2 t151 true)) else (mezzotintlaw02_DecBack.j0 k a0 a1 a2 t151 true)) else (mezzotintlaw02_DecBack.j0 k a0 a1 a2 t151 true)) else (mezzotintlaw02_DecBack.j0 k a0 a1 a2 t151 true)) else (mezzotintlaw02_DecBack.j0 k a0 a1 a2 t151 true)) else (mezzotintlaw02_DecBack.j0 k a0 a1 a2 t151 true)) = some r := H
    have A17 := Aside0.mk A170
    clear A170
    by_cases c18 : t162 = true
    · subst c18
      have H1 : (if t153 = true then (if t155 = true then (if t159 = true then (if t160 = 0 then (if t152 = (wrap64 (a0)) then (if t154 = (wrap64 (a0)) then (if t156 = 2 then (if t157 = (wrap64 (a0)) then (mezzotintlaw02_DecBack.j0 k a0 a1 a2 t151 (decide ((t151.size : Int) > 30))) else (mezzotintlaw02_DecBack.j0 k a0 a1 a2 t151 true)) else (mezzotintlaw02_DecBack.j0 k a0 a1 a2 t151 true)) else (mezzotintlaw02_DecBack.j0 k a0 a1 a2 t151 true)) else (mezzotintlaw02_DecBack.j0 k a0 a1 a2 t151 true)) else (mezzotintlaw02_DecBack.j0 k a0 a1 a2 t151 true)) else (mezzotintlaw02_DecBack.j0 k a0 a1 a2 t151 true)) else (mezzotintlaw02_DecBack.j0 k a0 a1 a2 t151 true)) else (mezzotintlaw02_DecBack.j0 k a0 a1 a2 t151 true)) = some r := by rw [if_pos rfl] at H; exact H
      clear H
      have H := H1
      clear H1
      by_cases c19 : t153 = true
      · subst c19
        have H1 : (if t155 = true then (if t159 = true then (if t160 = 0 then (if t152 = (wrap64 (a0)) then (if t154 = (wrap64 (a0)) then (if t156 = 2 then (if t157 = (wrap64 (a0)) then (mezzotintlaw02_DecBack.j0 k a0 a1 a2 t151 (decide ((t151.size : Int) > 30))) else (mezzotintlaw02_DecBack.j0 k a0 a1 a2 t151 true)) else (mezzotintlaw02_DecBack.j0 k a0 a1 a2 t151 true)) else (mezzotintlaw02_DecBack.j0 k a0 a1 a2 t151 true)) else (mezzotintlaw02_DecBack.j0 k a0 a1 a2 t151 true)) else (mezzotintlaw02_DecBack.j0 k a0 a1 a2 t151 true)) else (mezzotintlaw02_DecBack.j0 k a0 a1 a2 t151 true)) else (mezzotintlaw02_DecBack.j0 k a0 a1 a2 t151 true)) = some r := by rw [if_pos rfl] at H; exact H
        clear H
        have H := H1
        clear H1
        by_cases c20 : t155 = true
        · subst c20
          have H1 : (if t159 = true then (if t160 = 0 then (if t152 = (wrap64 (a0)) then (if t154 = (wrap64 (a0)) then (if t156 = 2 then (if t157 = (wrap64 (a0)) then (mezzotintlaw02_DecBack.j0 k a0 a1 a2 t151 (decide ((t151.size : Int) > 30))) else (mezzotintlaw02_DecBack.j0 k a0 a1 a2 t151 true)) else (mezzotintlaw02_DecBack.j0 k a0 a1 a2 t151 true)) else (mezzotintlaw02_DecBack.j0 k a0 a1 a2 t151 true)) else (mezzotintlaw02_DecBack.j0 k a0 a1 a2 t151 true)) else (mezzotintlaw02_DecBack.j0 k a0 a1 a2 t151 true)) else (mezzotintlaw02_DecBack.j0 k a0 a1 a2 t151 true)) = some r := by rw [if_pos rfl] at H; exact H
          clear H
          have H := H1
          clear H1
          by_cases c21 : t159 = true
          · subst c21
            have H1 : (if t160 = 0 then (if t152 = (wrap64 (a0)) then (if t154 = (wrap64 (a0)) then (if t156 = 2 then (if t157 = (wrap64 (a0)) then (mezzotintlaw02_DecBack.j0 k a0 a1 a2 t151 (decide ((t151.size : Int) > 30))) else (mezzotintlaw02_DecBack.j0 k a0 a1 a2 t151 true)) else (mezzotintlaw02_DecBack.j0 k a0 a1 a2 t151 true)) else (mezzotintlaw02_DecBack.j0 k a0 a1 a2 t151 true)) else (mezzotintlaw02_DecBack.j0 k a0 a1 a2 t151 true)) else (mezzotintlaw02_DecBack.j0 k a0 a1 a2 t151 true)) = some r := by rw [if_pos rfl] at H; exact H
            clear H
            have H := H1
            clear H1
            by_cases c22 : t160 = 0
            · rw [if_pos c22] at H
              have c22b0 : (t160 == 0) = true := beq_iff_eq.mpr c22
              have c22b1 : (t160 != 0) = false := bne_eq_false_iff_eq.mpr c22
              clear c22
              (first | rw [c22b0] | (simp only [i64_w, i32_w]; rw [c22b0]) | skip)
              by_cases c23 : t152 = (wrap64 (a0))
              · rw [if_pos c23] at H
                have c23b0 : (t152 == (wrap64 (a0))) = true := beq_iff_eq.mpr c23
                have c23b1 : (t152 != (wrap64 (a0))) = false := bne_eq_false_iff_eq.mpr c23
                clear c23
                by_cases c24 : t154 = (wrap64 (a0))
                · rw [if_pos c24] at H
                  have c24b0 : (t154 == (wrap64 (a0))) = true := beq_iff_eq.mpr c24
                  have c24b1 : (t154 != (wrap64 (a0))) = false := bne_eq_false_iff_eq.mpr c24
                  clear c24
                  by_cases c25 : t156 = 2
                  · rw [if_pos c25] at H
                    have c25b0 : (t156 == 2) = true := beq_iff_eq.mpr c25
                    have c25b1 : (t156 != 2) = false := bne_eq_false_iff_eq.mpr c25
                    clear c25
                    by_cases c26 : t157 = (wrap64 (a0))
                    · rw [if_pos c26] at H
                      have c26b0 : (t157 == (wrap64 (a0))) = true := beq_iff_eq.mpr c26
                      have c26b1 : (t157 != (wrap64 (a0))) = false := bne_eq_false_iff_eq.mpr c26
                      clear c26
                      have H' := Aside0.mk H
                      clear H
                      go_wp2_with (first | ((with_reducible refine gate_callee (f := 14) rfl ?_); refine goesL_ (some 43) rfl rfl Tryd.func14 (by kernel_rfl) rfl #[] rfl (by (try simp only [List.map_toArray, List.map_cons, List.map_nil]); first | done | rfl | (simp only [List.length_drop, List.length_take]; rfl)) ?_; (with_reducible refine (mezzotintlaw02_answers.calls  true _ A17.out).mono ?_); rintro e w27 ⟨rfl, hb⟩; refine ⟨_, rfl, ?_⟩; have n0_ := Aside0.mk (blk_below (g := gb161) (o := .cells #[.int .i64 t156, .int .i64 t157, .string t158] 27 (0, 0)) (by (with_reducible repeat (first | refine blk_drewN ?_ _ | refine blk_drew ?_ | refine blk_alloc ?_ _)); refine blk_put (cs := #[.int .i64 t156, .int .i64 t157, .string (⟨#[]⟩ : ByteArray)]) ?_ 2 _ rfl; (with_reducible repeat (first | refine blk_drewN ?_ _ | refine blk_drew ?_ | refine blk_alloc ?_ _)); refine blk_put (cs := #[.int .i64 t156, .int .i64 0, .string (⟨#[]⟩ : ByteArray)]) ?_ 1 _ rfl; (with_reducible repeat (first | refine blk_drewN ?_ _ | refine blk_drew ?_ | refine blk_alloc ?_ _)); refine blk_put (cs := #[.int .i64 0, .int .i64 0, .string (⟨#[]⟩ : ByteArray)]) ?_ 0 _ rfl; (with_reducible repeat (first | refine blk_drewN ?_ _ | refine blk_drew ?_ | refine blk_alloc ?_ _)); exact BK161.out) hb); have n1_ := Aside0.mk (below_step (by repeat (first | (with_reducible first | exact HB.out | apply below_alloc | apply pw_below_drewN | apply below_drew1 | refine below_set ?_ GE161.out) | exact HB.out)) hb); clear BK161; clear HB; have BK161 := n0_; have HB := n1_; clear n0_ n1_; (try clear hb); (try clear hb2); (try clear hk); (try clear hi); have hcz28_0 : w27.cell? ⟨gb161, 0, none⟩ = some (.int .i64 t156) := (blk_cell BK161.out 0).trans rfl; have hcz28_1 : w27.cell? ⟨gb161, 1, none⟩ = some (.int .i64 t157) := (blk_cell BK161.out 1).trans rfl; have hcz28_2 : w27.cell? ⟨gb161, 2, none⟩ = some (.string t158) := (blk_cell BK161.out 2).trans rfl; have hfz28_0 := blk_frozen BK161.out 0; have hfz28_1 := blk_frozen BK161.out 1; have hfz28_2 := blk_frozen BK161.out 2))
                      go_meet
                      case rel => exact ⟨_, (decide ((t151.size : Int) > 30)), (by first | rfl | (simp; done) | (simp [*]; done)), H', ⟨by first | omega | exact Nat.le_refl _⟩, ⟨by (with_reducible repeat (first | refine blk_drewN ?_ _ | refine blk_drew ?_ | refine blk_alloc ?_ _)); exact BK161.out⟩, ⟨by repeat (first | (with_reducible first | exact HB.out | apply below_alloc | apply pw_below_drewN | apply below_drew1 | refine below_set ?_ GE161.out) | exact HB.out)⟩⟩
                    · rw [if_neg c26] at H
                      have c26b0 : (t157 == (wrap64 (a0))) = false := beq_eq_false_iff_ne.mpr c26
                      have c26b1 : (t157 != (wrap64 (a0))) = true := bne_iff_ne.mpr c26
                      have H' := Aside0.mk H
                      clear H
                      go_wp2_with (first | ((with_reducible refine gate_callee (f := 14) rfl ?_); refine goesL_ (some 43) rfl rfl Tryd.func14 (by kernel_rfl) rfl #[] rfl (by (try simp only [List.map_toArray, List.map_cons, List.map_nil]); first | done | rfl | (simp only [List.length_drop, List.length_take]; rfl)) ?_; (with_reducible refine (mezzotintlaw02_answers.calls  true _ A17.out).mono ?_); rintro e w29 ⟨rfl, hb⟩; refine ⟨_, rfl, ?_⟩; have n0_ := Aside0.mk (blk_below (g := gb161) (o := .cells #[.int .i64 t156, .int .i64 t157, .string t158] 27 (0, 0)) (by (with_reducible repeat (first | refine blk_drewN ?_ _ | refine blk_drew ?_ | refine blk_alloc ?_ _)); refine blk_put (cs := #[.int .i64 t156, .int .i64 t157, .string (⟨#[]⟩ : ByteArray)]) ?_ 2 _ rfl; (with_reducible repeat (first | refine blk_drewN ?_ _ | refine blk_drew ?_ | refine blk_alloc ?_ _)); refine blk_put (cs := #[.int .i64 t156, .int .i64 0, .string (⟨#[]⟩ : ByteArray)]) ?_ 1 _ rfl; (with_reducible repeat (first | refine blk_drewN ?_ _ | refine blk_drew ?_ | refine blk_alloc ?_ _)); refine blk_put (cs := #[.int .i64 0, .int .i64 0, .string (⟨#[]⟩ : ByteArray)]) ?_ 0 _ rfl; (with_reducible repeat (first | refine blk_drewN ?_ _ | refine blk_drew ?_ | refine blk_alloc ?_ _)); exact BK161.out) hb); have n1_ := Aside0.mk (below_step (by repeat (first | (with_reducible first | exact HB.out | apply below_alloc | apply pw_below_drewN | apply below_drew1 | refine below_set ?_ GE161.out) | exact HB.out)) hb); clear BK161; clear HB; have BK161 := n0_; have HB := n1_; clear n0_ n1_; (try clear hb); (try clear hb2); (try clear hk); (try clear hi); have hcz30_0 : w29.cell? ⟨gb161, 0, none⟩ = some (.int .i64 t156) := (blk_cell BK161.out 0).trans rfl; have hcz30_1 : w29.cell? ⟨gb161, 1, none⟩ = some (.int .i64 t157) := (blk_cell BK161.out 1).trans rfl; have hcz30_2 : w29.cell? ⟨gb161, 2, none⟩ = some (.string t158) := (blk_cell BK161.out 2).trans rfl; have hfz30_0 := blk_frozen BK161.out 0; have hfz30_1 := blk_frozen BK161.out 1; have hfz30_2 := blk_frozen BK161.out 2))
                      go_meet
                      case rel => exact ⟨_, (true), (by first | rfl | (simp; done) | (simp [*]; done)), H', ⟨by first | omega | exact Nat.le_refl _⟩, ⟨by (with_reducible repeat (first | refine blk_drewN ?_ _ | refine blk_drew ?_ | refine blk_alloc ?_ _)); exact BK161.out⟩, ⟨by repeat (first | (with_reducible first | exact HB.out | apply below_alloc | apply pw_below_drewN | apply below_drew1 | refine below_set ?_ GE161.out) | exact HB.out)⟩⟩
                  · rw [if_neg c25] at H
                    have c25b0 : (t156 == 2) = false := beq_eq_false_iff_ne.mpr c25
                    have c25b1 : (t156 != 2) = true := bne_iff_ne.mpr c25
                    have H' := Aside0.mk H
                    clear H
                    go_wp2_with (first | ((with_reducible refine gate_callee (f := 14) rfl ?_); refine goesL_ (some 43) rfl rfl Tryd.func14 (by kernel_rfl) rfl #[] rfl (by (try simp only [List.map_toArray, List.map_cons, List.map_nil]); first | done | rfl | (simp only [List.length_drop, List.length_take]; rfl)) ?_; (with_reducible refine (mezzotintlaw02_answers.calls  true _ A17.out).mono ?_); rintro e w31 ⟨rfl, hb⟩; refine ⟨_, rfl, ?_⟩; have n0_ := Aside0.mk (blk_below (g := gb161) (o := .cells #[.int .i64 t156, .int .i64 t157, .string t158] 27 (0, 0)) (by (with_reducible repeat (first | refine blk_drewN ?_ _ | refine blk_drew ?_ | refine blk_alloc ?_ _)); refine blk_put (cs := #[.int .i64 t156, .int .i64 t157, .string (⟨#[]⟩ : ByteArray)]) ?_ 2 _ rfl; (with_reducible repeat (first | refine blk_drewN ?_ _ | refine blk_drew ?_ | refine blk_alloc ?_ _)); refine blk_put (cs := #[.int .i64 t156, .int .i64 0, .string (⟨#[]⟩ : ByteArray)]) ?_ 1 _ rfl; (with_reducible repeat (first | refine blk_drewN ?_ _ | refine blk_drew ?_ | refine blk_alloc ?_ _)); refine blk_put (cs := #[.int .i64 0, .int .i64 0, .string (⟨#[]⟩ : ByteArray)]) ?_ 0 _ rfl; (with_reducible repeat (first | refine blk_drewN ?_ _ | refine blk_drew ?_ | refine blk_alloc ?_ _)); exact BK161.out) hb); have n1_ := Aside0.mk (below_step (by repeat (first | (with_reducible first | exact HB.out | apply below_alloc | apply pw_below_drewN | apply below_drew1 | refine below_set ?_ GE161.out) | exact HB.out)) hb); clear BK161; clear HB; have BK161 := n0_; have HB := n1_; clear n0_ n1_; (try clear hb); (try clear hb2); (try clear hk); (try clear hi); have hcz32_0 : w31.cell? ⟨gb161, 0, none⟩ = some (.int .i64 t156) := (blk_cell BK161.out 0).trans rfl; have hcz32_1 : w31.cell? ⟨gb161, 1, none⟩ = some (.int .i64 t157) := (blk_cell BK161.out 1).trans rfl; have hcz32_2 : w31.cell? ⟨gb161, 2, none⟩ = some (.string t158) := (blk_cell BK161.out 2).trans rfl; have hfz32_0 := blk_frozen BK161.out 0; have hfz32_1 := blk_frozen BK161.out 1; have hfz32_2 := blk_frozen BK161.out 2))
                    go_meet
                    case rel => exact ⟨_, (true), (by first | rfl | (simp; done) | (simp [*]; done)), H', ⟨by first | omega | exact Nat.le_refl _⟩, ⟨by (with_reducible repeat (first | refine blk_drewN ?_ _ | refine blk_drew ?_ | refine blk_alloc ?_ _)); exact BK161.out⟩, ⟨by repeat (first | (with_reducible first | exact HB.out | apply below_alloc | apply pw_below_drewN | apply below_drew1 | refine below_set ?_ GE161.out) | exact HB.out)⟩⟩
                · rw [if_neg c24] at H
                  have c24b0 : (t154 == (wrap64 (a0))) = false := beq_eq_false_iff_ne.mpr c24
                  have c24b1 : (t154 != (wrap64 (a0))) = true := bne_iff_ne.mpr c24
                  have H' := Aside0.mk H
                  clear H
                  go_wp2_with (first | ((with_reducible refine gate_callee (f := 14) rfl ?_); refine goesL_ (some 43) rfl rfl Tryd.func14 (by kernel_rfl) rfl #[] rfl (by (try simp only [List.map_toArray, List.map_cons, List.map_nil]); first | done | rfl | (simp only [List.length_drop, List.length_take]; rfl)) ?_; (with_reducible refine (mezzotintlaw02_answers.calls  true _ A17.out).mono ?_); rintro e w33 ⟨rfl, hb⟩; refine ⟨_, rfl, ?_⟩; have n0_ := Aside0.mk (blk_below (g := gb161) (o := .cells #[.int .i64 t156, .int .i64 t157, .string t158] 27 (0, 0)) (by (with_reducible repeat (first | refine blk_drewN ?_ _ | refine blk_drew ?_ | refine blk_alloc ?_ _)); refine blk_put (cs := #[.int .i64 t156, .int .i64 t157, .string (⟨#[]⟩ : ByteArray)]) ?_ 2 _ rfl; (with_reducible repeat (first | refine blk_drewN ?_ _ | refine blk_drew ?_ | refine blk_alloc ?_ _)); refine blk_put (cs := #[.int .i64 t156, .int .i64 0, .string (⟨#[]⟩ : ByteArray)]) ?_ 1 _ rfl; (with_reducible repeat (first | refine blk_drewN ?_ _ | refine blk_drew ?_ | refine blk_alloc ?_ _)); refine blk_put (cs := #[.int .i64 0, .int .i64 0, .string (⟨#[]⟩ : ByteArray)]) ?_ 0 _ rfl; (with_reducible repeat (first | refine blk_drewN ?_ _ | refine blk_drew ?_ | refine blk_alloc ?_ _)); exact BK161.out) hb); have n1_ := Aside0.mk (below_step (by repeat (first | (with_reducible first | exact HB.out | apply below_alloc | apply pw_below_drewN | apply below_drew1 | refine below_set ?_ GE161.out) | exact HB.out)) hb); clear BK161; clear HB; have BK161 := n0_; have HB := n1_; clear n0_ n1_; (try clear hb); (try clear hb2); (try clear hk); (try clear hi)))
                  go_meet
                  case rel => exact ⟨_, (true), (by first | rfl | (simp; done) | (simp [*]; done)), H', ⟨by first | omega | exact Nat.le_refl _⟩, ⟨by (with_reducible repeat (first | refine blk_drewN ?_ _ | refine blk_drew ?_ | refine blk_alloc ?_ _)); exact BK161.out⟩, ⟨by repeat (first | (with_reducible first | exact HB.out | apply below_alloc | apply pw_below_drewN | apply below_drew1 | refine below_set ?_ GE161.out) | exact HB.out)⟩⟩
              · rw [if_neg c23] at H
                have c23b0 : (t152 == (wrap64 (a0))) = false := beq_eq_false_iff_ne.mpr c23
                have c23b1 : (t152 != (wrap64 (a0))) = true := bne_iff_ne.mpr c23
                have H' := Aside0.mk H
                clear H
                go_wp2_with (first | ((with_reducible refine gate_callee (f := 14) rfl ?_); refine goesL_ (some 43) rfl rfl Tryd.func14 (by kernel_rfl) rfl #[] rfl (by (try simp only [List.map_toArray, List.map_cons, List.map_nil]); first | done | rfl | (simp only [List.length_drop, List.length_take]; rfl)) ?_; (with_reducible refine (mezzotintlaw02_answers.calls  true _ A17.out).mono ?_); rintro e w34 ⟨rfl, hb⟩; refine ⟨_, rfl, ?_⟩; have n0_ := Aside0.mk (blk_below (g := gb161) (o := .cells #[.int .i64 t156, .int .i64 t157, .string t158] 27 (0, 0)) (by (with_reducible repeat (first | refine blk_drewN ?_ _ | refine blk_drew ?_ | refine blk_alloc ?_ _)); refine blk_put (cs := #[.int .i64 t156, .int .i64 t157, .string (⟨#[]⟩ : ByteArray)]) ?_ 2 _ rfl; (with_reducible repeat (first | refine blk_drewN ?_ _ | refine blk_drew ?_ | refine blk_alloc ?_ _)); refine blk_put (cs := #[.int .i64 t156, .int .i64 0, .string (⟨#[]⟩ : ByteArray)]) ?_ 1 _ rfl; (with_reducible repeat (first | refine blk_drewN ?_ _ | refine blk_drew ?_ | refine blk_alloc ?_ _)); refine blk_put (cs := #[.int .i64 0, .int .i64 0, .string (⟨#[]⟩ : ByteArray)]) ?_ 0 _ rfl; (with_reducible repeat (first | refine blk_drewN ?_ _ | refine blk_drew ?_ | refine blk_alloc ?_ _)); exact BK161.out) hb); have n1_ := Aside0.mk (below_step (by repeat (first | (with_reducible first | exact HB.out | apply below_alloc | apply pw_below_drewN | apply below_drew1 | refine below_set ?_ GE161.out) | exact HB.out)) hb); clear BK161; clear HB; have BK161 := n0_; have HB := n1_; clear n0_ n1_; (try clear hb); (try clear hb2); (try clear hk); (try clear hi)))
                go_meet
                case rel => exact ⟨_, (true), (by first | rfl | (simp; done) | (simp [*]; done)), H', ⟨by first | omega | exact Nat.le_refl _⟩, ⟨by (with_reducible repeat (first | refine blk_drewN ?_ _ | refine blk_drew ?_ | refine blk_alloc ?_ _)); exact BK161.out⟩, ⟨by repeat (first | (with_reducible first | exact HB.out | apply below_alloc | apply pw_below_drewN | apply below_drew1 | refine below_set ?_ GE161.out) | exact HB.out)⟩⟩
            · rw [if_neg c22] at H
              have c22b0 : (t160 == 0) = false := beq_eq_false_iff_ne.mpr c22
              have c22b1 : (t160 != 0) = true := bne_iff_ne.mpr c22
              (first | rw [c22b0] | (simp only [i64_w, i32_w]; rw [c22b0]) | skip)
              have H' := Aside0.mk H
              clear H
              go_wp2_with (first | ((with_reducible refine gate_callee (f := 14) rfl ?_); refine goesL_ (some 43) rfl rfl Tryd.func14 (by kernel_rfl) rfl #[] rfl (by (try simp only [List.map_toArray, List.map_cons, List.map_nil]); first | done | rfl | (simp only [List.length_drop, List.length_take]; rfl)) ?_; (with_reducible refine (mezzotintlaw02_answers.calls  true _ A17.out).mono ?_); rintro e w35 ⟨rfl, hb⟩; refine ⟨_, rfl, ?_⟩; have n0_ := Aside0.mk (blk_below (g := gb161) (o := .cells #[.int .i64 t156, .int .i64 t157, .string t158] 27 (0, 0)) (by (with_reducible repeat (first | refine blk_drewN ?_ _ | refine blk_drew ?_ | refine blk_alloc ?_ _)); refine blk_put (cs := #[.int .i64 t156, .int .i64 t157, .string (⟨#[]⟩ : ByteArray)]) ?_ 2 _ rfl; (with_reducible repeat (first | refine blk_drewN ?_ _ | refine blk_drew ?_ | refine blk_alloc ?_ _)); refine blk_put (cs := #[.int .i64 t156, .int .i64 0, .string (⟨#[]⟩ : ByteArray)]) ?_ 1 _ rfl; (with_reducible repeat (first | refine blk_drewN ?_ _ | refine blk_drew ?_ | refine blk_alloc ?_ _)); refine blk_put (cs := #[.int .i64 0, .int .i64 0, .string (⟨#[]⟩ : ByteArray)]) ?_ 0 _ rfl; (with_reducible repeat (first | refine blk_drewN ?_ _ | refine blk_drew ?_ | refine blk_alloc ?_ _)); exact BK161.out) hb); have n1_ := Aside0.mk (below_step (by repeat (first | (with_reducible first | exact HB.out | apply below_alloc | apply pw_below_drewN | apply below_drew1 | refine below_set ?_ GE161.out) | exact HB.out)) hb); clear BK161; clear HB; have BK161 := n0_; have HB := n1_; clear n0_ n1_; (try clear hb); (try clear hb2); (try clear hk); (try clear hi)))
              go_meet
              case rel => exact ⟨_, (true), (by first | rfl | (simp; done) | (simp [*]; done)), H', ⟨by first | omega | exact Nat.le_refl _⟩, ⟨by (with_reducible repeat (first | refine blk_drewN ?_ _ | refine blk_drew ?_ | refine blk_alloc ?_ _)); exact BK161.out⟩, ⟨by repeat (first | (with_reducible first | exact HB.out | apply below_alloc | apply pw_below_drewN | apply below_drew1 | refine below_set ?_ GE161.out) | exact HB.out)⟩⟩
          · replace c21 := Bool.eq_false_iff.mpr c21
            subst c21
            have H1 : (mezzotintlaw02_DecBack.j0 k a0 a1 a2 t151 true) = some r := by rw [if_neg (show ¬ (false = true) by decide)] at H; exact H
            clear H
            have H := H1
            clear H1
            have H' := Aside0.mk H
            clear H
            go_wp2_with (first | ((with_reducible refine gate_callee (f := 14) rfl ?_); refine goesL_ (some 43) rfl rfl Tryd.func14 (by kernel_rfl) rfl #[] rfl (by (try simp only [List.map_toArray, List.map_cons, List.map_nil]); first | done | rfl | (simp only [List.length_drop, List.length_take]; rfl)) ?_; (with_reducible refine (mezzotintlaw02_answers.calls  true _ A17.out).mono ?_); rintro e w36 ⟨rfl, hb⟩; refine ⟨_, rfl, ?_⟩; have n0_ := Aside0.mk (blk_below (g := gb161) (o := .cells #[.int .i64 t156, .int .i64 t157, .string t158] 27 (0, 0)) (by (with_reducible repeat (first | refine blk_drewN ?_ _ | refine blk_drew ?_ | refine blk_alloc ?_ _)); refine blk_put (cs := #[.int .i64 t156, .int .i64 t157, .string (⟨#[]⟩ : ByteArray)]) ?_ 2 _ rfl; (with_reducible repeat (first | refine blk_drewN ?_ _ | refine blk_drew ?_ | refine blk_alloc ?_ _)); refine blk_put (cs := #[.int .i64 t156, .int .i64 0, .string (⟨#[]⟩ : ByteArray)]) ?_ 1 _ rfl; (with_reducible repeat (first | refine blk_drewN ?_ _ | refine blk_drew ?_ | refine blk_alloc ?_ _)); refine blk_put (cs := #[.int .i64 0, .int .i64 0, .string (⟨#[]⟩ : ByteArray)]) ?_ 0 _ rfl; (with_reducible repeat (first | refine blk_drewN ?_ _ | refine blk_drew ?_ | refine blk_alloc ?_ _)); exact BK161.out) hb); have n1_ := Aside0.mk (below_step (by repeat (first | (with_reducible first | exact HB.out | apply below_alloc | apply pw_below_drewN | apply below_drew1 | refine below_set ?_ GE161.out) | exact HB.out)) hb); clear BK161; clear HB; have BK161 := n0_; have HB := n1_; clear n0_ n1_; (try clear hb); (try clear hb2); (try clear hk); (try clear hi)))
            go_meet
            case rel => exact ⟨_, (true), (by first | rfl | (simp; done) | (simp [*]; done)), H', ⟨by first | omega | exact Nat.le_refl _⟩, ⟨by (with_reducible repeat (first | refine blk_drewN ?_ _ | refine blk_drew ?_ | refine blk_alloc ?_ _)); exact BK161.out⟩, ⟨by repeat (first | (with_reducible first | exact HB.out | apply below_alloc | apply pw_below_drewN | apply below_drew1 | refine below_set ?_ GE161.out) | exact HB.out)⟩⟩
        · replace c20 := Bool.eq_false_iff.mpr c20
          subst c20
          have H1 : (mezzotintlaw02_DecBack.j0 k a0 a1 a2 t151 true) = some r := by rw [if_neg (show ¬ (false = true) by decide)] at H; exact H
          clear H
          have H := H1
          clear H1
          have H' := Aside0.mk H
          clear H
          go_wp2_with (first | ((with_reducible refine gate_callee (f := 14) rfl ?_); refine goesL_ (some 43) rfl rfl Tryd.func14 (by kernel_rfl) rfl #[] rfl (by (try simp only [List.map_toArray, List.map_cons, List.map_nil]); first | done | rfl | (simp only [List.length_drop, List.length_take]; rfl)) ?_; (with_reducible refine (mezzotintlaw02_answers.calls  true _ A17.out).mono ?_); rintro e w37 ⟨rfl, hb⟩; refine ⟨_, rfl, ?_⟩; have n0_ := Aside0.mk (blk_below (g := gb161) (o := .cells #[.int .i64 t156, .int .i64 t157, .string t158] 27 (0, 0)) (by (with_reducible repeat (first | refine blk_drewN ?_ _ | refine blk_drew ?_ | refine blk_alloc ?_ _)); refine blk_put (cs := #[.int .i64 t156, .int .i64 t157, .string (⟨#[]⟩ : ByteArray)]) ?_ 2 _ rfl; (with_reducible repeat (first | refine blk_drewN ?_ _ | refine blk_drew ?_ | refine blk_alloc ?_ _)); refine blk_put (cs := #[.int .i64 t156, .int .i64 0, .string (⟨#[]⟩ : ByteArray)]) ?_ 1 _ rfl; (with_reducible repeat (first | refine blk_drewN ?_ _ | refine blk_drew ?_ | refine blk_alloc ?_ _)); refine blk_put (cs := #[.int .i64 0, .int .i64 0, .string (⟨#[]⟩ : ByteArray)]) ?_ 0 _ rfl; (with_reducible repeat (first | refine blk_drewN ?_ _ | refine blk_drew ?_ | refine blk_alloc ?_ _)); exact BK161.out) hb); have n1_ := Aside0.mk (below_step (by repeat (first | (with_reducible first | exact HB.out | apply below_alloc | apply pw_below_drewN | apply below_drew1 | refine below_set ?_ GE161.out) | exact HB.out)) hb); clear BK161; clear HB; have BK161 := n0_; have HB := n1_; clear n0_ n1_; (try clear hb); (try clear hb2); (try clear hk); (try clear hi)))
          go_meet
          case rel => exact ⟨_, (true), (by first | rfl | (simp; done) | (simp [*]; done)), H', ⟨by first | omega | exact Nat.le_refl _⟩, ⟨by (with_reducible repeat (first | refine blk_drewN ?_ _ | refine blk_drew ?_ | refine blk_alloc ?_ _)); exact BK161.out⟩, ⟨by repeat (first | (with_reducible first | exact HB.out | apply below_alloc | apply pw_below_drewN | apply below_drew1 | refine below_set ?_ GE161.out) | exact HB.out)⟩⟩
      · replace c19 := Bool.eq_false_iff.mpr c19
        subst c19
        have H1 : (mezzotintlaw02_DecBack.j0 k a0 a1 a2 t151 true) = some r := by rw [if_neg (show ¬ (false = true) by decide)] at H; exact H
        clear H
        have H := H1
        clear H1
        have H' := Aside0.mk H
        clear H
        go_wp2_with (first | ((with_reducible refine gate_callee (f := 14) rfl ?_); refine goesL_ (some 43) rfl rfl Tryd.func14 (by kernel_rfl) rfl #[] rfl (by (try simp only [List.map_toArray, List.map_cons, List.map_nil]); first | done | rfl | (simp only [List.length_drop, List.length_take]; rfl)) ?_; (with_reducible refine (mezzotintlaw02_answers.calls  true _ A17.out).mono ?_); rintro e w38 ⟨rfl, hb⟩; refine ⟨_, rfl, ?_⟩; have n0_ := Aside0.mk (blk_below (g := gb161) (o := .cells #[.int .i64 t156, .int .i64 t157, .string t158] 27 (0, 0)) (by (with_reducible repeat (first | refine blk_drewN ?_ _ | refine blk_drew ?_ | refine blk_alloc ?_ _)); refine blk_put (cs := #[.int .i64 t156, .int .i64 t157, .string (⟨#[]⟩ : ByteArray)]) ?_ 2 _ rfl; (with_reducible repeat (first | refine blk_drewN ?_ _ | refine blk_drew ?_ | refine blk_alloc ?_ _)); refine blk_put (cs := #[.int .i64 t156, .int .i64 0, .string (⟨#[]⟩ : ByteArray)]) ?_ 1 _ rfl; (with_reducible repeat (first | refine blk_drewN ?_ _ | refine blk_drew ?_ | refine blk_alloc ?_ _)); refine blk_put (cs := #[.int .i64 0, .int .i64 0, .string (⟨#[]⟩ : ByteArray)]) ?_ 0 _ rfl; (with_reducible repeat (first | refine blk_drewN ?_ _ | refine blk_drew ?_ | refine blk_alloc ?_ _)); exact BK161.out) hb); have n1_ := Aside0.mk (below_step (by repeat (first | (with_reducible first | exact HB.out | apply below_alloc | apply pw_below_drewN | apply below_drew1 | refine below_set ?_ GE161.out) | exact HB.out)) hb); clear BK161; clear HB; have BK161 := n0_; have HB := n1_; clear n0_ n1_; (try clear hb); (try clear hb2); (try clear hk); (try clear hi)))
        go_meet
        case rel => exact ⟨_, (true), (by first | rfl | (simp; done) | (simp [*]; done)), H', ⟨by first | omega | exact Nat.le_refl _⟩, ⟨by (with_reducible repeat (first | refine blk_drewN ?_ _ | refine blk_drew ?_ | refine blk_alloc ?_ _)); exact BK161.out⟩, ⟨by repeat (first | (with_reducible first | exact HB.out | apply below_alloc | apply pw_below_drewN | apply below_drew1 | refine below_set ?_ GE161.out) | exact HB.out)⟩⟩
    · replace c18 := Bool.eq_false_iff.mpr c18
      subst c18
      have H1 : (mezzotintlaw02_DecBack.j0 k a0 a1 a2 t151 true) = some r := by rw [if_neg (show ¬ (false = true) by decide)] at H; exact H
      clear H
      have H := H1
      clear H1
      have H' := Aside0.mk H
      clear H
      go_wp2_with (first | ((with_reducible refine gate_callee (f := 14) rfl ?_); refine goesL_ (some 43) rfl rfl Tryd.func14 (by kernel_rfl) rfl #[] rfl (by (try simp only [List.map_toArray, List.map_cons, List.map_nil]); first | done | rfl | (simp only [List.length_drop, List.length_take]; rfl)) ?_; (with_reducible refine (mezzotintlaw02_answers.calls  false _ A17.out).mono ?_); rintro e w39 ⟨rfl, hb⟩; refine ⟨_, rfl, ?_⟩; have n0_ := Aside0.mk (blk_below (g := gb161) (o := .cells #[.int .i64 t156, .int .i64 t157, .string t158] 27 (0, 0)) (by (with_reducible repeat (first | refine blk_drewN ?_ _ | refine blk_drew ?_ | refine blk_alloc ?_ _)); refine blk_put (cs := #[.int .i64 t156, .int .i64 t157, .string (⟨#[]⟩ : ByteArray)]) ?_ 2 _ rfl; (with_reducible repeat (first | refine blk_drewN ?_ _ | refine blk_drew ?_ | refine blk_alloc ?_ _)); refine blk_put (cs := #[.int .i64 t156, .int .i64 0, .string (⟨#[]⟩ : ByteArray)]) ?_ 1 _ rfl; (with_reducible repeat (first | refine blk_drewN ?_ _ | refine blk_drew ?_ | refine blk_alloc ?_ _)); refine blk_put (cs := #[.int .i64 0, .int .i64 0, .string (⟨#[]⟩ : ByteArray)]) ?_ 0 _ rfl; (with_reducible repeat (first | refine blk_drewN ?_ _ | refine blk_drew ?_ | refine blk_alloc ?_ _)); exact BK161.out) hb); have n1_ := Aside0.mk (below_step (by repeat (first | (with_reducible first | exact HB.out | apply below_alloc | apply pw_below_drewN | apply below_drew1 | refine below_set ?_ GE161.out) | exact HB.out)) hb); clear BK161; clear HB; have BK161 := n0_; have HB := n1_; clear n0_ n1_; (try clear hb); (try clear hb2); (try clear hk); (try clear hi)))
      go_meet
      case rel => exact ⟨_, (true), (by first | rfl | (simp; done) | (simp [*]; done)), H', ⟨by first | omega | exact Nat.le_refl _⟩, ⟨by (with_reducible repeat (first | refine blk_drewN ?_ _ | refine blk_drew ?_ | refine blk_alloc ?_ _)); exact BK161.out⟩, ⟨by repeat (first | (with_reducible first | exact HB.out | apply below_alloc | apply pw_below_drewN | apply below_drew1 | refine below_set ?_ GE161.out) | exact HB.out)⟩⟩
  case rest =>
    clear HC9
    try clear c1
    try clear c2
    try clear p2
    try clear p6
    try clear c7
    try clear c14
    try clear c15
    try clear c17
    try clear c18
    try clear c19
    try clear c20
    try clear c21
    try clear c22
    try clear c22b0
    try clear c22b1
    try clear c23
    try clear c23b0
    try clear c23b1
    try clear c24
    try clear c24b0
    try clear c24b1
    try clear c25
    try clear c25b0
    try clear c25b1
    try clear c26
    try clear c26b0
    try clear c26b1
    try clear hcz16_0
    try clear hcz16_1
    try clear hcz16_2
    try clear hcz28_0
    try clear hcz28_1
    try clear hcz28_2
    try clear hcz30_0
    try clear hcz30_1
    try clear hcz30_2
    try clear hcz32_0
    try clear hcz32_1
    try clear hcz32_2
    try clear hfz16_0
    try clear hfz16_1
    try clear hfz16_2
    try clear hfz28_0
    try clear hfz28_1
    try clear hfz28_2
    try clear hfz30_0
    try clear hfz30_1
    try clear hfz30_2
    try clear hfz32_0
    try clear hfz32_1
    try clear hfz32_2
    obtain ⟨kq, x89_8, rfl, HA, HJ8, BK161, HB⟩ := hcut
    cases kq with
    | zero => exact absurd HA.out (by simp [mezzotintlaw02_DecBack.j0])
    | succ kj8 =>
      have H := HA.out
      clear HA
      simp only [mezzotintlaw02_DecBack.j0] at H
      by_cases c40 : x89_8 = true
      · subst c40
        have H1 : (some false) = some r := by rw [if_pos rfl] at H; exact H
        clear H
        have H := H1
        clear H1
        obtain rfl := Option.some.inj H
        go_wp2
        go_ret
        exact ⟨by first | rfl | (simp [errW_none, errW_some] <;> rfl) | (simp [*, errW_none, errW_some] <;> rfl), by repeat (first | (with_reducible first | exact HB.out | apply below_alloc | apply pw_below_drewN | apply below_drew1 | refine below_set ?_ GE161.out) | exact HB.out)⟩
      · replace c40 := Bool.eq_false_iff.mpr c40
        subst c40
        have H1 : (mezzotintlaw02_DecBack.l0 kj8 a0 a1 a2 t151 0) = some r := by rw [if_neg (show ¬ (false = true) by decide)] at H; exact H
        clear H
        have H := H1
        clear H1
        have H' := Aside0.mk H
        clear H
        go_wp2
        go_loopg [8, 16] kj8 (fun kq v8 v16 w' => ∃ (x8_2 : ByteArray) (x16_2 : Int), v8 = .string x8_2 ∧ v16 = .int .i64 x16_2 ∧ Aside0 (mezzotintlaw02_DecBack.l0 kq a0 a1 a2 x8_2 x16_2 = some r) ∧ Aside0 (kq ≤ kj8) ∧ Aside0 (w'.heap[gb161]? = some (.cells #[.int .i64 t156, .int .i64 t157, .string t158] 27 (0, 0))) ∧ Aside0 (Below w.heap.size w w'))
        case atStart => exact ⟨(t151), (0), (by first | rfl | (simp; done) | (simp [*]; done)), (by first | rfl | (simp; done) | (simp [*]; done)), H', ⟨Nat.le_refl _⟩, ⟨by (with_reducible repeat (first | refine blk_drewN ?_ _ | refine blk_drew ?_ | refine blk_alloc ?_ _)); exact BK161.out⟩, ⟨by repeat (first | (with_reducible first | exact HB.out | apply below_alloc | apply pw_below_drewN | apply below_drew1 | refine below_set ?_ GE161.out) | exact HB.out)⟩⟩
        case round =>
          clear H'
          try clear c1
          try clear c2
          try clear p2
          try clear c4
          try clear p6
          try clear c7
          try clear c14
          try clear c15
          try clear c17
          try clear c18
          try clear c19
          try clear c20
          try clear c21
          try clear c22
          try clear c22b0
          try clear c22b1
          try clear c23
          try clear c23b0
          try clear c23b1
          try clear c24
          try clear c24b0
          try clear c24b1
          try clear c25
          try clear c25b0
          try clear c25b1
          try clear c26
          try clear c26b0
          try clear c26b1
          try clear c40
          try clear hcz16_0
          try clear hcz16_1
          try clear hcz16_2
          try clear hcz28_0
          try clear hcz28_1
          try clear hcz28_2
          try clear hcz30_0
          try clear hcz30_1
          try clear hcz30_2
          try clear hcz32_0
          try clear hcz32_1
          try clear hcz32_2
          try clear hfz16_0
          try clear hfz16_1
          try clear hfz16_2
          try clear hfz28_0
          try clear hfz28_1
          try clear hfz28_2
          try clear hfz30_0
          try clear hfz30_1
          try clear hfz30_2
          try clear hfz32_0
          try clear hfz32_1
          try clear hfz32_2
          try clear p2
          try clear p6
          obtain ⟨x8_2, x16_2, rfl, rfl, HA, HK2, BK161, HB⟩ := hrel
          cases gk with
          | zero => exact absurd HA.out (by simp [mezzotintlaw02_DecBack.l0])
          | succ k2 =>
            have H := HA.out
            clear HA
            simp only [mezzotintlaw02_DecBack.l0] at H
            by_cases c41 : x16_2 < (wrap64 (Int.tmod a2 15))
            · rw [if_pos c41] at H
              have c41b0 : decide (x16_2 < (wrap64 (Int.tmod a2 15))) = true := decide_eq_true c41
              clear c41
              by_cases c42 : x8_2.size + 1 ≤ 9223372036854775807
              · rw [if_pos c42] at H
                have c42b0 := eq_true c42
                have c42b1 : decide (x8_2.size + 1 ≤ 9223372036854775807) = true := decide_eq_true c42
                try have c42b2 : (9223372036854775807 < x8_2.size + 1) = False := eq_false (Nat.not_lt.2 c42)
                have H' := Aside0.mk H
                clear H
                go_wp2
                go_roundg k2
                case measure => have := HJ8.out; have := HK2.out; omega
                case rel => exact ⟨(x8_2 ++ (⟨#[48]⟩ : ByteArray)), (wrap64 (x16_2 + 1)), (by first | rfl | (simp; done) | (simp [*]; done)), (by first | rfl | (simp; done) | (simp [*]; done)), H', ⟨by have := HJ8.out; have := HK2.out; omega⟩, ⟨by (with_reducible repeat (first | refine blk_drewN ?_ _ | refine blk_drew ?_ | refine blk_alloc ?_ _)); exact BK161.out⟩, ⟨by repeat (first | (with_reducible first | exact HB.out | apply below_alloc | apply pw_below_drewN | apply below_drew1 | refine below_set ?_ GE161.out) | exact HB.out)⟩⟩
              · rw [if_neg c42] at H
                exact absurd H (by simp)
            · rw [if_neg c41] at H
              have c41b0 : decide (x16_2 < (wrap64 (Int.tmod a2 15))) = false := decide_eq_false c41
              clear c41
              by_cases c43 : 0 < (x8_2.size : Int)
              · rw [if_pos c43] at H
                have c43b0 : decide (0 < (x8_2.size : Int)) = true := decide_eq_true c43
                have c43b1 : decide (0 < x8_2.size) = true := decide_eq_true (by omega)
                clear c43
                have HC45 := Aside0.mk H
                clear H
                have p44 : 0 ≤ (0 : Int) := (by omega)
                have q44 : 0 < x8_2.size := (by have : (0 : Int) < (x8_2.size : Int) := of_decide_eq_true (by first | (with_reducible assumption) | assumption); omega)
                have hx44 : ∀ h : 0 < x8_2.size, ((x8_2[0]'h).toNat : Int) = bt x8_2 0 := bt_at x8_2 0
                clear p44
                have qi44 : (0 < (x8_2.size : Int)) = True := eq_true (of_decide_eq_true (by first | (with_reducible assumption) | assumption))
                replace q44 := eq_true q44
                go_upto_if 101 with (fail)
                go_cut [8, 17] (fun v8 v17 wc => ∃ (kq : Nat) (x8_44 : ByteArray) (x17_44 : ByteArray), v8 = .string x8_44 ∧ v17 = .string x17_44 ∧ Aside0 (mezzotintlaw02_DecBack.j2 kq a0 a1 x8_44 x17_44 = some r) ∧ Aside0 (kq ≤ k2) ∧ Aside0 (wc.heap[gb161]? = some (.cells #[.int .i64 t156, .int .i64 t157, .string t158] 27 (0, 0))) ∧ Aside0 (Below w.heap.size w wc))
                case first =>
                  have H := HC45.out
                  clear HC45
                  by_cases c46 : (bt x8_2 0) = 45
                  · rw [if_pos c46] at H
                    have c46b0 : ((bt x8_2 0) == 45) = true := beq_iff_eq.mpr c46
                    have c46b1 : ((bt x8_2 0) != 45) = false := bne_eq_false_iff_eq.mpr c46
                    clear c46
                    (first | rw [c46b0] | (simp only [i64_w, i32_w]; rw [c46b0]) | skip)
                    by_cases c47 : 1 ≤ (x8_2.size : Int)
                    · rw [if_pos c47] at H
                      have c47b0 := eq_true c47
                      have c47b1 : decide (1 ≤ (x8_2.size : Int)) = true := decide_eq_true c47
                      clear c47
                      have H' := Aside0.mk H
                      clear H
                      go_wp2
                      go_meet
                      case rel => exact ⟨_, (x8_2.extract 1 x8_2.size), ((⟨#[45]⟩ : ByteArray)), (by first | rfl | (simp; done) | (simp [*]; done)), (by first | rfl | (simp; done) | (simp [*]; done)), H', ⟨by have := HJ8.out; have := HK2.out; first | omega | exact Nat.le_refl _⟩, ⟨by (with_reducible repeat (first | refine blk_drewN ?_ _ | refine blk_drew ?_ | refine blk_alloc ?_ _)); exact BK161.out⟩, ⟨by repeat (first | (with_reducible first | exact HB.out | apply below_alloc | apply pw_below_drewN | apply below_drew1 | refine below_set ?_ GE161.out) | exact HB.out)⟩⟩
                    · rw [if_neg c47] at H
                      exact absurd H (by simp)
                  · rw [if_neg c46] at H
                    have c46b0 : ((bt x8_2 0) == 45) = false := beq_eq_false_iff_ne.mpr c46
                    have c46b1 : ((bt x8_2 0) != 45) = true := bne_iff_ne.mpr c46
                    (first | rw [c46b0] | (simp only [i64_w, i32_w]; rw [c46b0]) | skip)
                    have H' := Aside0.mk H
                    clear H
                    go_wp2
                    go_meet
                    case rel => exact ⟨_, (x8_2), ((⟨#[]⟩ : ByteArray)), (by first | rfl | (simp; done) | (simp [*]; done)), (by first | rfl | (simp; done) | (simp [*]; done)), H', ⟨by have := HJ8.out; have := HK2.out; first | omega | exact Nat.le_refl _⟩, ⟨by (with_reducible repeat (first | refine blk_drewN ?_ _ | refine blk_drew ?_ | refine blk_alloc ?_ _)); exact BK161.out⟩, ⟨by repeat (first | (with_reducible first | exact HB.out | apply below_alloc | apply pw_below_drewN | apply below_drew1 | refine below_set ?_ GE161.out) | exact HB.out)⟩⟩
                case rest =>
                  clear HC45
                  try clear c1
                  try clear c2
                  try clear p2
                  try clear c4
                  try clear p4
                  try clear q4
                  try clear hx4
                  try clear qi4
                  try clear p6
                  try clear c7
                  try clear c14
                  try clear c15
                  try clear c17
                  try clear c18
                  try clear c19
                  try clear c20
                  try clear c21
                  try clear c22
                  try clear c22b0
                  try clear c22b1
                  try clear c23
                  try clear c23b0
                  try clear c23b1
                  try clear c24
                  try clear c24b0
                  try clear c24b1
                  try clear c25
                  try clear c25b0
                  try clear c25b1
                  try clear c26
                  try clear c26b0
                  try clear c26b1
                  try clear c40
                  try clear c41
                  try clear c41b0
                  try clear c42
                  try clear c42b0
                  try clear c42b1
                  try clear c42b2
                  try clear c43
                  try clear c43b0
                  try clear c43b1
                  try clear p44
                  try clear q44
                  try clear hx44
                  try clear qi44
                  try clear c46
                  try clear c46b0
                  try clear c46b1
                  try clear c47
                  try clear c47b0
                  try clear c47b1
                  try clear hcz16_0
                  try clear hcz16_1
                  try clear hcz16_2
                  try clear hcz28_0
                  try clear hcz28_1
                  try clear hcz28_2
                  try clear hcz30_0
                  try clear hcz30_1
                  try clear hcz30_2
                  try clear hcz32_0
                  try clear hcz32_1
                  try clear hcz32_2
                  try clear hfz16_0
                  try clear hfz16_1
                  try clear hfz16_2
                  try clear hfz28_0
                  try clear hfz28_1
                  try clear hfz28_2
                  try clear hfz30_0
                  try clear hfz30_1
                  try clear hfz30_2
                  try clear hfz32_0
                  try clear hfz32_1
                  try clear hfz32_2
                  try clear p2
                  try clear p44
                  try clear p6
                  try clear q44
                  obtain ⟨kq, x8_44, x17_44, rfl, rfl, HA, HJ44, BK161, HB⟩ := hcut
                  cases kq with
                  | zero => exact absurd HA.out (by simp [mezzotintlaw02_DecBack.j2])
                  | succ kj44 =>
                    have H := HA.out
                    clear HA
                    simp only [mezzotintlaw02_DecBack.j2] at H
                    have H' := Aside0.mk H
                    clear H
                    go_wp2
                    go_loopg [8, 18] kj44 (fun kq v8 v18 w' => ∃ (x8_4 : ByteArray) (x18_4 : Int), v8 = .string x8_4 ∧ v18 = .int .i64 x18_4 ∧ Aside0 (mezzotintlaw02_DecBack.l1 kq a0 a1 x8_4 x17_44 x18_4 = some r) ∧ Aside0 (kq ≤ kj44) ∧ Aside0 (w'.heap[gb161]? = some (.cells #[.int .i64 t156, .int .i64 t157, .string t158] 27 (0, 0))) ∧ Aside0 (Below w.heap.size w w'))
                    case atStart => exact ⟨(x8_44), (0), (by first | rfl | (simp; done) | (simp [*]; done)), (by first | rfl | (simp; done) | (simp [*]; done)), H', ⟨Nat.le_refl _⟩, ⟨by (with_reducible repeat (first | refine blk_drewN ?_ _ | refine blk_drew ?_ | refine blk_alloc ?_ _)); exact BK161.out⟩, ⟨by repeat (first | (with_reducible first | exact HB.out | apply below_alloc | apply pw_below_drewN | apply below_drew1 | refine below_set ?_ GE161.out) | exact HB.out)⟩⟩
                    case round =>
                      clear H'
                      try clear c1
                      try clear c2
                      try clear p2
                      try clear c4
                      try clear p4
                      try clear q4
                      try clear hx4
                      try clear qi4
                      try clear p6
                      try clear c7
                      try clear c14
                      try clear c15
                      try clear c17
                      try clear c18
                      try clear c19
                      try clear c20
                      try clear c21
                      try clear c22
                      try clear c22b0
                      try clear c22b1
                      try clear c23
                      try clear c23b0
                      try clear c23b1
                      try clear c24
                      try clear c24b0
                      try clear c24b1
                      try clear c25
                      try clear c25b0
                      try clear c25b1
                      try clear c26
                      try clear c26b0
                      try clear c26b1
                      try clear c40
                      try clear c41
                      try clear c41b0
                      try clear c42
                      try clear c42b0
                      try clear c42b1
                      try clear c42b2
                      try clear c43
                      try clear c43b0
                      try clear c43b1
                      try clear p44
                      try clear q44
                      try clear hx44
                      try clear qi44
                      try clear c46
                      try clear c46b0
                      try clear c46b1
                      try clear c47
                      try clear c47b0
                      try clear c47b1
                      try clear hcz16_0
                      try clear hcz16_1
                      try clear hcz16_2
                      try clear hcz28_0
                      try clear hcz28_1
                      try clear hcz28_2
                      try clear hcz30_0
                      try clear hcz30_1
                      try clear hcz30_2
                      try clear hcz32_0
                      try clear hcz32_1
                      try clear hcz32_2
                      try clear hfz16_0
                      try clear hfz16_1
                      try clear hfz16_2
                      try clear hfz28_0
                      try clear hfz28_1
                      try clear hfz28_2
                      try clear hfz30_0
                      try clear hfz30_1
                      try clear hfz30_2
                      try clear hfz32_0
                      try clear hfz32_1
                      try clear hfz32_2
                      try clear p2
                      try clear p4
                      try clear p44
                      try clear p6
                      try clear q4
                      try clear q44
                      obtain ⟨x8_4, x18_4, rfl, rfl, HA, HK4, BK161, HB⟩ := hrel
                      cases gk with
                      | zero => exact absurd HA.out (by simp [mezzotintlaw02_DecBack.l1])
                      | succ k4 =>
                        have H := HA.out
                        clear HA
                        simp only [mezzotintlaw02_DecBack.l1] at H
                        by_cases c48 : x18_4 < (wrap64 (Int.tmod a1 15))
                        · rw [if_pos c48] at H
                          have c48b0 : decide (x18_4 < (wrap64 (Int.tmod a1 15))) = true := decide_eq_true c48
                          clear c48
                          by_cases c49 : 1 + x8_4.size ≤ 9223372036854775807
                          · rw [if_pos c49] at H
                            have c49b0 := eq_true c49
                            have c49b1 : decide (1 + x8_4.size ≤ 9223372036854775807) = true := decide_eq_true c49
                            try have c49b2 : (9223372036854775807 < 1 + x8_4.size) = False := eq_false (Nat.not_lt.2 c49)
                            have H' := Aside0.mk H
                            clear H
                            go_wp2
                            go_roundg k4
                            case measure => have := HJ8.out; have := HK2.out; have := HJ44.out; have := HK4.out; omega
                            case rel => exact ⟨((⟨#[48]⟩ : ByteArray) ++ x8_4), (wrap64 (x18_4 + 1)), (by first | rfl | (simp; done) | (simp [*]; done)), (by first | rfl | (simp; done) | (simp [*]; done)), H', ⟨by have := HJ8.out; have := HK2.out; have := HJ44.out; have := HK4.out; omega⟩, ⟨by (with_reducible repeat (first | refine blk_drewN ?_ _ | refine blk_drew ?_ | refine blk_alloc ?_ _)); exact BK161.out⟩, ⟨by repeat (first | (with_reducible first | exact HB.out | apply below_alloc | apply pw_below_drewN | apply below_drew1 | refine below_set ?_ GE161.out) | exact HB.out)⟩⟩
                          · rw [if_neg c49] at H
                            exact absurd H (by simp)
                        · rw [if_neg c48] at H
                          have c48b0 : decide (x18_4 < (wrap64 (Int.tmod a1 15))) = false := decide_eq_false c48
                          clear c48
                          by_cases c50 : x17_44.size + x8_4.size ≤ 9223372036854775807
                          · rw [if_pos c50] at H
                            have c50b0 := eq_true c50
                            have c50b1 : decide (x17_44.size + x8_4.size ≤ 9223372036854775807) = true := decide_eq_true c50
                            try have c50b2 : (9223372036854775807 < x17_44.size + x8_4.size) = False := eq_false (Nat.not_lt.2 c50)
                            replace H := Option.bind_eq_some_iff.mp H
                            obtain ⟨⟨t163, t164⟩, A510, H⟩ := H
                            replace H : (if t164 = true then (if t163 = (wrap64 (a0)) then (if x17_44.toList = ([45] : List UInt8) then (some true) else ((mezzotintlaw02_plus.f x8_4 (wrap64 (a0))).bind fun t165 => (some t165))) else (some false)) else (some false)) = some r := H
                            have A51 := Aside0.mk A510
                            clear A510
                            by_cases c52 : t164 = true
                            · subst c52
                              have H1 : (if t163 = (wrap64 (a0)) then (if x17_44.toList = ([45] : List UInt8) then (some true) else ((mezzotintlaw02_plus.f x8_4 (wrap64 (a0))).bind fun t165 => (some t165))) else (some false)) = some r := by rw [if_pos rfl] at H; exact H
                              clear H
                              have H := H1
                              clear H1
                              by_cases c53 : t163 = (wrap64 (a0))
                              · rw [if_pos c53] at H
                                have c53b0 : (t163 == (wrap64 (a0))) = true := beq_iff_eq.mpr c53
                                have c53b1 : (t163 != (wrap64 (a0))) = false := bne_eq_false_iff_eq.mpr c53
                                clear c53
                                by_cases c54 : x17_44.toList = ([45] : List UInt8)
                                · rw [if_pos c54] at H
                                  have c54b0 : (x17_44.toList == ([45] : List UInt8)) = true := beq_iff_eq.mpr c54
                                  have c54b1 : (x17_44.toList != ([45] : List UInt8)) = false := bne_eq_false_iff_eq.mpr c54
                                  clear c54
                                  obtain rfl := Option.some.inj H
                                  go_wp2_with (first | ((with_reducible refine gate_callee (f := 15) rfl ?_); refine goesL_ (some 117) rfl rfl Tryd.func15 (by kernel_rfl) rfl #[.string (x17_44 ++ x8_4)] rfl (by (try simp only [List.map_toArray, List.map_cons, List.map_nil]); first | done | rfl | (simp only [List.length_drop, List.length_take]; rfl)) ?_; (with_reducible refine (dec_Parse.calls (x17_44 ++ x8_4) t163 true _ A51.out).mono ?_); rintro e w55 ⟨rfl, hb⟩; refine ⟨_, rfl, ?_⟩; have n0_ := Aside0.mk (blk_below (g := gb161) (o := .cells #[.int .i64 t156, .int .i64 t157, .string t158] 27 (0, 0)) (by (with_reducible repeat (first | refine blk_drewN ?_ _ | refine blk_drew ?_ | refine blk_alloc ?_ _)); exact BK161.out) hb); have n1_ := Aside0.mk (below_step (by repeat (first | (with_reducible first | exact HB.out | apply below_alloc | apply pw_below_drewN | apply below_drew1 | refine below_set ?_ GE161.out) | exact HB.out)) hb); clear BK161; clear HB; have BK161 := n0_; have HB := n1_; clear n0_ n1_; (try clear hb); (try clear hb2); (try clear hk); (try clear hi)))
                                  go_ret
                                  exact ⟨by first | rfl | (simp [errW_none, errW_some] <;> rfl) | (simp [*, errW_none, errW_some] <;> rfl), by repeat (first | (with_reducible first | exact HB.out | apply below_alloc | apply pw_below_drewN | apply below_drew1 | refine below_set ?_ GE161.out) | exact HB.out)⟩
                                · rw [if_neg c54] at H
                                  have c54b0 : (x17_44.toList == ([45] : List UInt8)) = false := beq_eq_false_iff_ne.mpr c54
                                  have c54b1 : (x17_44.toList != ([45] : List UInt8)) = true := bne_iff_ne.mpr c54
                                  replace H := Option.bind_eq_some_iff.mp H
                                  obtain ⟨t165, A560, H⟩ := H
                                  replace H : (some t165) = some r := H
                                  have A56 := Aside0.mk A560
                                  clear A560
                                  obtain rfl := Option.some.inj H
                                  go_wp2_with (first | ((with_reducible refine gate_callee (f := 15) rfl ?_); refine goesL_ (some 117) rfl rfl Tryd.func15 (by kernel_rfl) rfl #[.string (x17_44 ++ x8_4)] rfl (by (try simp only [List.map_toArray, List.map_cons, List.map_nil]); first | done | rfl | (simp only [List.length_drop, List.length_take]; rfl)) ?_; (with_reducible refine (dec_Parse.calls (x17_44 ++ x8_4) t163 true _ A51.out).mono ?_); rintro e w57 ⟨rfl, hb⟩; refine ⟨_, rfl, ?_⟩; have n0_ := Aside0.mk (blk_below (g := gb161) (o := .cells #[.int .i64 t156, .int .i64 t157, .string t158] 27 (0, 0)) (by (with_reducible repeat (first | refine blk_drewN ?_ _ | refine blk_drew ?_ | refine blk_alloc ?_ _)); exact BK161.out) hb); have n1_ := Aside0.mk (below_step (by repeat (first | (with_reducible first | exact HB.out | apply below_alloc | apply pw_below_drewN | apply below_drew1 | refine below_set ?_ GE161.out) | exact HB.out)) hb); clear BK161; clear HB; have BK161 := n0_; have HB := n1_; clear n0_ n1_; (try clear hb); (try clear hb2); (try clear hk); (try clear hi)) | (go_at_call 22; (with_reducible refine (mezzotintlaw02_plus.calls x8_4 (wrap64 (a0)) t165 _ A56.out).mono ?_); rintro e w58 ⟨rfl, hb⟩; have n0_ := Aside0.mk (blk_below (g := gb161) (o := .cells #[.int .i64 t156, .int .i64 t157, .string t158] 27 (0, 0)) (by (with_reducible repeat (first | refine blk_drewN ?_ _ | refine blk_drew ?_ | refine blk_alloc ?_ _)); exact BK161.out) hb); have n1_ := Aside0.mk (below_step (by repeat (first | (with_reducible first | exact HB.out | apply below_alloc | apply pw_below_drewN | apply below_drew1 | refine below_set ?_ GE161.out) | exact HB.out)) hb); clear BK161; clear HB; have BK161 := n0_; have HB := n1_; clear n0_ n1_; (try clear hb); (try clear hb2); (try clear hk); (try clear hi)))
                                  go_ret
                                  exact ⟨by first | rfl | (simp [errW_none, errW_some] <;> rfl) | (simp [*, errW_none, errW_some] <;> rfl), by repeat (first | (with_reducible first | exact HB.out | apply below_alloc | apply pw_below_drewN | apply below_drew1 | refine below_set ?_ GE161.out) | exact HB.out)⟩
                              · rw [if_neg c53] at H
                                have c53b0 : (t163 == (wrap64 (a0))) = false := beq_eq_false_iff_ne.mpr c53
                                have c53b1 : (t163 != (wrap64 (a0))) = true := bne_iff_ne.mpr c53
                                obtain rfl := Option.some.inj H
                                go_wp2_with (first | ((with_reducible refine gate_callee (f := 15) rfl ?_); refine goesL_ (some 117) rfl rfl Tryd.func15 (by kernel_rfl) rfl #[.string (x17_44 ++ x8_4)] rfl (by (try simp only [List.map_toArray, List.map_cons, List.map_nil]); first | done | rfl | (simp only [List.length_drop, List.length_take]; rfl)) ?_; (with_reducible refine (dec_Parse.calls (x17_44 ++ x8_4) t163 true _ A51.out).mono ?_); rintro e w59 ⟨rfl, hb⟩; refine ⟨_, rfl, ?_⟩; have n0_ := Aside0.mk (blk_below (g := gb161) (o := .cells #[.int .i64 t156, .int .i64 t157, .string t158] 27 (0, 0)) (by (with_reducible repeat (first | refine blk_drewN ?_ _ | refine blk_drew ?_ | refine blk_alloc ?_ _)); exact BK161.out) hb); have n1_ := Aside0.mk (below_step (by repeat (first | (with_reducible first | exact HB.out | apply below_alloc | apply pw_below_drewN | apply below_drew1 | refine below_set ?_ GE161.out) | exact HB.out)) hb); clear BK161; clear HB; have BK161 := n0_; have HB := n1_; clear n0_ n1_; (try clear hb); (try clear hb2); (try clear hk); (try clear hi)))
                                go_ret
                                exact ⟨by first | rfl | (simp [errW_none, errW_some] <;> rfl) | (simp [*, errW_none, errW_some] <;> rfl), by repeat (first | (with_reducible first | exact HB.out | apply below_alloc | apply pw_below_drewN | apply below_drew1 | refine below_set ?_ GE161.out) | exact HB.out)⟩
                            · replace c52 := Bool.eq_false_iff.mpr c52
                              subst c52
                              have H1 : (some false) = some r := by rw [if_neg (show ¬ (false = true) by decide)] at H; exact H
                              clear H
                              have H := H1
                              clear H1
                              obtain rfl := Option.some.inj H
                              go_wp2_with (first | ((with_reducible refine gate_callee (f := 15) rfl ?_); refine goesL_ (some 117) rfl rfl Tryd.func15 (by kernel_rfl) rfl #[.string (x17_44 ++ x8_4)] rfl (by (try simp only [List.map_toArray, List.map_cons, List.map_nil]); first | done | rfl | (simp only [List.length_drop, List.length_take]; rfl)) ?_; (with_reducible refine (dec_Parse.calls (x17_44 ++ x8_4) t163 false _ A51.out).mono ?_); rintro e w60 ⟨rfl, hb⟩; refine ⟨_, rfl, ?_⟩; have n0_ := Aside0.mk (blk_below (g := gb161) (o := .cells #[.int .i64 t156, .int .i64 t157, .string t158] 27 (0, 0)) (by (with_reducible repeat (first | refine blk_drewN ?_ _ | refine blk_drew ?_ | refine blk_alloc ?_ _)); exact BK161.out) hb); have n1_ := Aside0.mk (below_step (by repeat (first | (with_reducible first | exact HB.out | apply below_alloc | apply pw_below_drewN | apply below_drew1 | refine below_set ?_ GE161.out) | exact HB.out)) hb); clear BK161; clear HB; have BK161 := n0_; have HB := n1_; clear n0_ n1_; (try clear hb); (try clear hb2); (try clear hk); (try clear hi)))
                              go_ret
                              exact ⟨by first | rfl | (simp [errW_none, errW_some] <;> rfl) | (simp [*, errW_none, errW_some] <;> rfl), by repeat (first | (with_reducible first | exact HB.out | apply below_alloc | apply pw_below_drewN | apply below_drew1 | refine below_set ?_ GE161.out) | exact HB.out)⟩
                          · rw [if_neg c50] at H
                            exact absurd H (by simp)
              · rw [if_neg c43] at H
                exact absurd H (by simp)

/-- THE ONE PURE STATEMENT of mezzotintlaw02_DecBack: yours. -/
def mezzotintlaw02_DecBack.Pure : Prop := ∀ (a0 : Int) (a1 : Int) (a2 : Int), (Lit.int .i32 a0).wf = true → (Lit.int .u8 a1).wf = true → (Lit.int .u8 a2).wf = true → ∃ k, mezzotintlaw02_DecBack.f k a0 a1 a2 = some true
theorem mezzotintlaw02_DecBack.walk (P : mezzotintlaw02_DecBack.Pure) (a0 : Int) (a1 : Int) (a2 : Int) (w : World) (w0 : (Lit.int .i32 a0).wf = true) (w1 : (Lit.int .u8 a1).wf = true) (w2 : (Lit.int .u8 a2).wf = true) :
    Calls Tryd.prog 7 #[.int .i32 a0, .int .u8 a1, .int .u8 a2] w fun e w' => e = .returned (.bool true) ∧ Below w.heap.size w w' := by
  obtain ⟨k, h⟩ := P a0 a1 a2 w0 w1 w2
  refine (mezzotintlaw02_DecBack.calls k a0 a1 a2 true w h).mono ?_
  rintro e w' ⟨rfl, hd⟩
  exact ⟨rfl, hd⟩

/-! ### mezzotintref01_udec: function 46 -/
def mezzotintref01_udec.l0 : Nat → Int → ByteArray → Option (ByteArray)
  | 0, _, _ => none
  | k + 1, x0, x3 => (some (([(48 + ((Int.tmod x0 10) % 256)) % 256] : List Int) : List Int)).bind fun y166 => (if (strOfNums y166).size + x3.size ≤ 9223372036854775807 then (if (IntKind.u64.wrap (Int.tdiv x0 10)) = 0 then (some ((strOfNums y166) ++ x3)) else (mezzotintref01_udec.l0 k (IntKind.u64.wrap (Int.tdiv x0 10)) ((strOfNums y166) ++ x3))) else (none))
def mezzotintref01_udec.f (k : Nat) (a0 : Int) : Option (ByteArray) := mezzotintref01_udec.l0 k a0 (⟨#[]⟩ : ByteArray)
theorem mezzotintref01_udec.mono_l : ∀ k, (∀ y0 y1, LeO (mezzotintref01_udec.l0 k y0 y1) (mezzotintref01_udec.l0 (k + 1) y0 y1))
  | 0 => fun _ _ r h => by simp [mezzotintref01_udec.l0] at h
  | k + 1 => by
    have ih0 := mezzotintref01_udec.mono_l k
    · intro y0 y1
      unfold mezzotintref01_udec.l0
      repeat' first
      | (with_reducible exact ih0 _ _)
      | (with_reducible exact LeO.refl _)
      | (with_reducible exact LeO.none _)
      | (with_reducible refine LeO.ite ?_ ?_)
      | (with_reducible refine LeO.bind ?_ (fun _ => ?_))
      | exact ih0 _ _
      | exact LeO.none _
      | refine LeO.ite ?_ ?_
      | refine LeO.bind ?_ (fun _ => ?_)
theorem mezzotintref01_udec.mono : ∀ a0 k, LeO (mezzotintref01_udec.f k a0) (mezzotintref01_udec.f (k + 1) a0) := by
  intro a0 k
  have ih0 := mezzotintref01_udec.mono_l k
  unfold mezzotintref01_udec.f
  repeat' first
      | (with_reducible exact ih0 _ _)
      | (with_reducible exact LeO.refl _)
      | (with_reducible exact LeO.none _)
      | (with_reducible refine LeO.ite ?_ ?_)
      | (with_reducible refine LeO.bind ?_ (fun _ => ?_))
      | exact ih0 _ _
      | exact LeO.none _
      | refine LeO.ite ?_ ?_
      | refine LeO.bind ?_ (fun _ => ?_)
set_option maxHeartbeats 8000000 in
set_option maxRecDepth 100000 in
theorem mezzotintref01_udec.calls (k : Nat) (a0 : Int) (r : ByteArray) (w : World) (h : mezzotintref01_udec.f k a0 = some r) :
    Calls Tryd.prog 46 #[.int .u64 a0] w fun e w' => e = .returned (.string r) ∧ Below w.heap.size w w' := by
  have HB := Aside0.mk (Below.refl w.heap.size w)
  have H : (mezzotintref01_udec.l0 k a0 (⟨#[]⟩ : ByteArray)) = some r := h
  clear h
  have H' := Aside0.mk H
  clear H
  go_enter Tryd.func46, Tryd.ntmps46
  go_wp2
  go_loopg [0, 3] k (fun kq v0 v3 w' => ∃ (x0_1 : Int) (x3_1 : ByteArray), v0 = .int .u64 x0_1 ∧ v3 = .string x3_1 ∧ Aside0 (mezzotintref01_udec.l0 kq x0_1 x3_1 = some r) ∧ Aside0 (kq ≤ k) ∧ Aside0 (Below w.heap.size w w'))
  case atStart => exact ⟨(a0), ((⟨#[]⟩ : ByteArray)), (by first | rfl | (simp; done) | (simp [*]; done)), (by first | rfl | (simp; done) | (simp [*]; done)), H', ⟨Nat.le_refl _⟩, ⟨by repeat (first | (with_reducible first | exact HB.out | apply below_alloc | apply pw_below_drewN | apply below_drew1) | exact HB.out)⟩⟩
  case round =>
    clear H'
    obtain ⟨x0_1, x3_1, rfl, rfl, HA, HK1, HB⟩ := hrel
    cases gk with
    | zero => exact absurd HA.out (by simp [mezzotintref01_udec.l0])
    | succ k1 =>
      have H := HA.out
      clear HA
      simp only [mezzotintref01_udec.l0] at H
      obtain ⟨y166, hy166⟩ : ∃ y_ : List Int, y_ = (([(48 + ((Int.tmod x0_1 10) % 256)) % 256] : List Int)) := ⟨_, rfl⟩
      replace H : (if (strOfNums y166).size + x3_1.size ≤ 9223372036854775807 then (if (IntKind.u64.wrap (Int.tdiv x0_1 10)) = 0 then (some ((strOfNums y166) ++ x3_1)) else (mezzotintref01_udec.l0 k1 (IntKind.u64.wrap (Int.tdiv x0_1 10)) ((strOfNums y166) ++ x3_1))) else (none)) = some r := by first | (rw [hy166]; with_reducible exact H) | (have H2_ := (Option.bind_some _ _).symm.trans H; rw [hy166]; with_reducible exact H2_) | (have H2_ := (Option.bind_some _ _).symm.trans H; with_reducible exact H2_) | with_reducible exact H | (rw [hy166]; exact H) | exact H
      have Ny166 := Aside0.mk hy166
      clear hy166
      by_cases c2 : (strOfNums y166).size + x3_1.size ≤ 9223372036854775807
      · rw [if_pos c2] at H
        have c2b0 := eq_true c2
        have c2b1 : decide ((strOfNums y166).size + x3_1.size ≤ 9223372036854775807) = true := decide_eq_true c2
        try have c2b2 : (9223372036854775807 < (strOfNums y166).size + x3_1.size) = False := eq_false (Nat.not_lt.2 c2)
        by_cases c3 : (IntKind.u64.wrap (Int.tdiv x0_1 10)) = 0
        · rw [if_pos c3] at H
          have c3b0 : ((IntKind.u64.wrap (Int.tdiv x0_1 10)) == 0) = true := beq_iff_eq.mpr c3
          have c3b1 : ((IntKind.u64.wrap (Int.tdiv x0_1 10)) != 0) = false := bne_eq_false_iff_eq.mpr c3
          clear c3
          obtain rfl := Option.some.inj H
          go_wp2_with (first | ((with_reducible refine gate_dst (N := 8) rfl ?_); refine Kd.R_lit (Kd.int .u8) _ 5 ?hg (N := 8) ?hd (xs := ([(48 + ((Int.tmod x0_1 10) % 256)) % 256] : List Int)) (inner := [.int .u8 ((48 + ((Int.tmod x0_1 10) % 256)) % 256)]) (ok := fun _ => True) (okp := fun _ => True) ?hr ?hp (fun _ hk => hk) trivial (Below.refl _ _) (Nat.le_refl _) (by simp) ?_; (case hd => rfl); (case hg => rfl); (case hr => first | (go_simp; done) | (go_simp; rfl)); (case hp => exact (Reps.one (show Kd.M (Kd.int .u8) _ _ _ ((48 + ((Int.tmod x0_1 10) % 256)) % 256) [.int .u8 ((48 + ((Int.tmod x0_1 10) % 256)) % 256)] from rfl) (Reps.none _ _))); intro v167 w4 ho5 hb hg_ hnew_; clear hg_ hnew_; (first | rw [← Ny166.out] at ho5 | (simp only [Int.reduceToNat] at ho5; rw [← Ny166.out] at ho5)); have n0_ := Aside0.mk (Kd.R_lower ho5 (below_size (by repeat (first | (with_reducible first | exact HB.out | apply below_alloc | apply pw_below_drewN | apply below_drew1) | exact HB.out)))); have n1_ := Aside0.mk (below_step (by repeat (first | (with_reducible first | exact HB.out | apply below_alloc | apply pw_below_drewN | apply below_drew1) | exact HB.out)) hb); clear HB; have HO168 := n0_; have HB := n1_; clear n0_ n1_; clear hb ho5; have hcv6 := own_string (P := Tryd.prog) Tryd.underlying32 Tryd.underlying5 Tryd.underlying9 (Kd.own_of_R HO168.out)))
          go_ret
          exact ⟨by first | rfl | (simp [errW_none, errW_some] <;> rfl) | (simp [*, errW_none, errW_some] <;> rfl), by repeat (first | (with_reducible first | exact HB.out | apply below_alloc | apply pw_below_drewN | apply below_drew1) | exact HB.out)⟩
        · rw [if_neg c3] at H
          have c3b0 : ((IntKind.u64.wrap (Int.tdiv x0_1 10)) == 0) = false := beq_eq_false_iff_ne.mpr c3
          have c3b1 : ((IntKind.u64.wrap (Int.tdiv x0_1 10)) != 0) = true := bne_iff_ne.mpr c3
          have H' := Aside0.mk H
          clear H
          go_wp2_with (first | ((with_reducible refine gate_dst (N := 8) rfl ?_); refine Kd.R_lit (Kd.int .u8) _ 5 ?hg (N := 8) ?hd (xs := ([(48 + ((Int.tmod x0_1 10) % 256)) % 256] : List Int)) (inner := [.int .u8 ((48 + ((Int.tmod x0_1 10) % 256)) % 256)]) (ok := fun _ => True) (okp := fun _ => True) ?hr ?hp (fun _ hk => hk) trivial (Below.refl _ _) (Nat.le_refl _) (by simp) ?_; (case hd => rfl); (case hg => rfl); (case hr => first | (go_simp; done) | (go_simp; rfl)); (case hp => exact (Reps.one (show Kd.M (Kd.int .u8) _ _ _ ((48 + ((Int.tmod x0_1 10) % 256)) % 256) [.int .u8 ((48 + ((Int.tmod x0_1 10) % 256)) % 256)] from rfl) (Reps.none _ _))); intro v167 w7 ho8 hb hg_ hnew_; clear hg_ hnew_; (first | rw [← Ny166.out] at ho8 | (simp only [Int.reduceToNat] at ho8; rw [← Ny166.out] at ho8)); have n0_ := Aside0.mk (Kd.R_lower ho8 (below_size (by repeat (first | (with_reducible first | exact HB.out | apply below_alloc | apply pw_below_drewN | apply below_drew1) | exact HB.out)))); have n1_ := Aside0.mk (below_step (by repeat (first | (with_reducible first | exact HB.out | apply below_alloc | apply pw_below_drewN | apply below_drew1) | exact HB.out)) hb); clear HB; have HO168 := n0_; have HB := n1_; clear n0_ n1_; clear hb ho8; have hcv9 := own_string (P := Tryd.prog) Tryd.underlying32 Tryd.underlying5 Tryd.underlying9 (Kd.own_of_R HO168.out)))
          go_roundg k1
          case measure => have := HK1.out; omega
          case rel => exact ⟨(IntKind.u64.wrap (Int.tdiv x0_1 10)), ((strOfNums y166) ++ x3_1), (by first | rfl | (simp; done) | (simp [*]; done)), (by first | rfl | (simp; done) | (simp [*]; done)), H', ⟨by have := HK1.out; omega⟩, ⟨by repeat (first | (with_reducible first | exact HB.out | apply below_alloc | apply pw_below_drewN | apply below_drew1) | exact HB.out)⟩⟩
      · rw [if_neg c2] at H
        exact absurd H (by simp)

end Go.Proofs.YtiocgpfnbmlfaaaDoor.PQ
