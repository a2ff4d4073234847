/- Own texts of this claim, one behind the other (wip/prune.py). -/
import Derived.Test.YtiocgpfnbmlfaaaDoorBSx3
import Derived.Test.YtiocgpfnbmlfaaaDoorBSx4

/-! ## PNx6 -/
namespace Go.Proofs.YtiocgpfnbmlfaaaDoor.PN
open Go.RowKit Go.Proofs.YtiocgpfnbmlfaaaDoorW.PrintWords Go.Proofs.YtiocgpfnbmlfaaaDoorW.PrintLast Go.Proofs.YtiocgpfnbmlfaaaDoorW.PrintMore
attribute [local go_sem] max2_int min2_int max_two min_two max_three min_three max_four min_four   -- for this text's walks alone
set_option linter.unusedVariables false
set_option linter.unusedSimpArgs false

attribute [local go_sem high] eqA27
/-! ### mezzotintlaw04_ScanNext: function 8 -/
def mezzotintlaw04_ScanNext.f (k : Nat) (l0 : List Int) (a1 : Int) : Option (Bool) := if (l0.length : Int) > 70000 then ((mezzotintlaw04_answers.f).bind fun t235 => (some t235)) else ((some (([] : List Int) : List Int)).bind fun y236 => (if y236.length + l0.length < 140737488355328 then ((scan_Next.f (y236 ++ l0) a1).bind fun bt242 => ((mezzotintref04_Next.f k l0 a1).bind fun bt248 => ((mezzotintlaw04_answers.f).bind fun t254 => (if t254 = true then (if (bt242.1 == bt248.1 && (bt242.2.1 == bt248.2.1 && (bt242.2.2.1.toList == bt248.2.2.1.toList))) = true then (if bt242.2.2.2.1 = bt248.2.2.2.1 then (some (bt242.2.2.2.2 == bt248.2.2.2.2)) else (some false)) else (some false)) else (some false))))) else (none)))
set_option maxHeartbeats 8000000 in
set_option maxRecDepth 100000 in
theorem mezzotintlaw04_ScanNext.calls (k : Nat) (A0 : Option Addr) (c0 : Nat) (l0 : List Int) (a1 : Int) (r : Bool) (w : World) (hr0 : Kd.C (Kd.int .u8) w A0 l0.length l0) (hc0 : l0.length ≤ c0) (h : mezzotintlaw04_ScanNext.f k l0 a1 = some r) :
  Calls Tryd.prog 8 #[.slice A0 l0.length c0, .int .i64 a1] w fun e w' => e = .returned (.bool r) ∧ Below w.heap.size w w' := by
 have hu27 := Tryd.underlying27
 have HR0 := Aside0.mk hr0
 have HC0 := Aside0.mk hc0
 clear hr0 hc0
 have HB := Aside0.mk (Below.refl w.heap.size w)
 have H : (if (l0.length : Int) > 70000 then ((mezzotintlaw04_answers.f).bind fun t235 => (some t235)) else ((some (([] : List Int) : List Int)).bind fun y236 => (if y236.length + l0.length < 140737488355328 then ((scan_Next.f (y236 ++ l0) a1).bind fun bt242 => ((mezzotintref04_Next.f k l0 a1).bind fun bt248 => ((mezzotintlaw04_answers.f).bind fun t254 => (if t254 = true then (if (bt242.1 == bt248.1 && (bt242.2.1 == bt248.2.1 && (bt242.2.2.1.toList == bt248.2.2.1.toList))) = true then (if bt242.2.2.2.1 = bt248.2.2.2.1 then (some (bt242.2.2.2.2 == bt248.2.2.2.2)) else (some false)) else (some false)) else (some false))))) else (none)))) = some r := h
 clear h
 by_cases c3 : (l0.length : Int) > 70000
 ·as_aux_lemma =>
  rw [if_pos c3] at H
  have c3b0 : decide (70000 < (l0.length : Int)) = true := decide_eq_true c3
  have c3b1 : decide (70000 < l0.length) = true := decide_eq_true (by omega)
  clear c3
  replace H := Option.bind_eq_some_iff.mp H
  obtain ⟨t235, A40, H⟩ := H
  replace H : (some t235) = some r := H
  have A4 := Aside0.mk A40
  clear A40
  obtain rfl := Option.some.inj H
  go_enter Tryd.func8, Tryd.ntmps8
  go_wp2_with (first | ((with_reducible refine gate_callee (f := 23) rfl ?_); refine goesL_ (some 14) rfl rfl Tryd.func23 (by kernel_rfl) rfl #[] rfl (by (try simp only [List.map_toArray, List.map_cons, List.map_nil]); first | done | rfl | (simp only [List.length_drop, List.length_take]; rfl)) ?_; (with_reducible refine (mezzotintlaw04_answers.calls  t235 _ A4.out).mono ?_); rintro e w5 ⟨rfl, hb⟩; refine ⟨_, rfl, ?_⟩; have n0_ := Aside0.mk (below_step (by repeat (first | (with_reducible first | exact HB.out | apply below_alloc | apply pw_below_drewN | apply below_drew1) | exact HB.out)) hb); clear HB; have HB := n0_; clear n0_; (try clear hb); (try clear hb2); (try clear hk); (try clear hi)))
  go_ret
  exact ⟨by first | rfl | (simp [errW_none, errW_some] <;> rfl) | (simp [*, errW_none, errW_some] <;> rfl), by repeat (first | (with_reducible first | exact HB.out | apply below_alloc | apply pw_below_drewN | apply below_drew1) | exact HB.out)⟩
 ·rw [if_neg c3] at H
  have c3b0 : decide (70000 < (l0.length : Int)) = false := decide_eq_false c3
  have c3b1 : decide (70000 < l0.length) = false := decide_eq_false (by omega)
  clear c3
  obtain ⟨y236, hy236⟩ : ∃ y_ : List Int, y_ = (([] : List Int)) := ⟨_, rfl⟩
  replace H : (if y236.length + l0.length < 140737488355328 then ((scan_Next.f (y236 ++ l0) a1).bind fun bt242 => ((mezzotintref04_Next.f k l0 a1).bind fun bt248 => ((mezzotintlaw04_answers.f).bind fun t254 => (if t254 = true then (if (bt242.1 == bt248.1 && (bt242.2.1 == bt248.2.1 && (bt242.2.2.1.toList == bt248.2.2.1.toList))) = true then (if bt242.2.2.2.1 = bt248.2.2.2.1 then (some (bt242.2.2.2.2 == bt248.2.2.2.2)) else (some false)) else (some false)) else (some false))))) else (none)) = some r := by first | (rw [hy236]; with_reducible exact H) | (have H2_ := (Option.bind_some _ _).symm.trans H; rw [hy236]; with_reducible exact H2_) | (have H2_ := (Option.bind_some _ _).symm.trans H; with_reducible exact H2_) | with_reducible exact H | (rw [hy236]; exact H) | exact H
  have Ny236 := Aside0.mk hy236
  clear hy236
  by_cases c6 : y236.length + l0.length < 140737488355328
  ·rw [if_pos c6] at H
   have LMc6 := Aside0.mk c6
   clear c6
   obtain ⟨y239, hy239⟩ : ∃ y_ : List Int, y_ = (y236 ++ l0) := ⟨_, rfl⟩
   replace H : ((scan_Next.f y239 a1).bind fun bt242 => ((mezzotintref04_Next.f k l0 a1).bind fun bt248 => ((mezzotintlaw04_answers.f).bind fun t254 => (if t254 = true then (if (bt242.1 == bt248.1 && (bt242.2.1 == bt248.2.1 && (bt242.2.2.1.toList == bt248.2.2.1.toList))) = true then (if bt242.2.2.2.1 = bt248.2.2.2.1 then (some (bt242.2.2.2.2 == bt248.2.2.2.2)) else (some false)) else (some false)) else (some false))))) = some r := by first | (rw [hy239]; with_reducible exact H) | (have H2_ := (Option.bind_some _ _).symm.trans H; rw [hy239]; with_reducible exact H2_) | (have H2_ := (Option.bind_some _ _).symm.trans H; with_reducible exact H2_) | with_reducible exact H | (rw [hy239]; exact H) | exact H
   have Ny239 := Aside0.mk hy239
   clear hy239
   replace H := Option.bind_eq_some_iff.mp H
   obtain ⟨⟨t242, t243, t244, t245, t246⟩, A70, H⟩ := H
   replace H : ((mezzotintref04_Next.f k l0 a1).bind fun bt248 => ((mezzotintlaw04_answers.f).bind fun t254 => (if t254 = true then (if (t242 == bt248.1 && (t243 == bt248.2.1 && (t244.toList == bt248.2.2.1.toList))) = true then (if t245 = bt248.2.2.2.1 then (some (t246 == bt248.2.2.2.2)) else (some false)) else (some false)) else (some false)))) = some r := H
   have A7 := Aside0.mk A70
   clear A70
   replace H := Option.bind_eq_some_iff.mp H
   obtain ⟨⟨t248, t249, t250, t251, t252⟩, A80, H⟩ := H
   replace H : ((mezzotintlaw04_answers.f).bind fun t254 => (if t254 = true then (if (t242 == t248 && (t243 == t249 && (t244.toList == t250.toList))) = true then (if t245 = t251 then (some (t246 == t252)) else (some false)) else (some false)) else (some false))) = some r := H
   have A8 := Aside0.mk A80
   clear A80
   replace H := Option.bind_eq_some_iff.mp H
   obtain ⟨t254, A90, H⟩ := H
   replace H : (if t254 = true then (if (t242 == t248 && (t243 == t249 && (t244.toList == t250.toList))) = true then (if t245 = t251 then (some (t246 == t252)) else (some false)) else (some false)) else (some false)) = some r := H
   have A9 := Aside0.mk A90
   clear A90
   by_cases c10 : t254 = true
   ·subst c10
    have H1 : (if (t242 == t248 && (t243 == t249 && (t244.toList == t250.toList))) = true then (if t245 = t251 then (some (t246 == t252)) else (some false)) else (some false)) = some r := by rw [if_pos rfl] at H; exact H
    clear H
    have H := H1
    clear H1
    by_cases c11 : (t242 == t248 && (t243 == t249 && (t244.toList == t250.toList))) = true
    ·rw [if_pos c11] at H
     have c11b0 : (t242 == t248 && (t243 == t249 && (t244.toList == t250.toList))) = true := c11
     (try (have c11b1 : decide (t242 = t248 && (t243 == t249 && (t244.toList == t250.toList))) = true := by simpa using c11))
     (try (have c11b2 : (t242 == t248 && (t243 == t249 && (t244.toList == t250.toList))) = true := by simpa using c11))
     clear c11
     by_cases c12 : t245 = t251
     ·rw [if_pos c12] at H
      have c12b0 : (t245 == t251) = true := beq_iff_eq.mpr c12
      have c12b1 : (t245 != t251) = false := bne_eq_false_iff_eq.mpr c12
      clear c12
      obtain rfl := Option.some.inj H
      go_enter Tryd.func8, Tryd.ntmps8
      go_wp2_with (first | ((with_reducible refine gate_dst (N := 16) rfl ?_); refine Kd.R_lit (Kd.int .u8) _ 5 ?hg (N := 16) ?hd (xs := ([] : List Int)) (inner := []) (ok := fun _ => True) (okp := fun _ => True) ?hr ?hp (fun _ hk => hk) trivial (Below.refl _ _) (Nat.le_refl _) (by simp) ?_; (case hd => rfl); (case hg => rfl); (case hr => first | (go_simp; done) | (go_simp; rfl)); (case hp => exact (Reps.none _ _)); intro v237 w13 ho14 hb hg_ hnew_; clear hg_ hnew_; (first | rw [← Ny236.out] at ho14 | (simp only [Int.reduceToNat] at ho14; rw [← Ny236.out] at ho14)); have n0_ := Aside0.mk (Kd.R_lower ho14 (below_size (by repeat (first | (with_reducible first | exact HB.out | apply below_alloc | apply pw_below_drewN | apply below_drew1) | exact HB.out)))); have n1_ := Aside0.mk (below_step (by repeat (first | (with_reducible first | exact HB.out | apply below_alloc | apply pw_below_drewN | apply below_drew1) | exact HB.out)) hb); clear HB; have HO238 := n0_; have HB := n1_; clear n0_ n1_; clear hb ho14) | ((with_reducible refine gate_builtin (b := .append) (xs := #[.tmp 16, .tmp 17]) rfl ?_); at_builtin; refine Kd.R_append_rows (Kd.int .u8) (w0 := w) w.heap.size rfl (.tmp 16) (.tmp 17) 32 5 (.int .u8 0) 1 rfl Tryd.underlying32 info5 rfl (by decide) (by omega) v237 y236 l0 _ _ _ (fun _ => True) (fun _ => False) rfl rfl ?aO ?aR (fun _ _ h => h) (fun _ h => h.elim) ?aF ?aB ?aS ?aL ?_; (case aR => repeat (first | exact (Kd.C_below HR0.out HB.out) | (with_reducible refine Kd.C_alloc ?_ _) | (with_reducible refine Kd.C_drewN ?_ _) | (with_reducible refine Kd.C_drew ?_))); (case aB => exact (by repeat (first | (with_reducible first | exact HB.out | apply below_alloc | apply pw_below_drewN | apply below_drew1) | exact HB.out))); (case aF => exact (fun _ _ => trivial)); (case aO => exact (by (with_reducible repeat (first | apply Kd.R_alloc | apply Kd.R_drewN | apply Kd.R_drew)); exact HO238.out)); (case aS => exact (below_size (by repeat (first | (with_reducible first | exact HB.out | apply below_alloc | apply pw_below_drewN | apply below_drew1) | exact HB.out)))); (case aL => have := LMc6.out; omega); intro v240 w15 ho hb hg hat; rw [← Ny239.out] at ho; have n0_ := Aside0.mk (hb); have n1_ := Aside0.mk (ho); clear HB; clear HO238; have HB := n0_; have HO241 := n1_; clear n0_ n1_; clear ho hb hg hat; obtain ⟨Ao16, co16, eo16⟩ := Kd.R_slice HO241.out; subst eo16) | ((with_reducible refine gate_callee (f := 24) rfl ?_); refine goesL_ (some 20) rfl rfl Tryd.func24 (by kernel_rfl) rfl #[.slice Ao16 y239.length co16, .int .i64 a1] rfl (by (try simp only [List.map_toArray, List.map_cons, List.map_nil]); first | done | rfl | (simp only [List.length_drop, List.length_take]; rfl)) ?_; (with_reducible refine (scan_Next.calls _ _ y239 a1 t242 t243 t244 t245 t246 _ ?side1 ?side2 A7.out).mono ?_); (case side1 => repeat (first | exact (Kd.R_reads' HO241.out).2.2 | (with_reducible refine Kd.C_alloc ?_ _) | (with_reducible refine Kd.C_drewN ?_ _) | (with_reducible refine Kd.C_drew ?_))); (case side2 => exact (Kd.R_reads' HO241.out).2.1); rintro e w17 ⟨rfl, hb⟩; refine ⟨_, rfl, ?_⟩; have n0_ := Aside0.mk (Kd.R_below (by (with_reducible repeat (first | apply Kd.R_alloc | apply Kd.R_drewN | apply Kd.R_drew)); exact HO241.out) hb); have n1_ := Aside0.mk (below_step (by repeat (first | (with_reducible first | exact HB.out | apply below_alloc | apply pw_below_drewN | apply below_drew1) | exact HB.out)) hb); clear HO241; clear HB; have HO241 := n0_; have HB := n1_; clear n0_ n1_; (try clear hb); (try clear hb2); (try clear hk); (try clear hi)) | ((with_reducible refine gate_dst (N := 5) rfl ?_); refine box_event ?hg (N := 5) ?hd (cs := #[.int .i64 0, .int .i64 0, .string (⟨#[]⟩ : ByteArray)]) (t := 27) ?hr ?_; (case hd => rfl); (case hg => rfl); (case hr => first | (go_simp; done) | (go_simp; rfl)); intro gb247 hg w18 hbox hb; have n0_ := Aside0.mk (Kd.R_below (by (with_reducible repeat (first | apply Kd.R_alloc | apply Kd.R_drewN | apply Kd.R_drew)); exact HO241.out) hb); have n1_ := Aside0.mk (below_step (by repeat (first | (with_reducible first | exact HB.out | apply below_alloc | apply pw_below_drewN | apply below_drew1) | exact HB.out)) hb); have n2_ := Aside0.mk (hbox); have n3_ := Aside0.mk ((by rw [hg]; exact (below_size (by repeat (first | (with_reducible first | exact HB.out | apply below_alloc | apply pw_below_drewN | apply below_drew1) | exact HB.out))) : w.heap.size ≤ gb247)); have n4_ := Aside0.mk ((by rw [hg]; exact (below_size (by repeat (first | (with_reducible first | exact HB.out | apply below_alloc | apply pw_below_drewN | apply below_drew1) | exact HB.out))) : w.heap.size ≤ gb247)); clear HO241; clear HB; have HO241 := n0_; have HB := n1_; have BK247 := n2_; have GW247 := n3_; have GE247 := n4_; clear n0_ n1_ n2_ n3_ n4_; clear hb hbox hg; have hcz19_0 : w18.cell? ⟨gb247, 0, none⟩ = some (.int .i64 0) := (blk_cell BK247.out 0).trans rfl; have hcz19_1 : w18.cell? ⟨gb247, 1, none⟩ = some (.int .i64 0) := (blk_cell BK247.out 1).trans rfl; have hcz19_2 : w18.cell? ⟨gb247, 2, none⟩ = some (.string (⟨#[]⟩ : ByteArray)) := (blk_cell BK247.out 2).trans rfl; have hfz19_0 := blk_frozen BK247.out 0; have hfz19_1 := blk_frozen BK247.out 1; have hfz19_2 := blk_frozen BK247.out 2) | ((with_reducible refine gate_callee (f := 25) rfl ?_); refine goesL_ (some 27) rfl rfl Tryd.func25 (by kernel_rfl) rfl #[.slice A0 l0.length c0, .int .i64 a1] rfl (by (try simp only [List.map_toArray, List.map_cons, List.map_nil]); first | done | rfl | (simp only [List.length_drop, List.length_take]; rfl)) ?_; (with_reducible refine (mezzotintref04_Next.calls k _ _ l0 a1 t248 t249 t250 t251 t252 _ ?side1 ?side2 A8.out).mono ?_); (case side1 => exact Kd.C_below HR0.out (by repeat (first | (with_reducible first | exact HB.out | apply below_alloc | apply pw_below_drewN | apply below_drew1 | refine below_set ?_ GE247.out) | exact HB.out))); (case side2 => exact HC0.out); rintro e w20 ⟨rfl, hb⟩; refine ⟨_, rfl, ?_⟩; have n0_ := Aside0.mk (Kd.R_below (by (with_reducible repeat (first | apply Kd.R_alloc | apply Kd.R_drewN | apply Kd.R_drew)); exact (Kd.R_mono (Kd.R_far (p := ⟨gb247, 2, none⟩) (Kd.R_far (p := ⟨gb247, 1, none⟩) (Kd.R_far (p := ⟨gb247, 0, none⟩) (Kd.R_types HO241.out BK247.out (by decide)) (fun _ hk => hk.2) (.int .i64 t242)) (fun _ hk => hk.2) (.int .i64 t243)) (fun _ hk => hk.2) (.string t244)) (fun _ h_ => h_.1))) hb); have n1_ := Aside0.mk (blk_below (g := gb247) (o := .cells #[.int .i64 t242, .int .i64 t243, .string t244] 27 (0, 0)) (by (with_reducible repeat (first | refine blk_drewN ?_ _ | refine blk_drew ?_ | refine blk_alloc ?_ _)); refine blk_put (cs := #[.int .i64 t242, .int .i64 t243, .string (⟨#[]⟩ : ByteArray)]) ?_ 2 _ rfl; (with_reducible repeat (first | refine blk_drewN ?_ _ | refine blk_drew ?_ | refine blk_alloc ?_ _)); refine blk_put (cs := #[.int .i64 t242, .int .i64 0, .string (⟨#[]⟩ : ByteArray)]) ?_ 1 _ rfl; (with_reducible repeat (first | refine blk_drewN ?_ _ | refine blk_drew ?_ | refine blk_alloc ?_ _)); refine blk_put (cs := #[.int .i64 0, .int .i64 0, .string (⟨#[]⟩ : ByteArray)]) ?_ 0 _ rfl; (with_reducible repeat (first | refine blk_drewN ?_ _ | refine blk_drew ?_ | refine blk_alloc ?_ _)); exact BK247.out) hb); have n2_ := Aside0.mk (below_step (by repeat (first | (with_reducible first | exact HB.out | apply below_alloc | apply pw_below_drewN | apply below_drew1 | refine below_set ?_ GE247.out) | exact HB.out)) hb); clear HO241; clear BK247; clear HB; have HO241 := n0_; have BK247 := n1_; have HB := n2_; clear n0_ n1_ n2_; (try clear hb); (try clear hb2); (try clear hk); (try clear hi)) | ((with_reducible refine gate_dst (N := 8) rfl ?_); refine box_event ?hg (N := 8) ?hd (cs := #[.int .i64 0, .int .i64 0, .string (⟨#[]⟩ : ByteArray)]) (t := 27) ?hr ?_; (case hd => rfl); (case hg => rfl); (case hr => first | (go_simp; done) | (go_simp; rfl)); intro gb253 hg w21 hbox hb; have n0_ := Aside0.mk (Kd.R_below (by (with_reducible repeat (first | apply Kd.R_alloc | apply Kd.R_drewN | apply Kd.R_drew)); exact HO241.out) hb); have n1_ := Aside0.mk (blk_below (g := gb247) (o := .cells #[.int .i64 t242, .int .i64 t243, .string t244] 27 (0, 0)) (by (with_reducible repeat (first | refine blk_drewN ?_ _ | refine blk_drew ?_ | refine blk_alloc ?_ _)); exact BK247.out) hb); have n2_ := Aside0.mk (below_step (by repeat (first | (with_reducible first | exact HB.out | apply below_alloc | apply pw_below_drewN | apply below_drew1 | refine below_set ?_ GE247.out) | exact HB.out)) hb); have n3_ := Aside0.mk (hbox); have n4_ := Aside0.mk ((by rw [hg]; exact (below_size (by repeat (first | (with_reducible first | exact HB.out | apply below_alloc | apply pw_below_drewN | apply below_drew1 | refine below_set ?_ GE247.out) | exact HB.out))) : w.heap.size ≤ gb253)); have n5_ := Aside0.mk ((by rw [hg]; exact (below_size (by repeat (first | (with_reducible first | exact HB.out | apply below_alloc | apply pw_below_drewN | apply below_drew1 | refine below_set ?_ GE247.out) | exact HB.out))) : w.heap.size ≤ gb253)); have n6_ := Aside0.mk ((by rw [hg]; exact Nat.ne_of_lt (blk_lt (g := gb247) (o := .cells #[.int .i64 t242, .int .i64 t243, .string t244] 27 (0, 0)) (by (with_reducible repeat (first | refine blk_drewN ?_ _ | refine blk_drew ?_ | refine blk_alloc ?_ _)); exact BK247.out)) : gb247 ≠ gb253)); have n7_ := Aside0.mk ((by rw [hg]; exact Nat.ne_of_gt (blk_lt (g := gb247) (o := .cells #[.int .i64 t242, .int .i64 t243, .string t244] 27 (0, 0)) (by (with_reducible repeat (first | refine blk_drewN ?_ _ | refine blk_drew ?_ | refine blk_alloc ?_ _)); exact BK247.out)) : gb253 ≠ gb247)); clear HO241; clear BK247; clear HB; have HO241 := n0_; have BK247 := n1_; have HB := n2_; have BK253 := n3_; have GW253 := n4_; have GE253 := n5_; have NB247_253 := n6_; have NB253_247 := n7_; clear n0_ n1_ n2_ n3_ n4_ n5_ n6_ n7_; clear hb hbox hg; have hnb22 := NB253_247.out; have hnc22 := NB247_253.out; have hcz23_0 : w21.cell? ⟨gb253, 0, none⟩ = some (.int .i64 0) := (blk_cell BK253.out 0).trans rfl; have hcz23_1 : w21.cell? ⟨gb253, 1, none⟩ = some (.int .i64 0) := (blk_cell BK253.out 1).trans rfl; have hcz23_2 : w21.cell? ⟨gb253, 2, none⟩ = some (.string (⟨#[]⟩ : ByteArray)) := (blk_cell BK253.out 2).trans rfl; have hfz23_0 := blk_frozen BK253.out 0; have hfz23_1 := blk_frozen BK253.out 1; have hfz23_2 := blk_frozen BK253.out 2) | ((with_reducible refine gate_callee (f := 23) rfl ?_); refine goesL_ (some 31) rfl rfl Tryd.func23 (by kernel_rfl) rfl #[] rfl (by (try simp only [List.map_toArray, List.map_cons, List.map_nil]); first | done | rfl | (simp only [List.length_drop, List.length_take]; rfl)) ?_; (with_reducible refine (mezzotintlaw04_answers.calls  true _ A9.out).mono ?_); rintro e w24 ⟨rfl, hb⟩; refine ⟨_, rfl, ?_⟩; have n0_ := Aside0.mk (Kd.R_below (by (with_reducible repeat (first | apply Kd.R_alloc | apply Kd.R_drewN | apply Kd.R_drew)); exact (Kd.R_mono (Kd.R_far (p := ⟨gb253, 2, none⟩) (Kd.R_far (p := ⟨gb253, 1, none⟩) (Kd.R_far (p := ⟨gb253, 0, none⟩) (Kd.R_types HO241.out BK253.out (by decide)) (fun _ hk => hk.2) (.int .i64 t248)) (fun _ hk => hk.2) (.int .i64 t249)) (fun _ hk => hk.2) (.string t250)) (fun _ h_ => h_.1))) hb); have n1_ := Aside0.mk (blk_below (g := gb247) (o := .cells #[.int .i64 t242, .int .i64 t243, .string t244] 27 (0, 0)) (by (with_reducible repeat (first | refine blk_drewN ?_ _ | refine blk_drew ?_ | refine blk_alloc ?_ _)); refine blk_far ?_ NB247_253.out _; (with_reducible repeat (first | refine blk_drewN ?_ _ | refine blk_drew ?_ | refine blk_alloc ?_ _)); refine blk_far ?_ NB247_253.out _; (with_reducible repeat (first | refine blk_drewN ?_ _ | refine blk_drew ?_ | refine blk_alloc ?_ _)); refine blk_far ?_ NB247_253.out _; (with_reducible repeat (first | refine blk_drewN ?_ _ | refine blk_drew ?_ | refine blk_alloc ?_ _)); exact BK247.out) hb); have n2_ := Aside0.mk (blk_below (g := gb253) (o := .cells #[.int .i64 t248, .int .i64 t249, .string t250] 27 (0, 0)) (by (with_reducible repeat (first | refine blk_drewN ?_ _ | refine blk_drew ?_ | refine blk_alloc ?_ _)); refine blk_put (cs := #[.int .i64 t248, .int .i64 t249, .string (⟨#[]⟩ : ByteArray)]) ?_ 2 _ rfl; (with_reducible repeat (first | refine blk_drewN ?_ _ | refine blk_drew ?_ | refine blk_alloc ?_ _)); refine blk_put (cs := #[.int .i64 t248, .int .i64 0, .string (⟨#[]⟩ : ByteArray)]) ?_ 1 _ rfl; (with_reducible repeat (first | refine blk_drewN ?_ _ | refine blk_drew ?_ | refine blk_alloc ?_ _)); refine blk_put (cs := #[.int .i64 0, .int .i64 0, .string (⟨#[]⟩ : ByteArray)]) ?_ 0 _ rfl; (with_reducible repeat (first | refine blk_drewN ?_ _ | refine blk_drew ?_ | refine blk_alloc ?_ _)); exact BK253.out) hb); have n3_ := Aside0.mk (below_step (by repeat (first | (with_reducible first | exact HB.out | apply below_alloc | apply pw_below_drewN | apply below_drew1 | refine below_set ?_ GE247.out | refine below_set ?_ GE253.out) | exact HB.out)) hb); clear HO241; clear BK247; clear BK253; clear HB; have HO241 := n0_; have BK247 := n1_; have BK253 := n2_; have HB := n3_; clear n0_ n1_ n2_ n3_; (try clear hb); (try clear hb2); (try clear hk); (try clear hi); have hcz25_0 : w24.cell? ⟨gb247, 0, none⟩ = some (.int .i64 t242) := (blk_cell BK247.out 0).trans rfl; have hcz25_1 : w24.cell? ⟨gb247, 1, none⟩ = some (.int .i64 t243) := (blk_cell BK247.out 1).trans rfl; have hcz25_2 : w24.cell? ⟨gb247, 2, none⟩ = some (.string t244) := (blk_cell BK247.out 2).trans rfl; have hfz25_0 := blk_frozen BK247.out 0; have hfz25_1 := blk_frozen BK247.out 1; have hfz25_2 := blk_frozen BK247.out 2; have hcz26_0 : w24.cell? ⟨gb253, 0, none⟩ = some (.int .i64 t248) := (blk_cell BK253.out 0).trans rfl; have hcz26_1 : w24.cell? ⟨gb253, 1, none⟩ = some (.int .i64 t249) := (blk_cell BK253.out 1).trans rfl; have hcz26_2 : w24.cell? ⟨gb253, 2, none⟩ = some (.string t250) := (blk_cell BK253.out 2).trans rfl; have hfz26_0 := blk_frozen BK253.out 0; have hfz26_1 := blk_frozen BK253.out 1; have hfz26_2 := blk_frozen BK253.out 2))
      go_ret
      exact ⟨by first | rfl | (simp [errW_none, errW_some] <;> rfl) | (simp [*, errW_none, errW_some] <;> rfl), by repeat (first | (with_reducible first | exact HB.out | apply below_alloc | apply pw_below_drewN | apply below_drew1 | refine below_set ?_ GE247.out | refine below_set ?_ GE253.out) | exact HB.out)⟩
     ·rw [if_neg c12] at H
      have c12b0 : (t245 == t251) = false := beq_eq_false_iff_ne.mpr c12
      have c12b1 : (t245 != t251) = true := bne_iff_ne.mpr c12
      obtain rfl := Option.some.inj H
      go_enter Tryd.func8, Tryd.ntmps8
      go_wp2_with (first | ((with_reducible refine gate_dst (N := 16) rfl ?_); refine Kd.R_lit (Kd.int .u8) _ 5 ?hg (N := 16) ?hd (xs := ([] : List Int)) (inner := []) (ok := fun _ => True) (okp := fun _ => True) ?hr ?hp (fun _ hk => hk) trivial (Below.refl _ _) (Nat.le_refl _) (by simp) ?_; (case hd => rfl); (case hg => rfl); (case hr => first | (go_simp; done) | (go_simp; rfl)); (case hp => exact (Reps.none _ _)); intro v237 w27 ho28 hb hg_ hnew_; clear hg_ hnew_; (first | rw [← Ny236.out] at ho28 | (simp only [Int.reduceToNat] at ho28; rw [← Ny236.out] at ho28)); have n0_ := Aside0.mk (Kd.R_lower ho28 (below_size (by repeat (first | (with_reducible first | exact HB.out | apply below_alloc | apply pw_below_drewN | apply below_drew1) | exact HB.out)))); have n1_ := Aside0.mk (below_step (by repeat (first | (with_reducible first | exact HB.out | apply below_alloc | apply pw_below_drewN | apply below_drew1) | exact HB.out)) hb); clear HB; have HO238 := n0_; have HB := n1_; clear n0_ n1_; clear hb ho28) | ((with_reducible refine gate_builtin (b := .append) (xs := #[.tmp 16, .tmp 17]) rfl ?_); at_builtin; refine Kd.R_append_rows (Kd.int .u8) (w0 := w) w.heap.size rfl (.tmp 16) (.tmp 17) 32 5 (.int .u8 0) 1 rfl Tryd.underlying32 info5 rfl (by decide) (by omega) v237 y236 l0 _ _ _ (fun _ => True) (fun _ => False) rfl rfl ?aO ?aR (fun _ _ h => h) (fun _ h => h.elim) ?aF ?aB ?aS ?aL ?_; (case aR => repeat (first | exact (Kd.C_below HR0.out HB.out) | (with_reducible refine Kd.C_alloc ?_ _) | (with_reducible refine Kd.C_drewN ?_ _) | (with_reducible refine Kd.C_drew ?_))); (case aB => exact (by repeat (first | (with_reducible first | exact HB.out | apply below_alloc | apply pw_below_drewN | apply below_drew1) | exact HB.out))); (case aF => exact (fun _ _ => trivial)); (case aO => exact (by (with_reducible repeat (first | apply Kd.R_alloc | apply Kd.R_drewN | apply Kd.R_drew)); exact HO238.out)); (case aS => exact (below_size (by repeat (first | (with_reducible first | exact HB.out | apply below_alloc | apply pw_below_drewN | apply below_drew1) | exact HB.out)))); (case aL => have := LMc6.out; omega); intro v240 w29 ho hb hg hat; rw [← Ny239.out] at ho; have n0_ := Aside0.mk (hb); have n1_ := Aside0.mk (ho); clear HB; clear HO238; have HB := n0_; have HO241 := n1_; clear n0_ n1_; clear ho hb hg hat; obtain ⟨Ao30, co30, eo30⟩ := Kd.R_slice HO241.out; subst eo30) | ((with_reducible refine gate_callee (f := 24) rfl ?_); refine goesL_ (some 20) rfl rfl Tryd.func24 (by kernel_rfl) rfl #[.slice Ao30 y239.length co30, .int .i64 a1] rfl (by (try simp only [List.map_toArray, List.map_cons, List.map_nil]); first | done | rfl | (simp only [List.length_drop, List.length_take]; rfl)) ?_; (with_reducible refine (scan_Next.calls _ _ y239 a1 t242 t243 t244 t245 t246 _ ?side1 ?side2 A7.out).mono ?_); (case side1 => repeat (first | exact (Kd.R_reads' HO241.out).2.2 | (with_reducible refine Kd.C_alloc ?_ _) | (with_reducible refine Kd.C_drewN ?_ _) | (with_reducible refine Kd.C_drew ?_))); (case side2 => exact (Kd.R_reads' HO241.out).2.1); rintro e w31 ⟨rfl, hb⟩; refine ⟨_, rfl, ?_⟩; have n0_ := Aside0.mk (Kd.R_below (by (with_reducible repeat (first | apply Kd.R_alloc | apply Kd.R_drewN | apply Kd.R_drew)); exact HO241.out) hb); have n1_ := Aside0.mk (below_step (by repeat (first | (with_reducible first | exact HB.out | apply below_alloc | apply pw_below_drewN | apply below_drew1) | exact HB.out)) hb); clear HO241; clear HB; have HO241 := n0_; have HB := n1_; clear n0_ n1_; (try clear hb); (try clear hb2); (try clear hk); (try clear hi)) | ((with_reducible refine gate_dst (N := 5) rfl ?_); refine box_event ?hg (N := 5) ?hd (cs := #[.int .i64 0, .int .i64 0, .string (⟨#[]⟩ : ByteArray)]) (t := 27) ?hr ?_; (case hd => rfl); (case hg => rfl); (case hr => first | (go_simp; done) | (go_simp; rfl)); intro gb247 hg w32 hbox hb; have n0_ := Aside0.mk (Kd.R_below (by (with_reducible repeat (first | apply Kd.R_alloc | apply Kd.R_drewN | apply Kd.R_drew)); exact HO241.out) hb); have n1_ := Aside0.mk (below_step (by repeat (first | (with_reducible first | exact HB.out | apply below_alloc | apply pw_below_drewN | apply below_drew1) | exact HB.out)) hb); have n2_ := Aside0.mk (hbox); have n3_ := Aside0.mk ((by rw [hg]; exact (below_size (by repeat (first | (with_reducible first | exact HB.out | apply below_alloc | apply pw_below_drewN | apply below_drew1) | exact HB.out))) : w.heap.size ≤ gb247)); have n4_ := Aside0.mk ((by rw [hg]; exact (below_size (by repeat (first | (with_reducible first | exact HB.out | apply below_alloc | apply pw_below_drewN | apply below_drew1) | exact HB.out))) : w.heap.size ≤ gb247)); clear HO241; clear HB; have HO241 := n0_; have HB := n1_; have BK247 := n2_; have GW247 := n3_; have GE247 := n4_; clear n0_ n1_ n2_ n3_ n4_; clear hb hbox hg; have hcz33_0 : w32.cell? ⟨gb247, 0, none⟩ = some (.int .i64 0) := (blk_cell BK247.out 0).trans rfl; have hcz33_1 : w32.cell? ⟨gb247, 1, none⟩ = some (.int .i64 0) := (blk_cell BK247.out 1).trans rfl; have hcz33_2 : w32.cell? ⟨gb247, 2, none⟩ = some (.string (⟨#[]⟩ : ByteArray)) := (blk_cell BK247.out 2).trans rfl; have hfz33_0 := blk_frozen BK247.out 0; have hfz33_1 := blk_frozen BK247.out 1; have hfz33_2 := blk_frozen BK247.out 2) | ((with_reducible refine gate_callee (f := 25) rfl ?_); refine goesL_ (some 27) rfl rfl Tryd.func25 (by kernel_rfl) rfl #[.slice A0 l0.length c0, .int .i64 a1] rfl (by (try simp only [List.map_toArray, List.map_cons, List.map_nil]); first | done | rfl | (simp only [List.length_drop, List.length_take]; rfl)) ?_; (with_reducible refine (mezzotintref04_Next.calls k _ _ l0 a1 t248 t249 t250 t251 t252 _ ?side1 ?side2 A8.out).mono ?_); (case side1 => exact Kd.C_below HR0.out (by repeat (first | (with_reducible first | exact HB.out | apply below_alloc | apply pw_below_drewN | apply below_drew1 | refine below_set ?_ GE247.out) | exact HB.out))); (case side2 => exact HC0.out); rintro e w34 ⟨rfl, hb⟩; refine ⟨_, rfl, ?_⟩; have n0_ := Aside0.mk (Kd.R_below (by (with_reducible repeat (first | apply Kd.R_alloc | apply Kd.R_drewN | apply Kd.R_drew)); exact (Kd.R_mono (Kd.R_far (p := ⟨gb247, 2, none⟩) (Kd.R_far (p := ⟨gb247, 1, none⟩) (Kd.R_far (p := ⟨gb247, 0, none⟩) (Kd.R_types HO241.out BK247.out (by decide)) (fun _ hk => hk.2) (.int .i64 t242)) (fun _ hk => hk.2) (.int .i64 t243)) (fun _ hk => hk.2) (.string t244)) (fun _ h_ => h_.1))) hb); have n1_ := Aside0.mk (blk_below (g := gb247) (o := .cells #[.int .i64 t242, .int .i64 t243, .string t244] 27 (0, 0)) (by (with_reducible repeat (first | refine blk_drewN ?_ _ | refine blk_drew ?_ | refine blk_alloc ?_ _)); refine blk_put (cs := #[.int .i64 t242, .int .i64 t243, .string (⟨#[]⟩ : ByteArray)]) ?_ 2 _ rfl; (with_reducible repeat (first | refine blk_drewN ?_ _ | refine blk_drew ?_ | refine blk_alloc ?_ _)); refine blk_put (cs := #[.int .i64 t242, .int .i64 0, .string (⟨#[]⟩ : ByteArray)]) ?_ 1 _ rfl; (with_reducible repeat (first | refine blk_drewN ?_ _ | refine blk_drew ?_ | refine blk_alloc ?_ _)); refine blk_put (cs := #[.int .i64 0, .int .i64 0, .string (⟨#[]⟩ : ByteArray)]) ?_ 0 _ rfl; (with_reducible repeat (first | refine blk_drewN ?_ _ | refine blk_drew ?_ | refine blk_alloc ?_ _)); exact BK247.out) hb); have n2_ := Aside0.mk (below_step (by repeat (first | (with_reducible first | exact HB.out | apply below_alloc | apply pw_below_drewN | apply below_drew1 | refine below_set ?_ GE247.out) | exact HB.out)) hb); clear HO241; clear BK247; clear HB; have HO241 := n0_; have BK247 := n1_; have HB := n2_; clear n0_ n1_ n2_; (try clear hb); (try clear hb2); (try clear hk); (try clear hi)) | ((with_reducible refine gate_dst (N := 8) rfl ?_); refine box_event ?hg (N := 8) ?hd (cs := #[.int .i64 0, .int .i64 0, .string (⟨#[]⟩ : ByteArray)]) (t := 27) ?hr ?_; (case hd => rfl); (case hg => rfl); (case hr => first | (go_simp; done) | (go_simp; rfl)); intro gb253 hg w35 hbox hb; have n0_ := Aside0.mk (Kd.R_below (by (with_reducible repeat (first | apply Kd.R_alloc | apply Kd.R_drewN | apply Kd.R_drew)); exact HO241.out) hb); have n1_ := Aside0.mk (blk_below (g := gb247) (o := .cells #[.int .i64 t242, .int .i64 t243, .string t244] 27 (0, 0)) (by (with_reducible repeat (first | refine blk_drewN ?_ _ | refine blk_drew ?_ | refine blk_alloc ?_ _)); exact BK247.out) hb); have n2_ := Aside0.mk (below_step (by repeat (first | (with_reducible first | exact HB.out | apply below_alloc | apply pw_below_drewN | apply below_drew1 | refine below_set ?_ GE247.out) | exact HB.out)) hb); have n3_ := Aside0.mk (hbox); have n4_ := Aside0.mk ((by rw [hg]; exact (below_size (by repeat (first | (with_reducible first | exact HB.out | apply below_alloc | apply pw_below_drewN | apply below_drew1 | refine below_set ?_ GE247.out) | exact HB.out))) : w.heap.size ≤ gb253)); have n5_ := Aside0.mk ((by rw [hg]; exact (below_size (by repeat (first | (with_reducible first | exact HB.out | apply below_alloc | apply pw_below_drewN | apply below_drew1 | refine below_set ?_ GE247.out) | exact HB.out))) : w.heap.size ≤ gb253)); have n6_ := Aside0.mk ((by rw [hg]; exact Nat.ne_of_lt (blk_lt (g := gb247) (o := .cells #[.int .i64 t242, .int .i64 t243, .string t244] 27 (0, 0)) (by (with_reducible repeat (first | refine blk_drewN ?_ _ | refine blk_drew ?_ | refine blk_alloc ?_ _)); exact BK247.out)) : gb247 ≠ gb253)); have n7_ := Aside0.mk ((by rw [hg]; exact Nat.ne_of_gt (blk_lt (g := gb247) (o := .cells #[.int .i64 t242, .int .i64 t243, .string t244] 27 (0, 0)) (by (with_reducible repeat (first | refine blk_drewN ?_ _ | refine blk_drew ?_ | refine blk_alloc ?_ _)); exact BK247.out)) : gb253 ≠ gb247)); clear HO241; clear BK247; clear HB; have HO241 := n0_; have BK247 := n1_; have HB := n2_; have BK253 := n3_; have GW253 := n4_; have GE253 := n5_; have NB247_253 := n6_; have NB253_247 := n7_; clear n0_ n1_ n2_ n3_ n4_ n5_ n6_ n7_; clear hb hbox hg; have hnb36 := NB253_247.out; have hnc36 := NB247_253.out; have hcz37_0 : w35.cell? ⟨gb253, 0, none⟩ = some (.int .i64 0) := (blk_cell BK253.out 0).trans rfl; have hcz37_1 : w35.cell? ⟨gb253, 1, none⟩ = some (.int .i64 0) := (blk_cell BK253.out 1).trans rfl; have hcz37_2 : w35.cell? ⟨gb253, 2, none⟩ = some (.string (⟨#[]⟩ : ByteArray)) := (blk_cell BK253.out 2).trans rfl; have hfz37_0 := blk_frozen BK253.out 0; have hfz37_1 := blk_frozen BK253.out 1; have hfz37_2 := blk_frozen BK253.out 2) | ((with_reducible refine gate_callee (f := 23) rfl ?_); refine goesL_ (some 31) rfl rfl Tryd.func23 (by kernel_rfl) rfl #[] rfl (by (try simp only [List.map_toArray, List.map_cons, List.map_nil]); first | done | rfl | (simp only [List.length_drop, List.length_take]; rfl)) ?_; (with_reducible refine (mezzotintlaw04_answers.calls  true _ A9.out).mono ?_); rintro e w38 ⟨rfl, hb⟩; refine ⟨_, rfl, ?_⟩; have n0_ := Aside0.mk (Kd.R_below (by (with_reducible repeat (first | apply Kd.R_alloc | apply Kd.R_drewN | apply Kd.R_drew)); exact (Kd.R_mono (Kd.R_far (p := ⟨gb253, 2, none⟩) (Kd.R_far (p := ⟨gb253, 1, none⟩) (Kd.R_far (p := ⟨gb253, 0, none⟩) (Kd.R_types HO241.out BK253.out (by decide)) (fun _ hk => hk.2) (.int .i64 t248)) (fun _ hk => hk.2) (.int .i64 t249)) (fun _ hk => hk.2) (.string t250)) (fun _ h_ => h_.1))) hb); have n1_ := Aside0.mk (blk_below (g := gb247) (o := .cells #[.int .i64 t242, .int .i64 t243, .string t244] 27 (0, 0)) (by (with_reducible repeat (first | refine blk_drewN ?_ _ | refine blk_drew ?_ | refine blk_alloc ?_ _)); refine blk_far ?_ NB247_253.out _; (with_reducible repeat (first | refine blk_drewN ?_ _ | refine blk_drew ?_ | refine blk_alloc ?_ _)); refine blk_far ?_ NB247_253.out _; (with_reducible repeat (first | refine blk_drewN ?_ _ | refine blk_drew ?_ | refine blk_alloc ?_ _)); refine blk_far ?_ NB247_253.out _; (with_reducible repeat (first | refine blk_drewN ?_ _ | refine blk_drew ?_ | refine blk_alloc ?_ _)); exact BK247.out) hb); have n2_ := Aside0.mk (blk_below (g := gb253) (o := .cells #[.int .i64 t248, .int .i64 t249, .string t250] 27 (0, 0)) (by (with_reducible repeat (first | refine blk_drewN ?_ _ | refine blk_drew ?_ | refine blk_alloc ?_ _)); refine blk_put (cs := #[.int .i64 t248, .int .i64 t249, .string (⟨#[]⟩ : ByteArray)]) ?_ 2 _ rfl; (with_reducible repeat (first | refine blk_drewN ?_ _ | refine blk_drew ?_ | refine blk_alloc ?_ _)); refine blk_put (cs := #[.int .i64 t248, .int .i64 0, .string (⟨#[]⟩ : ByteArray)]) ?_ 1 _ rfl; (with_reducible repeat (first | refine blk_drewN ?_ _ | refine blk_drew ?_ | refine blk_alloc ?_ _)); refine blk_put (cs := #[.int .i64 0, .int .i64 0, .string (⟨#[]⟩ : ByteArray)]) ?_ 0 _ rfl; (with_reducible repeat (first | refine blk_drewN ?_ _ | refine blk_drew ?_ | refine blk_alloc ?_ _)); exact BK253.out) hb); have n3_ := Aside0.mk (below_step (by repeat (first | (with_reducible first | exact HB.out | apply below_alloc | apply pw_below_drewN | apply below_drew1 | refine below_set ?_ GE247.out | refine below_set ?_ GE253.out) | exact HB.out)) hb); clear HO241; clear BK247; clear BK253; clear HB; have HO241 := n0_; have BK247 := n1_; have BK253 := n2_; have HB := n3_; clear n0_ n1_ n2_ n3_; (try clear hb); (try clear hb2); (try clear hk); (try clear hi); have hcz39_0 : w38.cell? ⟨gb247, 0, none⟩ = some (.int .i64 t242) := (blk_cell BK247.out 0).trans rfl; have hcz39_1 : w38.cell? ⟨gb247, 1, none⟩ = some (.int .i64 t243) := (blk_cell BK247.out 1).trans rfl; have hcz39_2 : w38.cell? ⟨gb247, 2, none⟩ = some (.string t244) := (blk_cell BK247.out 2).trans rfl; have hfz39_0 := blk_frozen BK247.out 0; have hfz39_1 := blk_frozen BK247.out 1; have hfz39_2 := blk_frozen BK247.out 2; have hcz40_0 : w38.cell? ⟨gb253, 0, none⟩ = some (.int .i64 t248) := (blk_cell BK253.out 0).trans rfl; have hcz40_1 : w38.cell? ⟨gb253, 1, none⟩ = some (.int .i64 t249) := (blk_cell BK253.out 1).trans rfl; have hcz40_2 : w38.cell? ⟨gb253, 2, none⟩ = some (.string t250) := (blk_cell BK253.out 2).trans rfl; have hfz40_0 := blk_frozen BK253.out 0; have hfz40_1 := blk_frozen BK253.out 1; have hfz40_2 := blk_frozen BK253.out 2))
      go_ret
      exact ⟨by first | rfl | (simp [errW_none, errW_some] <;> rfl) | (simp [*, errW_none, errW_some] <;> rfl), by repeat (first | (with_reducible first | exact HB.out | apply below_alloc | apply pw_below_drewN | apply below_drew1 | refine below_set ?_ GE247.out | refine below_set ?_ GE253.out) | exact HB.out)⟩
    ·rw [if_neg c11] at H
     have c11b0 : (t242 == t248 && (t243 == t249 && (t244.toList == t250.toList))) = false := by simpa using c11
     (try (have c11b1 : decide (t242 = t248 && (t243 == t249 && (t244.toList == t250.toList))) = false := by simpa using c11))
     (try (have c11b2 : (t242 == t248 && (t243 == t249 && (t244.toList == t250.toList))) = false := by simpa using c11))
     (try (have c11b3 : ¬ (t242 = t248 && (t243 == t249 && (t244.toList == t250.toList))) := by simpa using c11))
     clear c11
     obtain rfl := Option.some.inj H
     go_enter Tryd.func8, Tryd.ntmps8
     go_wp2_with (first | ((with_reducible refine gate_dst (N := 16) rfl ?_); refine Kd.R_lit (Kd.int .u8) _ 5 ?hg (N := 16) ?hd (xs := ([] : List Int)) (inner := []) (ok := fun _ => True) (okp := fun _ => True) ?hr ?hp (fun _ hk => hk) trivial (Below.refl _ _) (Nat.le_refl _) (by simp) ?_; (case hd => rfl); (case hg => rfl); (case hr => first | (go_simp; done) | (go_simp; rfl)); (case hp => exact (Reps.none _ _)); intro v237 w41 ho42 hb hg_ hnew_; clear hg_ hnew_; (first | rw [← Ny236.out] at ho42 | (simp only [Int.reduceToNat] at ho42; rw [← Ny236.out] at ho42)); have n0_ := Aside0.mk (Kd.R_lower ho42 (below_size (by repeat (first | (with_reducible first | exact HB.out | apply below_alloc | apply pw_below_drewN | apply below_drew1) | exact HB.out)))); have n1_ := Aside0.mk (below_step (by repeat (first | (with_reducible first | exact HB.out | apply below_alloc | apply pw_below_drewN | apply below_drew1) | exact HB.out)) hb); clear HB; have HO238 := n0_; have HB := n1_; clear n0_ n1_; clear hb ho42) | ((with_reducible refine gate_builtin (b := .append) (xs := #[.tmp 16, .tmp 17]) rfl ?_); at_builtin; refine Kd.R_append_rows (Kd.int .u8) (w0 := w) w.heap.size rfl (.tmp 16) (.tmp 17) 32 5 (.int .u8 0) 1 rfl Tryd.underlying32 info5 rfl (by decide) (by omega) v237 y236 l0 _ _ _ (fun _ => True) (fun _ => False) rfl rfl ?aO ?aR (fun _ _ h => h) (fun _ h => h.elim) ?aF ?aB ?aS ?aL ?_; (case aR => repeat (first | exact (Kd.C_below HR0.out HB.out) | (with_reducible refine Kd.C_alloc ?_ _) | (with_reducible refine Kd.C_drewN ?_ _) | (with_reducible refine Kd.C_drew ?_))); (case aB => exact (by repeat (first | (with_reducible first | exact HB.out | apply below_alloc | apply pw_below_drewN | apply below_drew1) | exact HB.out))); (case aF => exact (fun _ _ => trivial)); (case aO => exact (by (with_reducible repeat (first | apply Kd.R_alloc | apply Kd.R_drewN | apply Kd.R_drew)); exact HO238.out)); (case aS => exact (below_size (by repeat (first | (with_reducible first | exact HB.out | apply below_alloc | apply pw_below_drewN | apply below_drew1) | exact HB.out)))); (case aL => have := LMc6.out; omega); intro v240 w43 ho hb hg hat; rw [← Ny239.out] at ho; have n0_ := Aside0.mk (hb); have n1_ := Aside0.mk (ho); clear HB; clear HO238; have HB := n0_; have HO241 := n1_; clear n0_ n1_; clear ho hb hg hat; obtain ⟨Ao44, co44, eo44⟩ := Kd.R_slice HO241.out; subst eo44) | ((with_reducible refine gate_callee (f := 24) rfl ?_); refine goesL_ (some 20) rfl rfl Tryd.func24 (by kernel_rfl) rfl #[.slice Ao44 y239.length co44, .int .i64 a1] rfl (by (try simp only [List.map_toArray, List.map_cons, List.map_nil]); first | done | rfl | (simp only [List.length_drop, List.length_take]; rfl)) ?_; (with_reducible refine (scan_Next.calls _ _ y239 a1 t242 t243 t244 t245 t246 _ ?side1 ?side2 A7.out).mono ?_); (case side1 => repeat (first | exact (Kd.R_reads' HO241.out).2.2 | (with_reducible refine Kd.C_alloc ?_ _) | (with_reducible refine Kd.C_drewN ?_ _) | (with_reducible refine Kd.C_drew ?_))); (case side2 => exact (Kd.R_reads' HO241.out).2.1); rintro e w45 ⟨rfl, hb⟩; refine ⟨_, rfl, ?_⟩; have n0_ := Aside0.mk (Kd.R_below (by (with_reducible repeat (first | apply Kd.R_alloc | apply Kd.R_drewN | apply Kd.R_drew)); exact HO241.out) hb); have n1_ := Aside0.mk (below_step (by repeat (first | (with_reducible first | exact HB.out | apply below_alloc | apply pw_below_drewN | apply below_drew1) | exact HB.out)) hb); clear HO241; clear HB; have HO241 := n0_; have HB := n1_; clear n0_ n1_; (try clear hb); (try clear hb2); (try clear hk); (try clear hi)) | ((with_reducible refine gate_dst (N := 5) rfl ?_); refine box_event ?hg (N := 5) ?hd (cs := #[.int .i64 0, .int .i64 0, .string (⟨#[]⟩ : ByteArray)]) (t := 27) ?hr ?_; (case hd => rfl); (case hg => rfl); (case hr => first | (go_simp; done) | (go_simp; rfl)); intro gb247 hg w46 hbox hb; have n0_ := Aside0.mk (Kd.R_below (by (with_reducible repeat (first | apply Kd.R_alloc | apply Kd.R_drewN | apply Kd.R_drew)); exact HO241.out) hb); have n1_ := Aside0.mk (below_step (by repeat (first | (with_reducible first | exact HB.out | apply below_alloc | apply pw_below_drewN | apply below_drew1) | exact HB.out)) hb); have n2_ := Aside0.mk (hbox); have n3_ := Aside0.mk ((by rw [hg]; exact (below_size (by repeat (first | (with_reducible first | exact HB.out | apply below_alloc | apply pw_below_drewN | apply below_drew1) | exact HB.out))) : w.heap.size ≤ gb247)); have n4_ := Aside0.mk ((by rw [hg]; exact (below_size (by repeat (first | (with_reducible first | exact HB.out | apply below_alloc | apply pw_below_drewN | apply below_drew1) | exact HB.out))) : w.heap.size ≤ gb247)); clear HO241; clear HB; have HO241 := n0_; have HB := n1_; have BK247 := n2_; have GW247 := n3_; have GE247 := n4_; clear n0_ n1_ n2_ n3_ n4_; clear hb hbox hg; have hcz47_0 : w46.cell? ⟨gb247, 0, none⟩ = some (.int .i64 0) := (blk_cell BK247.out 0).trans rfl; have hcz47_1 : w46.cell? ⟨gb247, 1, none⟩ = some (.int .i64 0) := (blk_cell BK247.out 1).trans rfl; have hcz47_2 : w46.cell? ⟨gb247, 2, none⟩ = some (.string (⟨#[]⟩ : ByteArray)) := (blk_cell BK247.out 2).trans rfl; have hfz47_0 := blk_frozen BK247.out 0; have hfz47_1 := blk_frozen BK247.out 1; have hfz47_2 := blk_frozen BK247.out 2) | ((with_reducible refine gate_callee (f := 25) rfl ?_); refine goesL_ (some 27) rfl rfl Tryd.func25 (by kernel_rfl) rfl #[.slice A0 l0.length c0, .int .i64 a1] rfl (by (try simp only [List.map_toArray, List.map_cons, List.map_nil]); first | done | rfl | (simp only [List.length_drop, List.length_take]; rfl)) ?_; (with_reducible refine (mezzotintref04_Next.calls k _ _ l0 a1 t248 t249 t250 t251 t252 _ ?side1 ?side2 A8.out).mono ?_); (case side1 => exact Kd.C_below HR0.out (by repeat (first | (with_reducible first | exact HB.out | apply below_alloc | apply pw_below_drewN | apply below_drew1 | refine below_set ?_ GE247.out) | exact HB.out))); (case side2 => exact HC0.out); rintro e w48 ⟨rfl, hb⟩; refine ⟨_, rfl, ?_⟩; have n0_ := Aside0.mk (Kd.R_below (by (with_reducible repeat (first | apply Kd.R_alloc | apply Kd.R_drewN | apply Kd.R_drew)); exact (Kd.R_mono (Kd.R_far (p := ⟨gb247, 2, none⟩) (Kd.R_far (p := ⟨gb247, 1, none⟩) (Kd.R_far (p := ⟨gb247, 0, none⟩) (Kd.R_types HO241.out BK247.out (by decide)) (fun _ hk => hk.2) (.int .i64 t242)) (fun _ hk => hk.2) (.int .i64 t243)) (fun _ hk => hk.2) (.string t244)) (fun _ h_ => h_.1))) hb); have n1_ := Aside0.mk (blk_below (g := gb247) (o := .cells #[.int .i64 t242, .int .i64 t243, .string t244] 27 (0, 0)) (by (with_reducible repeat (first | refine blk_drewN ?_ _ | refine blk_drew ?_ | refine blk_alloc ?_ _)); refine blk_put (cs := #[.int .i64 t242, .int .i64 t243, .string (⟨#[]⟩ : ByteArray)]) ?_ 2 _ rfl; (with_reducible repeat (first | refine blk_drewN ?_ _ | refine blk_drew ?_ | refine blk_alloc ?_ _)); refine blk_put (cs := #[.int .i64 t242, .int .i64 0, .string (⟨#[]⟩ : ByteArray)]) ?_ 1 _ rfl; (with_reducible repeat (first | refine blk_drewN ?_ _ | refine blk_drew ?_ | refine blk_alloc ?_ _)); refine blk_put (cs := #[.int .i64 0, .int .i64 0, .string (⟨#[]⟩ : ByteArray)]) ?_ 0 _ rfl; (with_reducible repeat (first | refine blk_drewN ?_ _ | refine blk_drew ?_ | refine blk_alloc ?_ _)); exact BK247.out) hb); have n2_ := Aside0.mk (below_step (by repeat (first | (with_reducible first | exact HB.out | apply below_alloc | apply pw_below_drewN | apply below_drew1 | refine below_set ?_ GE247.out) | exact HB.out)) hb); clear HO241; clear BK247; clear HB; have HO241 := n0_; have BK247 := n1_; have HB := n2_; clear n0_ n1_ n2_; (try clear hb); (try clear hb2); (try clear hk); (try clear hi)) | ((with_reducible refine gate_dst (N := 8) rfl ?_); refine box_event ?hg (N := 8) ?hd (cs := #[.int .i64 0, .int .i64 0, .string (⟨#[]⟩ : ByteArray)]) (t := 27) ?hr ?_; (case hd => rfl); (case hg => rfl); (case hr => first | (go_simp; done) | (go_simp; rfl)); intro gb253 hg w49 hbox hb; have n0_ := Aside0.mk (Kd.R_below (by (with_reducible repeat (first | apply Kd.R_alloc | apply Kd.R_drewN | apply Kd.R_drew)); exact HO241.out) hb); have n1_ := Aside0.mk (blk_below (g := gb247) (o := .cells #[.int .i64 t242, .int .i64 t243, .string t244] 27 (0, 0)) (by (with_reducible repeat (first | refine blk_drewN ?_ _ | refine blk_drew ?_ | refine blk_alloc ?_ _)); exact BK247.out) hb); have n2_ := Aside0.mk (below_step (by repeat (first | (with_reducible first | exact HB.out | apply below_alloc | apply pw_below_drewN | apply below_drew1 | refine below_set ?_ GE247.out) | exact HB.out)) hb); have n3_ := Aside0.mk (hbox); have n4_ := Aside0.mk ((by rw [hg]; exact (below_size (by repeat (first | (with_reducible first | exact HB.out | apply below_alloc | apply pw_below_drewN | apply below_drew1 | refine below_set ?_ GE247.out) | exact HB.out))) : w.heap.size ≤ gb253)); have n5_ := Aside0.mk ((by rw [hg]; exact (below_size (by repeat (first | (with_reducible first | exact HB.out | apply below_alloc | apply pw_below_drewN | apply below_drew1 | refine below_set ?_ GE247.out) | exact HB.out))) : w.heap.size ≤ gb253)); have n6_ := Aside0.mk ((by rw [hg]; exact Nat.ne_of_lt (blk_lt (g := gb247) (o := .cells #[.int .i64 t242, .int .i64 t243, .string t244] 27 (0, 0)) (by (with_reducible repeat (first | refine blk_drewN ?_ _ | refine blk_drew ?_ | refine blk_alloc ?_ _)); exact BK247.out)) : gb247 ≠ gb253)); have n7_ := Aside0.mk ((by rw [hg]; exact Nat.ne_of_gt (blk_lt (g := gb247) (o := .cells #[.int .i64 t242, .int .i64 t243, .string t244] 27 (0, 0)) (by (with_reducible repeat (first | refine blk_drewN ?_ _ | refine blk_drew ?_ | refine blk_alloc ?_ _)); exact BK247.out)) : gb253 ≠ gb247)); clear HO241; clear BK247; clear HB; have HO241 := n0_; have BK247 := n1_; have HB := n2_; have BK253 := n3_; have GW253 := n4_; have GE253 := n5_; have NB247_253 := n6_; have NB253_247 := n7_; clear n0_ n1_ n2_ n3_ n4_ n5_ n6_ n7_; clear hb hbox hg; have hnb50 := NB253_247.out; have hnc50 := NB247_253.out; have hcz51_0 : w49.cell? ⟨gb253, 0, none⟩ = some (.int .i64 0) := (blk_cell BK253.out 0).trans rfl; have hcz51_1 : w49.cell? ⟨gb253, 1, none⟩ = some (.int .i64 0) := (blk_cell BK253.out 1).trans rfl; have hcz51_2 : w49.cell? ⟨gb253, 2, none⟩ = some (.string (⟨#[]⟩ : ByteArray)) := (blk_cell BK253.out 2).trans rfl; have hfz51_0 := blk_frozen BK253.out 0; have hfz51_1 := blk_frozen BK253.out 1; have hfz51_2 := blk_frozen BK253.out 2) | ((with_reducible refine gate_callee (f := 23) rfl ?_); refine goesL_ (some 31) rfl rfl Tryd.func23 (by kernel_rfl) rfl #[] rfl (by (try simp only [List.map_toArray, List.map_cons, List.map_nil]); first | done | rfl | (simp only [List.length_drop, List.length_take]; rfl)) ?_; (with_reducible refine (mezzotintlaw04_answers.calls  true _ A9.out).mono ?_); rintro e w52 ⟨rfl, hb⟩; refine ⟨_, rfl, ?_⟩; have n0_ := Aside0.mk (Kd.R_below (by (with_reducible repeat (first | apply Kd.R_alloc | apply Kd.R_drewN | apply Kd.R_drew)); exact (Kd.R_mono (Kd.R_far (p := ⟨gb253, 2, none⟩) (Kd.R_far (p := ⟨gb253, 1, none⟩) (Kd.R_far (p := ⟨gb253, 0, none⟩) (Kd.R_types HO241.out BK253.out (by decide)) (fun _ hk => hk.2) (.int .i64 t248)) (fun _ hk => hk.2) (.int .i64 t249)) (fun _ hk => hk.2) (.string t250)) (fun _ h_ => h_.1))) hb); have n1_ := Aside0.mk (blk_below (g := gb247) (o := .cells #[.int .i64 t242, .int .i64 t243, .string t244] 27 (0, 0)) (by (with_reducible repeat (first | refine blk_drewN ?_ _ | refine blk_drew ?_ | refine blk_alloc ?_ _)); refine blk_far ?_ NB247_253.out _; (with_reducible repeat (first | refine blk_drewN ?_ _ | refine blk_drew ?_ | refine blk_alloc ?_ _)); refine blk_far ?_ NB247_253.out _; (with_reducible repeat (first | refine blk_drewN ?_ _ | refine blk_drew ?_ | refine blk_alloc ?_ _)); refine blk_far ?_ NB247_253.out _; (with_reducible repeat (first | refine blk_drewN ?_ _ | refine blk_drew ?_ | refine blk_alloc ?_ _)); exact BK247.out) hb); have n2_ := Aside0.mk (blk_below (g := gb253) (o := .cells #[.int .i64 t248, .int .i64 t249, .string t250] 27 (0, 0)) (by (with_reducible repeat (first | refine blk_drewN ?_ _ | refine blk_drew ?_ | refine blk_alloc ?_ _)); refine blk_put (cs := #[.int .i64 t248, .int .i64 t249, .string (⟨#[]⟩ : ByteArray)]) ?_ 2 _ rfl; (with_reducible repeat (first | refine blk_drewN ?_ _ | refine blk_drew ?_ | refine blk_alloc ?_ _)); refine blk_put (cs := #[.int .i64 t248, .int .i64 0, .string (⟨#[]⟩ : ByteArray)]) ?_ 1 _ rfl; (with_reducible repeat (first | refine blk_drewN ?_ _ | refine blk_drew ?_ | refine blk_alloc ?_ _)); refine blk_put (cs := #[.int .i64 0, .int .i64 0, .string (⟨#[]⟩ : ByteArray)]) ?_ 0 _ rfl; (with_reducible repeat (first | refine blk_drewN ?_ _ | refine blk_drew ?_ | refine blk_alloc ?_ _)); exact BK253.out) hb); have n3_ := Aside0.mk (below_step (by repeat (first | (with_reducible first | exact HB.out | apply below_alloc | apply pw_below_drewN | apply below_drew1 | refine below_set ?_ GE247.out | refine below_set ?_ GE253.out) | exact HB.out)) hb); clear HO241; clear BK247; clear BK253; clear HB; have HO241 := n0_; have BK247 := n1_; have BK253 := n2_; have HB := n3_; clear n0_ n1_ n2_ n3_; (try clear hb); (try clear hb2); (try clear hk); (try clear hi); have hcz53_0 : w52.cell? ⟨gb247, 0, none⟩ = some (.int .i64 t242) := (blk_cell BK247.out 0).trans rfl; have hcz53_1 : w52.cell? ⟨gb247, 1, none⟩ = some (.int .i64 t243) := (blk_cell BK247.out 1).trans rfl; have hcz53_2 : w52.cell? ⟨gb247, 2, none⟩ = some (.string t244) := (blk_cell BK247.out 2).trans rfl; have hfz53_0 := blk_frozen BK247.out 0; have hfz53_1 := blk_frozen BK247.out 1; have hfz53_2 := blk_frozen BK247.out 2; have hcz54_0 : w52.cell? ⟨gb253, 0, none⟩ = some (.int .i64 t248) := (blk_cell BK253.out 0).trans rfl; have hcz54_1 : w52.cell? ⟨gb253, 1, none⟩ = some (.int .i64 t249) := (blk_cell BK253.out 1).trans rfl; have hcz54_2 : w52.cell? ⟨gb253, 2, none⟩ = some (.string t250) := (blk_cell BK253.out 2).trans rfl; have hfz54_0 := blk_frozen BK253.out 0; have hfz54_1 := blk_frozen BK253.out 1; have hfz54_2 := blk_frozen BK253.out 2))
     go_ret
     exact ⟨by first | rfl | (simp [errW_none, errW_some] <;> rfl) | (simp [*, errW_none, errW_some] <;> rfl), by repeat (first | (with_reducible first | exact HB.out | apply below_alloc | apply pw_below_drewN | apply below_drew1 | refine below_set ?_ GE247.out | refine below_set ?_ GE253.out) | exact HB.out)⟩
   ·replace c10 := Bool.eq_false_iff.mpr c10
    subst c10
    have H1 : (some false) = some r := by rw [if_neg (show ¬ (false = true) by decide)] at H; exact H
    clear H
    have H := H1
    clear H1
    obtain rfl := Option.some.inj H
    go_enter Tryd.func8, Tryd.ntmps8
    go_wp2_with (first | ((with_reducible refine gate_dst (N := 16) rfl ?_); refine Kd.R_lit (Kd.int .u8) _ 5 ?hg (N := 16) ?hd (xs := ([] : List Int)) (inner := []) (ok := fun _ => True) (okp := fun _ => True) ?hr ?hp (fun _ hk => hk) trivial (Below.refl _ _) (Nat.le_refl _) (by simp) ?_; (case hd => rfl); (case hg => rfl); (case hr => first | (go_simp; done) | (go_simp; rfl)); (case hp => exact (Reps.none _ _)); intro v237 w55 ho56 hb hg_ hnew_; clear hg_ hnew_; (first | rw [← Ny236.out] at ho56 | (simp only [Int.reduceToNat] at ho56; rw [← Ny236.out] at ho56)); have n0_ := Aside0.mk (Kd.R_lower ho56 (below_size (by repeat (first | (with_reducible first | exact HB.out | apply below_alloc | apply pw_below_drewN | apply below_drew1) | exact HB.out)))); have n1_ := Aside0.mk (below_step (by repeat (first | (with_reducible first | exact HB.out | apply below_alloc | apply pw_below_drewN | apply below_drew1) | exact HB.out)) hb); clear HB; have HO238 := n0_; have HB := n1_; clear n0_ n1_; clear hb ho56) | ((with_reducible refine gate_builtin (b := .append) (xs := #[.tmp 16, .tmp 17]) rfl ?_); at_builtin; refine Kd.R_append_rows (Kd.int .u8) (w0 := w) w.heap.size rfl (.tmp 16) (.tmp 17) 32 5 (.int .u8 0) 1 rfl Tryd.underlying32 info5 rfl (by decide) (by omega) v237 y236 l0 _ _ _ (fun _ => True) (fun _ => False) rfl rfl ?aO ?aR (fun _ _ h => h) (fun _ h => h.elim) ?aF ?aB ?aS ?aL ?_; (case aR => repeat (first | exact (Kd.C_below HR0.out HB.out) | (with_reducible refine Kd.C_alloc ?_ _) | (with_reducible refine Kd.C_drewN ?_ _) | (with_reducible refine Kd.C_drew ?_))); (case aB => exact (by repeat (first | (with_reducible first | exact HB.out | apply below_alloc | apply pw_below_drewN | apply below_drew1) | exact HB.out))); (case aF => exact (fun _ _ => trivial)); (case aO => exact (by (with_reducible repeat (first | apply Kd.R_alloc | apply Kd.R_drewN | apply Kd.R_drew)); exact HO238.out)); (case aS => exact (below_size (by repeat (first | (with_reducible first | exact HB.out | apply below_alloc | apply pw_below_drewN | apply below_drew1) | exact HB.out)))); (case aL => have := LMc6.out; omega); intro v240 w57 ho hb hg hat; rw [← Ny239.out] at ho; have n0_ := Aside0.mk (hb); have n1_ := Aside0.mk (ho); clear HB; clear HO238; have HB := n0_; have HO241 := n1_; clear n0_ n1_; clear ho hb hg hat; obtain ⟨Ao58, co58, eo58⟩ := Kd.R_slice HO241.out; subst eo58) | ((with_reducible refine gate_callee (f := 24) rfl ?_); refine goesL_ (some 20) rfl rfl Tryd.func24 (by kernel_rfl) rfl #[.slice Ao58 y239.length co58, .int .i64 a1] rfl (by (try simp only [List.map_toArray, List.map_cons, List.map_nil]); first | done | rfl | (simp only [List.length_drop, List.length_take]; rfl)) ?_; (with_reducible refine (scan_Next.calls _ _ y239 a1 t242 t243 t244 t245 t246 _ ?side1 ?side2 A7.out).mono ?_); (case side1 => repeat (first | exact (Kd.R_reads' HO241.out).2.2 | (with_reducible refine Kd.C_alloc ?_ _) | (with_reducible refine Kd.C_drewN ?_ _) | (with_reducible refine Kd.C_drew ?_))); (case side2 => exact (Kd.R_reads' HO241.out).2.1); rintro e w59 ⟨rfl, hb⟩; refine ⟨_, rfl, ?_⟩; have n0_ := Aside0.mk (Kd.R_below (by (with_reducible repeat (first | apply Kd.R_alloc | apply Kd.R_drewN | apply Kd.R_drew)); exact HO241.out) hb); have n1_ := Aside0.mk (below_step (by repeat (first | (with_reducible first | exact HB.out | apply below_alloc | apply pw_below_drewN | apply below_drew1) | exact HB.out)) hb); clear HO241; clear HB; have HO241 := n0_; have HB := n1_; clear n0_ n1_; (try clear hb); (try clear hb2); (try clear hk); (try clear hi)) | ((with_reducible refine gate_dst (N := 5) rfl ?_); refine box_event ?hg (N := 5) ?hd (cs := #[.int .i64 0, .int .i64 0, .string (⟨#[]⟩ : ByteArray)]) (t := 27) ?hr ?_; (case hd => rfl); (case hg => rfl); (case hr => first | (go_simp; done) | (go_simp; rfl)); intro gb247 hg w60 hbox hb; have n0_ := Aside0.mk (Kd.R_below (by (with_reducible repeat (first | apply Kd.R_alloc | apply Kd.R_drewN | apply Kd.R_drew)); exact HO241.out) hb); have n1_ := Aside0.mk (below_step (by repeat (first | (with_reducible first | exact HB.out | apply below_alloc | apply pw_below_drewN | apply below_drew1) | exact HB.out)) hb); have n2_ := Aside0.mk (hbox); have n3_ := Aside0.mk ((by rw [hg]; exact (below_size (by repeat (first | (with_reducible first | exact HB.out | apply below_alloc | apply pw_below_drewN | apply below_drew1) | exact HB.out))) : w.heap.size ≤ gb247)); have n4_ := Aside0.mk ((by rw [hg]; exact (below_size (by repeat (first | (with_reducible first | exact HB.out | apply below_alloc | apply pw_below_drewN | apply below_drew1) | exact HB.out))) : w.heap.size ≤ gb247)); clear HO241; clear HB; have HO241 := n0_; have HB := n1_; have BK247 := n2_; have GW247 := n3_; have GE247 := n4_; clear n0_ n1_ n2_ n3_ n4_; clear hb hbox hg; have hcz61_0 : w60.cell? ⟨gb247, 0, none⟩ = some (.int .i64 0) := (blk_cell BK247.out 0).trans rfl; have hcz61_1 : w60.cell? ⟨gb247, 1, none⟩ = some (.int .i64 0) := (blk_cell BK247.out 1).trans rfl; have hcz61_2 : w60.cell? ⟨gb247, 2, none⟩ = some (.string (⟨#[]⟩ : ByteArray)) := (blk_cell BK247.out 2).trans rfl; have hfz61_0 := blk_frozen BK247.out 0; have hfz61_1 := blk_frozen BK247.out 1; have hfz61_2 := blk_frozen BK247.out 2) | ((with_reducible refine gate_callee (f := 25) rfl ?_); refine goesL_ (some 27) rfl rfl Tryd.func25 (by kernel_rfl) rfl #[.slice A0 l0.length c0, .int .i64 a1] rfl (by (try simp only [List.map_toArray, List.map_cons, List.map_nil]); first | done | rfl | (simp only [List.length_drop, List.length_take]; rfl)) ?_; (with_reducible refine (mezzotintref04_Next.calls k _ _ l0 a1 t248 t249 t250 t251 t252 _ ?side1 ?side2 A8.out).mono ?_); (case side1 => exact Kd.C_below HR0.out (by repeat (first | (with_reducible first | exact HB.out | apply below_alloc | apply pw_below_drewN | apply below_drew1 | refine below_set ?_ GE247.out) | exact HB.out))); (case side2 => exact HC0.out); rintro e w62 ⟨rfl, hb⟩; refine ⟨_, rfl, ?_⟩; have n0_ := Aside0.mk (Kd.R_below (by (with_reducible repeat (first | apply Kd.R_alloc | apply Kd.R_drewN | apply Kd.R_drew)); exact (Kd.R_mono (Kd.R_far (p := ⟨gb247, 2, none⟩) (Kd.R_far (p := ⟨gb247, 1, none⟩) (Kd.R_far (p := ⟨gb247, 0, none⟩) (Kd.R_types HO241.out BK247.out (by decide)) (fun _ hk => hk.2) (.int .i64 t242)) (fun _ hk => hk.2) (.int .i64 t243)) (fun _ hk => hk.2) (.string t244)) (fun _ h_ => h_.1))) hb); have n1_ := Aside0.mk (blk_below (g := gb247) (o := .cells #[.int .i64 t242, .int .i64 t243, .string t244] 27 (0, 0)) (by (with_reducible repeat (first | refine blk_drewN ?_ _ | refine blk_drew ?_ | refine blk_alloc ?_ _)); refine blk_put (cs := #[.int .i64 t242, .int .i64 t243, .string (⟨#[]⟩ : ByteArray)]) ?_ 2 _ rfl; (with_reducible repeat (first | refine blk_drewN ?_ _ | refine blk_drew ?_ | refine blk_alloc ?_ _)); refine blk_put (cs := #[.int .i64 t242, .int .i64 0, .string (⟨#[]⟩ : ByteArray)]) ?_ 1 _ rfl; (with_reducible repeat (first | refine blk_drewN ?_ _ | refine blk_drew ?_ | refine blk_alloc ?_ _)); refine blk_put (cs := #[.int .i64 0, .int .i64 0, .string (⟨#[]⟩ : ByteArray)]) ?_ 0 _ rfl; (with_reducible repeat (first | refine blk_drewN ?_ _ | refine blk_drew ?_ | refine blk_alloc ?_ _)); exact BK247.out) hb); have n2_ := Aside0.mk (below_step (by repeat (first | (with_reducible first | exact HB.out | apply below_alloc | apply pw_below_drewN | apply below_drew1 | refine below_set ?_ GE247.out) | exact HB.out)) hb); clear HO241; clear BK247; clear HB; have HO241 := n0_; have BK247 := n1_; have HB := n2_; clear n0_ n1_ n2_; (try clear hb); (try clear hb2); (try clear hk); (try clear hi)) | ((with_reducible refine gate_dst (N := 8) rfl ?_); refine box_event ?hg (N := 8) ?hd (cs := #[.int .i64 0, .int .i64 0, .string (⟨#[]⟩ : ByteArray)]) (t := 27) ?hr ?_; (case hd => rfl); (case hg => rfl); (case hr => first | (go_simp; done) | (go_simp; rfl)); intro gb253 hg w63 hbox hb; have n0_ := Aside0.mk (Kd.R_below (by (with_reducible repeat (first | apply Kd.R_alloc | apply Kd.R_drewN | apply Kd.R_drew)); exact HO241.out) hb); have n1_ := Aside0.mk (blk_below (g := gb247) (o := .cells #[.int .i64 t242, .int .i64 t243, .string t244] 27 (0, 0)) (by (with_reducible repeat (first | refine blk_drewN ?_ _ | refine blk_drew ?_ | refine blk_alloc ?_ _)); exact BK247.out) hb); have n2_ := Aside0.mk (below_step (by repeat (first | (with_reducible first | exact HB.out | apply below_alloc | apply pw_below_drewN | apply below_drew1 | refine below_set ?_ GE247.out) | exact HB.out)) hb); have n3_ := Aside0.mk (hbox); have n4_ := Aside0.mk ((by rw [hg]; exact (below_size (by repeat (first | (with_reducible first | exact HB.out | apply below_alloc | apply pw_below_drewN | apply below_drew1 | refine below_set ?_ GE247.out) | exact HB.out))) : w.heap.size ≤ gb253)); have n5_ := Aside0.mk ((by rw [hg]; exact (below_size (by repeat (first | (with_reducible first | exact HB.out | apply below_alloc | apply pw_below_drewN | apply below_drew1 | refine below_set ?_ GE247.out) | exact HB.out))) : w.heap.size ≤ gb253)); have n6_ := Aside0.mk ((by rw [hg]; exact Nat.ne_of_lt (blk_lt (g := gb247) (o := .cells #[.int .i64 t242, .int .i64 t243, .string t244] 27 (0, 0)) (by (with_reducible repeat (first | refine blk_drewN ?_ _ | refine blk_drew ?_ | refine blk_alloc ?_ _)); exact BK247.out)) : gb247 ≠ gb253)); have n7_ := Aside0.mk ((by rw [hg]; exact Nat.ne_of_gt (blk_lt (g := gb247) (o := .cells #[.int .i64 t242, .int .i64 t243, .string t244] 27 (0, 0)) (by (with_reducible repeat (first | refine blk_drewN ?_ _ | refine blk_drew ?_ | refine blk_alloc ?_ _)); exact BK247.out)) : gb253 ≠ gb247)); clear HO241; clear BK247; clear HB; have HO241 := n0_; have BK247 := n1_; have HB := n2_; have BK253 := n3_; have GW253 := n4_; have GE253 := n5_; have NB247_253 := n6_; have NB253_247 := n7_; clear n0_ n1_ n2_ n3_ n4_ n5_ n6_ n7_; clear hb hbox hg; have hnb64 := NB253_247.out; have hnc64 := NB247_253.out; have hcz65_0 : w63.cell? ⟨gb253, 0, none⟩ = some (.int .i64 0) := (blk_cell BK253.out 0).trans rfl; have hcz65_1 : w63.cell? ⟨gb253, 1, none⟩ = some (.int .i64 0) := (blk_cell BK253.out 1).trans rfl; have hcz65_2 : w63.cell? ⟨gb253, 2, none⟩ = some (.string (⟨#[]⟩ : ByteArray)) := (blk_cell BK253.out 2).trans rfl; have hfz65_0 := blk_frozen BK253.out 0; have hfz65_1 := blk_frozen BK253.out 1; have hfz65_2 := blk_frozen BK253.out 2) | ((with_reducible refine gate_callee (f := 23) rfl ?_); refine goesL_ (some 31) rfl rfl Tryd.func23 (by kernel_rfl) rfl #[] rfl (by (try simp only [List.map_toArray, List.map_cons, List.map_nil]); first | done | rfl | (simp only [List.length_drop, List.length_take]; rfl)) ?_; (with_reducible refine (mezzotintlaw04_answers.calls  false _ A9.out).mono ?_); rintro e w66 ⟨rfl, hb⟩; refine ⟨_, rfl, ?_⟩; have n0_ := Aside0.mk (Kd.R_below (by (with_reducible repeat (first | apply Kd.R_alloc | apply Kd.R_drewN | apply Kd.R_drew)); exact (Kd.R_mono (Kd.R_far (p := ⟨gb253, 2, none⟩) (Kd.R_far (p := ⟨gb253, 1, none⟩) (Kd.R_far (p := ⟨gb253, 0, none⟩) (Kd.R_types HO241.out BK253.out (by decide)) (fun _ hk => hk.2) (.int .i64 t248)) (fun _ hk => hk.2) (.int .i64 t249)) (fun _ hk => hk.2) (.string t250)) (fun _ h_ => h_.1))) hb); have n1_ := Aside0.mk (blk_below (g := gb247) (o := .cells #[.int .i64 t242, .int .i64 t243, .string t244] 27 (0, 0)) (by (with_reducible repeat (first | refine blk_drewN ?_ _ | refine blk_drew ?_ | refine blk_alloc ?_ _)); refine blk_far ?_ NB247_253.out _; (with_reducible repeat (first | refine blk_drewN ?_ _ | refine blk_drew ?_ | refine blk_alloc ?_ _)); refine blk_far ?_ NB247_253.out _; (with_reducible repeat (first | refine blk_drewN ?_ _ | refine blk_drew ?_ | refine blk_alloc ?_ _)); refine blk_far ?_ NB247_253.out _; (with_reducible repeat (first | refine blk_drewN ?_ _ | refine blk_drew ?_ | refine blk_alloc ?_ _)); exact BK247.out) hb); have n2_ := Aside0.mk (blk_below (g := gb253) (o := .cells #[.int .i64 t248, .int .i64 t249, .string t250] 27 (0, 0)) (by (with_reducible repeat (first | refine blk_drewN ?_ _ | refine blk_drew ?_ | refine blk_alloc ?_ _)); refine blk_put (cs := #[.int .i64 t248, .int .i64 t249, .string (⟨#[]⟩ : ByteArray)]) ?_ 2 _ rfl; (with_reducible repeat (first | refine blk_drewN ?_ _ | refine blk_drew ?_ | refine blk_alloc ?_ _)); refine blk_put (cs := #[.int .i64 t248, .int .i64 0, .string (⟨#[]⟩ : ByteArray)]) ?_ 1 _ rfl; (with_reducible repeat (first | refine blk_drewN ?_ _ | refine blk_drew ?_ | refine blk_alloc ?_ _)); refine blk_put (cs := #[.int .i64 0, .int .i64 0, .string (⟨#[]⟩ : ByteArray)]) ?_ 0 _ rfl; (with_reducible repeat (first | refine blk_drewN ?_ _ | refine blk_drew ?_ | refine blk_alloc ?_ _)); exact BK253.out) hb); have n3_ := Aside0.mk (below_step (by repeat (first | (with_reducible first | exact HB.out | apply below_alloc | apply pw_below_drewN | apply below_drew1 | refine below_set ?_ GE247.out | refine below_set ?_ GE253.out) | exact HB.out)) hb); clear HO241; clear BK247; clear BK253; clear HB; have HO241 := n0_; have BK247 := n1_; have BK253 := n2_; have HB := n3_; clear n0_ n1_ n2_ n3_; (try clear hb); (try clear hb2); (try clear hk); (try clear hi)))
    go_ret
    exact ⟨by first | rfl | (simp [errW_none, errW_some] <;> rfl) | (simp [*, errW_none, errW_some] <;> rfl), by repeat (first | (with_reducible first | exact HB.out | apply below_alloc | apply pw_below_drewN | apply below_drew1 | refine below_set ?_ GE247.out | refine below_set ?_ GE253.out) | exact HB.out)⟩
  ·as_aux_lemma =>
   rw [if_neg c6] at H
   exact absurd H (by simp)


/-! ### mezzotintref01_Same: function 26 -/
def mezzotintref01_Same.l0 : Nat → List Int → List Int → Int → Option (Bool)
 | 0, _, _, _ => none
 | k + 1, x0, x1, x5 => if x5 < (x0.length : Int) then (if 0 ≤ x5 then (if x5 < (x1.length : Int) then (if (rd x0 x5) = (rd x1 x5) then (mezzotintref01_Same.l0 k x0 x1 (wrap64 (x5 + 1))) else (some false)) else (none)) else (none)) else (some true)
def mezzotintref01_Same.f (k : Nat) (l0 : List Int) (l1 : List Int) : Option (Bool) := if (l0.length : Int) = (l1.length : Int) then (mezzotintref01_Same.l0 k l0 l1 0) else (some false)
set_option maxHeartbeats 8000000 in
set_option maxRecDepth 100000 in
theorem mezzotintref01_Same.calls (k : Nat) (A0 : Option Addr) (c0 : Nat) (l0 : List Int) (A1 : Option Addr) (c1 : Nat) (l1 : List Int) (r : Bool) (w : World) (hr0 : Kd.C (Kd.int .u8) w A0 l0.length l0) (hc0 : l0.length ≤ c0) (hr1 : Kd.C (Kd.int .u8) w A1 l1.length l1) (hc1 : l1.length ≤ c1) (h : mezzotintref01_Same.f k l0 l1 = some r) :
  Calls Tryd.prog 26 #[.slice A0 l0.length c0, .slice A1 l1.length c1] w fun e w' => e = .returned (.bool r) ∧ Drawn0 w w' := by
 have HR0 := Aside0.mk hr0
 have HC0 := Aside0.mk hc0
 clear hr0 hc0
 have HR1 := Aside0.mk hr1
 have HC1 := Aside0.mk hc1
 clear hr1 hc1
 have H : (if (l0.length : Int) = (l1.length : Int) then (mezzotintref01_Same.l0 k l0 l1 0) else (some false)) = some r := h
 clear h
 by_cases c3 : (l0.length : Int) = (l1.length : Int)
 ·rw [if_pos c3] at H
  have c3b0 : ((l0.length : Int) == (l1.length : Int)) = true := beq_iff_eq.mpr c3
  have c3b1 : ((l0.length : Int) != (l1.length : Int)) = false := bne_eq_false_iff_eq.mpr c3
  have c3b2 : (l0.length == l1.length) = true := by first | simpa using c3 | (simp at c3 ⊢; omega)
  clear c3
  have H' := Aside0.mk H
  clear H
  go_enter Tryd.func26, Tryd.ntmps26
  go_wp2
  repeat (go_quiet (fail); try go_wp2)
  go_loopg [5] k (fun kq v5 w' => ∃ (x5_1 : Int), v5 = .int .i64 x5_1 ∧ Aside0 (mezzotintref01_Same.l0 kq l0 l1 x5_1 = some r) ∧ Aside0 (kq ≤ k) ∧ Drawn0 w w')
  case atStart => exact ⟨(0), (by first | rfl | (simp; done) | (simp [*]; done)), H', ⟨Nat.le_refl _⟩, by repeat (first | exact Drawn0.refl _ | apply Drawn0.step)⟩
  case round =>
   clear H'
   try clear c1
   try clear c2
   try clear p2
   try clear c3
   try clear c3b0
   try clear c3b1
   try clear c3b2
   obtain ⟨x5_1, rfl, HA, HK1, ⟨m1, rfl⟩⟩ := hrel
   cases gk with
   | zero => exact absurd HA.out (by simp [mezzotintref01_Same.l0])
   | succ k1 =>
    have H := HA.out
    clear HA
    simp only [mezzotintref01_Same.l0] at H
    by_cases c4 : x5_1 < (l0.length : Int)
    ·rw [if_pos c4] at H
     have c4b0 : decide (x5_1 < (l0.length : Int)) = true := decide_eq_true c4
     clear c4
     by_cases c5 : 0 ≤ x5_1
     ·rw [if_pos c5] at H
      have c5b0 : decide (0 ≤ x5_1) = true := decide_eq_true c5
      clear c5
      by_cases c6 : x5_1 < (l1.length : Int)
      ·rw [if_pos c6] at H
       have c6b0 : decide (x5_1 < (l1.length : Int)) = true := decide_eq_true c6
       clear c6
       by_cases c7 : (rd l0 x5_1) = (rd l1 x5_1)
       ·rw [if_pos c7] at H
        have c7b0 : ((rd l0 x5_1) == (rd l1 x5_1)) = true := beq_iff_eq.mpr c7
        have c7b1 : ((rd l0 x5_1) != (rd l1 x5_1)) = false := bne_eq_false_iff_eq.mpr c7
        clear c7
        have H' := Aside0.mk H
        clear H
        have p255 : 0 ≤ (x5_1 : Int) := of_decide_eq_true (by first | (with_reducible assumption) | assumption)
        have q255 : x5_1 < (l0.length : Int) := of_decide_eq_true (by first | (with_reducible assumption) | assumption)
        obtain ⟨ad255, e255, hx255_0⟩ := Kd.at_int HR0.out x5_1 p255 q255
        cases e255
        replace p255 := eq_true p255
        replace q255 := eq_true q255
        have p256 : 0 ≤ (x5_1 : Int) := of_decide_eq_true (by first | (with_reducible assumption) | assumption)
        have q256 : x5_1 < (l1.length : Int) := of_decide_eq_true (by first | (with_reducible assumption) | assumption)
        obtain ⟨ad256, e256, hx256_0⟩ := Kd.at_int HR1.out x5_1 p256 q256
        cases e256
        replace p256 := eq_true p256
        replace q256 := eq_true q256
        go_wp2
        repeat (go_quiet (fail); try go_wp2)
        go_roundg k1
        case measure => have := HK1.out; omega
        case rel => exact ⟨(wrap64 (x5_1 + 1)), (by first | rfl | (simp; done) | (simp [*]; done)), H', ⟨by have := HK1.out; omega⟩, by repeat (first | exact Drawn0.refl _ | apply Drawn0.step)⟩
       ·rw [if_neg c7] at H
        have c7b0 : ((rd l0 x5_1) == (rd l1 x5_1)) = false := beq_eq_false_iff_ne.mpr c7
        have c7b1 : ((rd l0 x5_1) != (rd l1 x5_1)) = true := bne_iff_ne.mpr c7
        obtain rfl := Option.some.inj H
        have p255 : 0 ≤ (x5_1 : Int) := of_decide_eq_true (by first | (with_reducible assumption) | assumption)
        have q255 : x5_1 < (l0.length : Int) := of_decide_eq_true (by first | (with_reducible assumption) | assumption)
        obtain ⟨ad255, e255, hx255_0⟩ := Kd.at_int HR0.out x5_1 p255 q255
        cases e255
        replace p255 := eq_true p255
        replace q255 := eq_true q255
        have p256 : 0 ≤ (x5_1 : Int) := of_decide_eq_true (by first | (with_reducible assumption) | assumption)
        have q256 : x5_1 < (l1.length : Int) := of_decide_eq_true (by first | (with_reducible assumption) | assumption)
        obtain ⟨ad256, e256, hx256_0⟩ := Kd.at_int HR1.out x5_1 p256 q256
        cases e256
        replace p256 := eq_true p256
        replace q256 := eq_true q256
        go_wp2
        repeat (go_quiet (fail); try go_wp2)
        go_ret
        exact ⟨by first | rfl | (simp; done) | (simp [*]; done), by repeat (first | exact Drawn0.refl _ | apply Drawn0.step)⟩
      ·rw [if_neg c6] at H
       exact absurd H (by simp)
     ·rw [if_neg c5] at H
      exact absurd H (by simp)
    ·rw [if_neg c4] at H
     have c4b0 : decide (x5_1 < (l0.length : Int)) = false := decide_eq_false c4
     clear c4
     obtain rfl := Option.some.inj H
     go_wp2
     repeat (go_quiet (fail); try go_wp2)
     go_ret
     exact ⟨by first | rfl | (simp; done) | (simp [*]; done), by repeat (first | exact Drawn0.refl _ | apply Drawn0.step)⟩
 ·rw [if_neg c3] at H
  have c3b0 : ((l0.length : Int) == (l1.length : Int)) = false := beq_eq_false_iff_ne.mpr c3
  have c3b1 : ((l0.length : Int) != (l1.length : Int)) = true := bne_iff_ne.mpr c3
  have c3b2 : (l0.length == l1.length) = false := by first | simpa using c3 | (simp at c3 ⊢; omega)
  obtain rfl := Option.some.inj H
  go_enter Tryd.func26, Tryd.ntmps26
  go_wp2
  repeat (go_quiet (fail); try go_wp2)
  go_ret
  exact ⟨by first | rfl | (simp; done) | (simp [*]; done), by repeat (first | exact Drawn0.refl _ | apply Drawn0.step)⟩

/-! ### mezzotintlaw04_ScanAll: function 9 -/
mutual
def mezzotintlaw04_ScanAll.l0 : Nat → List Int → List Int → Int → Int → Option (Bool)
 | 0, _, _, _, _ => none
 | k + 1, x0, x3, x4, x5 => if x5 ≤ (x0.length : Int) then ((scan_Next.f x3 x4).bind fun bt264 => ((mezzotintref04_Next.f k x0 x4).bind fun bt270 => (if (!(bt264.1 == bt270.1) || (!(bt264.2.1 == bt270.2.1) || (!(bt264.2.2.1.toList == bt270.2.2.1.toList)))) = true then (mezzotintlaw04_ScanAll.j1 k x0 x3 x4 x5 bt264.2.2.2.1 bt264.2.2.2.2 true bt264.1 bt264.2.1 bt264.2.2.1) else (if bt264.2.2.2.1 = bt270.2.2.2.1 then (mezzotintlaw04_ScanAll.j1 k x0 x3 x4 x5 bt264.2.2.2.1 bt264.2.2.2.2 (bt264.2.2.2.2 != bt270.2.2.2.2) bt264.1 bt264.2.1 bt264.2.2.1) else (mezzotintlaw04_ScanAll.j1 k x0 x3 x4 x5 bt264.2.2.2.1 bt264.2.2.2.2 true bt264.1 bt264.2.1 bt264.2.2.1))))) else (some false)
def mezzotintlaw04_ScanAll.j1 : Nat → List Int → List Int → Int → Int → Int → Int → Bool → Int → Int → ByteArray → Option (Bool)
 | 0, _, _, _, _, _, _, _, _, _, _ => none
 | k + 1, x0, x3, x4, x5, x7, x8, x51, x270000, x270001, x270002 => if x51 = true then (some false) else (if x8 = 0 then (mezzotintlaw04_ScanAll.j2 k x0 x3 x4 x5 x7 x8 (x270000 == 0)) else (mezzotintlaw04_ScanAll.j2 k x0 x3 x4 x5 x7 x8 true))
def mezzotintlaw04_ScanAll.j2 : Nat → List Int → List Int → Int → Int → Int → Int → Bool → Option (Bool)
 | 0, _, _, _, _, _, _, _ => none
 | k + 1, x0, x3, x4, x5, x7, x8, x58 => if x58 = true then ((mezzotintlaw04_answers.f).bind fun t276 => (if t276 = true then ((mezzotintref01_Same.f k x3 x0).bind fun t277 => (if t277 = true then (if x8 = 0 then (some (x7 == (x0.length : Int))) else (some true)) else (some false))) else (some false))) else (if x7 ≤ x4 then (some false) else (mezzotintlaw04_ScanAll.l0 k x0 x3 x7 (wrap64 (x5 + 1))))
end
def mezzotintlaw04_ScanAll.f (k : Nat) (l0 : List Int) : Option (Bool) := if (l0.length : Int) > 20000 then ((mezzotintlaw04_answers.f).bind fun t257 => (some t257)) else ((some (([] : List Int) : List Int)).bind fun y258 => (if y258.length + l0.length < 140737488355328 then (mezzotintlaw04_ScanAll.l0 k l0 (y258 ++ l0) 0 0) else (none)))
set_option maxHeartbeats 8000000 in
set_option maxRecDepth 100000 in
theorem mezzotintlaw04_ScanAll.calls (k : Nat) (A0 : Option Addr) (c0 : Nat) (l0 : List Int) (r : Bool) (w : World) (hr0 : Kd.C (Kd.int .u8) w A0 l0.length l0) (hc0 : l0.length ≤ c0) (h : mezzotintlaw04_ScanAll.f k l0 = some r) :
  Calls Tryd.prog 9 #[.slice A0 l0.length c0] w fun e w' => e = .returned (.bool r) ∧ Below w.heap.size w w' := by
 have hu27 := Tryd.underlying27
 have HR0 := Aside0.mk hr0
 have HC0 := Aside0.mk hc0
 clear hr0 hc0
 have HB := Aside0.mk (Below.refl w.heap.size w)
 have H : (if (l0.length : Int) > 20000 then ((mezzotintlaw04_answers.f).bind fun t257 => (some t257)) else ((some (([] : List Int) : List Int)).bind fun y258 => (if y258.length + l0.length < 140737488355328 then (mezzotintlaw04_ScanAll.l0 k l0 (y258 ++ l0) 0 0) else (none)))) = some r := h
 clear h
 by_cases c2 : (l0.length : Int) > 20000
 ·as_aux_lemma =>
  rw [if_pos c2] at H
  have c2b0 : decide (20000 < (l0.length : Int)) = true := decide_eq_true c2
  have c2b1 : decide (20000 < l0.length) = true := decide_eq_true (by omega)
  clear c2
  replace H := Option.bind_eq_some_iff.mp H
  obtain ⟨t257, A30, H⟩ := H
  replace H : (some t257) = some r := H
  have A3 := Aside0.mk A30
  clear A30
  obtain rfl := Option.some.inj H
  go_enter Tryd.func9, Tryd.ntmps9
  go_wp2_with (first | ((with_reducible refine gate_callee (f := 23) rfl ?_); refine goesL_ (some 15) rfl rfl Tryd.func23 (by kernel_rfl) rfl #[] rfl (by (try simp only [List.map_toArray, List.map_cons, List.map_nil]); first | done | rfl | (simp only [List.length_drop, List.length_take]; rfl)) ?_; (with_reducible refine (mezzotintlaw04_answers.calls  t257 _ A3.out).mono ?_); rintro e w4 ⟨rfl, hb⟩; refine ⟨_, rfl, ?_⟩; have n0_ := Aside0.mk (below_step (by repeat (first | (with_reducible first | exact HB.out | apply below_alloc | apply pw_below_drewN | apply below_drew1) | exact HB.out)) hb); clear HB; have HB := n0_; clear n0_; (try clear hb); (try clear hb2); (try clear hk); (try clear hi)))
  go_ret
  exact ⟨by first | rfl | (simp [errW_none, errW_some] <;> rfl) | (simp [*, errW_none, errW_some] <;> rfl), by repeat (first | (with_reducible first | exact HB.out | apply below_alloc | apply pw_below_drewN | apply below_drew1) | exact HB.out)⟩
 ·rw [if_neg c2] at H
  have c2b0 : decide (20000 < (l0.length : Int)) = false := decide_eq_false c2
  have c2b1 : decide (20000 < l0.length) = false := decide_eq_false (by omega)
  clear c2
  obtain ⟨y258, hy258⟩ : ∃ y_ : List Int, y_ = (([] : List Int)) := ⟨_, rfl⟩
  replace H : (if y258.length + l0.length < 140737488355328 then (mezzotintlaw04_ScanAll.l0 k l0 (y258 ++ l0) 0 0) else (none)) = some r := by first | (rw [hy258]; with_reducible exact H) | (have H2_ := (Option.bind_some _ _).symm.trans H; rw [hy258]; with_reducible exact H2_) | (have H2_ := (Option.bind_some _ _).symm.trans H; with_reducible exact H2_) | with_reducible exact H | (rw [hy258]; exact H) | exact H
  have Ny258 := Aside0.mk hy258
  clear hy258
  by_cases c5 : y258.length + l0.length < 140737488355328
  ·rw [if_pos c5] at H
   have LMc5 := Aside0.mk c5
   clear c5
   obtain ⟨y261, hy261⟩ : ∃ y_ : List Int, y_ = (y258 ++ l0) := ⟨_, rfl⟩
   replace H : (mezzotintlaw04_ScanAll.l0 k l0 y261 0 0) = some r := by first | (rw [hy261]; with_reducible exact H) | (have H2_ := (Option.bind_some _ _).symm.trans H; rw [hy261]; with_reducible exact H2_) | (have H2_ := (Option.bind_some _ _).symm.trans H; with_reducible exact H2_) | with_reducible exact H | (rw [hy261]; exact H) | exact H
   have Ny261 := Aside0.mk hy261
   clear hy261
   have H' := Aside0.mk H
   clear H
   go_enter Tryd.func9, Tryd.ntmps9
   go_wp2_with (first | ((with_reducible refine gate_dst (N := 16) rfl ?_); (try (refine gate_guard (by rfl) ?_; dsimp only)); refine Kd.R_lit (Kd.int .u8) _ 5 ?hg (N := 16) ?hd (xs := ([] : List Int)) (inner := []) (ok := fun _ => True) (okp := fun _ => True) ?hr ?hp (fun _ hk => hk) trivial (Below.refl _ _) (Nat.le_refl _) (by simp) ?_; (case hd => rfl); (case hg => rfl); (case hr => first | (go_simp; done) | (go_simp; rfl)); (case hp => exact (Reps.none _ _)); intro v259 w6 ho7 hb hg_ hnew_; clear hg_ hnew_; (first | rw [← Ny258.out] at ho7 | (simp only [Int.reduceToNat] at ho7; rw [← Ny258.out] at ho7)); have n0_ := Aside0.mk (Kd.R_lower ho7 (below_size (by repeat (first | (with_reducible first | exact HB.out | apply below_alloc | apply pw_below_drewN | apply below_drew1) | exact HB.out)))); have n1_ := Aside0.mk (below_step (by repeat (first | (with_reducible first | exact HB.out | apply below_alloc | apply pw_below_drewN | apply below_drew1) | exact HB.out)) hb); clear HB; have HO260 := n0_; have HB := n1_; clear n0_ n1_; clear hb ho7) | ((with_reducible refine gate_builtin (b := .append) (xs := #[.tmp 16, .tmp 17]) rfl ?_); (try (refine gate_guard (by rfl) ?_; dsimp only)); at_builtin; refine Kd.R_append_rows (Kd.int .u8) (w0 := w) w.heap.size rfl (.tmp 16) (.tmp 17) 32 5 (.int .u8 0) 1 rfl Tryd.underlying32 info5 rfl (by decide) (by omega) v259 y258 l0 _ _ _ (fun _ => True) (fun _ => False) rfl rfl ?aO ?aR (fun _ _ h => h) (fun _ h => h.elim) ?aF ?aB ?aS ?aL ?_; (case aR => repeat (first | exact (Kd.C_below HR0.out HB.out) | (with_reducible refine Kd.C_alloc ?_ _) | (with_reducible refine Kd.C_drewN ?_ _) | (with_reducible refine Kd.C_drew ?_))); (case aB => exact (by repeat (first | (with_reducible first | exact HB.out | apply below_alloc | apply pw_below_drewN | apply below_drew1) | exact HB.out))); (case aF => exact (fun _ _ => trivial)); (case aO => exact (by (with_reducible repeat (first | apply Kd.R_alloc | apply Kd.R_drewN | apply Kd.R_drew)); exact HO260.out)); (case aS => exact (below_size (by repeat (first | (with_reducible first | exact HB.out | apply below_alloc | apply pw_below_drewN | apply below_drew1) | exact HB.out)))); (case aL => have := LMc5.out; omega); intro v262 w8 ho hb hg hat; rw [← Ny261.out] at ho; have n0_ := Aside0.mk (hb); have n1_ := Aside0.mk (ho); clear HB; clear HO260; have HB := n0_; have HO263 := n1_; clear n0_ n1_; clear ho hb hg hat))
   go_loopg [4, 5] k (fun kq v4 v5 w' => ∃ (x4_1 : Int) (x5_1 : Int), v4 = .int .i64 x4_1 ∧ v5 = .int .i64 x5_1 ∧ Aside0 (mezzotintlaw04_ScanAll.l0 kq l0 y261 x4_1 x5_1 = some r) ∧ Aside0 (kq ≤ k) ∧ Aside0 (Kd.R (Kd.int .u8) 5 w' w.heap.size (fun _ => True) v262 y261) ∧ Aside0 (Below w.heap.size w w'))
   case atStart => exact ⟨(0), (0), (by first | rfl | (simp; done) | (simp [*]; done)), (by first | rfl | (simp; done) | (simp [*]; done)), H', ⟨Nat.le_refl _⟩, ⟨by (with_reducible repeat (first | apply Kd.R_alloc | apply Kd.R_drewN | apply Kd.R_drew)); exact HO263.out⟩, ⟨by repeat (first | (with_reducible first | exact HB.out | apply below_alloc | apply pw_below_drewN | apply below_drew1) | exact HB.out)⟩⟩
   case round =>
    clear H'
    try clear c2
    try clear c2b0
    try clear c2b1
    try clear p2
    try clear c5
    obtain ⟨x4_1, x5_1, rfl, rfl, HA, HK1, HO_3, HB⟩ := hrel
    cases gk with
    | zero => exact absurd HA.out (by simp [mezzotintlaw04_ScanAll.l0])
    | succ k1 =>
     have H := HA.out
     clear HA
     simp only [mezzotintlaw04_ScanAll.l0] at H
     by_cases c9 : x5_1 ≤ (l0.length : Int)
     ·rw [if_pos c9] at H
      have c9b0 : decide (x5_1 ≤ (l0.length : Int)) = true := decide_eq_true c9
      clear c9
      replace H := Option.bind_eq_some_iff.mp H
      obtain ⟨⟨t264, t265, t266, t267, t268⟩, A100, H⟩ := H
      replace H : ((mezzotintref04_Next.f k1 l0 x4_1).bind fun bt270 => (if (!(t264 == bt270.1) || (!(t265 == bt270.2.1) || (!(t266.toList == bt270.2.2.1.toList)))) = true then (mezzotintlaw04_ScanAll.j1 k1 l0 y261 x4_1 x5_1 t267 t268 true t264 t265 t266) else (if t267 = bt270.2.2.2.1 then (mezzotintlaw04_ScanAll.j1 k1 l0 y261 x4_1 x5_1 t267 t268 (t268 != bt270.2.2.2.2) t264 t265 t266) else (mezzotintlaw04_ScanAll.j1 k1 l0 y261 x4_1 x5_1 t267 t268 true t264 t265 t266)))) = some r := H
      have A10 := Aside0.mk A100
      clear A100
      replace H := Option.bind_eq_some_iff.mp H
      obtain ⟨⟨t270, t271, t272, t273, t274⟩, A110, H⟩ := H
      replace H : (if (!(t264 == t270) || (!(t265 == t271) || (!(t266.toList == t272.toList)))) = true then (mezzotintlaw04_ScanAll.j1 k1 l0 y261 x4_1 x5_1 t267 t268 true t264 t265 t266) else (if t267 = t273 then (mezzotintlaw04_ScanAll.j1 k1 l0 y261 x4_1 x5_1 t267 t268 (t268 != t274) t264 t265 t266) else (mezzotintlaw04_ScanAll.j1 k1 l0 y261 x4_1 x5_1 t267 t268 true t264 t265 t266))) = some r := H
      have A11 := Aside0.mk A110
      clear A110
      have HC12 := Aside0.mk H
      clear H
      obtain ⟨Ao13, co13, eo13⟩ := Kd.R_slice HO_3.out
      subst eo13
      go_upto_region 10 with (first | ((with_reducible refine gate_callee (f := 24) rfl ?_); refine goesL_ (some 28) rfl rfl Tryd.func24 (by kernel_rfl) rfl #[.slice Ao13 y261.length co13, .int .i64 x4_1] rfl (by (try simp only [List.map_toArray, List.map_cons, List.map_nil]); first | done | rfl | (simp only [List.length_drop, List.length_take]; rfl)) ?_; (with_reducible refine (scan_Next.calls _ _ y261 x4_1 t264 t265 t266 t267 t268 _ ?side1 ?side2 A10.out).mono ?_); (case side1 => repeat (first | exact (Kd.R_reads' HO_3.out).2.2 | (with_reducible refine Kd.C_alloc ?_ _) | (with_reducible refine Kd.C_drewN ?_ _) | (with_reducible refine Kd.C_drew ?_))); (case side2 => exact (Kd.R_reads' HO_3.out).2.1); rintro e w14 ⟨rfl, hb⟩; refine ⟨_, rfl, ?_⟩; have n0_ := Aside0.mk (Kd.R_below (by (with_reducible repeat (first | apply Kd.R_alloc | apply Kd.R_drewN | apply Kd.R_drew)); exact HO_3.out) hb); have n1_ := Aside0.mk (below_step (by repeat (first | (with_reducible first | exact HB.out | apply below_alloc | apply pw_below_drewN | apply below_drew1) | exact HB.out)) hb); clear HO_3; clear HB; have HO_3 := n0_; have HB := n1_; clear n0_ n1_; (try clear hb); (try clear hb2); (try clear hk); (try clear hi)) | ((with_reducible refine gate_dst (N := 6) rfl ?_); (try (refine gate_guard (by rfl) ?_; dsimp only)); refine box_event ?hg (N := 6) ?hd (cs := #[.int .i64 0, .int .i64 0, .string (⟨#[]⟩ : ByteArray)]) (t := 27) ?hr ?_; (case hd => rfl); (case hg => rfl); (case hr => first | (go_simp; done) | (go_simp; rfl)); intro gb269 hg w15 hbox hb; have n0_ := Aside0.mk (Kd.R_below (by (with_reducible repeat (first | apply Kd.R_alloc | apply Kd.R_drewN | apply Kd.R_drew)); exact HO_3.out) hb); have n1_ := Aside0.mk (below_step (by repeat (first | (with_reducible first | exact HB.out | apply below_alloc | apply pw_below_drewN | apply below_drew1) | exact HB.out)) hb); have n2_ := Aside0.mk (hbox); have n3_ := Aside0.mk ((by rw [hg]; exact (below_size (by repeat (first | (with_reducible first | exact HB.out | apply below_alloc | apply pw_below_drewN | apply below_drew1) | exact HB.out))) : w.heap.size ≤ gb269)); have n4_ := Aside0.mk ((by rw [hg]; exact (below_size (by repeat (first | (with_reducible first | exact HB.out | apply below_alloc | apply pw_below_drewN | apply below_drew1) | exact HB.out))) : w.heap.size ≤ gb269)); clear HO_3; clear HB; have HO_3 := n0_; have HB := n1_; have BK269 := n2_; have GW269 := n3_; have GE269 := n4_; clear n0_ n1_ n2_ n3_ n4_; clear hb hbox hg; have hcz16_0 : w15.cell? ⟨gb269, 0, none⟩ = some (.int .i64 0) := (blk_cell BK269.out 0).trans rfl; have hcz16_1 : w15.cell? ⟨gb269, 1, none⟩ = some (.int .i64 0) := (blk_cell BK269.out 1).trans rfl; have hcz16_2 : w15.cell? ⟨gb269, 2, none⟩ = some (.string (⟨#[]⟩ : ByteArray)) := (blk_cell BK269.out 2).trans rfl; have hfz16_0 := blk_frozen BK269.out 0; have hfz16_1 := blk_frozen BK269.out 1; have hfz16_2 := blk_frozen BK269.out 2) | ((with_reducible refine gate_callee (f := 25) rfl ?_); refine goesL_ (some 35) rfl rfl Tryd.func25 (by kernel_rfl) rfl #[.slice A0 l0.length c0, .int .i64 x4_1] rfl (by (try simp only [List.map_toArray, List.map_cons, List.map_nil]); first | done | rfl | (simp only [List.length_drop, List.length_take]; rfl)) ?_; (with_reducible refine (mezzotintref04_Next.calls k1 _ _ l0 x4_1 t270 t271 t272 t273 t274 _ ?side1 ?side2 A11.out).mono ?_); (case side1 => exact Kd.C_below HR0.out (by repeat (first | (with_reducible first | exact HB.out | apply below_alloc | apply pw_below_drewN | apply below_drew1 | refine below_set ?_ GE269.out) | exact HB.out))); (case side2 => exact HC0.out); rintro e w17 ⟨rfl, hb⟩; refine ⟨_, rfl, ?_⟩; have n0_ := Aside0.mk (Kd.R_below (by (with_reducible repeat (first | apply Kd.R_alloc | apply Kd.R_drewN | apply Kd.R_drew)); exact (Kd.R_mono (Kd.R_far (p := ⟨gb269, 2, none⟩) (Kd.R_far (p := ⟨gb269, 1, none⟩) (Kd.R_far (p := ⟨gb269, 0, none⟩) (Kd.R_types HO_3.out BK269.out (by decide)) (fun _ hk => hk.2) (.int .i64 t264)) (fun _ hk => hk.2) (.int .i64 t265)) (fun _ hk => hk.2) (.string t266)) (fun _ h_ => h_.1))) hb); have n1_ := Aside0.mk (blk_below (g := gb269) (o := .cells #[.int .i64 t264, .int .i64 t265, .string t266] 27 (0, 0)) (by (with_reducible repeat (first | refine blk_drewN ?_ _ | refine blk_drew ?_ | refine blk_alloc ?_ _)); refine blk_put (cs := #[.int .i64 t264, .int .i64 t265, .string (⟨#[]⟩ : ByteArray)]) ?_ 2 _ rfl; (with_reducible repeat (first | refine blk_drewN ?_ _ | refine blk_drew ?_ | refine blk_alloc ?_ _)); refine blk_put (cs := #[.int .i64 t264, .int .i64 0, .string (⟨#[]⟩ : ByteArray)]) ?_ 1 _ rfl; (with_reducible repeat (first | refine blk_drewN ?_ _ | refine blk_drew ?_ | refine blk_alloc ?_ _)); refine blk_put (cs := #[.int .i64 0, .int .i64 0, .string (⟨#[]⟩ : ByteArray)]) ?_ 0 _ rfl; (with_reducible repeat (first | refine blk_drewN ?_ _ | refine blk_drew ?_ | refine blk_alloc ?_ _)); exact BK269.out) hb); have n2_ := Aside0.mk (below_step (by repeat (first | (with_reducible first | exact HB.out | apply below_alloc | apply pw_below_drewN | apply below_drew1 | refine below_set ?_ GE269.out) | exact HB.out)) hb); clear HO_3; clear BK269; clear HB; have HO_3 := n0_; have BK269 := n1_; have HB := n2_; clear n0_ n1_ n2_; (try clear hb); (try clear hb2); (try clear hk); (try clear hi)) | ((with_reducible refine gate_dst (N := 9) rfl ?_); (try (refine gate_guard (by rfl) ?_; dsimp only)); refine box_event ?hg (N := 9) ?hd (cs := #[.int .i64 0, .int .i64 0, .string (⟨#[]⟩ : ByteArray)]) (t := 27) ?hr ?_; (case hd => rfl); (case hg => rfl); (case hr => first | (go_simp; done) | (go_simp; rfl)); intro gb275 hg w18 hbox hb; have n0_ := Aside0.mk (Kd.R_below (by (with_reducible repeat (first | apply Kd.R_alloc | apply Kd.R_drewN | apply Kd.R_drew)); exact HO_3.out) hb); have n1_ := Aside0.mk (blk_below (g := gb269) (o := .cells #[.int .i64 t264, .int .i64 t265, .string t266] 27 (0, 0)) (by (with_reducible repeat (first | refine blk_drewN ?_ _ | refine blk_drew ?_ | refine blk_alloc ?_ _)); exact BK269.out) hb); have n2_ := Aside0.mk (below_step (by repeat (first | (with_reducible first | exact HB.out | apply below_alloc | apply pw_below_drewN | apply below_drew1 | refine below_set ?_ GE269.out) | exact HB.out)) hb); have n3_ := Aside0.mk (hbox); have n4_ := Aside0.mk ((by rw [hg]; exact (below_size (by repeat (first | (with_reducible first | exact HB.out | apply below_alloc | apply pw_below_drewN | apply below_drew1 | refine below_set ?_ GE269.out) | exact HB.out))) : w.heap.size ≤ gb275)); have n5_ := Aside0.mk ((by rw [hg]; exact (below_size (by repeat (first | (with_reducible first | exact HB.out | apply below_alloc | apply pw_below_drewN | apply below_drew1 | refine below_set ?_ GE269.out) | exact HB.out))) : w.heap.size ≤ gb275)); have n6_ := Aside0.mk ((by rw [hg]; exact Nat.ne_of_lt (blk_lt (g := gb269) (o := .cells #[.int .i64 t264, .int .i64 t265, .string t266] 27 (0, 0)) (by (with_reducible repeat (first | refine blk_drewN ?_ _ | refine blk_drew ?_ | refine blk_alloc ?_ _)); exact BK269.out)) : gb269 ≠ gb275)); have n7_ := Aside0.mk ((by rw [hg]; exact Nat.ne_of_gt (blk_lt (g := gb269) (o := .cells #[.int .i64 t264, .int .i64 t265, .string t266] 27 (0, 0)) (by (with_reducible repeat (first | refine blk_drewN ?_ _ | refine blk_drew ?_ | refine blk_alloc ?_ _)); exact BK269.out)) : gb275 ≠ gb269)); clear HO_3; clear BK269; clear HB; have HO_3 := n0_; have BK269 := n1_; have HB := n2_; have BK275 := n3_; have GW275 := n4_; have GE275 := n5_; have NB269_275 := n6_; have NB275_269 := n7_; clear n0_ n1_ n2_ n3_ n4_ n5_ n6_ n7_; clear hb hbox hg; have hnb19 := NB275_269.out; have hnc19 := NB269_275.out; have hcz20_0 : w18.cell? ⟨gb275, 0, none⟩ = some (.int .i64 0) := (blk_cell BK275.out 0).trans rfl; have hcz20_1 : w18.cell? ⟨gb275, 1, none⟩ = some (.int .i64 0) := (blk_cell BK275.out 1).trans rfl; have hcz20_2 : w18.cell? ⟨gb275, 2, none⟩ = some (.string (⟨#[]⟩ : ByteArray)) := (blk_cell BK275.out 2).trans rfl; have hfz20_0 := blk_frozen BK275.out 0; have hfz20_1 := blk_frozen BK275.out 1; have hfz20_2 := blk_frozen BK275.out 2))
      (try simp only [Act.put, List.setIfInBounds_toArray, List.set_cons_zero, List.set_cons_succ])
      go_cut [51] (fun v51 wc => ∃ (kq : Nat) (x51_11 : Bool), v51 = .bool x51_11 ∧ Aside0 (mezzotintlaw04_ScanAll.j1 kq l0 y261 x4_1 x5_1 t267 t268 x51_11 t264 t265 t266 = some r) ∧ Aside0 (kq ≤ k1) ∧ Aside0 (Kd.R (Kd.int .u8) 5 wc w.heap.size (fun _ => True) (.slice Ao13 y261.length co13) y261) ∧ Aside0 (wc.heap[gb269]? = some (.cells #[.int .i64 t264, .int .i64 t265, .string t266] 27 (0, 0))) ∧ Aside0 (wc.heap[gb275]? = some (.cells #[.int .i64 t270, .int .i64 t271, .string t272] 27 (0, 0))) ∧ Aside0 (Below w.heap.size w wc))
      case first =>
       have H := HC12.out
       clear HC12
       by_cases c21 : (!(t264 == t270) || (!(t265 == t271) || (!(t266.toList == t272.toList)))) = true
       ·as_aux_lemma =>
        rw [if_pos c21] at H
        have c21b0 : (!(t264 == t270) || (!(t265 == t271) || (!(t266.toList == t272.toList)))) = true := c21
        clear c21
        (first | rw [c21b0] | (simp only [i64_w, i32_w]; rw [c21b0]) | skip)
        have H' := Aside0.mk H
        clear H
        have hnb22 := NB269_275.out
        have hnc22 := NB275_269.out
        have hcz23_0 : w18.cell? ⟨gb269, 0, none⟩ = some (.int .i64 t264) := (blk_cell BK269.out 0).trans rfl
        have hcz23_1 : w18.cell? ⟨gb269, 1, none⟩ = some (.int .i64 t265) := (blk_cell BK269.out 1).trans rfl
        have hcz23_2 : w18.cell? ⟨gb269, 2, none⟩ = some (.string t266) := (blk_cell BK269.out 2).trans rfl
        have hfz23_0 := blk_frozen BK269.out 0
        have hfz23_1 := blk_frozen BK269.out 1
        have hfz23_2 := blk_frozen BK269.out 2
        have hcz24_0 : w18.cell? ⟨gb275, 0, none⟩ = some (.int .i64 0) := (blk_cell BK275.out 0).trans rfl
        have hcz24_1 : w18.cell? ⟨gb275, 1, none⟩ = some (.int .i64 0) := (blk_cell BK275.out 1).trans rfl
        have hcz24_2 : w18.cell? ⟨gb275, 2, none⟩ = some (.string (⟨#[]⟩ : ByteArray)) := (blk_cell BK275.out 2).trans rfl
        have hfz24_0 := blk_frozen BK275.out 0
        have hfz24_1 := blk_frozen BK275.out 1
        have hfz24_2 := blk_frozen BK275.out 2
        go_wp2
        go_meet
        case rel => exact ⟨_, (true), (by first | rfl | (simp; done) | (simp [*]; done)), H', ⟨by have := HK1.out; first | omega | exact Nat.le_refl _⟩, ⟨by (with_reducible repeat (first | apply Kd.R_alloc | apply Kd.R_drewN | apply Kd.R_drew)); exact Kd.R_mono (Kd.R_far (p := ⟨gb275, 2, none⟩) (Kd.R_far (p := ⟨gb275, 1, none⟩) (Kd.R_far (p := ⟨gb275, 0, none⟩) (Kd.R_types HO_3.out BK275.out (by decide)) (fun _ hk => hk.2) (.int .i64 t270)) (fun _ hk => hk.2) (.int .i64 t271)) (fun _ hk => hk.2) (.string t272)) (fun _ hk => trivial)⟩, ⟨by (with_reducible repeat (first | refine blk_drewN ?_ _ | refine blk_drew ?_ | refine blk_alloc ?_ _)); refine blk_far ?_ NB269_275.out _; (with_reducible repeat (first | refine blk_drewN ?_ _ | refine blk_drew ?_ | refine blk_alloc ?_ _)); refine blk_far ?_ NB269_275.out _; (with_reducible repeat (first | refine blk_drewN ?_ _ | refine blk_drew ?_ | refine blk_alloc ?_ _)); refine blk_far ?_ NB269_275.out _; (with_reducible repeat (first | refine blk_drewN ?_ _ | refine blk_drew ?_ | refine blk_alloc ?_ _)); exact BK269.out⟩, ⟨by (with_reducible repeat (first | refine blk_drewN ?_ _ | refine blk_drew ?_ | refine blk_alloc ?_ _)); refine blk_put (cs := #[.int .i64 t270, .int .i64 t271, .string (⟨#[]⟩ : ByteArray)]) ?_ 2 _ rfl; (with_reducible repeat (first | refine blk_drewN ?_ _ | refine blk_drew ?_ | refine blk_alloc ?_ _)); refine blk_put (cs := #[.int .i64 t270, .int .i64 0, .string (⟨#[]⟩ : ByteArray)]) ?_ 1 _ rfl; (with_reducible repeat (first | refine blk_drewN ?_ _ | refine blk_drew ?_ | refine blk_alloc ?_ _)); refine blk_put (cs := #[.int .i64 0, .int .i64 0, .string (⟨#[]⟩ : ByteArray)]) ?_ 0 _ rfl; (with_reducible repeat (first | refine blk_drewN ?_ _ | refine blk_drew ?_ | refine blk_alloc ?_ _)); exact BK275.out⟩, ⟨by repeat (first | (with_reducible first | exact HB.out | apply below_alloc | apply pw_below_drewN | apply below_drew1 | refine below_set ?_ GE269.out | refine below_set ?_ GE275.out) | exact HB.out)⟩⟩
       ·as_aux_lemma =>
        rw [if_neg c21] at H
        have c21b0 : (!(t264 == t270) || (!(t265 == t271) || (!(t266.toList == t272.toList)))) = false := by simpa using c21
        clear c21
        (first | rw [c21b0] | (simp only [i64_w, i32_w]; rw [c21b0]) | skip)
        by_cases c25 : t267 = t273
        ·rw [if_pos c25] at H
         have c25b0 : (t267 == t273) = true := beq_iff_eq.mpr c25
         have c25b1 : (t267 != t273) = false := bne_eq_false_iff_eq.mpr c25
         clear c25
         have H' := Aside0.mk H
         clear H
         have hnb26 := NB269_275.out
         have hnc26 := NB275_269.out
         have hcz27_0 : w18.cell? ⟨gb269, 0, none⟩ = some (.int .i64 t264) := (blk_cell BK269.out 0).trans rfl
         have hcz27_1 : w18.cell? ⟨gb269, 1, none⟩ = some (.int .i64 t265) := (blk_cell BK269.out 1).trans rfl
         have hcz27_2 : w18.cell? ⟨gb269, 2, none⟩ = some (.string t266) := (blk_cell BK269.out 2).trans rfl
         have hfz27_0 := blk_frozen BK269.out 0
         have hfz27_1 := blk_frozen BK269.out 1
         have hfz27_2 := blk_frozen BK269.out 2
         have hcz28_0 : w18.cell? ⟨gb275, 0, none⟩ = some (.int .i64 0) := (blk_cell BK275.out 0).trans rfl
         have hcz28_1 : w18.cell? ⟨gb275, 1, none⟩ = some (.int .i64 0) := (blk_cell BK275.out 1).trans rfl
         have hcz28_2 : w18.cell? ⟨gb275, 2, none⟩ = some (.string (⟨#[]⟩ : ByteArray)) := (blk_cell BK275.out 2).trans rfl
         have hfz28_0 := blk_frozen BK275.out 0
         have hfz28_1 := blk_frozen BK275.out 1
         have hfz28_2 := blk_frozen BK275.out 2
         go_wp2
         go_meet
         case rel => exact ⟨_, ((t268 != t274)), (by first | rfl | (simp; done) | (simp [*]; done)), H', ⟨by have := HK1.out; first | omega | exact Nat.le_refl _⟩, ⟨by (with_reducible repeat (first | apply Kd.R_alloc | apply Kd.R_drewN | apply Kd.R_drew)); exact Kd.R_mono (Kd.R_far (p := ⟨gb275, 2, none⟩) (Kd.R_far (p := ⟨gb275, 1, none⟩) (Kd.R_far (p := ⟨gb275, 0, none⟩) (Kd.R_types HO_3.out BK275.out (by decide)) (fun _ hk => hk.2) (.int .i64 t270)) (fun _ hk => hk.2) (.int .i64 t271)) (fun _ hk => hk.2) (.string t272)) (fun _ hk => trivial)⟩, ⟨by (with_reducible repeat (first | refine blk_drewN ?_ _ | refine blk_drew ?_ | refine blk_alloc ?_ _)); refine blk_far ?_ NB269_275.out _; (with_reducible repeat (first | refine blk_drewN ?_ _ | refine blk_drew ?_ | refine blk_alloc ?_ _)); refine blk_far ?_ NB269_275.out _; (with_reducible repeat (first | refine blk_drewN ?_ _ | refine blk_drew ?_ | refine blk_alloc ?_ _)); refine blk_far ?_ NB269_275.out _; (with_reducible repeat (first | refine blk_drewN ?_ _ | refine blk_drew ?_ | refine blk_alloc ?_ _)); exact BK269.out⟩, ⟨by (with_reducible repeat (first | refine blk_drewN ?_ _ | refine blk_drew ?_ | refine blk_alloc ?_ _)); refine blk_put (cs := #[.int .i64 t270, .int .i64 t271, .string (⟨#[]⟩ : ByteArray)]) ?_ 2 _ rfl; (with_reducible repeat (first | refine blk_drewN ?_ _ | refine blk_drew ?_ | refine blk_alloc ?_ _)); refine blk_put (cs := #[.int .i64 t270, .int .i64 0, .string (⟨#[]⟩ : ByteArray)]) ?_ 1 _ rfl; (with_reducible repeat (first | refine blk_drewN ?_ _ | refine blk_drew ?_ | refine blk_alloc ?_ _)); refine blk_put (cs := #[.int .i64 0, .int .i64 0, .string (⟨#[]⟩ : ByteArray)]) ?_ 0 _ rfl; (with_reducible repeat (first | refine blk_drewN ?_ _ | refine blk_drew ?_ | refine blk_alloc ?_ _)); exact BK275.out⟩, ⟨by repeat (first | (with_reducible first | exact HB.out | apply below_alloc | apply pw_below_drewN | apply below_drew1 | refine below_set ?_ GE269.out | refine below_set ?_ GE275.out) | exact HB.out)⟩⟩
        ·rw [if_neg c25] at H
         have c25b0 : (t267 == t273) = false := beq_eq_false_iff_ne.mpr c25
         have c25b1 : (t267 != t273) = true := bne_iff_ne.mpr c25
         have H' := Aside0.mk H
         clear H
         have hnb29 := NB269_275.out
         have hnc29 := NB275_269.out
         have hcz30_0 : w18.cell? ⟨gb269, 0, none⟩ = some (.int .i64 t264) := (blk_cell BK269.out 0).trans rfl
         have hcz30_1 : w18.cell? ⟨gb269, 1, none⟩ = some (.int .i64 t265) := (blk_cell BK269.out 1).trans rfl
         have hcz30_2 : w18.cell? ⟨gb269, 2, none⟩ = some (.string t266) := (blk_cell BK269.out 2).trans rfl
         have hfz30_0 := blk_frozen BK269.out 0
         have hfz30_1 := blk_frozen BK269.out 1
         have hfz30_2 := blk_frozen BK269.out 2
         have hcz31_0 : w18.cell? ⟨gb275, 0, none⟩ = some (.int .i64 0) := (blk_cell BK275.out 0).trans rfl
         have hcz31_1 : w18.cell? ⟨gb275, 1, none⟩ = some (.int .i64 0) := (blk_cell BK275.out 1).trans rfl
         have hcz31_2 : w18.cell? ⟨gb275, 2, none⟩ = some (.string (⟨#[]⟩ : ByteArray)) := (blk_cell BK275.out 2).trans rfl
         have hfz31_0 := blk_frozen BK275.out 0
         have hfz31_1 := blk_frozen BK275.out 1
         have hfz31_2 := blk_frozen BK275.out 2
         go_wp2
         go_meet
         case rel => exact ⟨_, (true), (by first | rfl | (simp; done) | (simp [*]; done)), H', ⟨by have := HK1.out; first | omega | exact Nat.le_refl _⟩, ⟨by (with_reducible repeat (first | apply Kd.R_alloc | apply Kd.R_drewN | apply Kd.R_drew)); exact Kd.R_mono (Kd.R_far (p := ⟨gb275, 2, none⟩) (Kd.R_far (p := ⟨gb275, 1, none⟩) (Kd.R_far (p := ⟨gb275, 0, none⟩) (Kd.R_types HO_3.out BK275.out (by decide)) (fun _ hk => hk.2) (.int .i64 t270)) (fun _ hk => hk.2) (.int .i64 t271)) (fun _ hk => hk.2) (.string t272)) (fun _ hk => trivial)⟩, ⟨by (with_reducible repeat (first | refine blk_drewN ?_ _ | refine blk_drew ?_ | refine blk_alloc ?_ _)); refine blk_far ?_ NB269_275.out _; (with_reducible repeat (first | refine blk_drewN ?_ _ | refine blk_drew ?_ | refine blk_alloc ?_ _)); refine blk_far ?_ NB269_275.out _; (with_reducible repeat (first | refine blk_drewN ?_ _ | refine blk_drew ?_ | refine blk_alloc ?_ _)); refine blk_far ?_ NB269_275.out _; (with_reducible repeat (first | refine blk_drewN ?_ _ | refine blk_drew ?_ | refine blk_alloc ?_ _)); exact BK269.out⟩, ⟨by (with_reducible repeat (first | refine blk_drewN ?_ _ | refine blk_drew ?_ | refine blk_alloc ?_ _)); refine blk_put (cs := #[.int .i64 t270, .int .i64 t271, .string (⟨#[]⟩ : ByteArray)]) ?_ 2 _ rfl; (with_reducible repeat (first | refine blk_drewN ?_ _ | refine blk_drew ?_ | refine blk_alloc ?_ _)); refine blk_put (cs := #[.int .i64 t270, .int .i64 0, .string (⟨#[]⟩ : ByteArray)]) ?_ 1 _ rfl; (with_reducible repeat (first | refine blk_drewN ?_ _ | refine blk_drew ?_ | refine blk_alloc ?_ _)); refine blk_put (cs := #[.int .i64 0, .int .i64 0, .string (⟨#[]⟩ : ByteArray)]) ?_ 0 _ rfl; (with_reducible repeat (first | refine blk_drewN ?_ _ | refine blk_drew ?_ | refine blk_alloc ?_ _)); exact BK275.out⟩, ⟨by repeat (first | (with_reducible first | exact HB.out | apply below_alloc | apply pw_below_drewN | apply below_drew1 | refine below_set ?_ GE269.out | refine below_set ?_ GE275.out) | exact HB.out)⟩⟩
      case rest =>
       clear HC12
       try clear c1
       try clear c2
       try clear c2b0
       try clear c2b1
       try clear p2
       try clear c5
       try clear c9
       try clear c9b0
       try clear c19
       try clear c21
       try clear c21b0
       try clear c22
       try clear c23
       try clear c24
       try clear c25
       try clear c25b0
       try clear c25b1
       try clear c26
       try clear c29
       try clear hcz16_0
       try clear hcz16_1
       try clear hcz16_2
       try clear hcz20_0
       try clear hcz20_1
       try clear hcz20_2
       try clear hcz23_0
       try clear hcz23_1
       try clear hcz23_2
       try clear hcz24_0
       try clear hcz24_1
       try clear hcz24_2
       try clear hcz27_0
       try clear hcz27_1
       try clear hcz27_2
       try clear hcz28_0
       try clear hcz28_1
       try clear hcz28_2
       try clear hcz30_0
       try clear hcz30_1
       try clear hcz30_2
       try clear hcz31_0
       try clear hcz31_1
       try clear hcz31_2
       try clear hfz16_0
       try clear hfz16_1
       try clear hfz16_2
       try clear hfz20_0
       try clear hfz20_1
       try clear hfz20_2
       try clear hfz23_0
       try clear hfz23_1
       try clear hfz23_2
       try clear hfz24_0
       try clear hfz24_1
       try clear hfz24_2
       try clear hfz27_0
       try clear hfz27_1
       try clear hfz27_2
       try clear hfz28_0
       try clear hfz28_1
       try clear hfz28_2
       try clear hfz30_0
       try clear hfz30_1
       try clear hfz30_2
       try clear hfz31_0
       try clear hfz31_1
       try clear hfz31_2
       try clear p2
       obtain ⟨kq, x51_11, rfl, HA, HJ11, HO_3, BK269, BK275, HB⟩ := hcut
       cases kq with
       | zero => exact absurd HA.out (by simp [mezzotintlaw04_ScanAll.j1])
       | succ kj11 =>
        have H := HA.out
        clear HA
        simp only [mezzotintlaw04_ScanAll.j1] at H
        by_cases c32 : x51_11 = true
        ·subst c32
         have H1 : (some false) = some r := by rw [if_pos rfl] at H; exact H
         clear H
         have H := H1
         clear H1
         obtain rfl := Option.some.inj H
         go_wp2
         go_ret
         exact ⟨by first | rfl | (simp [errW_none, errW_some] <;> rfl) | (simp [*, errW_none, errW_some] <;> rfl), by repeat (first | (with_reducible first | exact HB.out | apply below_alloc | apply pw_below_drewN | apply below_drew1 | refine below_set ?_ GE269.out | refine below_set ?_ GE275.out) | exact HB.out)⟩
        ·replace c32 := Bool.eq_false_iff.mpr c32
         subst c32
         have H1 : (if t268 = 0 then (mezzotintlaw04_ScanAll.j2 kj11 l0 y261 x4_1 x5_1 t267 t268 (t264 == 0)) else (mezzotintlaw04_ScanAll.j2 kj11 l0 y261 x4_1 x5_1 t267 t268 true)) = some r := by rw [if_neg (show ¬ (false = true) by decide)] at H; exact H
         clear H
         have H := H1
         clear H1
         have HC33 := Aside0.mk H
         clear H
         go_upto_region 12 with (fail)
         go_cut [58] (fun v58 wc => ∃ (kq : Nat) (x58_32 : Bool), v58 = .bool x58_32 ∧ Aside0 (mezzotintlaw04_ScanAll.j2 kq l0 y261 x4_1 x5_1 t267 t268 x58_32 = some r) ∧ Aside0 (kq ≤ kj11) ∧ Aside0 (Kd.R (Kd.int .u8) 5 wc w.heap.size (fun _ => True) (.slice Ao13 y261.length co13) y261) ∧ Aside0 (wc.heap[gb269]? = some (.cells #[.int .i64 t264, .int .i64 t265, .string t266] 27 (0, 0))) ∧ Aside0 (wc.heap[gb275]? = some (.cells #[.int .i64 t270, .int .i64 t271, .string t272] 27 (0, 0))) ∧ Aside0 (Below w.heap.size w wc))
         case first =>
          have H := HC33.out
          clear HC33
          by_cases c34 : t268 = 0
          ·as_aux_lemma =>
           rw [if_pos c34] at H
           have c34b0 : (t268 == 0) = true := beq_iff_eq.mpr c34
           have c34b1 : (t268 != 0) = false := bne_eq_false_iff_eq.mpr c34
           clear c34
           (first | rw [c34b0] | (simp only [i64_w, i32_w]; rw [c34b0]) | skip)
           have H' := Aside0.mk H
           clear H
           have hnb35 := NB269_275.out
           have hnc35 := NB275_269.out
           have hcz36_0 : wc.cell? ⟨gb269, 0, none⟩ = some (.int .i64 t264) := (blk_cell BK269.out 0).trans rfl
           have hcz36_1 : wc.cell? ⟨gb269, 1, none⟩ = some (.int .i64 t265) := (blk_cell BK269.out 1).trans rfl
           have hcz36_2 : wc.cell? ⟨gb269, 2, none⟩ = some (.string t266) := (blk_cell BK269.out 2).trans rfl
           have hfz36_0 := blk_frozen BK269.out 0
           have hfz36_1 := blk_frozen BK269.out 1
           have hfz36_2 := blk_frozen BK269.out 2
           go_wp2
           go_meet
           case rel => exact ⟨_, ((t264 == 0)), (by first | rfl | (simp; done) | (simp [*]; done)), H', ⟨by have := HK1.out; have := HJ11.out; first | omega | exact Nat.le_refl _⟩, ⟨by (with_reducible repeat (first | apply Kd.R_alloc | apply Kd.R_drewN | apply Kd.R_drew)); exact HO_3.out⟩, ⟨by (with_reducible repeat (first | refine blk_drewN ?_ _ | refine blk_drew ?_ | refine blk_alloc ?_ _)); exact BK269.out⟩, ⟨by (with_reducible repeat (first | refine blk_drewN ?_ _ | refine blk_drew ?_ | refine blk_alloc ?_ _)); exact BK275.out⟩, ⟨by repeat (first | (with_reducible first | exact HB.out | apply below_alloc | apply pw_below_drewN | apply below_drew1 | refine below_set ?_ GE269.out | refine below_set ?_ GE275.out) | exact HB.out)⟩⟩
          ·as_aux_lemma =>
           rw [if_neg c34] at H
           have c34b0 : (t268 == 0) = false := beq_eq_false_iff_ne.mpr c34
           have c34b1 : (t268 != 0) = true := bne_iff_ne.mpr c34
           (first | rw [c34b0] | (simp only [i64_w, i32_w]; rw [c34b0]) | skip)
           have H' := Aside0.mk H
           clear H
           go_wp2
           go_meet
           case rel => exact ⟨_, (true), (by first | rfl | (simp; done) | (simp [*]; done)), H', ⟨by have := HK1.out; have := HJ11.out; first | omega | exact Nat.le_refl _⟩, ⟨by (with_reducible repeat (first | apply Kd.R_alloc | apply Kd.R_drewN | apply Kd.R_drew)); exact HO_3.out⟩, ⟨by (with_reducible repeat (first | refine blk_drewN ?_ _ | refine blk_drew ?_ | refine blk_alloc ?_ _)); exact BK269.out⟩, ⟨by (with_reducible repeat (first | refine blk_drewN ?_ _ | refine blk_drew ?_ | refine blk_alloc ?_ _)); exact BK275.out⟩, ⟨by repeat (first | (with_reducible first | exact HB.out | apply below_alloc | apply pw_below_drewN | apply below_drew1 | refine below_set ?_ GE269.out | refine below_set ?_ GE275.out) | exact HB.out)⟩⟩
         case rest =>
          clear HC33
          try clear c1
          try clear c2
          try clear c2b0
          try clear c2b1
          try clear p2
          try clear c3
          try clear c5
          try clear c9
          try clear c9b0
          try clear c19
          try clear c21
          try clear c21b0
          try clear c22
          try clear c23
          try clear c24
          try clear c25
          try clear c25b0
          try clear c25b1
          try clear c26
          try clear c29
          try clear c32
          try clear c34
          try clear c34b0
          try clear c34b1
          try clear c35
          try clear hcz16_0
          try clear hcz16_1
          try clear hcz16_2
          try clear hcz20_0
          try clear hcz20_1
          try clear hcz20_2
          try clear hcz23_0
          try clear hcz23_1
          try clear hcz23_2
          try clear hcz24_0
          try clear hcz24_1
          try clear hcz24_2
          try clear hcz27_0
          try clear hcz27_1
          try clear hcz27_2
          try clear hcz28_0
          try clear hcz28_1
          try clear hcz28_2
          try clear hcz30_0
          try clear hcz30_1
          try clear hcz30_2
          try clear hcz31_0
          try clear hcz31_1
          try clear hcz31_2
          try clear hcz36_0
          try clear hcz36_1
          try clear hcz36_2
          try clear hfz16_0
          try clear hfz16_1
          try clear hfz16_2
          try clear hfz20_0
          try clear hfz20_1
          try clear hfz20_2
          try clear hfz23_0
          try clear hfz23_1
          try clear hfz23_2
          try clear hfz24_0
          try clear hfz24_1
          try clear hfz24_2
          try clear hfz27_0
          try clear hfz27_1
          try clear hfz27_2
          try clear hfz28_0
          try clear hfz28_1
          try clear hfz28_2
          try clear hfz30_0
          try clear hfz30_1
          try clear hfz30_2
          try clear hfz31_0
          try clear hfz31_1
          try clear hfz31_2
          try clear hfz36_0
          try clear hfz36_1
          try clear hfz36_2
          try clear p2
          obtain ⟨kq, x58_32, rfl, HA, HJ32, HO_3, BK269, BK275, HB⟩ := hcut
          cases kq with
          | zero => exact absurd HA.out (by simp [mezzotintlaw04_ScanAll.j2])
          | succ kj32 =>
           have H := HA.out
           clear HA
           simp only [mezzotintlaw04_ScanAll.j2] at H
           by_cases c37 : x58_32 = true
           ·subst c37
            have H1 : ((mezzotintlaw04_answers.f).bind fun t276 => (if t276 = true then ((mezzotintref01_Same.f kj32 y261 l0).bind fun t277 => (if t277 = true then (if t268 = 0 then (some (t267 == (l0.length : Int))) else (some true)) else (some false))) else (some false))) = some r := by rw [if_pos rfl] at H; exact H
            clear H
            have H := H1
            clear H1
            replace H := Option.bind_eq_some_iff.mp H
            obtain ⟨t276, A380, H⟩ := H
            replace H : (if t276 = true then ((mezzotintref01_Same.f kj32 y261 l0).bind fun t277 => (if t277 = true then (if t268 = 0 then (some (t267 == (l0.length : Int))) else (some true)) else (some false))) else (some false)) = some r := H
            have A38 := Aside0.mk A380
            clear A380
            by_cases c39 : t276 = true
            ·subst c39
             have H1 : ((mezzotintref01_Same.f kj32 y261 l0).bind fun t277 => (if t277 = true then (if t268 = 0 then (some (t267 == (l0.length : Int))) else (some true)) else (some false))) = some r := by rw [if_pos rfl] at H; exact H
             clear H
             have H := H1
             clear H1
             replace H := Option.bind_eq_some_iff.mp H
             obtain ⟨t277, A400, H⟩ := H
             replace H : (if t277 = true then (if t268 = 0 then (some (t267 == (l0.length : Int))) else (some true)) else (some false)) = some r := H
             have A40 := Aside0.mk A400
             clear A400
             by_cases c41 : t277 = true
             ·subst c41
              have H1 : (if t268 = 0 then (some (t267 == (l0.length : Int))) else (some true)) = some r := by rw [if_pos rfl] at H; exact H
              clear H
              have H := H1
              clear H1
              by_cases c42 : t268 = 0
              ·as_aux_lemma =>
               rw [if_pos c42] at H
               have c42b0 : (t268 == 0) = true := beq_iff_eq.mpr c42
               have c42b1 : (t268 != 0) = false := bne_eq_false_iff_eq.mpr c42
               clear c42
               obtain rfl := Option.some.inj H
               go_wp2_with (first | ((with_reducible refine gate_callee (f := 23) rfl ?_); refine goesL_ (some 59) rfl rfl Tryd.func23 (by kernel_rfl) rfl #[] rfl (by (try simp only [List.map_toArray, List.map_cons, List.map_nil]); first | done | rfl | (simp only [List.length_drop, List.length_take]; rfl)) ?_; (with_reducible refine (mezzotintlaw04_answers.calls  true _ A38.out).mono ?_); rintro e w43 ⟨rfl, hb⟩; refine ⟨_, rfl, ?_⟩; have n0_ := Aside0.mk (Kd.R_below (by (with_reducible repeat (first | apply Kd.R_alloc | apply Kd.R_drewN | apply Kd.R_drew)); exact HO_3.out) hb); have n1_ := Aside0.mk (blk_below (g := gb269) (o := .cells #[.int .i64 t264, .int .i64 t265, .string t266] 27 (0, 0)) (by (with_reducible repeat (first | refine blk_drewN ?_ _ | refine blk_drew ?_ | refine blk_alloc ?_ _)); exact BK269.out) hb); have n2_ := Aside0.mk (blk_below (g := gb275) (o := .cells #[.int .i64 t270, .int .i64 t271, .string t272] 27 (0, 0)) (by (with_reducible repeat (first | refine blk_drewN ?_ _ | refine blk_drew ?_ | refine blk_alloc ?_ _)); exact BK275.out) hb); have n3_ := Aside0.mk (below_step (by repeat (first | (with_reducible first | exact HB.out | apply below_alloc | apply pw_below_drewN | apply below_drew1 | refine below_set ?_ GE269.out | refine below_set ?_ GE275.out) | exact HB.out)) hb); clear HO_3; clear BK269; clear BK275; clear HB; have HO_3 := n0_; have BK269 := n1_; have BK275 := n2_; have HB := n3_; clear n0_ n1_ n2_ n3_; (try clear hb); (try clear hb2); (try clear hk); (try clear hi)) | (go_at_call 26; (with_reducible refine (mezzotintref01_Same.calls kj32 _ _ y261 _ _ l0 true _ ?side1 ?side2 ?side3 ?side4 A40.out).mono ?_); (case side1 => repeat (first | exact (Kd.R_reads' HO_3.out).2.2 | (with_reducible refine Kd.C_alloc ?_ _) | (with_reducible refine Kd.C_drewN ?_ _) | (with_reducible refine Kd.C_drew ?_))); (case side2 => exact (Kd.R_reads' HO_3.out).2.1); (case side3 => repeat (first | exact (Kd.C_below HR0.out HB.out) | (with_reducible refine Kd.C_alloc ?_ _) | (with_reducible refine Kd.C_drewN ?_ _) | (with_reducible refine Kd.C_drew ?_))); (case side4 => exact HC0.out); rintro e w' ⟨rfl, ⟨nd, rfl⟩⟩))
               go_ret
               exact ⟨by first | rfl | (simp [errW_none, errW_some] <;> rfl) | (simp [*, errW_none, errW_some] <;> rfl), by repeat (first | (with_reducible first | exact HB.out | apply below_alloc | apply pw_below_drewN | apply below_drew1 | refine below_set ?_ GE269.out | refine below_set ?_ GE275.out) | exact HB.out)⟩
              ·as_aux_lemma =>
               rw [if_neg c42] at H
               have c42b0 : (t268 == 0) = false := beq_eq_false_iff_ne.mpr c42
               have c42b1 : (t268 != 0) = true := bne_iff_ne.mpr c42
               obtain rfl := Option.some.inj H
               go_wp2_with (first | ((with_reducible refine gate_callee (f := 23) rfl ?_); refine goesL_ (some 59) rfl rfl Tryd.func23 (by kernel_rfl) rfl #[] rfl (by (try simp only [List.map_toArray, List.map_cons, List.map_nil]); first | done | rfl | (simp only [List.length_drop, List.length_take]; rfl)) ?_; (with_reducible refine (mezzotintlaw04_answers.calls  true _ A38.out).mono ?_); rintro e w44 ⟨rfl, hb⟩; refine ⟨_, rfl, ?_⟩; have n0_ := Aside0.mk (Kd.R_below (by (with_reducible repeat (first | apply Kd.R_alloc | apply Kd.R_drewN | apply Kd.R_drew)); exact HO_3.out) hb); have n1_ := Aside0.mk (blk_below (g := gb269) (o := .cells #[.int .i64 t264, .int .i64 t265, .string t266] 27 (0, 0)) (by (with_reducible repeat (first | refine blk_drewN ?_ _ | refine blk_drew ?_ | refine blk_alloc ?_ _)); exact BK269.out) hb); have n2_ := Aside0.mk (blk_below (g := gb275) (o := .cells #[.int .i64 t270, .int .i64 t271, .string t272] 27 (0, 0)) (by (with_reducible repeat (first | refine blk_drewN ?_ _ | refine blk_drew ?_ | refine blk_alloc ?_ _)); exact BK275.out) hb); have n3_ := Aside0.mk (below_step (by repeat (first | (with_reducible first | exact HB.out | apply below_alloc | apply pw_below_drewN | apply below_drew1 | refine below_set ?_ GE269.out | refine below_set ?_ GE275.out) | exact HB.out)) hb); clear HO_3; clear BK269; clear BK275; clear HB; have HO_3 := n0_; have BK269 := n1_; have BK275 := n2_; have HB := n3_; clear n0_ n1_ n2_ n3_; (try clear hb); (try clear hb2); (try clear hk); (try clear hi)) | (go_at_call 26; (with_reducible refine (mezzotintref01_Same.calls kj32 _ _ y261 _ _ l0 true _ ?side1 ?side2 ?side3 ?side4 A40.out).mono ?_); (case side1 => repeat (first | exact (Kd.R_reads' HO_3.out).2.2 | (with_reducible refine Kd.C_alloc ?_ _) | (with_reducible refine Kd.C_drewN ?_ _) | (with_reducible refine Kd.C_drew ?_))); (case side2 => exact (Kd.R_reads' HO_3.out).2.1); (case side3 => repeat (first | exact (Kd.C_below HR0.out HB.out) | (with_reducible refine Kd.C_alloc ?_ _) | (with_reducible refine Kd.C_drewN ?_ _) | (with_reducible refine Kd.C_drew ?_))); (case side4 => exact HC0.out); rintro e w' ⟨rfl, ⟨nd, rfl⟩⟩))
               go_ret
               exact ⟨by first | rfl | (simp [errW_none, errW_some] <;> rfl) | (simp [*, errW_none, errW_some] <;> rfl), by repeat (first | (with_reducible first | exact HB.out | apply below_alloc | apply pw_below_drewN | apply below_drew1 | refine below_set ?_ GE269.out | refine below_set ?_ GE275.out) | exact HB.out)⟩
             ·replace c41 := Bool.eq_false_iff.mpr c41
              subst c41
              have H1 : (some false) = some r := by rw [if_neg (show ¬ (false = true) by decide)] at H; exact H
              clear H
              have H := H1
              clear H1
              obtain rfl := Option.some.inj H
              go_wp2_with (first | ((with_reducible refine gate_callee (f := 23) rfl ?_); refine goesL_ (some 59) rfl rfl Tryd.func23 (by kernel_rfl) rfl #[] rfl (by (try simp only [List.map_toArray, List.map_cons, List.map_nil]); first | done | rfl | (simp only [List.length_drop, List.length_take]; rfl)) ?_; (with_reducible refine (mezzotintlaw04_answers.calls  true _ A38.out).mono ?_); rintro e w45 ⟨rfl, hb⟩; refine ⟨_, rfl, ?_⟩; have n0_ := Aside0.mk (Kd.R_below (by (with_reducible repeat (first | apply Kd.R_alloc | apply Kd.R_drewN | apply Kd.R_drew)); exact HO_3.out) hb); have n1_ := Aside0.mk (blk_below (g := gb269) (o := .cells #[.int .i64 t264, .int .i64 t265, .string t266] 27 (0, 0)) (by (with_reducible repeat (first | refine blk_drewN ?_ _ | refine blk_drew ?_ | refine blk_alloc ?_ _)); exact BK269.out) hb); have n2_ := Aside0.mk (blk_below (g := gb275) (o := .cells #[.int .i64 t270, .int .i64 t271, .string t272] 27 (0, 0)) (by (with_reducible repeat (first | refine blk_drewN ?_ _ | refine blk_drew ?_ | refine blk_alloc ?_ _)); exact BK275.out) hb); have n3_ := Aside0.mk (below_step (by repeat (first | (with_reducible first | exact HB.out | apply below_alloc | apply pw_below_drewN | apply below_drew1 | refine below_set ?_ GE269.out | refine below_set ?_ GE275.out) | exact HB.out)) hb); clear HO_3; clear BK269; clear BK275; clear HB; have HO_3 := n0_; have BK269 := n1_; have BK275 := n2_; have HB := n3_; clear n0_ n1_ n2_ n3_; (try clear hb); (try clear hb2); (try clear hk); (try clear hi)) | (go_at_call 26; (with_reducible refine (mezzotintref01_Same.calls kj32 _ _ y261 _ _ l0 false _ ?side1 ?side2 ?side3 ?side4 A40.out).mono ?_); (case side1 => repeat (first | exact (Kd.R_reads' HO_3.out).2.2 | (with_reducible refine Kd.C_alloc ?_ _) | (with_reducible refine Kd.C_drewN ?_ _) | (with_reducible refine Kd.C_drew ?_))); (case side2 => exact (Kd.R_reads' HO_3.out).2.1); (case side3 => repeat (first | exact (Kd.C_below HR0.out HB.out) | (with_reducible refine Kd.C_alloc ?_ _) | (with_reducible refine Kd.C_drewN ?_ _) | (with_reducible refine Kd.C_drew ?_))); (case side4 => exact HC0.out); rintro e w' ⟨rfl, ⟨nd, rfl⟩⟩))
              go_ret
              exact ⟨by first | rfl | (simp [errW_none, errW_some] <;> rfl) | (simp [*, errW_none, errW_some] <;> rfl), by repeat (first | (with_reducible first | exact HB.out | apply below_alloc | apply pw_below_drewN | apply below_drew1 | refine below_set ?_ GE269.out | refine below_set ?_ GE275.out) | exact HB.out)⟩
            ·replace c39 := Bool.eq_false_iff.mpr c39
             subst c39
             have H1 : (some false) = some r := by rw [if_neg (show ¬ (false = true) by decide)] at H; exact H
             clear H
             have H := H1
             clear H1
             obtain rfl := Option.some.inj H
             go_wp2_with (first | ((with_reducible refine gate_callee (f := 23) rfl ?_); refine goesL_ (some 59) rfl rfl Tryd.func23 (by kernel_rfl) rfl #[] rfl (by (try simp only [List.map_toArray, List.map_cons, List.map_nil]); first | done | rfl | (simp only [List.length_drop, List.length_take]; rfl)) ?_; (with_reducible refine (mezzotintlaw04_answers.calls  false _ A38.out).mono ?_); rintro e w46 ⟨rfl, hb⟩; refine ⟨_, rfl, ?_⟩; have n0_ := Aside0.mk (Kd.R_below (by (with_reducible repeat (first | apply Kd.R_alloc | apply Kd.R_drewN | apply Kd.R_drew)); exact HO_3.out) hb); have n1_ := Aside0.mk (blk_below (g := gb269) (o := .cells #[.int .i64 t264, .int .i64 t265, .string t266] 27 (0, 0)) (by (with_reducible repeat (first | refine blk_drewN ?_ _ | refine blk_drew ?_ | refine blk_alloc ?_ _)); exact BK269.out) hb); have n2_ := Aside0.mk (blk_below (g := gb275) (o := .cells #[.int .i64 t270, .int .i64 t271, .string t272] 27 (0, 0)) (by (with_reducible repeat (first | refine blk_drewN ?_ _ | refine blk_drew ?_ | refine blk_alloc ?_ _)); exact BK275.out) hb); have n3_ := Aside0.mk (below_step (by repeat (first | (with_reducible first | exact HB.out | apply below_alloc | apply pw_below_drewN | apply below_drew1 | refine below_set ?_ GE269.out | refine below_set ?_ GE275.out) | exact HB.out)) hb); clear HO_3; clear BK269; clear BK275; clear HB; have HO_3 := n0_; have BK269 := n1_; have BK275 := n2_; have HB := n3_; clear n0_ n1_ n2_ n3_; (try clear hb); (try clear hb2); (try clear hk); (try clear hi)))
             go_ret
             exact ⟨by first | rfl | (simp [errW_none, errW_some] <;> rfl) | (simp [*, errW_none, errW_some] <;> rfl), by repeat (first | (with_reducible first | exact HB.out | apply below_alloc | apply pw_below_drewN | apply below_drew1 | refine below_set ?_ GE269.out | refine below_set ?_ GE275.out) | exact HB.out)⟩
           ·replace c37 := Bool.eq_false_iff.mpr c37
            subst c37
            have H1 : (if t267 ≤ x4_1 then (some false) else (mezzotintlaw04_ScanAll.l0 kj32 l0 y261 t267 (wrap64 (x5_1 + 1)))) = some r := by rw [if_neg (show ¬ (false = true) by decide)] at H; exact H
            clear H
            have H := H1
            clear H1
            by_cases c47 : t267 ≤ x4_1
            ·as_aux_lemma =>
             rw [if_pos c47] at H
             have c47b0 : decide (t267 ≤ x4_1) = true := decide_eq_true c47
             clear c47
             obtain rfl := Option.some.inj H
             go_wp2
             go_ret
             exact ⟨by first | rfl | (simp [errW_none, errW_some] <;> rfl) | (simp [*, errW_none, errW_some] <;> rfl), by repeat (first | (with_reducible first | exact HB.out | apply below_alloc | apply pw_below_drewN | apply below_drew1 | refine below_set ?_ GE269.out | refine below_set ?_ GE275.out) | exact HB.out)⟩
            ·as_aux_lemma =>
             rw [if_neg c47] at H
             have c47b0 : decide (t267 ≤ x4_1) = false := decide_eq_false c47
             clear c47
             have H' := Aside0.mk H
             clear H
             go_wp2
             go_roundg kj32
             case measure => have := HK1.out; have := HJ11.out; have := HJ32.out; omega
             case rel => exact ⟨(t267), (wrap64 (x5_1 + 1)), (by first | rfl | (simp; done) | (simp [*]; done)), (by first | rfl | (simp; done) | (simp [*]; done)), H', ⟨by have := HK1.out; have := HJ11.out; have := HJ32.out; omega⟩, ⟨by (with_reducible repeat (first | apply Kd.R_alloc | apply Kd.R_drewN | apply Kd.R_drew)); exact HO_3.out⟩, ⟨by repeat (first | (with_reducible first | exact HB.out | apply below_alloc | apply pw_below_drewN | apply below_drew1 | refine below_set ?_ GE269.out | refine below_set ?_ GE275.out) | exact HB.out)⟩⟩
     ·as_aux_lemma =>
      rw [if_neg c9] at H
      have c9b0 : decide (x5_1 ≤ (l0.length : Int)) = false := decide_eq_false c9
      clear c9
      obtain rfl := Option.some.inj H
      go_wp2
      go_ret
      exact ⟨by first | rfl | (simp [errW_none, errW_some] <;> rfl) | (simp [*, errW_none, errW_some] <;> rfl), by repeat (first | (with_reducible first | exact HB.out | apply below_alloc | apply pw_below_drewN | apply below_drew1) | exact HB.out)⟩
  ·as_aux_lemma =>
   rw [if_neg c5] at H
   exact absurd H (by simp)

/-- THE ONE PURE STATEMENT of mezzotintlaw04_ScanAll: yours. -/
def mezzotintlaw04_ScanAll.Pure : Prop := ∀ (l0 : List Int), l0.length ≤ maxLen → l0.length * 1 ≤ 140737488351232 → (∀ x ∈ l0, (Lit.int .u8 x).wf = true) → ∃ k, mezzotintlaw04_ScanAll.f k l0 = some true
theorem mezzotintlaw04_ScanAll.walk (P : mezzotintlaw04_ScanAll.Pure) (a0 : Option Addr) (len0 cap0 : Nat) (z0 : List Int) (w : World) (w0 : (a0 = none ∧ len0 = 0 ∧ cap0 = 0 ∧ z0 = []) ∨ ∃ x, a0 = some x ∧ len0 ≤ cap0 ∧ cap0 ≤ maxLen ∧ z0.length = cap0 ∧ (∀ i, i < z0.length → w.cell? (x.add i) = some (.int .u8 (z0.getD i 0))) ∧ ∀ n ∈ z0, (Lit.int .u8 n).wf = true) (y0 : len0 * 1 ≤ 140737488351232) :
  Calls Tryd.prog 9 #[.slice a0 len0 cap0] w fun e w' => e = .returned (.bool true) ∧ Below w.heap.size w w' := by
 obtain ⟨l0, rfl, hr0, hm0, hw0, hc0⟩ := ReadsInt.ofRowC w0
 obtain ⟨k, h⟩ := P l0 hm0 y0 hw0
 refine (mezzotintlaw04_ScanAll.calls k _ _ l0 true w (Kd.C_of_reads (d := (0 : Int)) (h1 := fun _ => rfl) hr0) hc0 h).mono ?_
 rintro e w' ⟨rfl, hd⟩
 exact ⟨rfl, hd⟩

end Go.Proofs.YtiocgpfnbmlfaaaDoor.PN

/-! ## NA -/
namespace Go.Proofs.YtiocgpfnbmlfaaaDoor.QN
open Go Go.RowKit Go.Proofs.YtiocgpfnbmlfaaaDoor Go.Proofs.YtiocgpfnbmlfaaaDoor.PN Go.Proofs.YtiocgpfnbmlfaaaDoor.QD Go.Proofs.YtiocgpfnbmlfaaaDoor.SC Go.Proofs.YtiocgpfnbmlfaaaDoorW.PrintWords Go.Proofs.YtiocgpfnbmlfaaaDoorW.PrintLast

/-! ### places -/
/-- where a rest begins -/
def P (B s : List UInt8) : Int := ((B.length - s.length : Nat) : Int)
section
variable {B s t : List UInt8} {c : UInt8}
theorem P_ge (B s : List UInt8) : 0 ≤ P B s := by unfold P; omega
theorem P_nil (B : List UInt8) : P B [] = (B.length : Int) := by simp [P]
theorem P_cons (h : (c :: t) <:+ B) : P B t = P B (c :: t) + 1 ∧ P B (c :: t) < (B.length : Int) ∧ rd (bI B) (P B (c :: t)) = (c.toNat : Int) := by
  obtain ⟨a, ha⟩ := h
  have e1 : P B (c :: t) = (a.length : Int) := by rw [← ha]; simp [P]
  have e2 : P B t = (a.length : Int) + 1 := by rw [← ha]; simp [P]; omega
  refine ⟨by rw [e1, e2], by rw [e1, ← ha]; simp; omega, ?_⟩
  rw [e1, ← ha]
  unfold rd bI
  rw [Int.toNat_natCast]
  simp [List.getD]
theorem suf_tail (h : (c :: t) <:+ B) : t <:+ B := (List.suffix_cons c t).trans h
theorem P_le (B s : List UInt8) : P B s ≤ (B.length : Int) := by unfold P; omega
end

/-! ### bytes -/
theorem rblank_fin : ∀ c : Fin 256, mezzotintref04_Blank.f (c.val : Int) = some (blankN c.val) := by decide +kernel
theorem rreg_fin : ∀ c : Fin 256, mezzotintref04_Regular.f (c.val : Int) = some (regN c.val) := by decide +kernel
theorem rhex_fin : ∀ c : Fin 256, mezzotintref01_Hex.f 5 (c.val : Int) = some (digV c.val : Int) := by decide +kernel
theorem hexdig_fin : ∀ c : Fin 256, (hexN c.val < 0 ∧ 15 < digV c.val) ∨ (0 ≤ hexN c.val ∧ digV c.val ≤ 15 ∧ hexN c.val = (digV c.val : Int)) := by decide +kernel
theorem rblank (c : UInt8) : mezzotintref04_Blank.f (c.toNat : Int) = some (blankB c) := rblank_fin ⟨c.toNat, c.toNat_lt⟩
theorem rreg (c : UInt8) : mezzotintref04_Regular.f (c.toNat : Int) = some (regB c) := rreg_fin ⟨c.toNat, c.toNat_lt⟩
theorem rhex (c : UInt8) : Ev (fun k => mezzotintref01_Hex.f k (c.toNat : Int)) (digV c.toNat : Int) := Ev.of (fun k => mezzotintref01_Hex.mono _ k) (rhex_fin ⟨c.toNat, c.toNat_lt⟩)
theorem hexdig (c : UInt8) : (hexI c < 0 ∧ 15 < digV c.toNat) ∨ (0 ≤ hexI c ∧ digV c.toNat ≤ 15 ∧ hexI c = (digV c.toNat : Int)) := hexdig_fin ⟨c.toNat, c.toNat_lt⟩
theorem byte_eq (c v : UInt8) (z : Int) (hz : z = (v.toNat : Int)) : ((c.toNat : Int) = z) ↔ c = v := by
  subst hz
  rw [← UInt8.toNat_inj]
  omega
theorem end_iff (c : UInt8) : endB c = true ↔ (c = 10 ∨ c = 12 ∨ c = 13) := by
  unfold endB endN
  simp only [Bool.or_eq_true, beq_iff_eq]
  have h10 := byte_eq c 10 10 (by decide)
  have h12 := byte_eq c 12 12 (by decide)
  have h13 := byte_eq c 13 13 (by decide)
  constructor
  · rintro ((h | h) | h)
    · exact .inl (h10.1 (by omega))
    · exact .inr (.inl (h12.1 (by omega)))
    · exact .inr (.inr (h13.1 (by omega)))
  · rintro (rfl | rfl | rfl) <;> decide

/-! ### blanks and comments, words -/
theorem Skip_ev (B : List UInt8) (hB : B.length ≤ 1000000) : ∀ s : List UInt8, s <:+ B →
    Ev (fun r => mezzotintref04_Skip.l0 r (bI B) (P B s)) (P B (skipL false s)) ∧ Ev (fun r => mezzotintref04_Skip.l1 r (bI B) (P B s)) (P B (skipL true s)) := by
  intro s
  induction s with
  | nil =>
    intro _
    have h0 : Ev (fun r => mezzotintref04_Skip.l0 r (bI B) (P B [])) (P B (skipL false [])) := by
      refine Ev.step (f := fun _ => some (P B [])) (fun r => ?_) (Ev.now _)
      rw [mezzotintref04_Skip.l0, if_neg (by rw [bI_len, P_nil]; omega)]
    refine ⟨h0, Ev.step (fun r => ?_) h0⟩
    rw [mezzotintref04_Skip.l1, if_neg (by rw [bI_len, P_nil]; omega)]
  | cons c t ih =>
    intro hs
    obtain ⟨i0, i1⟩ := ih (suf_tail hs)
    obtain ⟨p1, p2, p3⟩ := P_cons hs
    have p0 := P_ge B (c :: t)
    have hw : wrap64 (P B (c :: t) + 1) = P B t := by rw [p1, w64 _ (by omega) (by omega)]
    have b37 := byte_eq c 37 37 (by decide)
    have l1c : ¬ endB c = true → Ev (fun r => mezzotintref04_Skip.l1 r (bI B) (P B (c :: t))) (P B (skipL true t)) := by
      intro he
      rw [end_iff] at he
      refine Ev.step (fun r => ?_) i1
      rw [mezzotintref04_Skip.l1, if_pos (by rw [bI_len]; exact p2), if_pos p0, p3, if_neg (fun h => he (.inl ((byte_eq c 10 10 (by decide)).1 h))), if_neg (fun h => he (.inr (.inr ((byte_eq c 13 13 (by decide)).1 h)))), if_neg (fun h => he (.inr (.inl ((byte_eq c 12 12 (by decide)).1 h)))), hw]
    have l0blank : blankB c = true → ¬ c = 37 → Ev (fun r => mezzotintref04_Skip.l0 r (bI B) (P B (c :: t))) (P B (skipL false t)) := by
      intro hb h37
      refine Ev.step (fun r => ?_) i0
      rw [mezzotintref04_Skip.l0, if_pos (by rw [bI_len]; exact p2), if_pos p0, p3, if_neg (fun h => h37 (b37.1 h)), rblank, hb, Option.bind_some, if_pos rfl, hw]
    refine ⟨?_, ?_⟩
    · by_cases hb : blankB c = true
      · have h37 : ¬ c = 37 := fun e => by rw [e] at hb; revert hb; decide
        rw [skipL, if_pos hb]
        exact l0blank hb h37
      · by_cases h37 : c = 37
        · rw [skipL, if_neg hb, if_pos h37]
          refine Ev.step (fun r => ?_) (l1c (by rw [h37]; decide))
          rw [mezzotintref04_Skip.l0, if_pos (by rw [bI_len]; exact p2), if_pos p0, p3, if_pos (b37.2 h37)]
        · rw [skipL, if_neg hb, if_neg h37]
          refine Ev.step (f := fun _ => some (P B (c :: t))) (fun r => ?_) (Ev.now _)
          rw [mezzotintref04_Skip.l0, if_pos (by rw [bI_len]; exact p2), if_pos p0, p3, if_neg (fun h => h37 (b37.1 h)), rblank, Option.bind_some, if_neg hb]
    · by_cases he : endB c = true
      · rw [skipL, he]
        have h37 : ¬ c = 37 := fun e => by rw [e] at he; revert he; decide
        refine Ev.step (fun r => ?_) (l0blank (end_blank c he) h37)
        rw [mezzotintref04_Skip.l1, if_pos (by rw [bI_len]; exact p2), if_pos p0, p3]
        rcases (end_iff c).1 he with rfl | rfl | rfl
        · rw [if_pos (by decide)]
        · rw [if_neg (by decide), if_neg (by decide), if_pos (by decide)]
        · rw [if_neg (by decide), if_pos (by decide)]
      · rw [skipL, show (!endB c) = true from by simp [he]]
        exact l1c he

theorem Word_ev (B : List UInt8) (hB : B.length ≤ 1000000) : ∀ s : List UInt8, s <:+ B → Ev (fun r => mezzotintref04_Word.f r (bI B) (P B s)) (P B (s.dropWhile regB)) := by
  intro s
  induction s with
  | nil =>
    intro _
    refine Ev.step (f := fun _ => some (P B [])) (fun r => ?_) (Ev.now _)
    rw [mezzotintref04_Word.f, mezzotintref04_Word.l0, if_neg (by rw [bI_len, P_nil]; omega)]
  | cons c t ih =>
    intro hs
    obtain ⟨p1, p2, p3⟩ := P_cons hs
    have p0 := P_ge B (c :: t)
    have hw : wrap64 (P B (c :: t) + 1) = P B t := by rw [p1, w64 _ (by omega) (by omega)]
    rw [List.dropWhile_cons]
    by_cases hr : regB c = true
    · rw [if_pos hr]
      refine Ev.step (fun r => ?_) (ih (suf_tail hs))
      rw [mezzotintref04_Word.f, mezzotintref04_Word.l0, if_pos (by rw [bI_len]; exact p2), if_pos p0, p3, rreg, hr, Option.bind_some, if_pos rfl, hw]
      rfl
    · rw [if_neg hr]
      refine Ev.step (f := fun _ => some (P B (c :: t))) (fun r => ?_) (Ev.now _)
      rw [mezzotintref04_Word.f, mezzotintref04_Word.l0, if_pos (by rw [bI_len]; exact p2), if_pos p0, p3, rreg, Option.bind_some, if_neg hr]

end Go.Proofs.YtiocgpfnbmlfaaaDoor.QN

/-! ## NB -/
namespace Go.Proofs.YtiocgpfnbmlfaaaDoor.QN
open Go Go.RowKit Go.Proofs.YtiocgpfnbmlfaaaDoor Go.Proofs.YtiocgpfnbmlfaaaDoor.PN Go.Proofs.YtiocgpfnbmlfaaaDoor.QD Go.Proofs.YtiocgpfnbmlfaaaDoor.SC Go.Proofs.YtiocgpfnbmlfaaaDoorW.PrintWords Go.Proofs.YtiocgpfnbmlfaaaDoorW.PrintLast

theorem bI_snoc (xs : List UInt8) (c : UInt8) (z : Int) (hz : z = (c.toNat : Int)) : bI xs ++ [z] = bI (xs ++ [c]) := by subst hz; simp [bI]
theorem dropLF_suf {B t : List UInt8} (h : t <:+ B) : dropLF t <:+ B := by
  cases t with
  | nil => exact h
  | cons c u => rw [dropLF]; split
                · exact suf_tail h
                · exact h
theorem oct_suf (B : List UInt8) : ∀ (k n : Nat) (t : List UInt8), t <:+ B → (octL k n t).2 <:+ B
  | 0, n, t, h => h
  | k + 1, n, [], h => h
  | k + 1, n, d :: t, h => by
    rw [octL]
    split
    · exact oct_suf B k _ t (suf_tail h)
    · exact h
theorem esc_suf {B t : List UInt8} (c : UInt8) (h : t <:+ B) : (escL c t).2 <:+ B := by
  have h1 := dropLF_suf h
  have h2 := oct_suf B 2 (c.toNat - 48) t h
  unfold escL
  repeat' split
  all_goals first | exact h | exact h1 | exact h2

/-- the reference's answer for a string in round brackets -/
def RR (B xs : List UInt8) (r : Option (List UInt8 × List UInt8)) : List Int × Int × Int :=
  match r with
  | none => ([], 0, 14)
  | some (o, s) => (bI (xs ++ o), P B s, 0)
theorem RR_map (B xs ys : List UInt8) (r : Option (List UInt8 × List UInt8)) : RR B xs (r.map fun p => (ys ++ p.1, p.2)) = RR B (xs ++ ys) r := by
  cases r with
  | none => rfl
  | some p => simp [RR]

/-- what the reference's loop does where a rest stands -/
def RoundAt (B : List UInt8) (n : Nat) : Prop := ∀ (s xs : List UInt8) (d : Nat), s.length ≤ n → s <:+ B → 1 ≤ d → d + s.length ≤ 1000000 → xs.length + s.length ≤ 1000000 →
  Ev (fun r => mezzotintref04_Round.l0 r (bI B) (bI xs) (d : Int) (P B s)) (RR B xs (rnd d s))

section
variable {B : List UInt8} {n : Nat}
/-- a byte is put, and the loop goes on -/
theorem put_ev (ih : RoundAt B n) (t xs : List UInt8) (d : Nat) (c : UInt8) (z : Int) (hz : z = (c.toNat : Int)) (h1 : t.length ≤ n) (h2 : t <:+ B) (h3 : 1 ≤ d) (h4 : d + t.length ≤ 1000000) (h5 : xs.length + 1 + t.length ≤ 1000000) :
    Ev (fun r => if (bI xs).length < 140737488355328 then mezzotintref04_Round.l0 r (bI B) (bI xs ++ [z]) (d : Int) (P B t) else none) (RR B (xs ++ [c]) (rnd d t)) := by
  refine Ev.congr (fun r => ?_) (ih t (xs ++ [c]) d h1 h2 h3 h4 (by simp; omega))
  rw [if_pos (by rw [bI_len]; omega), bI_snoc xs c z hz]
theorem put3_ev (ih : RoundAt B n) (t xs : List UInt8) (d : Nat) (c : UInt8) (z : Int) (hz : z = (c.toNat : Int)) (hne : c ≠ 92) (h1 : t.length ≤ n) (h2 : t <:+ B) (h3 : 1 ≤ d) (h4 : d + t.length ≤ 1000000) (h5 : xs.length + 1 + t.length ≤ 1000000) :
    Ev (fun r => mezzotintref04_Round.j3 r (bI B) (bI xs) (d : Int) (P B t) z) (RR B (xs ++ [c]) (rnd d t)) := by
  refine Ev.step (fun r => ?_) (put_ev ih t xs d c z hz h1 h2 h3 h4 h5)
  rw [mezzotintref04_Round.j3, if_neg (fun h => hne ((byte_eq c 92 92 (by decide)).1 (by omega)))]
/-- the octal digits -/
theorem oct_ev (ih : RoundAt B n) (hB : B.length ≤ 100000) (xs : List UInt8) (d : Nat) (h3 : 1 ≤ d) : ∀ (q k N : Nat) (t : List UInt8), k + q = 2 → N < 8 ^ (k + 1) → t.length ≤ n → t <:+ B → d + t.length ≤ 1000000 → xs.length + 1 + t.length ≤ 1000000 →
    Ev (fun r => mezzotintref04_Round.l1 r (bI B) (bI xs) (d : Int) (P B t) (N : Int) (k : Int)) (RR B (xs ++ (octL q N t).1) (rnd d (octL q N t).2)) := by
  intro q
  induction q with
  | zero =>
    intro k N t hk hN h1 h2 h4 h5
    have hN2 : N < 512 := by
      have : 8 ^ (k + 1) ≤ 8 ^ 3 := Nat.pow_le_pow_right (by omega) (by omega)
      omega
    refine Ev.step (fun r => ?_) (put_ev ih t xs d (UInt8.ofNat N) ((Int.tmod (N : Int) 256) % 256) (by rw [UInt8.toNat_ofNat', tm _ _ (by omega)]; omega) h1 h2 h3 h4 h5)
    rw [mezzotintref04_Round.l1, if_neg (by omega)]
  | succ q ihq =>
    intro k N t hk hN h1 h2 h4 h5
    have hN2 : N < 512 := by
      have : 8 ^ (k + 1) ≤ 8 ^ 3 := Nat.pow_le_pow_right (by omega) (by omega)
      omega
    have hput := put_ev ih t xs d (UInt8.ofNat N) ((Int.tmod (N : Int) 256) % 256) (by rw [UInt8.toNat_ofNat', tm _ _ (by omega)]; omega) h1 h2 h3 h4 h5
    cases t with
    | nil =>
      refine Ev.step (fun r => ?_) hput
      rw [mezzotintref04_Round.l1, if_pos (by omega), if_neg (by rw [bI_len, P_nil]; omega)]
    | cons c u =>
      obtain ⟨p1, p2, p3⟩ := P_cons h2
      have p0 := P_ge B (c :: u)
      have hw : wrap64 (P B (c :: u) + 1) = P B u := by rw [p1, w64 _ (by omega) (by omega)]
      by_cases ho : isOct c = true
      · have hoc : 48 ≤ c.toNat ∧ c.toNat ≤ 55 := by unfold isOct at ho; simpa using ho
        have hp : 8 ^ (k + 1 + 1) = 8 ^ (k + 1) * 8 := Nat.pow_succ ..
        have := ihq (k + 1) (8 * N + (c.toNat - 48)) u (by omega) (by omega) (by simp only [List.length_cons] at h1; omega) (suf_tail h2) (by simp only [List.length_cons] at h4; omega) (by simp only [List.length_cons] at h5; omega)
        rw [octL, if_pos ho]
        refine Ev.step (fun r => ?_) this
        rw [mezzotintref04_Round.l1, if_pos (by omega), if_pos (by rw [bI_len]; exact p2), if_pos p0, p3, if_pos (by omega), if_pos (by omega), hw, w64 ((N : Int) * 8) (by omega) (by omega), w64 _ (by omega) (by omega), w64 _ (by omega) (by omega)]
        rw [show ((N : Int) * 8 + ((c.toNat : Int) - 48) % 256) = ((8 * N + (c.toNat - 48) : Nat) : Int) from by omega, show ((k : Int) + 1) = ((k + 1 : Nat) : Int) from by omega]
      · have hoc : ¬ (48 ≤ c.toNat ∧ c.toNat ≤ 55) := fun h => ho (by unfold isOct; rw [decide_eq_true h.1, decide_eq_true h.2]; rfl)
        rw [octL, if_neg ho]
        refine Ev.step (fun r => ?_) hput
        rw [mezzotintref04_Round.l1, if_pos (by omega), if_pos (by rw [bI_len]; exact p2), if_pos p0, p3]
        by_cases h48 : 48 ≤ c.toNat
        · rw [if_pos (by omega), if_neg (by omega)]
        · rw [if_neg (by omega)]

/-- behind a backslash -/
theorem esc_ev (ih : RoundAt B n) (hB : B.length ≤ 100000) (xs : List UInt8) (d : Nat) (h3 : 1 ≤ d) (e : UInt8) (u : List UInt8) (h1 : u.length ≤ n) (h2 : (e :: u) <:+ B) (h4 : d + u.length ≤ 1000000) (h5 : xs.length + 1 + u.length ≤ 1000000) :
    Ev (fun r => mezzotintref04_Round.j3 r (bI B) (bI xs) (d : Int) (P B (e :: u)) 92) (RR B (xs ++ (escL e u).1) (rnd d (escL e u).2)) := by
  obtain ⟨p1, p2, p3⟩ := P_cons h2
  have p0 := P_ge B (e :: u)
  have hw : wrap64 (P B (e :: u) + 1) = P B u := by rw [p1, w64 _ (by omega) (by omega)]
  have hu := suf_tail h2
  have hj : ∀ r, mezzotintref04_Round.j3 (r + 1) (bI B) (bI xs) (d : Int) (P B (e :: u)) 92 = _ := fun r => by
    rw [mezzotintref04_Round.j3, if_pos rfl, if_neg (by rw [bI_len]; omega), if_pos p0, if_pos (by rw [bI_len]; exact p2), p3, hw]
  have b110 := byte_eq e 110 110 (by decide)
  have b114 := byte_eq e 114 114 (by decide)
  have b116 := byte_eq e 116 116 (by decide)
  have b98 := byte_eq e 98 98 (by decide)
  have b102 := byte_eq e 102 102 (by decide)
  have b10 := byte_eq e 10 10 (by decide)
  have b13 := byte_eq e 13 13 (by decide)
  unfold escL
  by_cases c1 : e = 110
  · rw [if_pos c1]
    refine Ev.step (fun r => ?_) (put_ev ih u xs d 10 10 (by decide) h1 hu h3 h4 h5)
    rw [hj, if_pos (b110.2 c1)]
  by_cases c2 : e = 114
  · rw [if_neg c1, if_pos c2]
    refine Ev.step (fun r => ?_) (put_ev ih u xs d 13 13 (by decide) h1 hu h3 h4 h5)
    rw [hj, if_neg (fun h => c1 (b110.1 h)), if_pos (b114.2 c2)]
  by_cases c3 : e = 116
  · rw [if_neg c1, if_neg c2, if_pos c3]
    refine Ev.step (fun r => ?_) (put_ev ih u xs d 9 9 (by decide) h1 hu h3 h4 h5)
    rw [hj, if_neg (fun h => c1 (b110.1 h)), if_neg (fun h => c2 (b114.1 h)), if_pos (b116.2 c3)]
  by_cases c4 : e = 98
  · rw [if_neg c1, if_neg c2, if_neg c3, if_pos c4]
    refine Ev.step (fun r => ?_) (put_ev ih u xs d 8 8 (by decide) h1 hu h3 h4 h5)
    rw [hj, if_neg (fun h => c1 (b110.1 h)), if_neg (fun h => c2 (b114.1 h)), if_neg (fun h => c3 (b116.1 h)), if_pos (b98.2 c4)]
  by_cases c5 : e = 102
  · rw [if_neg c1, if_neg c2, if_neg c3, if_neg c4, if_pos c5]
    refine Ev.step (fun r => ?_) (put_ev ih u xs d 12 12 (by decide) h1 hu h3 h4 h5)
    rw [hj, if_neg (fun h => c1 (b110.1 h)), if_neg (fun h => c2 (b114.1 h)), if_neg (fun h => c3 (b116.1 h)), if_neg (fun h => c4 (b98.1 h)), if_pos (b102.2 c5)]
  by_cases c6 : e = 10
  · rw [if_neg c1, if_neg c2, if_neg c3, if_neg c4, if_neg c5, if_pos c6, List.append_nil]
    refine Ev.step (fun r => ?_) (ih u xs d h1 hu h3 h4 (by omega))
    rw [hj, if_neg (fun h => c1 (b110.1 h)), if_neg (fun h => c2 (b114.1 h)), if_neg (fun h => c3 (b116.1 h)), if_neg (fun h => c4 (b98.1 h)), if_neg (fun h => c5 (b102.1 h)), if_pos (b10.2 c6)]
  by_cases c7 : e = 13
  · rw [if_neg c1, if_neg c2, if_neg c3, if_neg c4, if_neg c5, if_neg c6, if_pos c7, List.append_nil]
    have hl := dropLF_len u
    refine Ev.step (fun r => ?_) (ih (dropLF u) xs d (by omega) (dropLF_suf hu) h3 (by omega) (by omega))
    rw [hj, if_neg (fun h => c1 (b110.1 h)), if_neg (fun h => c2 (b114.1 h)), if_neg (fun h => c3 (b116.1 h)), if_neg (fun h => c4 (b98.1 h)), if_neg (fun h => c5 (b102.1 h)), if_neg (fun h => c6 (b10.1 h)), if_pos (b13.2 c7)]
    cases u with
    | nil => rw [if_neg (by rw [bI_len, P_nil]; omega)]; rfl
    | cons x v =>
      obtain ⟨q1, q2, q3⟩ := P_cons hu
      have q0 := P_ge B (x :: v)
      have hwx : wrap64 (P B (x :: v) + 1) = P B v := by rw [q1, w64 _ (by omega) (by omega)]
      rw [if_pos (by rw [bI_len]; exact q2), if_pos q0, q3, dropLF]
      by_cases hx : x = 10
      · rw [if_pos ((byte_eq x 10 10 (by decide)).2 hx), if_pos hx, hwx]
      · rw [if_neg (fun h => hx ((byte_eq x 10 10 (by decide)).1 h)), if_neg hx]
  rw [if_neg c1, if_neg c2, if_neg c3, if_neg c4, if_neg c5, if_neg c6, if_neg c7]
  have hj4 : ∀ r, mezzotintref04_Round.j3 (r + 1) (bI B) (bI xs) (d : Int) (P B (e :: u)) 92 = mezzotintref04_Round.j4 r (bI B) (bI xs) (d : Int) (P B u) (e.toNat : Int) (isOct e) := by
    intro r
    rw [hj, if_neg (fun h => c1 (b110.1 h)), if_neg (fun h => c2 (b114.1 h)), if_neg (fun h => c3 (b116.1 h)), if_neg (fun h => c4 (b98.1 h)), if_neg (fun h => c5 (b102.1 h)), if_neg (fun h => c6 (b10.1 h)), if_neg (fun h => c7 (b13.1 h))]
    unfold isOct
    by_cases h48 : 48 ≤ e.toNat
    · rw [if_pos (by omega), decide_eq_true h48, Bool.true_and]
      congr 1
      exact decide_eq_decide.2 (by omega)
    · rw [if_neg (by omega), decide_eq_false h48, Bool.false_and]
  by_cases ho : isOct e = true
  · rw [if_pos ho]
    have hoc : 48 ≤ e.toNat ∧ e.toNat ≤ 55 := by unfold isOct at ho; simpa using ho
    refine Ev.step hj4 (Ev.step (fun r => ?_) (oct_ev ih hB xs d h3 2 0 (e.toNat - 48) u rfl (by omega) h1 hu h4 h5))
    rw [mezzotintref04_Round.j4, if_pos ho, show (((e.toNat : Int) - 48) % 256) = ((e.toNat - 48 : Nat) : Int) from by omega]
    rfl
  · rw [if_neg ho]
    refine Ev.step hj4 (Ev.step (fun r => ?_) (put_ev ih u xs d e (e.toNat : Int) rfl h1 hu h3 h4 h5))
    rw [mezzotintref04_Round.j4, if_neg ho]
end

theorem round_at (B : List UInt8) (hB : B.length ≤ 100000) : ∀ n, RoundAt B n := by
  intro n
  induction n with
  | zero =>
    intro s xs d hs _ _ _ _
    obtain rfl : s = [] := List.eq_nil_of_length_eq_zero (by omega)
    rw [rnd_nil]
    refine Ev.step (f := fun _ => some (([] : List Int), (0 : Int), (14 : Int))) (fun r => ?_) (Ev.now _)
    rw [mezzotintref04_Round.l0, if_pos (by rw [bI_len, P_nil]; omega)]
  | succ n ih =>
    intro s xs d hs hsuf hd h4 h5
    cases s with
    | nil =>
      rw [rnd_nil]
      refine Ev.step (f := fun _ => some (([] : List Int), (0 : Int), (14 : Int))) (fun r => ?_) (Ev.now _)
      rw [mezzotintref04_Round.l0, if_pos (by rw [bI_len, P_nil]; omega)]
    | cons c t =>
      obtain ⟨p1, p2, p3⟩ := P_cons hsuf
      have p0 := P_ge B (c :: t)
      have hw : wrap64 (P B (c :: t) + 1) = P B t := by rw [p1, w64 _ (by omega) (by omega)]
      have hu := suf_tail hsuf
      simp only [List.length_cons] at hs h4 h5
      have b40 := byte_eq c 40 40 (by decide)
      have b41 := byte_eq c 41 41 (by decide)
      have b13 := byte_eq c 13 13 (by decide)
      have b92 := byte_eq c 92 92 (by decide)
      -- the loop's head
      have hl0 : ∀ r, mezzotintref04_Round.l0 (r + 1) (bI B) (bI xs) (d : Int) (P B (c :: t)) = mezzotintref04_Round.j1 r (bI B) (bI xs) (if c = 40 then ((d + 1 : Nat) : Int) else (d : Int)) (P B t) (c.toNat : Int) := by
        intro r
        rw [mezzotintref04_Round.l0, if_neg (by rw [bI_len]; omega), if_pos p0, if_pos (by rw [bI_len]; exact p2), p3, hw]
        by_cases h : c = 40
        · rw [if_pos (b40.2 h), if_pos h, w64 _ (by omega) (by omega)]; push_cast; rfl
        · rw [if_neg (fun e => h (b40.1 e)), if_neg h]
      -- no carriage return: on to the last part
      have hj2 : ∀ (dd : Int) r, ¬ c = 13 → mezzotintref04_Round.j2 (r + 1) (bI B) (bI xs) dd (P B t) (c.toNat : Int) = mezzotintref04_Round.j3 r (bI B) (bI xs) dd (P B t) (c.toNat : Int) := by
        intro dd r h
        rw [mezzotintref04_Round.j2, if_neg (fun e => h (b13.1 e))]
      by_cases h41 : c = 41
      · have h40 : ¬ c = 40 := by rw [h41]; decide
        by_cases hd1 : d = 1
        · have hR : RR B xs (rnd d (c :: t)) = (bI xs, P B t, (0 : Int)) := by rw [hd1, h41, rnd_close]; simp [RR]
          rw [hR]
          refine Ev.step hl0 (Ev.step (f := fun _ => some (bI xs, P B t, (0 : Int))) (fun r => ?_) (Ev.now _))
          rw [if_neg h40, mezzotintref04_Round.j1, if_pos (b41.2 h41), w64 _ (by omega) (by omega), if_pos (by omega)]
        · rw [rnd_put d c t (fun e => hd1 e.2) (by rw [h41]; decide) (by rw [h41]; decide), if_neg h40, if_pos h41, RR_map]
          refine Ev.step hl0 (Ev.step (fun r => ?_) (Ev.step (g := fun r => mezzotintref04_Round.j2 r (bI B) (bI xs) ((d - 1 : Nat) : Int) (P B t) (c.toNat : Int)) (fun r => hj2 ((d - 1 : Nat) : Int) r (by rw [h41]; decide)) (put3_ev ih t xs (d - 1) c _ rfl (by rw [h41]; decide) (by omega) hu (by omega) (by omega) (by omega))))
          rw [if_neg h40, mezzotintref04_Round.j1, if_pos (b41.2 h41), w64 _ (by omega) (by omega), if_neg (by omega), show ((d : Int) - 1) = ((d - 1 : Nat) : Int) from by omega]
      · have hj1 : ∀ (dd : Int) (r : Nat), mezzotintref04_Round.j1 (r + 1) (bI B) (bI xs) dd (P B t) (c.toNat : Int) = mezzotintref04_Round.j2 r (bI B) (bI xs) dd (P B t) (c.toNat : Int) := by
          intro dd r
          rw [mezzotintref04_Round.j1, if_neg (fun e => h41 (b41.1 e))]
        have hc3 : ¬ c = 13 → ∀ {X : List Int × Int × Int}, Ev (fun r => mezzotintref04_Round.j3 r (bI B) (bI xs) (if c = 40 then ((d + 1 : Nat) : Int) else (d : Int)) (P B t) (c.toNat : Int)) X → Ev (fun r => mezzotintref04_Round.l0 r (bI B) (bI xs) (d : Int) (P B (c :: t))) X := by
          intro h X hX
          exact Ev.step hl0 (Ev.step (fun r => hj1 _ r) (Ev.step (fun r => hj2 _ r h) hX))
        by_cases h92 : c = 92
        · have h40 : ¬ c = 40 := by rw [h92]; decide
          have h13 : ¬ c = 13 := by rw [h92]; decide
          cases t with
          | nil =>
            rw [h92, rnd_esc0, ← h92]
            refine hc3 h13 (Ev.step (f := fun _ => some (([] : List Int), (0 : Int), (14 : Int))) (fun r => ?_) (Ev.now _))
            rw [mezzotintref04_Round.j3, if_pos (b92.2 h92), if_pos (by rw [bI_len, P_nil]; omega)]
          | cons e u =>
            simp only [List.length_cons] at hs h4 h5
            rw [h92, rnd_esc, RR_map, ← h92]
            refine hc3 h13 ?_
            rw [if_neg h40, b92.2 h92]
            exact esc_ev ih hB xs d hd e u (by omega) hu (by omega) (by omega)
        · by_cases h13 : c = 13
          · have h40 : ¬ c = 40 := by rw [h13]; decide
            have hl := dropLF_len t
            rw [h13, rnd_cr, RR_map, ← h13]
            refine Ev.step hl0 (Ev.step (fun r => hj1 _ r) (Ev.step (fun r => ?_) (put3_ev ih (dropLF t) xs d 10 10 (by decide) (by decide) (by omega) (dropLF_suf hu) hd (by omega) (by omega))))
            rw [if_neg h40, mezzotintref04_Round.j2, if_pos (b13.2 h13)]
            cases t with
            | nil => rw [if_neg (by rw [bI_len, P_nil]; omega)]; rfl
            | cons x v =>
              obtain ⟨q1, q2, q3⟩ := P_cons hu
              have q0 := P_ge B (x :: v)
              have hwx : wrap64 (P B (x :: v) + 1) = P B v := by rw [q1, w64 _ (by omega) (by omega)]
              rw [if_pos (by rw [bI_len]; exact q2), if_pos q0, q3, dropLF]
              by_cases hx : x = 10
              · rw [if_pos ((byte_eq x 10 10 (by decide)).2 hx), if_pos hx, hwx]
              · rw [if_neg (fun h => hx ((byte_eq x 10 10 (by decide)).1 h)), if_neg hx]
          · rw [rnd_put d c t (not41 _ _ h41) h92 h13, RR_map]
            by_cases h40 : c = 40
            · rw [if_pos h40]
              refine hc3 h13 ?_
              rw [if_pos h40]
              exact put3_ev ih t xs (d + 1) c _ rfl h92 (by omega) hu (by omega) (by omega) (by omega)
            · rw [if_neg h40, if_neg h41]
              refine hc3 h13 ?_
              rw [if_neg h40]
              exact put3_ev ih t xs d c _ rfl h92 (by omega) hu hd (by omega) (by omega)

end Go.Proofs.YtiocgpfnbmlfaaaDoor.QN

/-! ## NC -/
namespace Go.Proofs.YtiocgpfnbmlfaaaDoor.QN
open Go Go.RowKit Go.Proofs.YtiocgpfnbmlfaaaDoor Go.Proofs.YtiocgpfnbmlfaaaDoor.PN Go.Proofs.YtiocgpfnbmlfaaaDoor.QD Go.Proofs.YtiocgpfnbmlfaaaDoor.SC Go.Proofs.YtiocgpfnbmlfaaaDoorW.PrintWords Go.Proofs.YtiocgpfnbmlfaaaDoorW.PrintLast

theorem Ev_shift {α : Type} {g : Nat → Option α} {r : α} (h : Ev (fun k => g (k + 1)) r) : Ev g r := Ev.step (fun _ => rfl) h

theorem hex_ev (B : List UInt8) (hB : B.length ≤ 100000) : ∀ (s xs : List UInt8) (o : Option Nat) (z : Int), Odd o z → s <:+ B → xs.length + s.length ≤ 1000000 →
    Ev (fun r => mezzotintref04_Hex.l0 r (bI B) (bI xs) z (P B s)) (RR B xs (hx o s)) := by
  intro s
  induction s with
  | nil =>
    intro xs o z _ _ _
    rw [hx_nil]
    refine Ev.step (f := fun _ => some (([] : List Int), (0 : Int), (14 : Int))) (fun r => ?_) (Ev.now _)
    rw [mezzotintref04_Hex.l0, if_neg (by rw [bI_len, P_nil]; omega)]
  | cons c t ih =>
    intro xs o z ho hsuf h5
    obtain ⟨p1, p2, p3⟩ := P_cons hsuf
    have p0 := P_ge B (c :: t)
    have hw : wrap64 (P B (c :: t) + 1) = P B t := by rw [p1, w64 _ (by omega) (by omega)]
    have hu := suf_tail hsuf
    simp only [List.length_cons] at h5
    have b62 := byte_eq c 62 62 (by decide)
    refine Ev_shift ?_
    simp only [mezzotintref04_Hex.l0, if_pos (show P B (c :: t) < ((bI B).length : Int) by rw [bI_len]; exact p2), if_pos p0, p3, rblank, Option.bind_some, hw]
    by_cases hb : blankB c = true
    · rw [hx_blank o c t hb]
      simp only [hb, if_true]
      exact ih xs o z ho hu (by omega)
    · simp only [if_neg hb]
      by_cases h62 : c = 62
      · simp only [if_pos (b62.2 h62)]
        rw [h62, hx_end]
        rcases ho with ⟨rfl, rfl⟩ | ⟨v, hv, rfl, rfl⟩
        · refine Ev.congr (fun _ => ?_) (Ev.now _)
          rw [if_neg (by decide)]
          simp [RR]
        · refine Ev.congr (fun _ => ?_) (Ev.now _)
          rw [if_pos (by omega), if_pos (by rw [bI_len]; omega), w64 _ (by omega) (by omega), bI_snoc xs (UInt8.ofNat (16 * v)) _ (by rw [UInt8.toNat_ofNat']; omega)]
          rfl
      · simp only [if_neg (fun h => h62 (b62.1 h))]
        refine Ev.bind (rhex c) ?_
        rcases hexdig c with ⟨g1, g2⟩ | ⟨g1, g2, g3⟩
        · rw [hx_bad o c t hb h62 g1]
          refine Ev.congr (fun _ => ?_) (Ev.now _)
          rw [if_pos (by omega)]
          rfl
        · have hd : (hexI c).toNat = digV c.toNat := by omega
          simp only [if_neg (show ¬ (digV c.toNat : Int) > 15 by omega)]
          rcases ho with ⟨rfl, rfl⟩ | ⟨v, hv, rfl, rfl⟩
          · rw [hx_half c t hb h62 (by omega), hd]
            simp only [if_pos (show (-1 : Int) < 0 by decide)]
            exact ih xs _ _ (.inr ⟨_, g2, rfl, rfl⟩) hu (by omega)
          · rw [hx_full v c t hb h62 (by omega), hd, RR_map]
            simp only [if_neg (show ¬ (v : Int) < 0 by omega)]
            refine Ev.congr (fun r => ?_) (ih (xs ++ [UInt8.ofNat (16 * v + digV c.toNat)]) none (-1) (.inl ⟨rfl, rfl⟩) hu (by simp; omega))
            rw [if_pos (by rw [bI_len]; omega), w64 ((v : Int) * 16) (by omega) (by omega), w64 _ (by omega) (by omega), bI_snoc xs (UInt8.ofNat (16 * v + digV c.toNat)) _ (by rw [UInt8.toNat_ofNat']; omega)]

/-! ### Next -/
def ansR (B : List UInt8) (r : TkR) : Int × Int × ByteArray × Int × Int :=
  match r with
  | .inl er => (0, 0, ⟨#[]⟩, 0, er)
  | .inr (k, z, x, s) => (k, z, S x, P B s, 0)
theorem ansR_next (B : List UInt8) (r : TkR) : ansR B r = ((nextL r B.length).1, (nextL r B.length).2.1, S (nextL r B.length).2.2.1, (nextL r B.length).2.2.2.1, (nextL r B.length).2.2.2.2) := by
  match r with
  | .inl er => rfl
  | .inr (k, z, x, s) => rfl

theorem str_j4 (B : List UInt8) (r : Option (List UInt8 × List UInt8)) : Ev (fun k => mezzotintref04_Next.j4 k (RR B [] r).1 (RR B [] r).2.1 (RR B [] r).2.2) (ansR B (strL r)) := by
  refine Ev_shift ?_
  match r with
  | none =>
    refine Ev.congr (fun _ => ?_) (Ev.now _)
    simp [mezzotintref04_Next.j4, RR, strL, ansR, mezzotintref04_none.f]
  | some (o, s) =>
    refine Ev.congr (fun _ => ?_) (Ev.now _)
    simp only [mezzotintref04_Next.j4, RR, strL, List.nil_append, if_true, bI_len]
    by_cases hl : 65535 < o.length
    · rw [if_pos (by omega), if_pos hl]; rfl
    · rw [if_neg (by omega), if_neg hl, bI_str]; rfl

theorem name_f (B : List UInt8) (hB : B.length ≤ 100000) (k : Int) (s : List UInt8) (hs : s <:+ B) : mezzotintref04_name.f k (bI B) (P B s) (P B (s.dropWhile regB)) = some (ansR B (nameL k (s.takeWhile regB) (s.dropWhile regB))) := by
  have hsp := (List.takeWhile_append_dropWhile (p := regB) (l := s)).symm
  have hmid := mid_bytes hs hsp
  have hl : s.length = (s.takeWhile regB).length + (s.dropWhile regB).length := by rw [← List.length_append, ← hsp]
  have hsl := hs.length_le
  have hd : P B (s.dropWhile regB) - P B s = ((s.takeWhile regB).length : Int) := by unfold P; omega
  have p0 := P_ge B s
  have p1 := P_le B (s.dropWhile regB)
  unfold mezzotintref04_name.f nameL
  rw [hd, w64 _ (by omega) (by omega)]
  by_cases hlong : 127 < (s.takeWhile regB).length
  · rw [if_pos (by omega), if_pos hlong]; rfl
  · rw [if_neg (by omega), if_neg hlong, if_pos ⟨p0, by omega, by rw [bI_len]; exact p1⟩]
    unfold P
    rw [hmid, bI_str]
    rfl

/-- the byte behind -/
def nx (t : List UInt8) : Int := match t with | [] => 0 | d :: _ => (d.toNat : Int)

theorem j6_ev (B : List UInt8) (hB : B.length ≤ 100000) (s : List UInt8) (hs : s <:+ B) (k n er : Int) (ok : Bool) (hek : er ≠ 0 → ok = true) :
    Ev (fun q => mezzotintref04_Next.j6 q (bI B) (P B s) (P B (s.dropWhile regB)) ok er (if ok = true then er != 0 else false) k n ⟨#[]⟩)
      (ansR B (if er = 0 then (if ok = true then .inr (k, n, [], s.dropWhile regB) else nameL 3 (s.takeWhile regB) (s.dropWhile regB)) else .inl er)) := by
  refine Ev_shift ?_
  refine Ev.congr (fun _ => ?_) (Ev.now _)
  simp only [mezzotintref04_Next.j6]
  by_cases he : er = 0
  · subst he
    cases ok with
    | true => simp [ansR, S]
    | false =>
      simp only [Bool.false_eq_true, if_false, if_true]
      rw [name_f B hB 3 s hs]
      rfl
  · have hok := hek he
    subst hok
    simp [he, mezzotintref04_none.f, ansR]

theorem tok_er (x : List UInt8) : (tokL x).2.2.2 ≠ 0 → (tokL x).2.2.1 = true := by
  unfold tokL
  by_cases c1 : 64 < x.length
  · rw [if_pos c1]; simp
  rw [if_neg c1]
  by_cases c2 : (radixL x).2.2.1 = true
  · rw [if_pos c2]; exact fun _ => rfl
  rw [if_neg c2]
  by_cases c3 : (wholeL x).2 = true
  · rw [if_pos c3]; simp
  rw [if_neg c3]
  unfold realL
  split
  · split
    · split
      · simp
      · simp
    · simp
  · simp

end Go.Proofs.YtiocgpfnbmlfaaaDoor.QN

/-! ## ND -/
namespace Go.Proofs.YtiocgpfnbmlfaaaDoor.QN
open Go Go.RowKit Go.Proofs.YtiocgpfnbmlfaaaDoor Go.Proofs.YtiocgpfnbmlfaaaDoor.PN Go.Proofs.YtiocgpfnbmlfaaaDoor.QD Go.Proofs.YtiocgpfnbmlfaaaDoor.SC Go.Proofs.YtiocgpfnbmlfaaaDoorW.PrintWords Go.Proofs.YtiocgpfnbmlfaaaDoorW.PrintLast

set_option linter.unusedVariables false
set_option linter.unusedSimpArgs false
section
variable {B : List UInt8}
/-- the first byte of a token, behind blanks and comments -/
theorem name_ev (hB : B.length ≤ 100000) (k : Int) (s : List UInt8) (hs : s <:+ B) :
    Ev (fun q => (mezzotintref04_Word.f q (bI B) (P B s)).bind fun t => (mezzotintref04_name.f k (bI B) (P B s) t).bind fun bt => some (bt.1, bt.2.1, bt.2.2.1, bt.2.2.2.1, bt.2.2.2.2)) (ansR B (nameL k (s.takeWhile regB) (s.dropWhile regB))) := by
  refine Ev.bind (Word_ev B (by omega) s hs) ?_
  refine Ev.congr (fun _ => ?_) (Ev.now _)
  rw [name_f B hB k s hs]
  rfl

theorem word_ev2 (hB : B.length ≤ 100000) (s : List UInt8) (hs : s <:+ B) (hlen : s.length ≤ 100000) :
    Ev (fun k => (mezzotintref04_Word.f k (bI B) (P B s)).bind fun t233 => (if 0 ≤ P B s then (if P B s ≤ t233 then (if t233 ≤ ((bI B).length : Int) then ((mezzotintref01_Token.f (strOfNums (((bI B).take (t233 : Int).toNat).drop (P B s : Int).toNat))).bind fun bt235 => (if bt235.2.2.2.1 = true then (mezzotintref04_Next.j6 k (bI B) (P B s) t233 bt235.2.2.2.1 bt235.2.2.2.2 (bt235.2.2.2.2 != 0) bt235.1 bt235.2.1 bt235.2.2.1) else (mezzotintref04_Next.j6 k (bI B) (P B s) t233 bt235.2.2.2.1 bt235.2.2.2.2 false bt235.1 bt235.2.1 bt235.2.2.1))) else (none)) else (none)) else (none)))
      (ansR B (wordL (s.takeWhile regB) (s.dropWhile regB))) := by
  have hsp := (List.takeWhile_append_dropWhile (p := regB) (l := s)).symm
  have hmid := mid_bytes hs hsp
  have hl : s.length = (s.takeWhile regB).length + (s.dropWhile regB).length := by rw [← List.length_append, ← hsp]
  have hsl := hs.length_le
  have p0 := P_ge B s
  have p1 := P_le B (s.dropWhile regB)
  have p2 : P B s ≤ P B (s.dropWhile regB) := by unfold P; omega
  refine Ev.bind (Word_ev B (by omega) s hs) ?_
  have hj := j6_ev B hB s hs (tokL (s.takeWhile regB)).1 (tokL (s.takeWhile regB)).2.1 (tokL (s.takeWhile regB)).2.2.2 (tokL (s.takeWhile regB)).2.2.1 (tok_er _)
  refine Ev.congr (fun q => ?_) hj
  rw [if_pos p0, if_pos p2, if_pos (by rw [bI_len]; exact p1)]
  have hm : strOfNums (((bI B).take (P B (s.dropWhile regB)).toNat).drop (P B s).toNat) = S (s.takeWhile regB) := by
    unfold P
    rw [hmid, bI_str]
  rw [hm]
  unfold mezzotintref01_Token.f
  rw [S_data, Option.bind_some]
  simp only
  cases (tokL (s.takeWhile regB)).2.2.1 <;> simp

theorem nx_cons (v : UInt8) (t : List UInt8) (z : Int) (hz : z = (v.toNat : Int)) (h0 : z ≠ 0) : nx t = z ↔ ∃ u, t = v :: u := by
  cases t with
  | nil =>
    constructor
    · intro h; exact absurd h.symm h0
    · rintro ⟨u, h⟩; cases h
  | cons d u =>
    have := byte_eq d v z hz
    constructor
    · intro h; exact ⟨u, by rw [this.1 h]⟩
    · rintro ⟨u', h⟩
      exact this.2 (List.cons.inj h).1

set_option maxHeartbeats 1000000 in
theorem first_ev (hB : B.length ≤ 100000) (c : UInt8) (t : List UInt8) (hs : (c :: t) <:+ B) :
    Ev (fun k => mezzotintref04_Next.j1 k (bI B) (P B (c :: t)) (c.toNat : Int) (nx t)) (ansR B (tokenC c t)) := by
  obtain ⟨p1, p2, p3⟩ := P_cons hs
  have p0 := P_ge B (c :: t)
  have hw : wrap64 (P B (c :: t) + 1) = P B t := by rw [p1, w64 _ (by omega) (by omega)]
  have hu := suf_tail hs
  have hsl := hs.length_le
  simp only [List.length_cons] at hsl
  have hw2 : ∀ d u, t = d :: u → wrap64 (P B (c :: t) + 2) = P B u := by
    intro d u e
    subst e
    obtain ⟨q1, q2, q3⟩ := P_cons hu
    rw [q1, p1, show P B (c :: d :: u) + 1 + 1 = P B (c :: d :: u) + 2 from by omega]
    exact w64 _ (by omega) (by omega)
  unfold tokenC
  have b40 := byte_eq c 40 40 (by decide)
  have b41 := byte_eq c 41 41 (by decide)
  have b60 := byte_eq c 60 60 (by decide)
  have b62 := byte_eq c 62 62 (by decide)
  have b123 := byte_eq c 123 123 (by decide)
  have b125 := byte_eq c 125 125 (by decide)
  have b91 := byte_eq c 91 91 (by decide)
  have b93 := byte_eq c 93 93 (by decide)
  have b47 := byte_eq c 47 47 (by decide)
  refine Ev_shift ?_
  simp only [mezzotintref04_Next.j1]
  by_cases c1 : c = 40
  · subst c1
    simp only [if_true, show ((40 : UInt8).toNat : Int) = 40 from rfl]
    refine Ev_shift ?_
    simp only [mezzotintref04_Next.j2, beq_self_eq_true, if_true, if_neg (show ¬ (40 : Int) = 60 by decide)]
    refine Ev_shift ?_
    simp only [mezzotintref04_Next.j3, Bool.false_eq_true, if_false, if_true]
    refine Ev.bind (a := RR B [] (rnd 1 t)) ?_ (str_j4 B _)
    have := round_at B hB t.length t [] 1 (Nat.le_refl _) hu (by omega) (by omega) (by simp; omega)
    refine Ev.congr (fun q => ?_) this
    unfold mezzotintref04_Round.f
    rw [hw]
    rfl
  rw [if_neg c1]
  simp only [if_neg (fun h => c1 (b40.1 h))]
  by_cases c3 : c = 60
  · subst c3
    rw [if_neg (by decide), if_pos (show (60 : UInt8) = 60 ∨ (60 : UInt8) = 62 from .inl rfl)]
    refine Ev_shift ?_
    simp only [mezzotintref04_Next.j2, show ((60 : UInt8).toNat : Int) = 60 from rfl, beq_self_eq_true, if_true]
    refine Ev_shift ?_
    simp only [mezzotintref04_Next.j3, if_neg (show ¬ (60 : Int) = 40 by decide)]
    by_cases hn : nx t = 60
    · obtain ⟨u, hu2⟩ := (nx_cons 60 t 60 (by decide) (by decide)).1 hn
      rw [hn]
      refine Ev.congr (fun _ => ?_) (Ev.now _)
      rw [if_pos (show ((60 : Int) == 60) = true from rfl), hw2 _ _ hu2, hu2, angleL, if_pos rfl]
      rfl
    · have hb : (nx t == 60) = false := beq_eq_false_iff_ne.2 hn
      simp only [hb, Bool.false_eq_true, if_false]
      have ha : angleL 60 t = strL (hx none t) := by
        cases t with
        | nil => rfl
        | cons d u =>
          rw [angleL, if_neg (fun e => hn (by rw [e]; rfl)), if_pos rfl]
      rw [ha]
      refine Ev.bind (a := RR B [] (hx none t)) ?_ (str_j4 B _)
      have := hex_ev B hB t [] none (-1) (.inl ⟨rfl, rfl⟩) hu (by simp; omega)
      refine Ev.congr (fun q => ?_) this
      unfold mezzotintref04_Hex.f
      rw [hw]
      rfl
  have n60 : ((c.toNat : Int) == 60) = false := beq_eq_false_iff_ne.2 (fun h => c3 (b60.1 h))
  simp only [n60]
  refine Ev_shift ?_
  simp only [mezzotintref04_Next.j2, Bool.false_eq_true, if_false]
  by_cases c2 : c = 41
  · rw [if_pos c2]
    simp only [if_pos (b41.2 c2)]
    exact Ev.now _
  rw [if_neg c2]
  simp only [if_neg (fun h => c2 (b41.1 h))]
  by_cases c4 : c = 62
  · rw [if_pos (show c = 60 ∨ c = 62 from .inr c4)]
    simp only [if_pos (b62.2 c4)]
    by_cases hn : nx t = 62
    · obtain ⟨u, hu2⟩ := (nx_cons 62 t 62 (by decide) (by decide)).1 hn
      refine Ev.congr (fun _ => ?_) (Ev.now _)
      rw [if_pos hn, hw2 _ _ hu2, hu2, c4, angleL, if_pos rfl]
      rfl
    · simp only [if_neg hn]
      have ha : angleL c t = .inl 14 := by
        cases t with
        | nil => rw [c4]; rfl
        | cons d u => rw [c4, angleL, if_neg (fun e => hn (by rw [e]; rfl)), if_neg (by decide)]
      rw [ha]
      exact Ev.now _
  rw [if_neg (show ¬ (c = 60 ∨ c = 62) from fun e => e.elim c3 c4)]
  simp only [if_neg (fun h => c4 (b62.1 h))]
  by_cases c5 : c = 123
  · rw [if_pos c5]
    simp only [if_pos (b123.2 c5), hw]
    exact Ev.now _
  rw [if_neg c5]
  simp only [if_neg (fun h => c5 (b123.1 h))]
  by_cases c6 : c = 125
  · rw [if_pos c6]
    simp only [if_pos (b125.2 c6), hw]
    exact Ev.now _
  rw [if_neg c6]
  simp only [if_neg (fun h => c6 (b125.1 h))]
  have brk : (c = 91 ∨ c = 93) → Ev (fun k => mezzotintref04_Next.j5 k (bI B) (P B (c :: t)) (c.toNat : Int) (nx t) (c.toNat : Int) true) (ansR B (.inr (3, 0, [c], t))) := by
    intro _
    refine Ev_shift ?_
    simp only [mezzotintref04_Next.j5, if_true, hw]
    refine Ev.congr (fun _ => ?_) (Ev.now _)
    have := bI_str [c]
    rw [show ([(c.toNat : Int)] : List Int) = bI [c] from rfl, this]
    rfl
  by_cases c7 : c = 91
  · rw [if_pos (show c = 91 ∨ c = 93 from .inl c7)]
    simp only [if_pos (b91.2 c7), show ((c.toNat : Int) == 91) = true from beq_iff_eq.2 (b91.2 c7)]
    exact brk (.inl c7)
  simp only [if_neg (fun h => c7 (b91.1 h))]
  by_cases c8 : c = 93
  · rw [if_pos (show c = 91 ∨ c = 93 from .inr c8)]
    simp only [show ((c.toNat : Int) == 93) = true from beq_iff_eq.2 (b93.2 c8)]
    exact brk (.inr c8)
  rw [if_neg (show ¬ (c = 91 ∨ c = 93) from fun e => e.elim c7 c8)]
  simp only [show ((c.toNat : Int) == 93) = false from beq_eq_false_iff_ne.2 (fun h => c8 (b93.1 h))]
  refine Ev_shift ?_
  simp only [mezzotintref04_Next.j5, Bool.false_eq_true, if_false]
  by_cases c9 : c = 47
  · rw [if_pos c9]
    simp only [if_pos (b47.2 c9)]
    by_cases hn : nx t = 47
    · obtain ⟨u, hu2⟩ := (nx_cons 47 t 47 (by decide) (by decide)).1 hn
      simp only [if_pos hn, hw2 _ _ hu2]
      have hsl2 : slashL t = nameL 5 (u.takeWhile regB) (u.dropWhile regB) := by rw [hu2, slashL, if_pos rfl]
      rw [hsl2]
      exact name_ev hB 5 u (by rw [hu2] at hu; exact suf_tail hu)
    · simp only [if_neg hn, hw]
      have hsl2 : slashL t = nameL 4 (t.takeWhile regB) (t.dropWhile regB) := by
        cases t with
        | nil => rfl
        | cons d u => rw [slashL, if_neg (fun e => hn (by rw [e]; rfl))]
      rw [hsl2]
      exact name_ev hB 4 t hu
  rw [if_neg c9]
  simp only [if_neg (fun h => c9 (b47.1 h))]
  exact word_ev2 hB (c :: t) hs (by simp only [List.length_cons]; omega)

theorem refNext_ev (hB : B.length ≤ 100000) (p : Int) :
    Ev (fun k => mezzotintref04_Next.f k (bI B) p) ((nextP B p).1, (nextP B p).2.1, S (nextP B p).2.2.1, (nextP B p).2.2.2.1, (nextP B p).2.2.2.2) := by
  unfold nextP mezzotintref04_Next.f
  by_cases hp : p < 0 ∨ (B.length : Int) < p
  · rw [if_pos hp]
    have hj : Ev (fun k => mezzotintref04_Next.j0 k (bI B) p true) ((0 : Int), (0 : Int), S [], (0 : Int), (21 : Int)) := by
      refine Ev_shift ?_
      simp only [mezzotintref04_Next.j0, if_true]
      exact Ev.now _
    by_cases h0 : p < 0
    · simp only [if_pos h0]; exact hj
    · have h1 : (B.length : Int) < p := hp.resolve_left h0
      simp only [if_neg h0, show decide (p > ((bI B).length : Int)) = true from decide_eq_true (by rw [bI_len]; omega)]
      exact hj
  · rw [if_neg hp]
    obtain ⟨q, rfl⟩ : ∃ q : Nat, p = (q : Int) := ⟨p.toNat, by omega⟩
    have h0 : ¬ (q : Int) < 0 := by omega
    simp only [if_neg h0, show decide ((q : Int) > ((bI B).length : Int)) = false from decide_eq_false (by rw [bI_len]; omega)]
    rw [Int.toNat_natCast, ← ansR_next]
    have hq : q ≤ B.length := by omega
    have hpp : (q : Int) = P B (B.drop q) := by unfold P; rw [List.length_drop]; omega
    have hsuf : B.drop q <:+ B := List.drop_suffix _ _
    rw [hpp]
    generalize B.drop q = s at *
    refine Ev_shift ?_
    simp only [mezzotintref04_Next.j0, Bool.false_eq_true, if_false]
    refine Ev.bind (Skip_ev B (by omega) s hsuf).1 ?_
    unfold tokenL
    have hsk : skipL false s <:+ B := by
      have hh : ∀ (m : Bool) (s : List UInt8), s <:+ B → skipL m s <:+ B := by
        intro m s
        induction s generalizing m with
        | nil => intro h; cases m <;> exact h
        | cons c t ih =>
          intro h
          cases m with
          | true => rw [skipL]; exact ih _ (suf_tail h)
          | false =>
            rw [skipL]
            split
            · exact ih _ (suf_tail h)
            · split
              · exact ih _ (suf_tail h)
              · exact h
      exact hh false s hsuf
    match hsl : skipL false s with
    | [] =>
      refine Ev.congr (fun _ => ?_) (Ev.now _)
      rw [if_pos (by rw [bI_len, P_nil]; omega), bI_len]
      have : ansR B (.inr (0, 0, [], [])) = (0, 0, S [], P B [], 0) := rfl
      rw [P_nil] at this
      exact congrArg some this.symm
    | c :: t =>
      rw [hsl] at hsk
      obtain ⟨p1, p2, p3⟩ := P_cons hsk
      have p0 := P_ge B (c :: t)
      have hw : wrap64 (P B (c :: t) + 1) = P B t := by rw [p1, w64 _ (by omega) (by omega)]
      have hu := suf_tail hsk
      refine Ev.congr (fun r => ?_) (first_ev hB c t hsk)
      rw [if_neg (by rw [bI_len]; omega), if_pos p0, if_pos (by rw [bI_len]; exact p2), hw, p3]
      cases t with
      | nil => rw [if_neg (by rw [bI_len, P_nil]; omega)]; rfl
      | cons d u =>
        obtain ⟨q1, q2, q3⟩ := P_cons hu
        rw [if_pos (by rw [bI_len]; exact q2), if_pos (P_ge _ _), q3]
        rfl
end

end Go.Proofs.YtiocgpfnbmlfaaaDoor.QN

/-! ## NE -/
namespace Go.Proofs.YtiocgpfnbmlfaaaDoor.QN
open Go Go.RowKit Go.Proofs.YtiocgpfnbmlfaaaDoor Go.Proofs.YtiocgpfnbmlfaaaDoor.PN Go.Proofs.YtiocgpfnbmlfaaaDoor.QD Go.Proofs.YtiocgpfnbmlfaaaDoor.SC Go.Proofs.YtiocgpfnbmlfaaaDoorW.PrintWords Go.Proofs.YtiocgpfnbmlfaaaDoorW.PrintLast

def Good (n : Nat) (r : TkR) : Prop := match r with | .inl er => er ≠ 0 | .inr (k, _, _, s) => k ≠ 0 ∧ s.length < n
theorem tok_kind (x : List UInt8) : (tokL x).2.2.2 = 0 → (tokL x).2.2.1 = true → (tokL x).1 ≠ 0 := by
  have hre : ∀ st, (radEnd st).2.2.2 = 0 → (radEnd st).1 ≠ 0 := by
    intro st
    unfold radEnd
    split <;> simp
  have hr : ∀ b r, (radTail b r).2.2.2 = 0 → (radTail b r).2.2.1 = true → (radTail b r).1 ≠ 0 := by
    intro b r
    unfold radTail
    split
    · simp
    · exact fun h _ => hre _ h
  have hR : (radixL x).2.2.2 = 0 → (radixL x).2.2.1 = true → (radixL x).1 ≠ 0 := by
    unfold radixL
    split
    · simp
    · exact hr _ _
  unfold tokL
  by_cases c1 : 64 < x.length
  · rw [if_pos c1]; simp
  rw [if_neg c1]
  by_cases c2 : (radixL x).2.2.1 = true
  · rw [if_pos c2]; exact fun h _ => hR h c2
  rw [if_neg c2]
  by_cases c3 : (wholeL x).2 = true
  · rw [if_pos c3]; simp
  rw [if_neg c3]
  unfold realL
  split
  · split
    · split
      · simp
      · simp
    · simp
  · simp
theorem name_good {k : Int} {x s : List UInt8} {n : Nat} (hk : k ≠ 0) (h : s.length < n) : Good n (nameL k x s) := by
  unfold nameL
  split
  · exact (by decide : (9 : Int) ≠ 0)
  · exact ⟨hk, h⟩
theorem str_good {r : Option (List UInt8 × List UInt8)} {n : Nat} (h : ∀ o s, r = some (o, s) → s.length < n) : Good n (strL r) := by
  unfold strL
  match r, h with
  | none, _ => exact (by decide : (14 : Int) ≠ 0)
  | some (o, s), h =>
    simp only
    split
    · exact (by decide : (9 : Int) ≠ 0)
    · exact ⟨(by decide : (6 : Int) ≠ 0), h o s rfl⟩
theorem rnd_lt : ∀ (n d : Nat) (l o s : List UInt8), l.length ≤ n → rnd d l = some (o, s) → s.length < l.length + 1 := by
  intro n
  induction n with
  | zero =>
    intro d l o s hl h
    obtain rfl : l = [] := List.eq_nil_of_length_eq_zero (by omega)
    rw [rnd_nil] at h; cases h
  | succ n ih =>
    intro d l o s hl h
    cases l with
    | nil => rw [rnd_nil] at h; cases h
    | cons c t =>
      simp only [List.length_cons] at hl ⊢
      have step : ∀ d' (t' ys : List UInt8), t'.length ≤ t.length → rnd d (c :: t) = (rnd d' t').map (fun p => (ys ++ p.1, p.2)) → s.length < t.length + 1 + 1 := by
        intro d' t' ys ht e
        rw [e] at h
        cases hr : rnd d' t' with
        | none => rw [hr] at h; cases h
        | some p =>
          rw [hr] at h
          obtain ⟨o', s'⟩ := p
          simp only [Option.map_some, Option.some.injEq, Prod.mk.injEq] at h
          have := ih d' t' o' s' (by omega) hr
          rw [← h.2]
          omega
      by_cases h1 : c = 41 ∧ d = 1
      · obtain ⟨rfl, rfl⟩ := h1
        rw [rnd_close] at h
        simp only [Option.some.injEq, Prod.mk.injEq] at h
        rw [← h.2]; omega
      by_cases h2 : c = 92
      · subst h2
        cases t with
        | nil => rw [rnd_esc0] at h; cases h
        | cons e u =>
          have := (esc_len e u).2
          exact step d _ _ (by simp only [List.length_cons]; omega) (rnd_esc d e u)
      by_cases h3 : c = 13
      · subst h3
        exact step d _ _ (dropLF_len t) (rnd_cr d t)
      exact step _ _ _ (Nat.le_refl _) (rnd_put d c t h1 h2 h3)
theorem hx_lt : ∀ (l : List UInt8) (v : Option Nat) (o s : List UInt8), hx v l = some (o, s) → s.length < l.length + 1 := by
  intro l
  induction l with
  | nil => intro v o s h; simp [hx] at h
  | cons c t ih =>
    intro v o s h
    rw [hx.eq_def] at h
    simp only [List.length_cons] at h ⊢
    split at h
    · have := ih _ _ _ h; omega
    · split at h
      · simp only [Option.some.injEq, Prod.mk.injEq] at h
        rw [← h.2]; omega
      · split at h
        · cases h
        · cases v with
          | none => have := ih _ _ _ h; omega
          | some v =>
            simp only at h
            cases hr : hx none t with
            | none => rw [hr] at h; cases h
            | some p =>
              rw [hr] at h
              obtain ⟨o', s'⟩ := p
              simp only [Option.map_some, Option.some.injEq, Prod.mk.injEq] at h
              have := ih _ _ _ hr
              rw [← h.2]; omega
theorem drop_le (p : UInt8 → Bool) (l : List UInt8) : (l.dropWhile p).length ≤ l.length := (List.dropWhile_suffix p).length_le
theorem reg_fin : ∀ c : Fin 256, blankN c.val = true ∨ c.val = 37 ∨ c.val = 40 ∨ c.val = 41 ∨ c.val = 60 ∨ c.val = 62 ∨ c.val = 123 ∨ c.val = 125 ∨ c.val = 91 ∨ c.val = 93 ∨ c.val = 47 ∨ regN c.val = true := by decide +kernel
theorem reg_of {c : UInt8} (hb : ¬ blankB c = true) (h1 : c ≠ 37) (h2 : c ≠ 40) (h3 : c ≠ 41) (h4 : c ≠ 60) (h5 : c ≠ 62) (h6 : c ≠ 123) (h7 : c ≠ 125) (h8 : c ≠ 91) (h9 : c ≠ 93) (h10 : c ≠ 47) : regB c = true := by
  have hn : ∀ v : UInt8, c ≠ v → c.toNat ≠ v.toNat := fun v h e => h (UInt8.toNat_inj.1 e)
  have := reg_fin ⟨c.toNat, c.toNat_lt⟩
  exact ((((((((((this.resolve_left hb).resolve_left (hn _ h1)).resolve_left (hn _ h2)).resolve_left (hn _ h3)).resolve_left (hn _ h4)).resolve_left (hn _ h5)).resolve_left (hn _ h6)).resolve_left (hn _ h7)).resolve_left (hn _ h8)).resolve_left (hn _ h9)).resolve_left (hn _ h10)
theorem tokenC_good (c : UInt8) (t : List UInt8) (hb : ¬ blankB c = true) (h37 : c ≠ 37) : Good (t.length + 1) (tokenC c t) := by
  have e14 : (14 : Int) ≠ 0 := by decide
  unfold tokenC
  by_cases c1 : c = 40
  · rw [if_pos c1]; exact str_good fun o s h => rnd_lt _ _ _ _ _ (Nat.le_refl _) h
  rw [if_neg c1]
  by_cases c2 : c = 41
  · rw [if_pos c2]; exact e14
  rw [if_neg c2]
  by_cases c3 : c = 60 ∨ c = 62
  · rw [if_pos c3]
    cases t with
    | nil => rw [angleL]; split
             · exact str_good fun o s h => by simp [hx] at h
             · exact e14
    | cons d u =>
      rw [angleL]
      split
      · exact ⟨by decide, by simp only [List.length_cons]; omega⟩
      · split
        · exact str_good fun o s h => hx_lt _ _ _ _ h
        · exact e14
  rw [if_neg c3]
  by_cases c5 : c = 123
  · rw [if_pos c5]; exact ⟨by decide, by omega⟩
  rw [if_neg c5]
  by_cases c6 : c = 125
  · rw [if_pos c6]; exact ⟨by decide, by omega⟩
  rw [if_neg c6]
  by_cases c7 : c = 91 ∨ c = 93
  · rw [if_pos c7]; exact ⟨by decide, by omega⟩
  rw [if_neg c7]
  by_cases c9 : c = 47
  · rw [if_pos c9]
    cases t with
    | nil => exact name_good (by decide) (by simp)
    | cons d u =>
      have d1 := drop_le regB u
      have d2 := drop_le regB (d :: u)
      simp only [List.length_cons] at d2 ⊢
      rw [slashL]
      split
      · exact name_good (by decide) (by omega)
      · exact name_good (by decide) (by omega)
  rw [if_neg c9]
  have hr : regB c = true := reg_of hb h37 c1 c2 (fun e => c3 (.inl e)) (fun e => c3 (.inr e)) c5 c6 (fun e => c7 (.inl e)) (fun e => c7 (.inr e)) c9
  have hd : ((c :: t).dropWhile regB).length < t.length + 1 := by
    rw [List.dropWhile_cons, if_pos hr]
    have := drop_le regB t
    omega
  unfold wordL
  split
  · rename_i h0
    split
    · rename_i h1
      exact ⟨tok_kind _ h0 h1, hd⟩
    · exact name_good (by decide) hd
  · rename_i h0
    exact h0
theorem skip_head : ∀ (l : List UInt8) (m : Bool) (c : UInt8) (t : List UInt8), skipL m l = c :: t → ¬ blankB c = true ∧ c ≠ 37 ∧ (c :: t).length ≤ l.length := by
  intro l
  induction l with
  | nil => intro m c t h; cases m <;> cases h
  | cons d u ih =>
    intro m c t h
    cases m with
    | true =>
      rw [skipL] at h
      have := ih _ _ _ h
      exact ⟨this.1, this.2.1, by simp only [List.length_cons] at this ⊢; omega⟩
    | false =>
      rw [skipL] at h
      split at h
      · have := ih _ _ _ h
        exact ⟨this.1, this.2.1, by simp only [List.length_cons] at this ⊢; omega⟩
      · split at h
        · have := ih _ _ _ h
          exact ⟨this.1, this.2.1, by simp only [List.length_cons] at this ⊢; omega⟩
        · rename_i hb h37
          cases h
          exact ⟨hb, h37, Nat.le_refl _⟩
/-- what Next answers at a place in the text -/
theorem next_good (B : List UInt8) (p : Nat) (hp : p ≤ B.length) :
    (nextP B p).2.2.2.2 ≠ 0 ∨ ((nextP B p).2.2.2.2 = 0 ∧ (nextP B p).1 = 0 ∧ (nextP B p).2.2.2.1 = (B.length : Int)) ∨
    ((nextP B p).2.2.2.2 = 0 ∧ (nextP B p).1 ≠ 0 ∧ ∃ q : Nat, (nextP B p).2.2.2.1 = (q : Int) ∧ p < q ∧ q ≤ B.length) := by
  unfold nextP
  rw [if_neg (by omega), Int.toNat_natCast]
  unfold tokenL
  match hs : skipL false (B.drop p) with
  | [] => exact .inr (.inl ⟨rfl, rfl, by simp [nextL]⟩)
  | c :: t =>
    obtain ⟨hb, h37, hlen⟩ := skip_head _ _ _ _ hs
    rw [List.length_drop, List.length_cons] at hlen
    have := tokenC_good c t hb h37
    simp only
    match hr : tokenC c t with
    | .inl er => rw [hr] at this; exact .inl this
    | .inr (k, z, x, s) =>
      rw [hr] at this
      obtain ⟨h1, h2⟩ := this
      exact .inr (.inr ⟨rfl, h1, B.length - s.length, rfl, by omega, by omega⟩)

end Go.Proofs.YtiocgpfnbmlfaaaDoor.QN

/-! ## NF -/
namespace Go.Proofs.YtiocgpfnbmlfaaaDoor.QN
open Go Go.RowKit Go.Proofs.YtiocgpfnbmlfaaaDoor Go.Proofs.YtiocgpfnbmlfaaaDoor.PN Go.Proofs.YtiocgpfnbmlfaaaDoor.QD Go.Proofs.YtiocgpfnbmlfaaaDoor.SC Go.Proofs.YtiocgpfnbmlfaaaDoorW.PrintWords Go.Proofs.YtiocgpfnbmlfaaaDoorW.PrintLast

theorem bytes_of {l : List Int} (h : ∀ x ∈ l, (Lit.int .u8 x).wf = true) : isB l := by
  intro x hx
  have := h x hx
  simp [Lit.wf, IntKind.min, IntKind.max, IntKind.signed, IntKind.bits] at this
  omega
theorem nx_f (B : List UInt8) (hB : B.length ≤ 100000) (p : Int) : scan_Next.f (bI B) p = some ((nextP B p).1, (nextP B p).2.1, S (nextP B p).2.2.1, (nextP B p).2.2.2.1, (nextP B p).2.2.2.2) := by
  unfold scan_Next.f
  rw [if_pos ⟨bI_isB B, by rw [bI_len]; omega⟩, un_bI]

end Go.Proofs.YtiocgpfnbmlfaaaDoor.QN

/-! ## PureScanAll -/
namespace Go.Proofs.YtiocgpfnbmlfaaaDoor.Pure
open Go Go.RowKit Go.Proofs.YtiocgpfnbmlfaaaDoor.PN Go.Proofs.YtiocgpfnbmlfaaaDoor.QD Go.Proofs.YtiocgpfnbmlfaaaDoor.SC Go.Proofs.YtiocgpfnbmlfaaaDoor.QN Go.Proofs.YtiocgpfnbmlfaaaDoorW.PrintWords Go.Proofs.YtiocgpfnbmlfaaaDoorW.PrintLast

theorem same_ev (l : List Int) (hl : l.length ≤ 1000000) : Ev (fun k => mezzotintref01_Same.f k l l) true := by
  have : ∀ (m : Nat) (i : Nat), l.length - i ≤ m → i ≤ l.length → Ev (fun k => mezzotintref01_Same.l0 k l l (i : Int)) true := by
    intro m
    induction m with
    | zero =>
      intro i h1 h2
      refine Ev.step (f := fun _ => some true) (fun k => ?_) (Ev.now _)
      rw [mezzotintref01_Same.l0, if_neg (by omega)]
    | succ m ih =>
      intro i h1 h2
      by_cases hi : i < l.length
      · refine Ev.step (fun k => ?_) (ih (i + 1) (by omega) (by omega))
        rw [mezzotintref01_Same.l0, if_pos (by omega), if_pos (by omega), if_pos (by omega), if_pos rfl, w64 _ (by omega) (by omega)]
        push_cast
        rfl
      · refine Ev.step (f := fun _ => some true) (fun k => ?_) (Ev.now _)
        rw [mezzotintref01_Same.l0, if_neg (by omega)]
  refine Ev.congr (fun k => ?_) (this l.length 0 (by omega) (by omega))
  unfold mezzotintref01_Same.f
  rw [if_pos rfl]
  rfl

theorem all_step (B : List UInt8) (hB : B.length ≤ 20000) (m p i : Nat) (_ : B.length - p ≤ m) (h2 : p ≤ B.length) (h3 : i ≤ p)
    (ih : ∀ q : Nat, p < q → q ≤ B.length → Ev (fun k => mezzotintlaw04_ScanAll.l0 k (bI B) (bI B) (q : Int) ((i + 1 : Nat) : Int)) true) :
    Ev (fun k => mezzotintlaw04_ScanAll.l0 k (bI B) (bI B) (p : Int) (i : Int)) true := by
  have hB2 : B.length ≤ 100000 := by omega
  have hsame := same_ev (bI B) (by rw [bI_len]; omega)
  have hgood := next_good B p h2
  have href := refNext_ev hB2 (p : Int)
  have hnf := nx_f B hB2 (p : Int)
  generalize nextP B (p : Int) = r at *
  obtain ⟨kd, z, x, at2, er⟩ := r
  simp only at hgood href hnf
  have hend : er ≠ 0 ∨ (er = 0 ∧ at2 = (B.length : Int)) → Ev (fun k => mezzotintlaw04_ScanAll.j2 k (bI B) (bI B) (p : Int) (i : Int) at2 er true) true := by
    intro h
    refine Ev_shift ?_
    simp only [mezzotintlaw04_ScanAll.j2, if_true]
    refine Ev.bind (a := true) (Ev.now true) ?_
    simp only [if_true]
    refine Ev.bind hsame ?_
    simp only [if_true]
    rcases h with h | ⟨h, h'⟩
    · simp only [if_neg h]; exact Ev.now _
    · simp only [if_pos h, h', bI_len, beq_self_eq_true]; exact Ev.now _
  have hstart : Ev (fun k => mezzotintlaw04_ScanAll.j1 k (bI B) (bI B) (p : Int) (i : Int) at2 er false kd z (S x)) true := by
    refine Ev_shift ?_
    simp only [mezzotintlaw04_ScanAll.j1, Bool.false_eq_true, if_false]
    rcases hgood with h | ⟨h, hk, ha⟩ | ⟨h, hk, q, ha, hq1, hq2⟩
    · simp only [if_neg h]
      exact hend (.inl h)
    · simp only [if_pos h, show (kd == 0) = true from beq_iff_eq.2 hk]
      exact hend (.inr ⟨h, ha⟩)
    · simp only [if_pos h, show (kd == 0) = false from beq_eq_false_iff_ne.2 hk]
      refine Ev_shift ?_
      simp only [mezzotintlaw04_ScanAll.j2, Bool.false_eq_true, if_false]
      refine Ev.congr (fun k => ?_) (ih q hq1 hq2)
      rw [if_neg (by omega), ha, w64 _ (by omega) (by omega)]
      push_cast
      rfl
  refine Ev_shift ?_
  simp only [mezzotintlaw04_ScanAll.l0]
  simp only [if_pos (show (i : Int) ≤ ((bI B).length : Int) from by rw [bI_len]; omega)]
  refine Ev.bind (a := (kd, z, S x, at2, er)) (g := fun _ => scan_Next.f (bI B) (p : Int)) ⟨0, fun _ _ => hnf⟩ (Ev.bind href ?_)
  simp only [beq_self_eq_true, Bool.not_true, Bool.or_self, Bool.false_eq_true, if_false, if_true, bne_self_eq_false]
  exact hstart

theorem all_ev (B : List UInt8) (hB : B.length ≤ 20000) : ∀ (m p i : Nat), B.length - p ≤ m → p ≤ B.length → i ≤ p →
    Ev (fun k => mezzotintlaw04_ScanAll.l0 k (bI B) (bI B) (p : Int) (i : Int)) true := by
  intro m
  induction m with
  | zero =>
    intro p i h1 h2 h3
    exact all_step B hB 0 p i h1 h2 h3 fun q hq1 hq2 => absurd hq2 (by omega)
  | succ m ih =>
    intro p i h1 h2 h3
    exact all_step B hB _ p i h1 h2 h3 fun q hq1 hq2 => ih q (i + 1) (by omega) hq2 (by omega)

theorem ScanAll : mezzotintlaw04_ScanAll.Pure := by
  intro l0 _ _ hwf
  have hb := bytes_of hwf
  obtain ⟨B, rfl⟩ : ∃ B, l0 = bI B := ⟨unI l0, (bI_un l0 hb).symm⟩
  unfold mezzotintlaw04_ScanAll.f
  by_cases h : ((bI B).length : Int) > 20000
  · exact ⟨0, by rw [if_pos h]; rfl⟩
  · rw [bI_len] at h
    obtain ⟨k, hk⟩ := (all_ev B (by omega) B.length 0 0 (by omega) (by omega) (Nat.le_refl _)).rounds
    refine ⟨k, ?_⟩
    rw [if_neg (by rw [bI_len]; exact h), Option.bind_some, if_pos (by rw [bI_len, List.length_nil]; omega), List.nil_append]
    exact hk

end Go.Proofs.YtiocgpfnbmlfaaaDoor.Pure
