/- Made by a program of this session (wip/given.py) out of the translation: Lean functions for the Go functions, with the walks that show it; of a law: its row, at every input, no condition of its own. The law ScanStrings: what its two writers of strings write. The law ScanStrings: what Next answers over one of the three ways, with anything behind it, and without its end. The laws' arguments that are rows of bytes. The law ScanStrings: its walk, at every input. The law ScanStrings at every input. -/
import Derived.Test.YtiocgpfnbmlfaaaDoorBSt4

/-! ## PS2x1 -/
namespace Go.Proofs.YtiocgpfnbmlfaaaDoor.PS2
open Go.RowKit Go.Proofs.YtiocgpfnbmlfaaaDoorW.PrintWords Go.Proofs.YtiocgpfnbmlfaaaDoorW.PrintLast Go.Proofs.YtiocgpfnbmlfaaaDoorW.PrintMore
attribute [local go_sem] max2_int min2_int max_two min_two max_three min_three max_four min_four   -- for this text's walks alone
set_option linter.unusedVariables false
set_option linter.unusedSimpArgs false

/-! ### mezzotintlaw04_escaped: function 27 -/
def mezzotintlaw04_escaped.l0 : Nat → List Int → Bool → List Int → Int → Option (ByteArray)
  | 0, _, _, _, _ => none
  | k + 1, x0, x1, x5, x6 => if x6 < (x0.length : Int) then (if 0 ≤ x6 then (if x1 = true then (if (rd x0 x6) = 40 then ((some (([92, (48 + ((Int.tdiv (rd x0 x6) 64) % 256)) % 256, 48 + (((Int.tdiv (rd x0 x6) 8) % 256) % 8), (48 + (Int.tmod (rd x0 x6) 8)) % 256] : List Int) : List Int)).bind fun y105 => (if x5.length + y105.length < 140737488355328 then (mezzotintlaw04_escaped.l0 k x0 x1 (x5 ++ y105) (wrap64 (x6 + 1))) else (none))) else (if (rd x0 x6) = 41 then ((some (([92, (48 + ((Int.tdiv (rd x0 x6) 64) % 256)) % 256, 48 + (((Int.tdiv (rd x0 x6) 8) % 256) % 8), (48 + (Int.tmod (rd x0 x6) 8)) % 256] : List Int) : List Int)).bind fun y111 => (if x5.length + y111.length < 140737488355328 then (mezzotintlaw04_escaped.l0 k x0 x1 (x5 ++ y111) (wrap64 (x6 + 1))) else (none))) else (if (rd x0 x6) = 92 then ((some (([92, (48 + ((Int.tdiv (rd x0 x6) 64) % 256)) % 256, 48 + (((Int.tdiv (rd x0 x6) 8) % 256) % 8), (48 + (Int.tmod (rd x0 x6) 8)) % 256] : List Int) : List Int)).bind fun y117 => (if x5.length + y117.length < 140737488355328 then (mezzotintlaw04_escaped.l0 k x0 x1 (x5 ++ y117) (wrap64 (x6 + 1))) else (none))) else (if (rd x0 x6) = 13 then ((some (([92, (48 + ((Int.tdiv (rd x0 x6) 64) % 256)) % 256, 48 + (((Int.tdiv (rd x0 x6) 8) % 256) % 8), (48 + (Int.tmod (rd x0 x6) 8)) % 256] : List Int) : List Int)).bind fun y123 => (if x5.length + y123.length < 140737488355328 then (mezzotintlaw04_escaped.l0 k x0 x1 (x5 ++ y123) (wrap64 (x6 + 1))) else (none))) else (if x5.length < 140737488355328 then (mezzotintlaw04_escaped.l0 k x0 x1 (x5 ++ [rd x0 x6]) (wrap64 (x6 + 1))) else (none)))))) else ((some (([92, (48 + ((Int.tdiv (rd x0 x6) 64) % 256)) % 256, 48 + (((Int.tdiv (rd x0 x6) 8) % 256) % 8), (48 + (Int.tmod (rd x0 x6) 8)) % 256] : List Int) : List Int)).bind fun y132 => (if x5.length + y132.length < 140737488355328 then (mezzotintlaw04_escaped.l0 k x0 x1 (x5 ++ y132) (wrap64 (x6 + 1))) else (none)))) else (none)) else (if x5.length < 140737488355328 then (some (strOfNums (x5 ++ [41]))) else (none))
def mezzotintlaw04_escaped.f (k : Nat) (l0 : List Int) (a1 : Bool) : Option (ByteArray) := mezzotintlaw04_escaped.l0 k l0 a1 (([40] : List Int)) 0
theorem mezzotintlaw04_escaped.mono_l : ∀ k, (∀ y0 y1 y2 y3, LeO (mezzotintlaw04_escaped.l0 k y0 y1 y2 y3) (mezzotintlaw04_escaped.l0 (k + 1) y0 y1 y2 y3))
  | 0 => fun _ _ _ _ r h => by simp [mezzotintlaw04_escaped.l0] at h
  | k + 1 => by
    have ih0 := mezzotintlaw04_escaped.mono_l k
    · intro y0 y1 y2 y3
      unfold mezzotintlaw04_escaped.l0
      repeat' first
      | (with_reducible exact ih0 _ _ _ _)
      | (with_reducible exact LeO.refl _)
      | (with_reducible exact LeO.none _)
      | (with_reducible refine LeO.ite ?_ ?_)
      | (with_reducible refine LeO.bind ?_ (fun _ => ?_))
      | exact ih0 _ _ _ _
      | exact LeO.none _
      | refine LeO.ite ?_ ?_
      | refine LeO.bind ?_ (fun _ => ?_)
theorem mezzotintlaw04_escaped.mono : ∀ a0 a1 k, LeO (mezzotintlaw04_escaped.f k a0 a1) (mezzotintlaw04_escaped.f (k + 1) a0 a1) := by
  intro a0 a1 k
  have ih0 := mezzotintlaw04_escaped.mono_l k
  unfold mezzotintlaw04_escaped.f
  repeat' first
      | (with_reducible exact ih0 _ _ _ _)
      | (with_reducible exact LeO.refl _)
      | (with_reducible exact LeO.none _)
      | (with_reducible refine LeO.ite ?_ ?_)
      | (with_reducible refine LeO.bind ?_ (fun _ => ?_))
      | exact ih0 _ _ _ _
      | exact LeO.none _
      | refine LeO.ite ?_ ?_
      | refine LeO.bind ?_ (fun _ => ?_)
set_option maxHeartbeats 8000000 in
set_option maxRecDepth 100000 in
theorem mezzotintlaw04_escaped.calls (k : Nat) (A0 : Option Addr) (c0 : Nat) (l0 : List Int) (a1 : Bool) (r : ByteArray) (w : World) (hr0 : Kd.C (Kd.int .u8) w A0 l0.length l0) (hc0 : l0.length ≤ c0) (h : mezzotintlaw04_escaped.f k l0 a1 = some r) :
    Calls Tryd.prog 27 #[.slice A0 l0.length c0, .bool a1] w fun e w' => e = .returned (.string r) ∧ Below w.heap.size w w' := by
  have HR0 := Aside0.mk hr0
  have HC0 := Aside0.mk hc0
  clear hr0 hc0
  have HB := Aside0.mk (Below.refl w.heap.size w)
  have H : (mezzotintlaw04_escaped.l0 k l0 a1 (([40] : List Int)) 0) = some r := h
  clear h
  obtain ⟨y101, hy101⟩ : ∃ y_ : List Int, y_ = (([40] : List Int)) := ⟨_, rfl⟩
  replace H : (mezzotintlaw04_escaped.l0 k l0 a1 y101 0) = some r := by first | (rw [hy101]; with_reducible exact H) | (have H2_ := (Option.bind_some _ _).symm.trans H; rw [hy101]; with_reducible exact H2_) | (have H2_ := (Option.bind_some _ _).symm.trans H; with_reducible exact H2_) | with_reducible exact H | (rw [hy101]; exact H) | exact H
  have Ny101 := Aside0.mk hy101
  clear hy101
  have H' := Aside0.mk H
  clear H
  go_enter Tryd.func27, Tryd.ntmps27
  go_wp2_with (first | ((with_reducible refine gate_dst (N := 8) rfl ?_); refine Kd.R_lit (Kd.int .u8) _ 5 ?hg (N := 8) ?hd (xs := ([40] : List Int)) (inner := [.int .u8 40]) (ok := fun _ => True) (okp := fun _ => True) ?hr ?hp (fun _ hk => hk) trivial (Below.refl _ _) (Nat.le_refl _) (by simp) ?_; (case hd => rfl); (case hg => rfl); (case hr => first | (go_simp; done) | (go_simp; rfl)); (case hp => exact (Reps.one (show Kd.M (Kd.int .u8) _ _ _ 40 [.int .u8 40] from rfl) (Reps.none _ _))); intro v102 w3 ho4 hb hg_ hnew_; clear hg_ hnew_; (first | rw [← Ny101.out] at ho4 | (simp only [Int.reduceToNat] at ho4; rw [← Ny101.out] at ho4)); have n0_ := Aside0.mk (Kd.R_lower ho4 (below_size (by repeat (first | (with_reducible first | exact HB.out | apply below_alloc | apply pw_below_drewN | apply below_drew1) | exact HB.out)))); have n1_ := Aside0.mk (below_step (by repeat (first | (with_reducible first | exact HB.out | apply below_alloc | apply pw_below_drewN | apply below_drew1) | exact HB.out)) hb); clear HB; have HO103 := n0_; have HB := n1_; clear n0_ n1_; clear hb ho4))
  go_loopg [5, 6] k (fun kq v5 v6 w' => ∃ (x5_1 : List Int) (x6_1 : Int), v6 = .int .i64 x6_1 ∧ Aside0 (mezzotintlaw04_escaped.l0 kq l0 a1 x5_1 x6_1 = some r) ∧ Aside0 (kq ≤ k) ∧ Aside0 (Kd.R (Kd.int .u8) 5 w' w.heap.size (fun _ => True) v5 x5_1) ∧ Aside0 (Below w.heap.size w w'))
  case atStart => exact ⟨(y101), (0), (by first | rfl | (simp; done) | (simp [*]; done)), H', ⟨Nat.le_refl _⟩, ⟨by (with_reducible repeat (first | apply Kd.R_alloc | apply Kd.R_drewN | apply Kd.R_drew)); exact HO103.out⟩, ⟨by repeat (first | (with_reducible first | exact HB.out | apply below_alloc | apply pw_below_drewN | apply below_drew1) | exact HB.out)⟩⟩
  case round =>
    clear H'
    try clear c2
    try clear p2
    obtain ⟨x5_1, x6_1, rfl, HA, HK1, HO_5, HB⟩ := hrel
    cases gk with
    | zero => exact absurd HA.out (by simp [mezzotintlaw04_escaped.l0])
    | succ k1 =>
      have H := HA.out
      clear HA
      simp only [mezzotintlaw04_escaped.l0] at H
      by_cases c5 : x6_1 < (l0.length : Int)
      · rw [if_pos c5] at H
        have c5b0 : decide (x6_1 < (l0.length : Int)) = true := decide_eq_true c5
        clear c5
        by_cases c6 : 0 ≤ x6_1
        · rw [if_pos c6] at H
          have c6b0 : decide (0 ≤ x6_1) = true := decide_eq_true c6
          clear c6
          by_cases c7 : a1 = true
          · subst c7
            have H1 : (if (rd l0 x6_1) = 40 then ((some (([92, (48 + ((Int.tdiv (rd l0 x6_1) 64) % 256)) % 256, 48 + (((Int.tdiv (rd l0 x6_1) 8) % 256) % 8), (48 + (Int.tmod (rd l0 x6_1) 8)) % 256] : List Int) : List Int)).bind fun y105 => (if x5_1.length + y105.length < 140737488355328 then (mezzotintlaw04_escaped.l0 k1 l0 true (x5_1 ++ y105) (wrap64 (x6_1 + 1))) else (none))) else (if (rd l0 x6_1) = 41 then ((some (([92, (48 + ((Int.tdiv (rd l0 x6_1) 64) % 256)) % 256, 48 + (((Int.tdiv (rd l0 x6_1) 8) % 256) % 8), (48 + (Int.tmod (rd l0 x6_1) 8)) % 256] : List Int) : List Int)).bind fun y111 => (if x5_1.length + y111.length < 140737488355328 then (mezzotintlaw04_escaped.l0 k1 l0 true (x5_1 ++ y111) (wrap64 (x6_1 + 1))) else (none))) else (if (rd l0 x6_1) = 92 then ((some (([92, (48 + ((Int.tdiv (rd l0 x6_1) 64) % 256)) % 256, 48 + (((Int.tdiv (rd l0 x6_1) 8) % 256) % 8), (48 + (Int.tmod (rd l0 x6_1) 8)) % 256] : List Int) : List Int)).bind fun y117 => (if x5_1.length + y117.length < 140737488355328 then (mezzotintlaw04_escaped.l0 k1 l0 true (x5_1 ++ y117) (wrap64 (x6_1 + 1))) else (none))) else (if (rd l0 x6_1) = 13 then ((some (([92, (48 + ((Int.tdiv (rd l0 x6_1) 64) % 256)) % 256, 48 + (((Int.tdiv (rd l0 x6_1) 8) % 256) % 8), (48 + (Int.tmod (rd l0 x6_1) 8)) % 256] : List Int) : List Int)).bind fun y123 => (if x5_1.length + y123.length < 140737488355328 then (mezzotintlaw04_escaped.l0 k1 l0 true (x5_1 ++ y123) (wrap64 (x6_1 + 1))) else (none))) else (if x5_1.length < 140737488355328 then (mezzotintlaw04_escaped.l0 k1 l0 true (x5_1 ++ [rd l0 x6_1]) (wrap64 (x6_1 + 1))) else (none)))))) = some r := by rw [if_pos rfl] at H; exact H
            clear H
            have H := H1
            clear H1
            by_cases c8 : (rd l0 x6_1) = 40
            · rw [if_pos c8] at H
              have c8b0 : ((rd l0 x6_1) == 40) = true := beq_iff_eq.mpr c8
              have c8b1 : ((rd l0 x6_1) != 40) = false := bne_eq_false_iff_eq.mpr c8
              clear c8
              obtain ⟨y105, hy105⟩ : ∃ y_ : List Int, y_ = (([92, (48 + ((Int.tdiv (rd l0 x6_1) 64) % 256)) % 256, 48 + (((Int.tdiv (rd l0 x6_1) 8) % 256) % 8), (48 + (Int.tmod (rd l0 x6_1) 8)) % 256] : List Int)) := ⟨_, rfl⟩
              replace H : (if x5_1.length + y105.length < 140737488355328 then (mezzotintlaw04_escaped.l0 k1 l0 true (x5_1 ++ y105) (wrap64 (x6_1 + 1))) else (none)) = some r := by first | (rw [hy105]; with_reducible exact H) | (have H2_ := (Option.bind_some _ _).symm.trans H; rw [hy105]; with_reducible exact H2_) | (have H2_ := (Option.bind_some _ _).symm.trans H; with_reducible exact H2_) | with_reducible exact H | (rw [hy105]; exact H) | exact H
              have Ny105 := Aside0.mk hy105
              clear hy105
              by_cases c9 : x5_1.length + y105.length < 140737488355328
              · rw [if_pos c9] at H
                have LMc9 := Aside0.mk c9
                clear c9
                obtain ⟨y108, hy108⟩ : ∃ y_ : List Int, y_ = (x5_1 ++ y105) := ⟨_, rfl⟩
                replace H : (mezzotintlaw04_escaped.l0 k1 l0 true y108 (wrap64 (x6_1 + 1))) = some r := by first | (rw [hy108]; with_reducible exact H) | (have H2_ := (Option.bind_some _ _).symm.trans H; rw [hy108]; with_reducible exact H2_) | (have H2_ := (Option.bind_some _ _).symm.trans H; with_reducible exact H2_) | with_reducible exact H | (rw [hy108]; exact H) | exact H
                have Ny108 := Aside0.mk hy108
                clear hy108
                have H' := Aside0.mk H
                clear H
                have p104 : 0 ≤ (x6_1 : Int) := of_decide_eq_true (by first | (with_reducible assumption) | assumption)
                have q104 : x6_1 < (l0.length : Int) := of_decide_eq_true (by first | (with_reducible assumption) | assumption)
                obtain ⟨ad104, e104, hx104_0⟩ := Kd.at_int HR0.out x6_1 p104 q104
                cases e104
                replace hx104_0 := (HB.out.cell (World.block_lt_of_cell? w _ hx104_0)).trans hx104_0
                replace p104 := eq_true p104
                replace q104 := eq_true q104
                go_wp2_with (first | ((with_reducible refine gate_dst (N := 51) rfl ?_); refine Kd.R_lit (Kd.int .u8) _ 5 ?hg (N := 51) ?hd (xs := ([92, (48 + ((Int.tdiv (rd l0 x6_1) 64) % 256)) % 256, 48 + (((Int.tdiv (rd l0 x6_1) 8) % 256) % 8), (48 + (Int.tmod (rd l0 x6_1) 8)) % 256] : List Int)) (inner := [.int .u8 92, .int .u8 ((48 + ((Int.tdiv (rd l0 x6_1) 64) % 256)) % 256), .int .u8 (48 + (((Int.tdiv (rd l0 x6_1) 8) % 256) % 8)), .int .u8 ((48 + (Int.tmod (rd l0 x6_1) 8)) % 256)]) (ok := fun _ => True) (okp := fun _ => True) ?hr ?hp (fun _ hk => hk) trivial (Below.refl _ _) (Nat.le_refl _) (by simp) ?_; (case hd => rfl); (case hg => rfl); (case hr => first | (go_simp; done) | (go_simp; rfl)); (case hp => exact (Reps.one (show Kd.M (Kd.int .u8) _ _ _ 92 [.int .u8 92] from rfl) (Reps.one (show Kd.M (Kd.int .u8) _ _ _ ((48 + ((Int.tdiv (rd l0 x6_1) 64) % 256)) % 256) [.int .u8 ((48 + ((Int.tdiv (rd l0 x6_1) 64) % 256)) % 256)] from rfl) (Reps.one (show Kd.M (Kd.int .u8) _ _ _ (48 + (((Int.tdiv (rd l0 x6_1) 8) % 256) % 8)) [.int .u8 (48 + (((Int.tdiv (rd l0 x6_1) 8) % 256) % 8))] from rfl) (Reps.one (show Kd.M (Kd.int .u8) _ _ _ ((48 + (Int.tmod (rd l0 x6_1) 8)) % 256) [.int .u8 ((48 + (Int.tmod (rd l0 x6_1) 8)) % 256)] from rfl) (Reps.none _ _)))))); intro v106 w10 ho11 hb hg_ hnew_; clear hg_ hnew_; (first | rw [← Ny105.out] at ho11 | (simp only [Int.reduceToNat] at ho11; rw [← Ny105.out] at ho11)); have n0_ := Aside0.mk (Kd.R_elder' (by (with_reducible repeat (first | apply Kd.R_alloc | apply Kd.R_drewN | apply Kd.R_drew)); exact HO_5.out) (Kd.R_base ho11) hb); have n1_ := Aside0.mk (Kd.R_lower (Kd.R_new' ho11 (Kd.R_lt (by (with_reducible repeat (first | apply Kd.R_alloc | apply Kd.R_drewN | apply Kd.R_drew)); exact HO_5.out))) (below_size (by repeat (first | (with_reducible first | exact HB.out | apply below_alloc | apply pw_below_drewN | apply below_drew1) | exact HB.out)))); have n2_ := Aside0.mk (below_step (by repeat (first | (with_reducible first | exact HB.out | apply below_alloc | apply pw_below_drewN | apply below_drew1) | exact HB.out)) hb); clear HO_5; clear HB; have HO_5 := n0_; have HO107 := n1_; have HB := n2_; clear n0_ n1_ n2_; clear hb ho11; obtain ⟨Ao13, co13, eo13⟩ := Kd.R_slice HO107.out; subst eo13) | ((with_reducible refine gate_builtin (b := .append) (xs := #[.tmp 40, .tmp 51]) rfl ?_); at_builtin; refine Kd.R_append_rows (Kd.int .u8) (w0 := w) w.heap.size rfl (.tmp 40) (.tmp 51) 32 5 (.int .u8 0) 1 rfl Tryd.underlying32 info5 rfl (by decide) (by omega) u5 x5_1 y105 _ _ _ (fun k_ => some k_ ≠ (.slice Ao13 y105.length co13 : Value).ownBlock) (fun _ => False) rfl rfl ?aO ?aR (fun _ _ h => h) (fun _ h => h.elim) ?aF ?aB ?aS ?aL ?_; (case aR => repeat (first | exact (Kd.R_reads' HO107.out).2.2 | (with_reducible refine Kd.C_alloc ?_ _) | (with_reducible refine Kd.C_drewN ?_ _) | (with_reducible refine Kd.C_drew ?_))); (case aB => exact (by repeat (first | (with_reducible first | exact HB.out | apply below_alloc | apply pw_below_drewN | apply below_drew1) | exact HB.out))); (case aF => exact (fun k_ hk => Kd.fresh' (Kd.R_lt (by (with_reducible repeat (first | apply Kd.R_alloc | apply Kd.R_drewN | apply Kd.R_drew)); exact HO107.out)) k_ hk)); (case aO => exact (by (with_reducible repeat (first | apply Kd.R_alloc | apply Kd.R_drewN | apply Kd.R_drew)); exact Kd.R_mono HO_5.out (fun _ hk => hk.2))); (case aS => exact (below_size (by repeat (first | (with_reducible first | exact HB.out | apply below_alloc | apply pw_below_drewN | apply below_drew1) | exact HB.out)))); (case aL => have := LMc9.out; omega); intro v109 w12 ho hb hg hat; rw [← Ny108.out] at ho; have n0_ := Aside0.mk (Kd.R_after (ok := (fun _ => True)) (by (with_reducible repeat (first | apply Kd.R_alloc | apply Kd.R_drewN | apply Kd.R_drew)); exact HO107.out) hg hat); have n1_ := Aside0.mk (hb); have n2_ := Aside0.mk (ho); clear HO107; clear HB; clear HO_5; have HO107 := n0_; have HB := n1_; have HO110 := n2_; clear n0_ n1_ n2_; clear ho hb hg hat))
                go_roundg k1
                case measure => have := HK1.out; omega
                case rel => exact ⟨(y108), (wrap64 (x6_1 + 1)), (by first | rfl | (simp; done) | (simp [*]; done)), H', ⟨by have := HK1.out; omega⟩, ⟨by (with_reducible repeat (first | apply Kd.R_alloc | apply Kd.R_drewN | apply Kd.R_drew)); exact Kd.R_mono HO110.out (fun _ hk => trivial)⟩, ⟨by repeat (first | (with_reducible first | exact HB.out | apply below_alloc | apply pw_below_drewN | apply below_drew1) | exact HB.out)⟩⟩
              · rw [if_neg c9] at H
                exact absurd H (by simp)
            · rw [if_neg c8] at H
              have c8b0 : ((rd l0 x6_1) == 40) = false := beq_eq_false_iff_ne.mpr c8
              have c8b1 : ((rd l0 x6_1) != 40) = true := bne_iff_ne.mpr c8
              by_cases c14 : (rd l0 x6_1) = 41
              · rw [if_pos c14] at H
                have c14b0 : ((rd l0 x6_1) == 41) = true := beq_iff_eq.mpr c14
                have c14b1 : ((rd l0 x6_1) != 41) = false := bne_eq_false_iff_eq.mpr c14
                clear c14
                obtain ⟨y111, hy111⟩ : ∃ y_ : List Int, y_ = (([92, (48 + ((Int.tdiv (rd l0 x6_1) 64) % 256)) % 256, 48 + (((Int.tdiv (rd l0 x6_1) 8) % 256) % 8), (48 + (Int.tmod (rd l0 x6_1) 8)) % 256] : List Int)) := ⟨_, rfl⟩
                replace H : (if x5_1.length + y111.length < 140737488355328 then (mezzotintlaw04_escaped.l0 k1 l0 true (x5_1 ++ y111) (wrap64 (x6_1 + 1))) else (none)) = some r := by first | (rw [hy111]; with_reducible exact H) | (have H2_ := (Option.bind_some _ _).symm.trans H; rw [hy111]; with_reducible exact H2_) | (have H2_ := (Option.bind_some _ _).symm.trans H; with_reducible exact H2_) | with_reducible exact H | (rw [hy111]; exact H) | exact H
                have Ny111 := Aside0.mk hy111
                clear hy111
                by_cases c15 : x5_1.length + y111.length < 140737488355328
                · rw [if_pos c15] at H
                  have LMc15 := Aside0.mk c15
                  clear c15
                  obtain ⟨y114, hy114⟩ : ∃ y_ : List Int, y_ = (x5_1 ++ y111) := ⟨_, rfl⟩
                  replace H : (mezzotintlaw04_escaped.l0 k1 l0 true y114 (wrap64 (x6_1 + 1))) = some r := by first | (rw [hy114]; with_reducible exact H) | (have H2_ := (Option.bind_some _ _).symm.trans H; rw [hy114]; with_reducible exact H2_) | (have H2_ := (Option.bind_some _ _).symm.trans H; with_reducible exact H2_) | with_reducible exact H | (rw [hy114]; exact H) | exact H
                  have Ny114 := Aside0.mk hy114
                  clear hy114
                  have H' := Aside0.mk H
                  clear H
                  have p104 : 0 ≤ (x6_1 : Int) := of_decide_eq_true (by first | (with_reducible assumption) | assumption)
                  have q104 : x6_1 < (l0.length : Int) := of_decide_eq_true (by first | (with_reducible assumption) | assumption)
                  obtain ⟨ad104, e104, hx104_0⟩ := Kd.at_int HR0.out x6_1 p104 q104
                  cases e104
                  replace hx104_0 := (HB.out.cell (World.block_lt_of_cell? w _ hx104_0)).trans hx104_0
                  replace p104 := eq_true p104
                  replace q104 := eq_true q104
                  go_wp2_with (first | ((with_reducible refine gate_dst (N := 51) rfl ?_); refine Kd.R_lit (Kd.int .u8) _ 5 ?hg (N := 51) ?hd (xs := ([92, (48 + ((Int.tdiv (rd l0 x6_1) 64) % 256)) % 256, 48 + (((Int.tdiv (rd l0 x6_1) 8) % 256) % 8), (48 + (Int.tmod (rd l0 x6_1) 8)) % 256] : List Int)) (inner := [.int .u8 92, .int .u8 ((48 + ((Int.tdiv (rd l0 x6_1) 64) % 256)) % 256), .int .u8 (48 + (((Int.tdiv (rd l0 x6_1) 8) % 256) % 8)), .int .u8 ((48 + (Int.tmod (rd l0 x6_1) 8)) % 256)]) (ok := fun _ => True) (okp := fun _ => True) ?hr ?hp (fun _ hk => hk) trivial (Below.refl _ _) (Nat.le_refl _) (by simp) ?_; (case hd => rfl); (case hg => rfl); (case hr => first | (go_simp; done) | (go_simp; rfl)); (case hp => exact (Reps.one (show Kd.M (Kd.int .u8) _ _ _ 92 [.int .u8 92] from rfl) (Reps.one (show Kd.M (Kd.int .u8) _ _ _ ((48 + ((Int.tdiv (rd l0 x6_1) 64) % 256)) % 256) [.int .u8 ((48 + ((Int.tdiv (rd l0 x6_1) 64) % 256)) % 256)] from rfl) (Reps.one (show Kd.M (Kd.int .u8) _ _ _ (48 + (((Int.tdiv (rd l0 x6_1) 8) % 256) % 8)) [.int .u8 (48 + (((Int.tdiv (rd l0 x6_1) 8) % 256) % 8))] from rfl) (Reps.one (show Kd.M (Kd.int .u8) _ _ _ ((48 + (Int.tmod (rd l0 x6_1) 8)) % 256) [.int .u8 ((48 + (Int.tmod (rd l0 x6_1) 8)) % 256)] from rfl) (Reps.none _ _)))))); intro v112 w16 ho17 hb hg_ hnew_; clear hg_ hnew_; (first | rw [← Ny111.out] at ho17 | (simp only [Int.reduceToNat] at ho17; rw [← Ny111.out] at ho17)); have n0_ := Aside0.mk (Kd.R_elder' (by (with_reducible repeat (first | apply Kd.R_alloc | apply Kd.R_drewN | apply Kd.R_drew)); exact HO_5.out) (Kd.R_base ho17) hb); have n1_ := Aside0.mk (Kd.R_lower (Kd.R_new' ho17 (Kd.R_lt (by (with_reducible repeat (first | apply Kd.R_alloc | apply Kd.R_drewN | apply Kd.R_drew)); exact HO_5.out))) (below_size (by repeat (first | (with_reducible first | exact HB.out | apply below_alloc | apply pw_below_drewN | apply below_drew1) | exact HB.out)))); have n2_ := Aside0.mk (below_step (by repeat (first | (with_reducible first | exact HB.out | apply below_alloc | apply pw_below_drewN | apply below_drew1) | exact HB.out)) hb); clear HO_5; clear HB; have HO_5 := n0_; have HO113 := n1_; have HB := n2_; clear n0_ n1_ n2_; clear hb ho17; obtain ⟨Ao19, co19, eo19⟩ := Kd.R_slice HO113.out; subst eo19) | ((with_reducible refine gate_builtin (b := .append) (xs := #[.tmp 40, .tmp 51]) rfl ?_); at_builtin; refine Kd.R_append_rows (Kd.int .u8) (w0 := w) w.heap.size rfl (.tmp 40) (.tmp 51) 32 5 (.int .u8 0) 1 rfl Tryd.underlying32 info5 rfl (by decide) (by omega) u5 x5_1 y111 _ _ _ (fun k_ => some k_ ≠ (.slice Ao19 y111.length co19 : Value).ownBlock) (fun _ => False) rfl rfl ?aO ?aR (fun _ _ h => h) (fun _ h => h.elim) ?aF ?aB ?aS ?aL ?_; (case aR => repeat (first | exact (Kd.R_reads' HO113.out).2.2 | (with_reducible refine Kd.C_alloc ?_ _) | (with_reducible refine Kd.C_drewN ?_ _) | (with_reducible refine Kd.C_drew ?_))); (case aB => exact (by repeat (first | (with_reducible first | exact HB.out | apply below_alloc | apply pw_below_drewN | apply below_drew1) | exact HB.out))); (case aF => exact (fun k_ hk => Kd.fresh' (Kd.R_lt (by (with_reducible repeat (first | apply Kd.R_alloc | apply Kd.R_drewN | apply Kd.R_drew)); exact HO113.out)) k_ hk)); (case aO => exact (by (with_reducible repeat (first | apply Kd.R_alloc | apply Kd.R_drewN | apply Kd.R_drew)); exact Kd.R_mono HO_5.out (fun _ hk => hk.2))); (case aS => exact (below_size (by repeat (first | (with_reducible first | exact HB.out | apply below_alloc | apply pw_below_drewN | apply below_drew1) | exact HB.out)))); (case aL => have := LMc15.out; omega); intro v115 w18 ho hb hg hat; rw [← Ny114.out] at ho; have n0_ := Aside0.mk (Kd.R_after (ok := (fun _ => True)) (by (with_reducible repeat (first | apply Kd.R_alloc | apply Kd.R_drewN | apply Kd.R_drew)); exact HO113.out) hg hat); have n1_ := Aside0.mk (hb); have n2_ := Aside0.mk (ho); clear HO113; clear HB; clear HO_5; have HO113 := n0_; have HB := n1_; have HO116 := n2_; clear n0_ n1_ n2_; clear ho hb hg hat))
                  go_roundg k1
                  case measure => have := HK1.out; omega
                  case rel => exact ⟨(y114), (wrap64 (x6_1 + 1)), (by first | rfl | (simp; done) | (simp [*]; done)), H', ⟨by have := HK1.out; omega⟩, ⟨by (with_reducible repeat (first | apply Kd.R_alloc | apply Kd.R_drewN | apply Kd.R_drew)); exact Kd.R_mono HO116.out (fun _ hk => trivial)⟩, ⟨by repeat (first | (with_reducible first | exact HB.out | apply below_alloc | apply pw_below_drewN | apply below_drew1) | exact HB.out)⟩⟩
                · rw [if_neg c15] at H
                  exact absurd H (by simp)
              · rw [if_neg c14] at H
                have c14b0 : ((rd l0 x6_1) == 41) = false := beq_eq_false_iff_ne.mpr c14
                have c14b1 : ((rd l0 x6_1) != 41) = true := bne_iff_ne.mpr c14
                by_cases c20 : (rd l0 x6_1) = 92
                · rw [if_pos c20] at H
                  have c20b0 : ((rd l0 x6_1) == 92) = true := beq_iff_eq.mpr c20
                  have c20b1 : ((rd l0 x6_1) != 92) = false := bne_eq_false_iff_eq.mpr c20
                  clear c20
                  obtain ⟨y117, hy117⟩ : ∃ y_ : List Int, y_ = (([92, (48 + ((Int.tdiv (rd l0 x6_1) 64) % 256)) % 256, 48 + (((Int.tdiv (rd l0 x6_1) 8) % 256) % 8), (48 + (Int.tmod (rd l0 x6_1) 8)) % 256] : List Int)) := ⟨_, rfl⟩
                  replace H : (if x5_1.length + y117.length < 140737488355328 then (mezzotintlaw04_escaped.l0 k1 l0 true (x5_1 ++ y117) (wrap64 (x6_1 + 1))) else (none)) = some r := by first | (rw [hy117]; with_reducible exact H) | (have H2_ := (Option.bind_some _ _).symm.trans H; rw [hy117]; with_reducible exact H2_) | (have H2_ := (Option.bind_some _ _).symm.trans H; with_reducible exact H2_) | with_reducible exact H | (rw [hy117]; exact H) | exact H
                  have Ny117 := Aside0.mk hy117
                  clear hy117
                  by_cases c21 : x5_1.length + y117.length < 140737488355328
                  · rw [if_pos c21] at H
                    have LMc21 := Aside0.mk c21
                    clear c21
                    obtain ⟨y120, hy120⟩ : ∃ y_ : List Int, y_ = (x5_1 ++ y117) := ⟨_, rfl⟩
                    replace H : (mezzotintlaw04_escaped.l0 k1 l0 true y120 (wrap64 (x6_1 + 1))) = some r := by first | (rw [hy120]; with_reducible exact H) | (have H2_ := (Option.bind_some _ _).symm.trans H; rw [hy120]; with_reducible exact H2_) | (have H2_ := (Option.bind_some _ _).symm.trans H; with_reducible exact H2_) | with_reducible exact H | (rw [hy120]; exact H) | exact H
                    have Ny120 := Aside0.mk hy120
                    clear hy120
                    have H' := Aside0.mk H
                    clear H
                    have p104 : 0 ≤ (x6_1 : Int) := of_decide_eq_true (by first | (with_reducible assumption) | assumption)
                    have q104 : x6_1 < (l0.length : Int) := of_decide_eq_true (by first | (with_reducible assumption) | assumption)
                    obtain ⟨ad104, e104, hx104_0⟩ := Kd.at_int HR0.out x6_1 p104 q104
                    cases e104
                    replace hx104_0 := (HB.out.cell (World.block_lt_of_cell? w _ hx104_0)).trans hx104_0
                    replace p104 := eq_true p104
                    replace q104 := eq_true q104
                    go_wp2_with (first | ((with_reducible refine gate_dst (N := 51) rfl ?_); refine Kd.R_lit (Kd.int .u8) _ 5 ?hg (N := 51) ?hd (xs := ([92, (48 + ((Int.tdiv (rd l0 x6_1) 64) % 256)) % 256, 48 + (((Int.tdiv (rd l0 x6_1) 8) % 256) % 8), (48 + (Int.tmod (rd l0 x6_1) 8)) % 256] : List Int)) (inner := [.int .u8 92, .int .u8 ((48 + ((Int.tdiv (rd l0 x6_1) 64) % 256)) % 256), .int .u8 (48 + (((Int.tdiv (rd l0 x6_1) 8) % 256) % 8)), .int .u8 ((48 + (Int.tmod (rd l0 x6_1) 8)) % 256)]) (ok := fun _ => True) (okp := fun _ => True) ?hr ?hp (fun _ hk => hk) trivial (Below.refl _ _) (Nat.le_refl _) (by simp) ?_; (case hd => rfl); (case hg => rfl); (case hr => first | (go_simp; done) | (go_simp; rfl)); (case hp => exact (Reps.one (show Kd.M (Kd.int .u8) _ _ _ 92 [.int .u8 92] from rfl) (Reps.one (show Kd.M (Kd.int .u8) _ _ _ ((48 + ((Int.tdiv (rd l0 x6_1) 64) % 256)) % 256) [.int .u8 ((48 + ((Int.tdiv (rd l0 x6_1) 64) % 256)) % 256)] from rfl) (Reps.one (show Kd.M (Kd.int .u8) _ _ _ (48 + (((Int.tdiv (rd l0 x6_1) 8) % 256) % 8)) [.int .u8 (48 + (((Int.tdiv (rd l0 x6_1) 8) % 256) % 8))] from rfl) (Reps.one (show Kd.M (Kd.int .u8) _ _ _ ((48 + (Int.tmod (rd l0 x6_1) 8)) % 256) [.int .u8 ((48 + (Int.tmod (rd l0 x6_1) 8)) % 256)] from rfl) (Reps.none _ _)))))); intro v118 w22 ho23 hb hg_ hnew_; clear hg_ hnew_; (first | rw [← Ny117.out] at ho23 | (simp only [Int.reduceToNat] at ho23; rw [← Ny117.out] at ho23)); have n0_ := Aside0.mk (Kd.R_elder' (by (with_reducible repeat (first | apply Kd.R_alloc | apply Kd.R_drewN | apply Kd.R_drew)); exact HO_5.out) (Kd.R_base ho23) hb); have n1_ := Aside0.mk (Kd.R_lower (Kd.R_new' ho23 (Kd.R_lt (by (with_reducible repeat (first | apply Kd.R_alloc | apply Kd.R_drewN | apply Kd.R_drew)); exact HO_5.out))) (below_size (by repeat (first | (with_reducible first | exact HB.out | apply below_alloc | apply pw_below_drewN | apply below_drew1) | exact HB.out)))); have n2_ := Aside0.mk (below_step (by repeat (first | (with_reducible first | exact HB.out | apply below_alloc | apply pw_below_drewN | apply below_drew1) | exact HB.out)) hb); clear HO_5; clear HB; have HO_5 := n0_; have HO119 := n1_; have HB := n2_; clear n0_ n1_ n2_; clear hb ho23; obtain ⟨Ao25, co25, eo25⟩ := Kd.R_slice HO119.out; subst eo25) | ((with_reducible refine gate_builtin (b := .append) (xs := #[.tmp 40, .tmp 51]) rfl ?_); at_builtin; refine Kd.R_append_rows (Kd.int .u8) (w0 := w) w.heap.size rfl (.tmp 40) (.tmp 51) 32 5 (.int .u8 0) 1 rfl Tryd.underlying32 info5 rfl (by decide) (by omega) u5 x5_1 y117 _ _ _ (fun k_ => some k_ ≠ (.slice Ao25 y117.length co25 : Value).ownBlock) (fun _ => False) rfl rfl ?aO ?aR (fun _ _ h => h) (fun _ h => h.elim) ?aF ?aB ?aS ?aL ?_; (case aR => repeat (first | exact (Kd.R_reads' HO119.out).2.2 | (with_reducible refine Kd.C_alloc ?_ _) | (with_reducible refine Kd.C_drewN ?_ _) | (with_reducible refine Kd.C_drew ?_))); (case aB => exact (by repeat (first | (with_reducible first | exact HB.out | apply below_alloc | apply pw_below_drewN | apply below_drew1) | exact HB.out))); (case aF => exact (fun k_ hk => Kd.fresh' (Kd.R_lt (by (with_reducible repeat (first | apply Kd.R_alloc | apply Kd.R_drewN | apply Kd.R_drew)); exact HO119.out)) k_ hk)); (case aO => exact (by (with_reducible repeat (first | apply Kd.R_alloc | apply Kd.R_drewN | apply Kd.R_drew)); exact Kd.R_mono HO_5.out (fun _ hk => hk.2))); (case aS => exact (below_size (by repeat (first | (with_reducible first | exact HB.out | apply below_alloc | apply pw_below_drewN | apply below_drew1) | exact HB.out)))); (case aL => have := LMc21.out; omega); intro v121 w24 ho hb hg hat; rw [← Ny120.out] at ho; have n0_ := Aside0.mk (Kd.R_after (ok := (fun _ => True)) (by (with_reducible repeat (first | apply Kd.R_alloc | apply Kd.R_drewN | apply Kd.R_drew)); exact HO119.out) hg hat); have n1_ := Aside0.mk (hb); have n2_ := Aside0.mk (ho); clear HO119; clear HB; clear HO_5; have HO119 := n0_; have HB := n1_; have HO122 := n2_; clear n0_ n1_ n2_; clear ho hb hg hat))
                    go_roundg k1
                    case measure => have := HK1.out; omega
                    case rel => exact ⟨(y120), (wrap64 (x6_1 + 1)), (by first | rfl | (simp; done) | (simp [*]; done)), H', ⟨by have := HK1.out; omega⟩, ⟨by (with_reducible repeat (first | apply Kd.R_alloc | apply Kd.R_drewN | apply Kd.R_drew)); exact Kd.R_mono HO122.out (fun _ hk => trivial)⟩, ⟨by repeat (first | (with_reducible first | exact HB.out | apply below_alloc | apply pw_below_drewN | apply below_drew1) | exact HB.out)⟩⟩
                  · rw [if_neg c21] at H
                    exact absurd H (by simp)
                · rw [if_neg c20] at H
                  have c20b0 : ((rd l0 x6_1) == 92) = false := beq_eq_false_iff_ne.mpr c20
                  have c20b1 : ((rd l0 x6_1) != 92) = true := bne_iff_ne.mpr c20
                  by_cases c26 : (rd l0 x6_1) = 13
                  · rw [if_pos c26] at H
                    have c26b0 : ((rd l0 x6_1) == 13) = true := beq_iff_eq.mpr c26
                    have c26b1 : ((rd l0 x6_1) != 13) = false := bne_eq_false_iff_eq.mpr c26
                    clear c26
                    obtain ⟨y123, hy123⟩ : ∃ y_ : List Int, y_ = (([92, (48 + ((Int.tdiv (rd l0 x6_1) 64) % 256)) % 256, 48 + (((Int.tdiv (rd l0 x6_1) 8) % 256) % 8), (48 + (Int.tmod (rd l0 x6_1) 8)) % 256] : List Int)) := ⟨_, rfl⟩
                    replace H : (if x5_1.length + y123.length < 140737488355328 then (mezzotintlaw04_escaped.l0 k1 l0 true (x5_1 ++ y123) (wrap64 (x6_1 + 1))) else (none)) = some r := by first | (rw [hy123]; with_reducible exact H) | (have H2_ := (Option.bind_some _ _).symm.trans H; rw [hy123]; with_reducible exact H2_) | (have H2_ := (Option.bind_some _ _).symm.trans H; with_reducible exact H2_) | with_reducible exact H | (rw [hy123]; exact H) | exact H
                    have Ny123 := Aside0.mk hy123
                    clear hy123
                    by_cases c27 : x5_1.length + y123.length < 140737488355328
                    · rw [if_pos c27] at H
                      have LMc27 := Aside0.mk c27
                      clear c27
                      obtain ⟨y126, hy126⟩ : ∃ y_ : List Int, y_ = (x5_1 ++ y123) := ⟨_, rfl⟩
                      replace H : (mezzotintlaw04_escaped.l0 k1 l0 true y126 (wrap64 (x6_1 + 1))) = some r := by first | (rw [hy126]; with_reducible exact H) | (have H2_ := (Option.bind_some _ _).symm.trans H; rw [hy126]; with_reducible exact H2_) | (have H2_ := (Option.bind_some _ _).symm.trans H; with_reducible exact H2_) | with_reducible exact H | (rw [hy126]; exact H) | exact H
                      have Ny126 := Aside0.mk hy126
                      clear hy126
                      have H' := Aside0.mk H
                      clear H
                      have p104 : 0 ≤ (x6_1 : Int) := of_decide_eq_true (by first | (with_reducible assumption) | assumption)
                      have q104 : x6_1 < (l0.length : Int) := of_decide_eq_true (by first | (with_reducible assumption) | assumption)
                      obtain ⟨ad104, e104, hx104_0⟩ := Kd.at_int HR0.out x6_1 p104 q104
                      cases e104
                      replace hx104_0 := (HB.out.cell (World.block_lt_of_cell? w _ hx104_0)).trans hx104_0
                      replace p104 := eq_true p104
                      replace q104 := eq_true q104
                      go_wp2_with (first | ((with_reducible refine gate_dst (N := 51) rfl ?_); refine Kd.R_lit (Kd.int .u8) _ 5 ?hg (N := 51) ?hd (xs := ([92, (48 + ((Int.tdiv (rd l0 x6_1) 64) % 256)) % 256, 48 + (((Int.tdiv (rd l0 x6_1) 8) % 256) % 8), (48 + (Int.tmod (rd l0 x6_1) 8)) % 256] : List Int)) (inner := [.int .u8 92, .int .u8 ((48 + ((Int.tdiv (rd l0 x6_1) 64) % 256)) % 256), .int .u8 (48 + (((Int.tdiv (rd l0 x6_1) 8) % 256) % 8)), .int .u8 ((48 + (Int.tmod (rd l0 x6_1) 8)) % 256)]) (ok := fun _ => True) (okp := fun _ => True) ?hr ?hp (fun _ hk => hk) trivial (Below.refl _ _) (Nat.le_refl _) (by simp) ?_; (case hd => rfl); (case hg => rfl); (case hr => first | (go_simp; done) | (go_simp; rfl)); (case hp => exact (Reps.one (show Kd.M (Kd.int .u8) _ _ _ 92 [.int .u8 92] from rfl) (Reps.one (show Kd.M (Kd.int .u8) _ _ _ ((48 + ((Int.tdiv (rd l0 x6_1) 64) % 256)) % 256) [.int .u8 ((48 + ((Int.tdiv (rd l0 x6_1) 64) % 256)) % 256)] from rfl) (Reps.one (show Kd.M (Kd.int .u8) _ _ _ (48 + (((Int.tdiv (rd l0 x6_1) 8) % 256) % 8)) [.int .u8 (48 + (((Int.tdiv (rd l0 x6_1) 8) % 256) % 8))] from rfl) (Reps.one (show Kd.M (Kd.int .u8) _ _ _ ((48 + (Int.tmod (rd l0 x6_1) 8)) % 256) [.int .u8 ((48 + (Int.tmod (rd l0 x6_1) 8)) % 256)] from rfl) (Reps.none _ _)))))); intro v124 w28 ho29 hb hg_ hnew_; clear hg_ hnew_; (first | rw [← Ny123.out] at ho29 | (simp only [Int.reduceToNat] at ho29; rw [← Ny123.out] at ho29)); have n0_ := Aside0.mk (Kd.R_elder' (by (with_reducible repeat (first | apply Kd.R_alloc | apply Kd.R_drewN | apply Kd.R_drew)); exact HO_5.out) (Kd.R_base ho29) hb); have n1_ := Aside0.mk (Kd.R_lower (Kd.R_new' ho29 (Kd.R_lt (by (with_reducible repeat (first | apply Kd.R_alloc | apply Kd.R_drewN | apply Kd.R_drew)); exact HO_5.out))) (below_size (by repeat (first | (with_reducible first | exact HB.out | apply below_alloc | apply pw_below_drewN | apply below_drew1) | exact HB.out)))); have n2_ := Aside0.mk (below_step (by repeat (first | (with_reducible first | exact HB.out | apply below_alloc | apply pw_below_drewN | apply below_drew1) | exact HB.out)) hb); clear HO_5; clear HB; have HO_5 := n0_; have HO125 := n1_; have HB := n2_; clear n0_ n1_ n2_; clear hb ho29; obtain ⟨Ao31, co31, eo31⟩ := Kd.R_slice HO125.out; subst eo31) | ((with_reducible refine gate_builtin (b := .append) (xs := #[.tmp 40, .tmp 51]) rfl ?_); at_builtin; refine Kd.R_append_rows (Kd.int .u8) (w0 := w) w.heap.size rfl (.tmp 40) (.tmp 51) 32 5 (.int .u8 0) 1 rfl Tryd.underlying32 info5 rfl (by decide) (by omega) u5 x5_1 y123 _ _ _ (fun k_ => some k_ ≠ (.slice Ao31 y123.length co31 : Value).ownBlock) (fun _ => False) rfl rfl ?aO ?aR (fun _ _ h => h) (fun _ h => h.elim) ?aF ?aB ?aS ?aL ?_; (case aR => repeat (first | exact (Kd.R_reads' HO125.out).2.2 | (with_reducible refine Kd.C_alloc ?_ _) | (with_reducible refine Kd.C_drewN ?_ _) | (with_reducible refine Kd.C_drew ?_))); (case aB => exact (by repeat (first | (with_reducible first | exact HB.out | apply below_alloc | apply pw_below_drewN | apply below_drew1) | exact HB.out))); (case aF => exact (fun k_ hk => Kd.fresh' (Kd.R_lt (by (with_reducible repeat (first | apply Kd.R_alloc | apply Kd.R_drewN | apply Kd.R_drew)); exact HO125.out)) k_ hk)); (case aO => exact (by (with_reducible repeat (first | apply Kd.R_alloc | apply Kd.R_drewN | apply Kd.R_drew)); exact Kd.R_mono HO_5.out (fun _ hk => hk.2))); (case aS => exact (below_size (by repeat (first | (with_reducible first | exact HB.out | apply below_alloc | apply pw_below_drewN | apply below_drew1) | exact HB.out)))); (case aL => have := LMc27.out; omega); intro v127 w30 ho hb hg hat; rw [← Ny126.out] at ho; have n0_ := Aside0.mk (Kd.R_after (ok := (fun _ => True)) (by (with_reducible repeat (first | apply Kd.R_alloc | apply Kd.R_drewN | apply Kd.R_drew)); exact HO125.out) hg hat); have n1_ := Aside0.mk (hb); have n2_ := Aside0.mk (ho); clear HO125; clear HB; clear HO_5; have HO125 := n0_; have HB := n1_; have HO128 := n2_; clear n0_ n1_ n2_; clear ho hb hg hat))
                      go_roundg k1
                      case measure => have := HK1.out; omega
                      case rel => exact ⟨(y126), (wrap64 (x6_1 + 1)), (by first | rfl | (simp; done) | (simp [*]; done)), H', ⟨by have := HK1.out; omega⟩, ⟨by (with_reducible repeat (first | apply Kd.R_alloc | apply Kd.R_drewN | apply Kd.R_drew)); exact Kd.R_mono HO128.out (fun _ hk => trivial)⟩, ⟨by repeat (first | (with_reducible first | exact HB.out | apply below_alloc | apply pw_below_drewN | apply below_drew1) | exact HB.out)⟩⟩
                    · rw [if_neg c27] at H
                      exact absurd H (by simp)
                  · rw [if_neg c26] at H
                    have c26b0 : ((rd l0 x6_1) == 13) = false := beq_eq_false_iff_ne.mpr c26
                    have c26b1 : ((rd l0 x6_1) != 13) = true := bne_iff_ne.mpr c26
                    by_cases c32 : x5_1.length < 140737488355328
                    · rw [if_pos c32] at H
                      have LMc32 := Aside0.mk c32
                      clear c32
                      obtain ⟨y129, hy129⟩ : ∃ y_ : List Int, y_ = (x5_1 ++ [rd l0 x6_1]) := ⟨_, rfl⟩
                      replace H : (mezzotintlaw04_escaped.l0 k1 l0 true y129 (wrap64 (x6_1 + 1))) = some r := by first | (rw [hy129]; with_reducible exact H) | (have H2_ := (Option.bind_some _ _).symm.trans H; rw [hy129]; with_reducible exact H2_) | (have H2_ := (Option.bind_some _ _).symm.trans H; with_reducible exact H2_) | with_reducible exact H | (rw [hy129]; exact H) | exact H
                      have Ny129 := Aside0.mk hy129
                      clear hy129
                      have H' := Aside0.mk H
                      clear H
                      have p104 : 0 ≤ (x6_1 : Int) := of_decide_eq_true (by first | (with_reducible assumption) | assumption)
                      have q104 : x6_1 < (l0.length : Int) := of_decide_eq_true (by first | (with_reducible assumption) | assumption)
                      obtain ⟨ad104, e104, hx104_0⟩ := Kd.at_int HR0.out x6_1 p104 q104
                      cases e104
                      replace hx104_0 := (HB.out.cell (World.block_lt_of_cell? w _ hx104_0)).trans hx104_0
                      replace p104 := eq_true p104
                      replace q104 := eq_true q104
                      go_wp2_with (first | ((with_reducible refine gate_builtin (b := .append) (xs := #[.tmp 36, .tmp 38]) rfl ?_); at_builtin; refine Kd.R_append (Kd.int .u8) (w0 := w) w.heap.size rfl (.tmp 36) (.tmp 38) 32 5 (.int .u8 0) 1 rfl Tryd.underlying32 info5 rfl (by decide) (by omega) u5 x5_1 (rd l0 x6_1) [.int .u8 (rd l0 x6_1)] (fun _ => True) (fun _ => False) rfl rfl ?aP (fun _ hk => hk.elim) ?aF ?aO ?aB ?aS ?aL ?_; (case aP => exact rfl); (case aB => exact (by repeat (first | (with_reducible first | exact HB.out | apply below_alloc | apply pw_below_drewN | apply below_drew1) | exact HB.out))); (case aF => exact (fun _ _ => trivial)); (case aO => exact (by (with_reducible repeat (first | apply Kd.R_alloc | apply Kd.R_drewN | apply Kd.R_drew)); exact HO_5.out)); (case aS => exact (below_size (by repeat (first | (with_reducible first | exact HB.out | apply below_alloc | apply pw_below_drewN | apply below_drew1) | exact HB.out)))); (case aL => have := LMc32.out; omega); intro v130 w33 ho hb hg hat; rw [← Ny129.out] at ho; have n0_ := Aside0.mk (hb); have n1_ := Aside0.mk (ho); clear HB; clear HO_5; have HB := n0_; have HO131 := n1_; clear n0_ n1_; clear ho hb hg hat))
                      go_roundg k1
                      case measure => have := HK1.out; omega
                      case rel => exact ⟨(y129), (wrap64 (x6_1 + 1)), (by first | rfl | (simp; done) | (simp [*]; done)), H', ⟨by have := HK1.out; omega⟩, ⟨by (with_reducible repeat (first | apply Kd.R_alloc | apply Kd.R_drewN | apply Kd.R_drew)); exact HO131.out⟩, ⟨by repeat (first | (with_reducible first | exact HB.out | apply below_alloc | apply pw_below_drewN | apply below_drew1) | exact HB.out)⟩⟩
                    · rw [if_neg c32] at H
                      exact absurd H (by simp)
          · replace c7 := Bool.eq_false_iff.mpr c7
            subst c7
            have H1 : ((some (([92, (48 + ((Int.tdiv (rd l0 x6_1) 64) % 256)) % 256, 48 + (((Int.tdiv (rd l0 x6_1) 8) % 256) % 8), (48 + (Int.tmod (rd l0 x6_1) 8)) % 256] : List Int) : List Int)).bind fun y132 => (if x5_1.length + y132.length < 140737488355328 then (mezzotintlaw04_escaped.l0 k1 l0 false (x5_1 ++ y132) (wrap64 (x6_1 + 1))) else (none))) = some r := by rw [if_neg (show ¬ (false = true) by decide)] at H; exact H
            clear H
            have H := H1
            clear H1
            obtain ⟨y132, hy132⟩ : ∃ y_ : List Int, y_ = (([92, (48 + ((Int.tdiv (rd l0 x6_1) 64) % 256)) % 256, 48 + (((Int.tdiv (rd l0 x6_1) 8) % 256) % 8), (48 + (Int.tmod (rd l0 x6_1) 8)) % 256] : List Int)) := ⟨_, rfl⟩
            replace H : (if x5_1.length + y132.length < 140737488355328 then (mezzotintlaw04_escaped.l0 k1 l0 false (x5_1 ++ y132) (wrap64 (x6_1 + 1))) else (none)) = some r := by first | (rw [hy132]; with_reducible exact H) | (have H2_ := (Option.bind_some _ _).symm.trans H; rw [hy132]; with_reducible exact H2_) | (have H2_ := (Option.bind_some _ _).symm.trans H; with_reducible exact H2_) | with_reducible exact H | (rw [hy132]; exact H) | exact H
            have Ny132 := Aside0.mk hy132
            clear hy132
            by_cases c34 : x5_1.length + y132.length < 140737488355328
            · rw [if_pos c34] at H
              have LMc34 := Aside0.mk c34
              clear c34
              obtain ⟨y135, hy135⟩ : ∃ y_ : List Int, y_ = (x5_1 ++ y132) := ⟨_, rfl⟩
              replace H : (mezzotintlaw04_escaped.l0 k1 l0 false y135 (wrap64 (x6_1 + 1))) = some r := by first | (rw [hy135]; with_reducible exact H) | (have H2_ := (Option.bind_some _ _).symm.trans H; rw [hy135]; with_reducible exact H2_) | (have H2_ := (Option.bind_some _ _).symm.trans H; with_reducible exact H2_) | with_reducible exact H | (rw [hy135]; exact H) | exact H
              have Ny135 := Aside0.mk hy135
              clear hy135
              have H' := Aside0.mk H
              clear H
              have p104 : 0 ≤ (x6_1 : Int) := of_decide_eq_true (by first | (with_reducible assumption) | assumption)
              have q104 : x6_1 < (l0.length : Int) := of_decide_eq_true (by first | (with_reducible assumption) | assumption)
              obtain ⟨ad104, e104, hx104_0⟩ := Kd.at_int HR0.out x6_1 p104 q104
              cases e104
              replace hx104_0 := (HB.out.cell (World.block_lt_of_cell? w _ hx104_0)).trans hx104_0
              replace p104 := eq_true p104
              replace q104 := eq_true q104
              go_wp2_with (first | ((with_reducible refine gate_dst (N := 51) rfl ?_); refine Kd.R_lit (Kd.int .u8) _ 5 ?hg (N := 51) ?hd (xs := ([92, (48 + ((Int.tdiv (rd l0 x6_1) 64) % 256)) % 256, 48 + (((Int.tdiv (rd l0 x6_1) 8) % 256) % 8), (48 + (Int.tmod (rd l0 x6_1) 8)) % 256] : List Int)) (inner := [.int .u8 92, .int .u8 ((48 + ((Int.tdiv (rd l0 x6_1) 64) % 256)) % 256), .int .u8 (48 + (((Int.tdiv (rd l0 x6_1) 8) % 256) % 8)), .int .u8 ((48 + (Int.tmod (rd l0 x6_1) 8)) % 256)]) (ok := fun _ => True) (okp := fun _ => True) ?hr ?hp (fun _ hk => hk) trivial (Below.refl _ _) (Nat.le_refl _) (by simp) ?_; (case hd => rfl); (case hg => rfl); (case hr => first | (go_simp; done) | (go_simp; rfl)); (case hp => exact (Reps.one (show Kd.M (Kd.int .u8) _ _ _ 92 [.int .u8 92] from rfl) (Reps.one (show Kd.M (Kd.int .u8) _ _ _ ((48 + ((Int.tdiv (rd l0 x6_1) 64) % 256)) % 256) [.int .u8 ((48 + ((Int.tdiv (rd l0 x6_1) 64) % 256)) % 256)] from rfl) (Reps.one (show Kd.M (Kd.int .u8) _ _ _ (48 + (((Int.tdiv (rd l0 x6_1) 8) % 256) % 8)) [.int .u8 (48 + (((Int.tdiv (rd l0 x6_1) 8) % 256) % 8))] from rfl) (Reps.one (show Kd.M (Kd.int .u8) _ _ _ ((48 + (Int.tmod (rd l0 x6_1) 8)) % 256) [.int .u8 ((48 + (Int.tmod (rd l0 x6_1) 8)) % 256)] from rfl) (Reps.none _ _)))))); intro v133 w35 ho36 hb hg_ hnew_; clear hg_ hnew_; (first | rw [← Ny132.out] at ho36 | (simp only [Int.reduceToNat] at ho36; rw [← Ny132.out] at ho36)); have n0_ := Aside0.mk (Kd.R_elder' (by (with_reducible repeat (first | apply Kd.R_alloc | apply Kd.R_drewN | apply Kd.R_drew)); exact HO_5.out) (Kd.R_base ho36) hb); have n1_ := Aside0.mk (Kd.R_lower (Kd.R_new' ho36 (Kd.R_lt (by (with_reducible repeat (first | apply Kd.R_alloc | apply Kd.R_drewN | apply Kd.R_drew)); exact HO_5.out))) (below_size (by repeat (first | (with_reducible first | exact HB.out | apply below_alloc | apply pw_below_drewN | apply below_drew1) | exact HB.out)))); have n2_ := Aside0.mk (below_step (by repeat (first | (with_reducible first | exact HB.out | apply below_alloc | apply pw_below_drewN | apply below_drew1) | exact HB.out)) hb); clear HO_5; clear HB; have HO_5 := n0_; have HO134 := n1_; have HB := n2_; clear n0_ n1_ n2_; clear hb ho36; obtain ⟨Ao38, co38, eo38⟩ := Kd.R_slice HO134.out; subst eo38) | ((with_reducible refine gate_builtin (b := .append) (xs := #[.tmp 40, .tmp 51]) rfl ?_); at_builtin; refine Kd.R_append_rows (Kd.int .u8) (w0 := w) w.heap.size rfl (.tmp 40) (.tmp 51) 32 5 (.int .u8 0) 1 rfl Tryd.underlying32 info5 rfl (by decide) (by omega) u5 x5_1 y132 _ _ _ (fun k_ => some k_ ≠ (.slice Ao38 y132.length co38 : Value).ownBlock) (fun _ => False) rfl rfl ?aO ?aR (fun _ _ h => h) (fun _ h => h.elim) ?aF ?aB ?aS ?aL ?_; (case aR => repeat (first | exact (Kd.R_reads' HO134.out).2.2 | (with_reducible refine Kd.C_alloc ?_ _) | (with_reducible refine Kd.C_drewN ?_ _) | (with_reducible refine Kd.C_drew ?_))); (case aB => exact (by repeat (first | (with_reducible first | exact HB.out | apply below_alloc | apply pw_below_drewN | apply below_drew1) | exact HB.out))); (case aF => exact (fun k_ hk => Kd.fresh' (Kd.R_lt (by (with_reducible repeat (first | apply Kd.R_alloc | apply Kd.R_drewN | apply Kd.R_drew)); exact HO134.out)) k_ hk)); (case aO => exact (by (with_reducible repeat (first | apply Kd.R_alloc | apply Kd.R_drewN | apply Kd.R_drew)); exact Kd.R_mono HO_5.out (fun _ hk => hk.2))); (case aS => exact (below_size (by repeat (first | (with_reducible first | exact HB.out | apply below_alloc | apply pw_below_drewN | apply below_drew1) | exact HB.out)))); (case aL => have := LMc34.out; omega); intro v136 w37 ho hb hg hat; rw [← Ny135.out] at ho; have n0_ := Aside0.mk (Kd.R_after (ok := (fun _ => True)) (by (with_reducible repeat (first | apply Kd.R_alloc | apply Kd.R_drewN | apply Kd.R_drew)); exact HO134.out) hg hat); have n1_ := Aside0.mk (hb); have n2_ := Aside0.mk (ho); clear HO134; clear HB; clear HO_5; have HO134 := n0_; have HB := n1_; have HO137 := n2_; clear n0_ n1_ n2_; clear ho hb hg hat))
              go_roundg k1
              case measure => have := HK1.out; omega
              case rel => exact ⟨(y135), (wrap64 (x6_1 + 1)), (by first | rfl | (simp; done) | (simp [*]; done)), H', ⟨by have := HK1.out; omega⟩, ⟨by (with_reducible repeat (first | apply Kd.R_alloc | apply Kd.R_drewN | apply Kd.R_drew)); exact Kd.R_mono HO137.out (fun _ hk => trivial)⟩, ⟨by repeat (first | (with_reducible first | exact HB.out | apply below_alloc | apply pw_below_drewN | apply below_drew1) | exact HB.out)⟩⟩
            · rw [if_neg c34] at H
              exact absurd H (by simp)
        · rw [if_neg c6] at H
          exact absurd H (by simp)
      · rw [if_neg c5] at H
        have c5b0 : decide (x6_1 < (l0.length : Int)) = false := decide_eq_false c5
        clear c5
        by_cases c39 : x5_1.length < 140737488355328
        · rw [if_pos c39] at H
          have LMc39 := Aside0.mk c39
          clear c39
          obtain ⟨y138, hy138⟩ : ∃ y_ : List Int, y_ = (x5_1 ++ [41]) := ⟨_, rfl⟩
          replace H : (some (strOfNums y138)) = some r := by first | (rw [hy138]; with_reducible exact H) | (have H2_ := (Option.bind_some _ _).symm.trans H; rw [hy138]; with_reducible exact H2_) | (have H2_ := (Option.bind_some _ _).symm.trans H; with_reducible exact H2_) | with_reducible exact H | (rw [hy138]; exact H) | exact H
          have Ny138 := Aside0.mk hy138
          clear hy138
          obtain rfl := Option.some.inj H
          go_wp2_with (first | ((with_reducible refine gate_builtin (b := .append) (xs := #[.tmp 53, .tmp 54]) rfl ?_); at_builtin; refine Kd.R_append (Kd.int .u8) (w0 := w) w.heap.size rfl (.tmp 53) (.tmp 54) 32 5 (.int .u8 0) 1 rfl Tryd.underlying32 info5 rfl (by decide) (by omega) u5 x5_1 41 [.int .u8 41] (fun _ => True) (fun _ => False) rfl rfl ?aP (fun _ hk => hk.elim) ?aF ?aO ?aB ?aS ?aL ?_; (case aP => exact rfl); (case aB => exact (by repeat (first | (with_reducible first | exact HB.out | apply below_alloc | apply pw_below_drewN | apply below_drew1) | exact HB.out))); (case aF => exact (fun _ _ => trivial)); (case aO => exact (by (with_reducible repeat (first | apply Kd.R_alloc | apply Kd.R_drewN | apply Kd.R_drew)); exact HO_5.out)); (case aS => exact (below_size (by repeat (first | (with_reducible first | exact HB.out | apply below_alloc | apply pw_below_drewN | apply below_drew1) | exact HB.out)))); (case aL => have := LMc39.out; omega); intro v139 w40 ho hb hg hat; rw [← Ny138.out] at ho; have n0_ := Aside0.mk (hb); have n1_ := Aside0.mk (ho); clear HB; clear HO_5; have HB := n0_; have HO140 := n1_; clear n0_ n1_; clear ho hb hg hat; have hcv41 := own_string (P := Tryd.prog) Tryd.underlying32 Tryd.underlying5 Tryd.underlying9 (Kd.own_of_R HO140.out)))
          go_ret
          exact ⟨by first | rfl | (simp [errW_none, errW_some] <;> rfl) | (simp [*, errW_none, errW_some] <;> rfl), by repeat (first | (with_reducible first | exact HB.out | apply below_alloc | apply pw_below_drewN | apply below_drew1) | exact HB.out)⟩
        · rw [if_neg c39] at H
          exact absurd H (by simp)

/-! ### mezzotintlaw04_hexed: function 28 -/
def mezzotintlaw04_hexed.l0 : Nat → List Int → ByteArray → List Int → Int → Option (ByteArray)
  | 0, _, _, _, _ => none
  | k + 1, x0, x3, x4, x5 => if x5 < (x0.length : Int) then (if 0 ≤ x5 then (if 0 ≤ ((Int.tdiv (rd x0 x5) 16) % 256) then (if ((Int.tdiv (rd x0 x5) 16) % 256) < (x3.size : Int) then (if 0 ≤ (Int.tmod (rd x0 x5) 16) then (if (Int.tmod (rd x0 x5) 16) < (x3.size : Int) then ((some (([bt x3 ((Int.tdiv (rd x0 x5) 16) % 256), bt x3 (Int.tmod (rd x0 x5) 16)] : List Int) : List Int)).bind fun y146 => (if x4.length + y146.length < 140737488355328 then ((some (x4 ++ y146 : List Int)).bind fun y149 => (if (Int.tmod x5 7) = 3 then (if y149.length < 140737488355328 then (mezzotintlaw04_hexed.l0 k x0 x3 (y149 ++ [10]) (wrap64 (x5 + 1))) else (none)) else (mezzotintlaw04_hexed.l0 k x0 x3 y149 (wrap64 (x5 + 1))))) else (none))) else (none)) else (none)) else (none)) else (none)) else (none)) else (if x4.length < 140737488355328 then (some (strOfNums (x4 ++ [62]))) else (none))
def mezzotintlaw04_hexed.f (k : Nat) (l0 : List Int) : Option (ByteArray) := mezzotintlaw04_hexed.l0 k l0 (⟨#[48, 49, 50, 51, 52, 53, 54, 55, 56, 57, 97, 98, 99, 100, 101, 102, 65, 66, 67, 68, 69, 70]⟩ : ByteArray) (([60] : List Int)) 0
theorem mezzotintlaw04_hexed.mono_l : ∀ k, (∀ y0 y1 y2 y3, LeO (mezzotintlaw04_hexed.l0 k y0 y1 y2 y3) (mezzotintlaw04_hexed.l0 (k + 1) y0 y1 y2 y3))
  | 0 => fun _ _ _ _ r h => by simp [mezzotintlaw04_hexed.l0] at h
  | k + 1 => by
    have ih0 := mezzotintlaw04_hexed.mono_l k
    · intro y0 y1 y2 y3
      unfold mezzotintlaw04_hexed.l0
      repeat' first
      | (with_reducible exact ih0 _ _ _ _)
      | (with_reducible exact LeO.refl _)
      | (with_reducible exact LeO.none _)
      | (with_reducible refine LeO.ite ?_ ?_)
      | (with_reducible refine LeO.bind ?_ (fun _ => ?_))
      | exact ih0 _ _ _ _
      | exact LeO.none _
      | refine LeO.ite ?_ ?_
      | refine LeO.bind ?_ (fun _ => ?_)
theorem mezzotintlaw04_hexed.mono : ∀ a0 k, LeO (mezzotintlaw04_hexed.f k a0) (mezzotintlaw04_hexed.f (k + 1) a0) := by
  intro a0 k
  have ih0 := mezzotintlaw04_hexed.mono_l k
  unfold mezzotintlaw04_hexed.f
  repeat' first
      | (with_reducible exact ih0 _ _ _ _)
      | (with_reducible exact LeO.refl _)
      | (with_reducible exact LeO.none _)
      | (with_reducible refine LeO.ite ?_ ?_)
      | (with_reducible refine LeO.bind ?_ (fun _ => ?_))
      | exact ih0 _ _ _ _
      | exact LeO.none _
      | refine LeO.ite ?_ ?_
      | refine LeO.bind ?_ (fun _ => ?_)
def mezzotintlaw04_hexed.T6 : Bool × List (List Nat × List Nat) := (true, [([], []), ([], []), ([], []), ([], []), ([2, 3], [2, 3]), ([4], [4]), ([5], [5]), ([1, 6], [1, 6]), ([], []), ([], []), ([], []), ([9, 10], [9, 10]), ([11], [11]), ([12], [12]), ([8, 13], [8, 13]), ([7, 14], [7, 14]), ([0, 15], [0, 15]), ([16, 16, 0, 1, 2, 3, 4, 5, 6, 7, 8, 9, 10, 11, 12, 13, 14, 15, 16], [0, 16])])
def mezzotintlaw04_hexed.B6 : List Nat := [0, 0, 0, 0, 12, 28, 60, 126, 0, 0, 0, 1536, 3584, 7680, 16128, 32766, 65535, 131071]
theorem mezzotintlaw04_hexed.tab6 : rtab .any (opsOf Tryd.f28 6) = mezzotintlaw04_hexed.T6 := by kernel_rfl
theorem mezzotintlaw04_hexed.bits6 : waitsOk mezzotintlaw04_hexed.T6.2 mezzotintlaw04_hexed.B6 = true := by kernel_rfl
set_option maxHeartbeats 8000000 in
set_option maxRecDepth 100000 in
theorem mezzotintlaw04_hexed.calls (k : Nat) (A0 : Option Addr) (c0 : Nat) (l0 : List Int) (r : ByteArray) (w : World) (hr0 : Kd.C (Kd.int .u8) w A0 l0.length l0) (hc0 : l0.length ≤ c0) (h : mezzotintlaw04_hexed.f k l0 = some r) :
    Calls Tryd.prog 28 #[.slice A0 l0.length c0] w fun e w' => e = .returned (.string r) ∧ Below w.heap.size w w' := by
  have HR0 := Aside0.mk hr0
  have HC0 := Aside0.mk hc0
  clear hr0 hc0
  have HB := Aside0.mk (Below.refl w.heap.size w)
  have H : (mezzotintlaw04_hexed.l0 k l0 (⟨#[48, 49, 50, 51, 52, 53, 54, 55, 56, 57, 97, 98, 99, 100, 101, 102, 65, 66, 67, 68, 69, 70]⟩ : ByteArray) (([60] : List Int)) 0) = some r := h
  clear h
  obtain ⟨y141, hy141⟩ : ∃ y_ : List Int, y_ = (([60] : List Int)) := ⟨_, rfl⟩
  replace H : (mezzotintlaw04_hexed.l0 k l0 (⟨#[48, 49, 50, 51, 52, 53, 54, 55, 56, 57, 97, 98, 99, 100, 101, 102, 65, 66, 67, 68, 69, 70]⟩ : ByteArray) y141 0) = some r := by first | (rw [hy141]; with_reducible exact H) | (have H2_ := (Option.bind_some _ _).symm.trans H; rw [hy141]; with_reducible exact H2_) | (have H2_ := (Option.bind_some _ _).symm.trans H; with_reducible exact H2_) | with_reducible exact H | (rw [hy141]; exact H) | exact H
  have Ny141 := Aside0.mk hy141
  clear hy141
  have H' := Aside0.mk H
  clear H
  go_enter Tryd.func28, Tryd.ntmps28
  go_wp2_with (first | ((with_reducible refine gate_dst (N := 6) rfl ?_); refine Kd.R_lit (Kd.int .u8) _ 5 ?hg (N := 6) ?hd (xs := ([60] : List Int)) (inner := [.int .u8 60]) (ok := fun _ => True) (okp := fun _ => True) ?hr ?hp (fun _ hk => hk) trivial (Below.refl _ _) (Nat.le_refl _) (by simp) ?_; (case hd => rfl); (case hg => rfl); (case hr => first | (go_simp; done) | (go_simp; rfl)); (case hp => exact (Reps.one (show Kd.M (Kd.int .u8) _ _ _ 60 [.int .u8 60] from rfl) (Reps.none _ _))); intro v142 w2 ho3 hb hg_ hnew_; clear hg_ hnew_; (first | rw [← Ny141.out] at ho3 | (simp only [Int.reduceToNat] at ho3; rw [← Ny141.out] at ho3)); have n0_ := Aside0.mk (Kd.R_lower ho3 (below_size (by repeat (first | (with_reducible first | exact HB.out | apply below_alloc | apply pw_below_drewN | apply below_drew1) | exact HB.out)))); have n1_ := Aside0.mk (below_step (by repeat (first | (with_reducible first | exact HB.out | apply below_alloc | apply pw_below_drewN | apply below_drew1) | exact HB.out)) hb); clear HB; have HO143 := n0_; have HB := n1_; clear n0_ n1_; clear hb ho3))
  go_loopg [4, 5] k (fun kq v4 v5 w' => ∃ (x4_1 : List Int) (x5_1 : Int), v5 = .int .i64 x5_1 ∧ Aside0 (mezzotintlaw04_hexed.l0 kq l0 (⟨#[48, 49, 50, 51, 52, 53, 54, 55, 56, 57, 97, 98, 99, 100, 101, 102, 65, 66, 67, 68, 69, 70]⟩ : ByteArray) x4_1 x5_1 = some r) ∧ Aside0 (kq ≤ k) ∧ Aside0 (Kd.R (Kd.int .u8) 5 w' w.heap.size (fun _ => True) v4 x4_1) ∧ Aside0 (Below w.heap.size w w'))
  case atStart => exact ⟨(y141), (0), (by first | rfl | (simp; done) | (simp [*]; done)), H', ⟨Nat.le_refl _⟩, ⟨by (with_reducible repeat (first | apply Kd.R_alloc | apply Kd.R_drewN | apply Kd.R_drew)); exact HO143.out⟩, ⟨by repeat (first | (with_reducible first | exact HB.out | apply below_alloc | apply pw_below_drewN | apply below_drew1) | exact HB.out)⟩⟩
  case round =>
    clear H'
    try clear c2
    try clear p2
    obtain ⟨x4_1, x5_1, rfl, HA, HK1, HO_4, HB⟩ := hrel
    cases gk with
    | zero => exact absurd HA.out (by simp [mezzotintlaw04_hexed.l0])
    | succ k1 =>
      have H := HA.out
      clear HA
      simp only [mezzotintlaw04_hexed.l0] at H
      by_cases c4 : x5_1 < (l0.length : Int)
      · rw [if_pos c4] at H
        have c4b0 : decide (x5_1 < (l0.length : Int)) = true := decide_eq_true c4
        clear c4
        by_cases c5 : 0 ≤ x5_1
        · rw [if_pos c5] at H
          have c5b0 : decide (0 ≤ x5_1) = true := decide_eq_true c5
          clear c5
          obtain ⟨ji6, hji6⟩ : ∃ j_ : Int, ((Int.tdiv (rd l0 x5_1) 16) % 256) = j_ := ⟨_, rfl⟩
          have hji6w : IntKind.u8.wrap (Int.tdiv (rd l0 x5_1) 16) = ji6 := hji6
          replace H : (if 0 ≤ (ji6) then (if (ji6) < ((⟨#[48, 49, 50, 51, 52, 53, 54, 55, 56, 57, 97, 98, 99, 100, 101, 102, 65, 66, 67, 68, 69, 70]⟩ : ByteArray).size : Int) then (if 0 ≤ (Int.tmod (rd l0 x5_1) 16) then (if (Int.tmod (rd l0 x5_1) 16) < ((⟨#[48, 49, 50, 51, 52, 53, 54, 55, 56, 57, 97, 98, 99, 100, 101, 102, 65, 66, 67, 68, 69, 70]⟩ : ByteArray).size : Int) then ((some (([bt (⟨#[48, 49, 50, 51, 52, 53, 54, 55, 56, 57, 97, 98, 99, 100, 101, 102, 65, 66, 67, 68, 69, 70]⟩ : ByteArray) (ji6), bt (⟨#[48, 49, 50, 51, 52, 53, 54, 55, 56, 57, 97, 98, 99, 100, 101, 102, 65, 66, 67, 68, 69, 70]⟩ : ByteArray) (Int.tmod (rd l0 x5_1) 16)] : List Int) : List Int)).bind fun y146 => (if x4_1.length + y146.length < 140737488355328 then ((some (x4_1 ++ y146 : List Int)).bind fun y149 => (if (Int.tmod x5_1 7) = 3 then (if y149.length < 140737488355328 then (mezzotintlaw04_hexed.l0 k1 l0 (⟨#[48, 49, 50, 51, 52, 53, 54, 55, 56, 57, 97, 98, 99, 100, 101, 102, 65, 66, 67, 68, 69, 70]⟩ : ByteArray) (y149 ++ [10]) (wrap64 (x5_1 + 1))) else (none)) else (mezzotintlaw04_hexed.l0 k1 l0 (⟨#[48, 49, 50, 51, 52, 53, 54, 55, 56, 57, 97, 98, 99, 100, 101, 102, 65, 66, 67, 68, 69, 70]⟩ : ByteArray) y149 (wrap64 (x5_1 + 1))))) else (none))) else (none)) else (none)) else (none)) else (none)) = some r := by first | (rw [hji6] at H; exact H) | (simp only [hji6] at H ⊢; exact H)
          by_cases c7 : 0 ≤ (ji6)
          · rw [if_pos c7] at H
            have c7b0 : decide (0 ≤ (ji6)) = true := decide_eq_true c7
            clear c7
            by_cases c8 : (ji6) < ((⟨#[48, 49, 50, 51, 52, 53, 54, 55, 56, 57, 97, 98, 99, 100, 101, 102, 65, 66, 67, 68, 69, 70]⟩ : ByteArray).size : Int)
            · rw [if_pos c8] at H
              have c8b0 : decide ((ji6) < ((⟨#[48, 49, 50, 51, 52, 53, 54, 55, 56, 57, 97, 98, 99, 100, 101, 102, 65, 66, 67, 68, 69, 70]⟩ : ByteArray).size : Int)) = true := decide_eq_true c8
              clear c8
              obtain ⟨ji10, hji10⟩ : ∃ j_ : Int, (Int.tmod (rd l0 x5_1) 16) = j_ := ⟨_, rfl⟩
              replace H : (if 0 ≤ (ji10) then (if (ji10) < ((⟨#[48, 49, 50, 51, 52, 53, 54, 55, 56, 57, 97, 98, 99, 100, 101, 102, 65, 66, 67, 68, 69, 70]⟩ : ByteArray).size : Int) then ((some (([bt (⟨#[48, 49, 50, 51, 52, 53, 54, 55, 56, 57, 97, 98, 99, 100, 101, 102, 65, 66, 67, 68, 69, 70]⟩ : ByteArray) (ji6), bt (⟨#[48, 49, 50, 51, 52, 53, 54, 55, 56, 57, 97, 98, 99, 100, 101, 102, 65, 66, 67, 68, 69, 70]⟩ : ByteArray) (ji10)] : List Int) : List Int)).bind fun y146 => (if x4_1.length + y146.length < 140737488355328 then ((some (x4_1 ++ y146 : List Int)).bind fun y149 => (if (Int.tmod x5_1 7) = 3 then (if y149.length < 140737488355328 then (mezzotintlaw04_hexed.l0 k1 l0 (⟨#[48, 49, 50, 51, 52, 53, 54, 55, 56, 57, 97, 98, 99, 100, 101, 102, 65, 66, 67, 68, 69, 70]⟩ : ByteArray) (y149 ++ [10]) (wrap64 (x5_1 + 1))) else (none)) else (mezzotintlaw04_hexed.l0 k1 l0 (⟨#[48, 49, 50, 51, 52, 53, 54, 55, 56, 57, 97, 98, 99, 100, 101, 102, 65, 66, 67, 68, 69, 70]⟩ : ByteArray) y149 (wrap64 (x5_1 + 1))))) else (none))) else (none)) else (none)) = some r := by first | (rw [hji10] at H; exact H) | (simp only [hji10] at H ⊢; exact H)
              by_cases c11 : 0 ≤ (ji10)
              · rw [if_pos c11] at H
                have c11b0 : decide (0 ≤ (ji10)) = true := decide_eq_true c11
                clear c11
                by_cases c12 : (ji10) < ((⟨#[48, 49, 50, 51, 52, 53, 54, 55, 56, 57, 97, 98, 99, 100, 101, 102, 65, 66, 67, 68, 69, 70]⟩ : ByteArray).size : Int)
                · rw [if_pos c12] at H
                  have c12b0 : decide ((ji10) < ((⟨#[48, 49, 50, 51, 52, 53, 54, 55, 56, 57, 97, 98, 99, 100, 101, 102, 65, 66, 67, 68, 69, 70]⟩ : ByteArray).size : Int)) = true := decide_eq_true c12
                  clear c12
                  obtain ⟨y146, hy146⟩ : ∃ y_ : List Int, y_ = (([bt (⟨#[48, 49, 50, 51, 52, 53, 54, 55, 56, 57, 97, 98, 99, 100, 101, 102, 65, 66, 67, 68, 69, 70]⟩ : ByteArray) (ji6), bt (⟨#[48, 49, 50, 51, 52, 53, 54, 55, 56, 57, 97, 98, 99, 100, 101, 102, 65, 66, 67, 68, 69, 70]⟩ : ByteArray) (ji10)] : List Int)) := ⟨_, rfl⟩
                  replace H : (if x4_1.length + y146.length < 140737488355328 then ((some (x4_1 ++ y146 : List Int)).bind fun y149 => (if (Int.tmod x5_1 7) = 3 then (if y149.length < 140737488355328 then (mezzotintlaw04_hexed.l0 k1 l0 (⟨#[48, 49, 50, 51, 52, 53, 54, 55, 56, 57, 97, 98, 99, 100, 101, 102, 65, 66, 67, 68, 69, 70]⟩ : ByteArray) (y149 ++ [10]) (wrap64 (x5_1 + 1))) else (none)) else (mezzotintlaw04_hexed.l0 k1 l0 (⟨#[48, 49, 50, 51, 52, 53, 54, 55, 56, 57, 97, 98, 99, 100, 101, 102, 65, 66, 67, 68, 69, 70]⟩ : ByteArray) y149 (wrap64 (x5_1 + 1))))) else (none)) = some r := by first | (rw [hy146]; with_reducible exact H) | (have H2_ := (Option.bind_some _ _).symm.trans H; rw [hy146]; with_reducible exact H2_) | (have H2_ := (Option.bind_some _ _).symm.trans H; with_reducible exact H2_) | with_reducible exact H | (rw [hy146]; exact H) | exact H
                  have Ny146 := Aside0.mk hy146
                  clear hy146
                  by_cases c14 : x4_1.length + y146.length < 140737488355328
                  · rw [if_pos c14] at H
                    have LMc14 := Aside0.mk c14
                    clear c14
                    obtain ⟨y149, hy149⟩ : ∃ y_ : List Int, y_ = (x4_1 ++ y146) := ⟨_, rfl⟩
                    replace H : (if (Int.tmod x5_1 7) = 3 then (if y149.length < 140737488355328 then (mezzotintlaw04_hexed.l0 k1 l0 (⟨#[48, 49, 50, 51, 52, 53, 54, 55, 56, 57, 97, 98, 99, 100, 101, 102, 65, 66, 67, 68, 69, 70]⟩ : ByteArray) (y149 ++ [10]) (wrap64 (x5_1 + 1))) else (none)) else (mezzotintlaw04_hexed.l0 k1 l0 (⟨#[48, 49, 50, 51, 52, 53, 54, 55, 56, 57, 97, 98, 99, 100, 101, 102, 65, 66, 67, 68, 69, 70]⟩ : ByteArray) y149 (wrap64 (x5_1 + 1)))) = some r := by first | (rw [hy149]; with_reducible exact H) | (have H2_ := (Option.bind_some _ _).symm.trans H; rw [hy149]; with_reducible exact H2_) | (have H2_ := (Option.bind_some _ _).symm.trans H; with_reducible exact H2_) | with_reducible exact H | (rw [hy149]; exact H) | exact H
                    have Ny149 := Aside0.mk hy149
                    clear hy149
                    by_cases c15 : (Int.tmod x5_1 7) = 3
                    · rw [if_pos c15] at H
                      have c15b0 : ((Int.tmod x5_1 7) == 3) = true := beq_iff_eq.mpr c15
                      have c15b1 : ((Int.tmod x5_1 7) != 3) = false := bne_eq_false_iff_eq.mpr c15
                      clear c15
                      by_cases c16 : y149.length < 140737488355328
                      · rw [if_pos c16] at H
                        have LMc16 := Aside0.mk c16
                        clear c16
                        obtain ⟨y152, hy152⟩ : ∃ y_ : List Int, y_ = (y149 ++ [10]) := ⟨_, rfl⟩
                        replace H : (mezzotintlaw04_hexed.l0 k1 l0 (⟨#[48, 49, 50, 51, 52, 53, 54, 55, 56, 57, 97, 98, 99, 100, 101, 102, 65, 66, 67, 68, 69, 70]⟩ : ByteArray) y152 (wrap64 (x5_1 + 1))) = some r := by first | (rw [hy152]; with_reducible exact H) | (have H2_ := (Option.bind_some _ _).symm.trans H; rw [hy152]; with_reducible exact H2_) | (have H2_ := (Option.bind_some _ _).symm.trans H; with_reducible exact H2_) | with_reducible exact H | (rw [hy152]; exact H) | exact H
                        have Ny152 := Aside0.mk hy152
                        clear hy152
                        have H' := Aside0.mk H
                        clear H
                        try go_wp2
                        have n0_ := Aside0.mk (Kd.R_drew HO_4.out)
                        have n1_ := Aside0.mk (below_drew1 HB.out)
                        clear HO_4
                        clear HB
                        have HO_4 := n0_
                        have HB := n1_
                        clear n0_ n1_
                        have p144 : 0 ≤ (x5_1 : Int) := of_decide_eq_true (by first | (with_reducible assumption) | assumption)
                        have q144 : x5_1 < (l0.length : Int) := of_decide_eq_true (by first | (with_reducible assumption) | assumption)
                        obtain ⟨ad144, e144, hx144_0⟩ := Kd.at_int HR0.out x5_1 p144 q144
                        have hw144_0 := hx144_0
                        cases e144
                        replace hx144_0 := (HB.out.cell (World.block_lt_of_cell? w _ hx144_0)).trans hx144_0
                        replace p144 := eq_true p144
                        replace q144 := eq_true q144
                        have p9 : 0 ≤ ((ji6) : Int) := of_decide_eq_true (by first | (with_reducible assumption) | assumption)
                        have q9 : (ji6) < (22 : Int) := of_decide_eq_true (by first | (with_reducible assumption) | assumption)
                        have hx9 := bt_at (⟨#[48, 49, 50, 51, 52, 53, 54, 55, 56, 57, 97, 98, 99, 100, 101, 102, 65, 66, 67, 68, 69, 70]⟩ : ByteArray) (ji6)
                        replace p9 := eq_true p9
                        replace q9 := eq_true q9
                        have p145 : 0 ≤ (x5_1 : Int) := of_decide_eq_true (by first | (with_reducible assumption) | assumption)
                        have q145 : x5_1 < (l0.length : Int) := of_decide_eq_true (by first | (with_reducible assumption) | assumption)
                        obtain ⟨ad145, e145, hx145_0⟩ := Kd.at_int HR0.out x5_1 p145 q145
                        have hw145_0 := hx145_0
                        obtain rfl : ad144 = ad145 := (by injection e145)
                        replace hx145_0 := (HB.out.cell (World.block_lt_of_cell? w _ hx145_0)).trans hx145_0
                        replace p145 := eq_true p145
                        replace q145 := eq_true q145
                        have p13 : 0 ≤ ((ji10) : Int) := of_decide_eq_true (by first | (with_reducible assumption) | assumption)
                        have q13 : (ji10) < (22 : Int) := of_decide_eq_true (by first | (with_reducible assumption) | assumption)
                        have hx13 := bt_at (⟨#[48, 49, 50, 51, 52, 53, 54, 55, 56, 57, 97, 98, 99, 100, 101, 102, 65, 66, 67, 68, 69, 70]⟩ : ByteArray) (ji10)
                        replace p13 := eq_true p13
                        replace q13 := eq_true q13
                        refine start_ (n := 18) (S := fun w' => w'.cell? (ad144.add (x5_1).toNat) = some (.int .u8 (rd l0 x5_1)) ∧ w'.cell? (ad144.add (x5_1).toNat) = some (.int .u8 (rd l0 x5_1))) (ds := []) #[false, false, false, false, false, false, false, false, false, false, false, false, false, false, false, false, false, false] (by kernel_rfl) rfl rfl ⟨((HB.out.cell (World.block_lt_of_cell? w _ hw144_0)).trans hw144_0), ((HB.out.cell (World.block_lt_of_cell? w _ hw145_0)).trans hw145_0)⟩ (fun hHeld => ?_); refine with_tabW mezzotintlaw04_hexed.tab6 mezzotintlaw04_hexed.bits6 (fun HT_ HW_ => ?_)
                        generalize wr.drew = w17 at HO_4 HB hx144_0 hx145_0 hHeld ⊢
                        refine pure_ (i := 0) (N := some 13) (v := ?_) (a' := ?_) #[true, false, false, false, false, false, false, false, false, false, false, false, false, false, false, false, false, false] rfl rfl (any_of HT_.out (by kernel_rfl)) (fun _ _ _ h => h) (Or.inl ⟨by rfl, ?_⟩) ?_ ?_
                        rotate_left
                        · intro w'
                          go_simp
                          with_reducible rfl
                        rotate_left
                        · simp only [Act.put, List.setIfInBounds_toArray, List.set_cons_zero, List.set_cons_succ, i64_w, i32_w]
                          rfl
                        refine pure_ (i := 1) (N := some 14) (v := ?_) (a' := ?_) #[true, true, false, false, false, false, false, false, false, false, false, false, false, false, false, false, false, false] rfl rfl (any_of HT_.out (by kernel_rfl)) (fun _ _ _ h => h) (Or.inl ⟨by rfl, ?_⟩) ?_ ?_
                        rotate_left
                        · intro w'
                          go_simp
                          with_reducible rfl
                        rotate_left
                        · simp only [Act.put, List.setIfInBounds_toArray, List.set_cons_zero, List.set_cons_succ, i64_w, i32_w]
                          rfl
                        refine pure_ (i := 2) (N := some 15) (v := ?_) (a' := ?_) #[true, true, true, false, false, false, false, false, false, false, false, false, false, false, false, false, false, false] rfl rfl (any_of HT_.out (by kernel_rfl)) (fun _ _ _ h => h) (Or.inl ⟨by rfl, ?_⟩) ?_ ?_
                        rotate_left
                        · intro w'
                          go_simp
                          with_reducible rfl
                        rotate_left
                        · simp only [Act.put, List.setIfInBounds_toArray, List.set_cons_zero, List.set_cons_succ, i64_w, i32_w]
                          rfl
                        refine pure_ (i := 3) (N := some 16) (v := ?_) (a' := ?_) #[true, true, true, true, false, false, false, false, false, false, false, false, false, false, false, false, false, false] rfl rfl (any_of HT_.out (by kernel_rfl)) (fun _ _ _ h => h) (Or.inl ⟨by rfl, ?_⟩) ?_ ?_
                        rotate_left
                        · intro w'
                          go_simp
                          with_reducible rfl
                        rotate_left
                        · simp only [Act.put, List.setIfInBounds_toArray, List.set_cons_zero, List.set_cons_succ, i64_w, i32_w]
                          rfl
                        refine pure_ (i := 4) (N := some 17) (v := ?_) (a' := ?_) #[true, true, true, true, true, false, false, false, false, false, false, false, false, false, false, false, false, false] rfl rfl (any_of HT_.out (by kernel_rfl)) (fun _ _ _ h => h) (Or.inl ⟨by rfl, ?_⟩) ?_ ?_
                        rotate_left
                        · intro w'
                          go_simp
                          with_reducible rfl
                        rotate_left
                        · simp only [Act.put, List.setIfInBounds_toArray, List.set_cons_zero, List.set_cons_succ, i64_w, i32_w]
                          rfl
                        refine pure_ (i := 8) (N := some 21) (v := ?_) (a' := ?_) #[true, true, true, true, true, false, false, false, true, false, false, false, false, false, false, false, false, false] rfl rfl (any_of HT_.out (by kernel_rfl)) (fun _ _ _ h => h) (Or.inl ⟨by rfl, ?_⟩) ?_ ?_
                        rotate_left
                        · intro w'
                          go_simp
                          with_reducible rfl
                        rotate_left
                        · simp only [Act.put, List.setIfInBounds_toArray, List.set_cons_zero, List.set_cons_succ, i64_w, i32_w]
                          rfl
                        refine pure_ (i := 9) (N := some 22) (v := ?_) (a' := ?_) #[true, true, true, true, true, false, false, false, true, true, false, false, false, false, false, false, false, false] rfl rfl (any_of HT_.out (by kernel_rfl)) (fun _ _ _ h => h) (Or.inl ⟨by rfl, ?_⟩) ?_ ?_
                        rotate_left
                        · intro w'
                          go_simp
                          with_reducible rfl
                        rotate_left
                        · simp only [Act.put, List.setIfInBounds_toArray, List.set_cons_zero, List.set_cons_succ, i64_w, i32_w]
                          rfl
                        refine pure_ (i := 10) (N := some 23) (v := ?_) (a' := ?_) #[true, true, true, true, true, false, false, false, true, true, true, false, false, false, false, false, false, false] rfl rfl (any_of HT_.out (by kernel_rfl)) (fun _ _ _ h => h) (Or.inl ⟨by rfl, ?_⟩) ?_ ?_
                        rotate_left
                        · intro w'
                          go_simp
                          with_reducible rfl
                        rotate_left
                        · simp only [Act.put, List.setIfInBounds_toArray, List.set_cons_zero, List.set_cons_succ, i64_w, i32_w]
                          rfl
                        refine pure_ (i := 11) (N := some 24) (v := ?_) (a' := ?_) #[true, true, true, true, true, false, false, false, true, true, true, true, false, false, false, false, false, false] rfl rfl (any_of HT_.out (by kernel_rfl)) (fun _ _ _ h => h) (Or.inl ⟨by rfl, ?_⟩) ?_ ?_
                        rotate_left
                        · intro w'
                          go_simp
                          with_reducible rfl
                        rotate_left
                        · simp only [Act.put, List.setIfInBounds_toArray, List.set_cons_zero, List.set_cons_succ, i64_w, i32_w]
                          rfl
                        refine take_ (i := 5) (N := some 18) (v := ?_) (a' := ?_) #[true, true, true, true, true, true, false, false, true, true, true, true, false, false, false, false, false, false] rfl rfl (take_ofW HT_.out HW_.out (by kernel_rfl)) (fun _ _ _ h => h) (Or.inl ⟨by rfl, ?_⟩) hHeld ?_ ?_
                        rotate_left
                        · rintro w' ⟨s0, s1⟩
                          go_simp
                          with_reducible rfl
                        rotate_left
                        · simp only [Act.put, List.setIfInBounds_toArray, List.set_cons_zero, List.set_cons_succ, i64_w, i32_w]
                          rfl
                        refine pure_ (i := 6) (N := some 19) (v := ?_) (a' := ?_) #[true, true, true, true, true, true, true, false, true, true, true, true, false, false, false, false, false, false] rfl rfl (any_of HT_.out (by kernel_rfl)) (fun _ _ _ h => h) (Or.inl ⟨by rfl, ?_⟩) ?_ ?_
                        rotate_left
                        · intro w'
                          go_simp
                          with_reducible rfl
                        rotate_left
                        · simp only [Act.put, List.setIfInBounds_toArray, List.set_cons_zero, List.set_cons_succ, i64_w, i32_w]
                          rfl
                        refine take_ (i := 7) (N := some 20) (v := ?_) (a' := ?_) #[true, true, true, true, true, true, true, true, true, true, true, true, false, false, false, false, false, false] rfl rfl (take_ofW HT_.out HW_.out (by kernel_rfl)) (fun _ _ _ h => h) (Or.inl ⟨by rfl, ?_⟩) hHeld ?_ ?_
                        rotate_left
                        · rintro w' ⟨s0, s1⟩
                          go_simp
                          with_reducible rfl
                        rotate_left
                        · simp only [Act.put, List.setIfInBounds_toArray, List.set_cons_zero, List.set_cons_succ, i64_w, i32_w]
                          rfl
                        refine take_ (i := 12) (N := some 25) (v := ?_) (a' := ?_) #[true, true, true, true, true, true, true, true, true, true, true, true, true, false, false, false, false, false] rfl rfl (take_ofW HT_.out HW_.out (by kernel_rfl)) (fun _ _ _ h => h) (Or.inl ⟨by rfl, ?_⟩) hHeld ?_ ?_
                        rotate_left
                        · rintro w' ⟨s0, s1⟩
                          go_simp
                          with_reducible rfl
                        rotate_left
                        · simp only [Act.put, List.setIfInBounds_toArray, List.set_cons_zero, List.set_cons_succ, i64_w, i32_w]
                          rfl
                        refine pure_ (i := 13) (N := some 26) (v := ?_) (a' := ?_) #[true, true, true, true, true, true, true, true, true, true, true, true, true, true, false, false, false, false] rfl rfl (any_of HT_.out (by kernel_rfl)) (fun _ _ _ h => h) (Or.inl ⟨by rfl, ?_⟩) ?_ ?_
                        rotate_left
                        · intro w'
                          go_simp
                          with_reducible rfl
                        rotate_left
                        · simp only [Act.put, List.setIfInBounds_toArray, List.set_cons_zero, List.set_cons_succ, i64_w, i32_w]
                          rfl
                        refine take_ (i := 14) (N := some 27) (v := ?_) (a' := ?_) #[true, true, true, true, true, true, true, true, true, true, true, true, true, true, true, false, false, false] rfl rfl (take_ofW HT_.out HW_.out (by kernel_rfl)) (fun _ _ _ h => h) (Or.inl ⟨by rfl, ?_⟩) hHeld ?_ ?_
                        rotate_left
                        · rintro w' ⟨s0, s1⟩
                          go_simp
                          with_reducible rfl
                        rotate_left
                        · simp only [Act.put, List.setIfInBounds_toArray, List.set_cons_zero, List.set_cons_succ, i64_w, i32_w]
                          rfl
                        refine one_ (i := 15) (N := some 28) #[true, true, true, true, true, true, true, true, true, true, true, true, true, true, true, true, false, false] rfl rfl (one_of HT_.out (by kernel_rfl)) (by decide) (fun K hK => ?_)
                        refine Kd.R_lit_step (Kd.int .u8) _ 5 ?hg (N := 28) ?hd (xs := ([bt (⟨#[48, 49, 50, 51, 52, 53, 54, 55, 56, 57, 97, 98, 99, 100, 101, 102, 65, 66, 67, 68, 69, 70]⟩ : ByteArray) (ji6), bt (⟨#[48, 49, 50, 51, 52, 53, 54, 55, 56, 57, 97, 98, 99, 100, 101, 102, 65, 66, 67, 68, 69, 70]⟩ : ByteArray) (ji10)] : List Int)) (inner := [.int .u8 (bt (⟨#[48, 49, 50, 51, 52, 53, 54, 55, 56, 57, 97, 98, 99, 100, 101, 102, 65, 66, 67, 68, 69, 70]⟩ : ByteArray) (ji6)), .int .u8 (bt (⟨#[48, 49, 50, 51, 52, 53, 54, 55, 56, 57, 97, 98, 99, 100, 101, 102, 65, 66, 67, 68, 69, 70]⟩ : ByteArray) (ji10))]) (ok := fun _ => True) (okp := fun _ => True) ?hr ?hp (fun _ hk => hk) trivial (Below.refl _ _) (Nat.le_refl _) (by simp) ?_; (case hd => rfl); (case hg => rfl); (case hr => first | (go_simp; done) | (go_simp; rfl)); (case hp => exact (Reps.one (show Kd.M (Kd.int .u8) _ _ _ (bt (⟨#[48, 49, 50, 51, 52, 53, 54, 55, 56, 57, 97, 98, 99, 100, 101, 102, 65, 66, 67, 68, 69, 70]⟩ : ByteArray) (ji6)) [.int .u8 (bt (⟨#[48, 49, 50, 51, 52, 53, 54, 55, 56, 57, 97, 98, 99, 100, 101, 102, 65, 66, 67, 68, 69, 70]⟩ : ByteArray) (ji6))] from rfl) (Reps.one (show Kd.M (Kd.int .u8) _ _ _ (bt (⟨#[48, 49, 50, 51, 52, 53, 54, 55, 56, 57, 97, 98, 99, 100, 101, 102, 65, 66, 67, 68, 69, 70]⟩ : ByteArray) (ji10)) [.int .u8 (bt (⟨#[48, 49, 50, 51, 52, 53, 54, 55, 56, 57, 97, 98, 99, 100, 101, 102, 65, 66, 67, 68, 69, 70]⟩ : ByteArray) (ji10))] from rfl) (Reps.none _ _))))
                        intro v147 w18 ho19 hb hg_ hnew_
                        clear hg_ hnew_
                        (first | rw [← Ny146.out] at ho19 | (simp only [Int.reduceToNat] at ho19; rw [← Ny146.out] at ho19))
                        have n0_ := Aside0.mk (Kd.R_elder' (by (with_reducible repeat (first | apply Kd.R_alloc | apply Kd.R_drewN | apply Kd.R_drew)); exact HO_4.out) (Kd.R_base ho19) hb)
                        have n1_ := Aside0.mk (Kd.R_lower (Kd.R_new' ho19 (Kd.R_lt (by (with_reducible repeat (first | apply Kd.R_alloc | apply Kd.R_drewN | apply Kd.R_drew)); exact HO_4.out))) (below_size (by repeat (first | (with_reducible first | exact HB.out | apply below_alloc | apply pw_below_drewN | apply below_drew1) | exact HB.out))))
                        have n2_ := Aside0.mk (below_step (by repeat (first | (with_reducible first | exact HB.out | apply below_alloc | apply pw_below_drewN | apply below_drew1) | exact HB.out)) hb)
                        clear HO_4
                        clear HB
                        have HO_4 := n0_
                        have HO148 := n1_
                        have HB := n2_
                        clear n0_ n1_ n2_
                        clear hb ho19
                        obtain ⟨Ao21, co21, eo21⟩ := Kd.R_slice HO148.out
                        (first | subst eo21 | (injection eo21 with f1_ f2_ f3_; have f4_ := f1_.symm; have f5_ := f3_.symm; clear f1_ f2_ f3_; subst f4_; subst f5_))
                        refine hK.out _ _ ⟨((HB.out.cell (World.block_lt_of_cell? w _ hw144_0)).trans hw144_0), ((HB.out.cell (World.block_lt_of_cell? w _ hw145_0)).trans hw145_0)⟩ (fun hHeld => ?_)
                        clear hK K
                        refine norm_ (a' := ?_) ?_ ?_
                        rotate_left
                        · show Act.put _ (some 28) _ = _
                          simp only [Act.put, List.setIfInBounds_toArray, List.set_cons_zero, List.set_cons_succ, i64_w, i32_w]
                          rfl
                        refine one_ (i := 16) (N := some 29) #[true, true, true, true, true, true, true, true, true, true, true, true, true, true, true, true, true, false] rfl rfl (one_of HT_.out (by kernel_rfl)) (by decide) (fun K hK => ?_)
                        refine Kd.R_append_rows_step (Kd.int .u8) (w0 := w) w.heap.size (by rfl) (.tmp 13) (.tmp 28) 32 5 (.int .u8 0) 1 rfl Tryd.underlying32 info5 rfl (by decide) (by omega) u4 x4_1 y146 _ _ _ (fun k_ => some k_ ≠ (.slice Ao21 y146.length co21 : Value).ownBlock) (fun _ => False) rfl rfl ?aO ?aR (fun _ _ h => h) (fun _ h => h.elim) ?aF ?aB ?aS ?aL ?_
                        (case aR => repeat (first | exact (Kd.R_reads' HO148.out).2.2 | (with_reducible refine Kd.C_alloc ?_ _) | (with_reducible refine Kd.C_drewN ?_ _) | (with_reducible refine Kd.C_drew ?_)))
                        (case aB => exact (by repeat (first | (with_reducible first | exact HB.out | apply below_alloc | apply pw_below_drewN | apply below_drew1) | exact HB.out)))
                        (case aF => exact (fun k_ hk => Kd.fresh' (Kd.R_lt (by (with_reducible repeat (first | apply Kd.R_alloc | apply Kd.R_drewN | apply Kd.R_drew)); exact HO148.out)) k_ hk))
                        (case aO => exact (by (with_reducible repeat (first | apply Kd.R_alloc | apply Kd.R_drewN | apply Kd.R_drew)); exact Kd.R_mono HO_4.out (fun _ hk => hk.2)))
                        (case aS => exact (below_size (by repeat (first | (with_reducible first | exact HB.out | apply below_alloc | apply pw_below_drewN | apply below_drew1) | exact HB.out))))
                        (case aL => have := LMc14.out; omega)
                        intro v150 w20 ho hb hg hat
                        rw [← Ny149.out] at ho
                        have n0_ := Aside0.mk (Kd.R_after (ok := (fun _ => True)) (by (with_reducible repeat (first | apply Kd.R_alloc | apply Kd.R_drewN | apply Kd.R_drew)); exact HO148.out) hg hat)
                        have n1_ := Aside0.mk (hb)
                        have n2_ := Aside0.mk (ho)
                        clear HO148
                        clear HB
                        clear HO_4
                        have HO148 := n0_
                        have HB := n1_
                        have HO151 := n2_
                        clear n0_ n1_ n2_
                        clear ho hb hg hat
                        refine hK.out _ _ ⟨((HB.out.cell (World.block_lt_of_cell? w _ hw144_0)).trans hw144_0), ((HB.out.cell (World.block_lt_of_cell? w _ hw145_0)).trans hw145_0)⟩ (fun hHeld => ?_)
                        clear hK K
                        refine norm_ (a' := ?_) ?_ ?_
                        rotate_left
                        · show Act.put _ (some 29) _ = _
                          simp only [Act.put, List.setIfInBounds_toArray, List.set_cons_zero, List.set_cons_succ, i64_w, i32_w]
                          rfl
                        refine pure_ (i := 17) (N := some 4) (v := ?_) (a' := ?_) #[true, true, true, true, true, true, true, true, true, true, true, true, true, true, true, true, true, true] rfl rfl (any_of HT_.out (by kernel_rfl)) (fun _ _ _ h => h) (Or.inl ⟨by rfl, ?_⟩) ?_ ?_
                        rotate_left
                        · intro w'
                          go_simp
                          with_reducible rfl
                        rotate_left
                        · simp only [Act.put, List.setIfInBounds_toArray, List.set_cons_zero, List.set_cons_succ, i64_w, i32_w]
                          rfl
                        refine done_ (done_of HT_.out (by kernel_rfl)) ?_
                        try go_wp2_with (first | ((with_reducible refine gate_builtin (b := .append) (xs := #[.tmp 33, .tmp 34]) rfl ?_); at_builtin; refine Kd.R_append (Kd.int .u8) (w0 := w) w.heap.size rfl (.tmp 33) (.tmp 34) 32 5 (.int .u8 0) 1 rfl Tryd.underlying32 info5 rfl (by decide) (by omega) v150 y149 10 [.int .u8 10] (fun k_ => some k_ ≠ (.slice Ao21 y146.length co21 : Value).ownBlock) (fun _ => False) rfl rfl ?aP (fun _ hk => hk.elim) ?aF ?aO ?aB ?aS ?aL ?_; (case aP => exact rfl); (case aB => exact (by repeat (first | (with_reducible first | exact HB.out | apply below_alloc | apply pw_below_drewN | apply below_drew1) | exact HB.out))); (case aF => exact (fun k_ hk => Kd.fresh' (Kd.R_lt (by (with_reducible repeat (first | apply Kd.R_alloc | apply Kd.R_drewN | apply Kd.R_drew)); exact HO148.out)) k_ hk)); (case aO => exact (by (with_reducible repeat (first | apply Kd.R_alloc | apply Kd.R_drewN | apply Kd.R_drew)); exact HO151.out)); (case aS => exact (below_size (by repeat (first | (with_reducible first | exact HB.out | apply below_alloc | apply pw_below_drewN | apply below_drew1) | exact HB.out)))); (case aL => have := LMc16.out; omega); intro v153 w22 ho hb hg hat; rw [← Ny152.out] at ho; have n0_ := Aside0.mk (Kd.R_after (ok := (fun _ => True)) (by (with_reducible repeat (first | apply Kd.R_alloc | apply Kd.R_drewN | apply Kd.R_drew)); exact HO148.out) hg hat); have n1_ := Aside0.mk (hb); have n2_ := Aside0.mk (ho); clear HO148; clear HB; clear HO151; have HO148 := n0_; have HB := n1_; have HO154 := n2_; clear n0_ n1_ n2_; clear ho hb hg hat))
                        go_roundg k1
                        case measure => have := HK1.out; omega
                        case rel => exact ⟨(y152), (wrap64 (x5_1 + 1)), (by first | rfl | (simp; done) | (simp [*]; done)), H', ⟨by have := HK1.out; omega⟩, ⟨by (with_reducible repeat (first | apply Kd.R_alloc | apply Kd.R_drewN | apply Kd.R_drew)); exact Kd.R_mono HO154.out (fun _ hk => trivial)⟩, ⟨by repeat (first | (with_reducible first | exact HB.out | apply below_alloc | apply pw_below_drewN | apply below_drew1) | exact HB.out)⟩⟩
                      · rw [if_neg c16] at H
                        exact absurd H (by simp)
                    · rw [if_neg c15] at H
                      have c15b0 : ((Int.tmod x5_1 7) == 3) = false := beq_eq_false_iff_ne.mpr c15
                      have c15b1 : ((Int.tmod x5_1 7) != 3) = true := bne_iff_ne.mpr c15
                      have H' := Aside0.mk H
                      clear H
                      try go_wp2
                      have n0_ := Aside0.mk (Kd.R_drew HO_4.out)
                      have n1_ := Aside0.mk (below_drew1 HB.out)
                      clear HO_4
                      clear HB
                      have HO_4 := n0_
                      have HB := n1_
                      clear n0_ n1_
                      have p144 : 0 ≤ (x5_1 : Int) := of_decide_eq_true (by first | (with_reducible assumption) | assumption)
                      have q144 : x5_1 < (l0.length : Int) := of_decide_eq_true (by first | (with_reducible assumption) | assumption)
                      obtain ⟨ad144, e144, hx144_0⟩ := Kd.at_int HR0.out x5_1 p144 q144
                      have hw144_0 := hx144_0
                      cases e144
                      replace hx144_0 := (HB.out.cell (World.block_lt_of_cell? w _ hx144_0)).trans hx144_0
                      replace p144 := eq_true p144
                      replace q144 := eq_true q144
                      have p9 : 0 ≤ ((ji6) : Int) := of_decide_eq_true (by first | (with_reducible assumption) | assumption)
                      have q9 : (ji6) < (22 : Int) := of_decide_eq_true (by first | (with_reducible assumption) | assumption)
                      have hx9 := bt_at (⟨#[48, 49, 50, 51, 52, 53, 54, 55, 56, 57, 97, 98, 99, 100, 101, 102, 65, 66, 67, 68, 69, 70]⟩ : ByteArray) (ji6)
                      replace p9 := eq_true p9
                      replace q9 := eq_true q9
                      have p145 : 0 ≤ (x5_1 : Int) := of_decide_eq_true (by first | (with_reducible assumption) | assumption)
                      have q145 : x5_1 < (l0.length : Int) := of_decide_eq_true (by first | (with_reducible assumption) | assumption)
                      obtain ⟨ad145, e145, hx145_0⟩ := Kd.at_int HR0.out x5_1 p145 q145
                      have hw145_0 := hx145_0
                      obtain rfl : ad144 = ad145 := (by injection e145)
                      replace hx145_0 := (HB.out.cell (World.block_lt_of_cell? w _ hx145_0)).trans hx145_0
                      replace p145 := eq_true p145
                      replace q145 := eq_true q145
                      have p13 : 0 ≤ ((ji10) : Int) := of_decide_eq_true (by first | (with_reducible assumption) | assumption)
                      have q13 : (ji10) < (22 : Int) := of_decide_eq_true (by first | (with_reducible assumption) | assumption)
                      have hx13 := bt_at (⟨#[48, 49, 50, 51, 52, 53, 54, 55, 56, 57, 97, 98, 99, 100, 101, 102, 65, 66, 67, 68, 69, 70]⟩ : ByteArray) (ji10)
                      replace p13 := eq_true p13
                      replace q13 := eq_true q13
                      refine start_ (n := 18) (S := fun w' => w'.cell? (ad144.add (x5_1).toNat) = some (.int .u8 (rd l0 x5_1)) ∧ w'.cell? (ad144.add (x5_1).toNat) = some (.int .u8 (rd l0 x5_1))) (ds := []) #[false, false, false, false, false, false, false, false, false, false, false, false, false, false, false, false, false, false] (by kernel_rfl) rfl rfl ⟨((HB.out.cell (World.block_lt_of_cell? w _ hw144_0)).trans hw144_0), ((HB.out.cell (World.block_lt_of_cell? w _ hw145_0)).trans hw145_0)⟩ (fun hHeld => ?_); refine with_tabW mezzotintlaw04_hexed.tab6 mezzotintlaw04_hexed.bits6 (fun HT_ HW_ => ?_)
                      generalize wr.drew = w23 at HO_4 HB hx144_0 hx145_0 hHeld ⊢
                      refine pure_ (i := 0) (N := some 13) (v := ?_) (a' := ?_) #[true, false, false, false, false, false, false, false, false, false, false, false, false, false, false, false, false, false] rfl rfl (any_of HT_.out (by kernel_rfl)) (fun _ _ _ h => h) (Or.inl ⟨by rfl, ?_⟩) ?_ ?_
                      rotate_left
                      · intro w'
                        go_simp
                        with_reducible rfl
                      rotate_left
                      · simp only [Act.put, List.setIfInBounds_toArray, List.set_cons_zero, List.set_cons_succ, i64_w, i32_w]
                        rfl
                      refine pure_ (i := 1) (N := some 14) (v := ?_) (a' := ?_) #[true, true, false, false, false, false, false, false, false, false, false, false, false, false, false, false, false, false] rfl rfl (any_of HT_.out (by kernel_rfl)) (fun _ _ _ h => h) (Or.inl ⟨by rfl, ?_⟩) ?_ ?_
                      rotate_left
                      · intro w'
                        go_simp
                        with_reducible rfl
                      rotate_left
                      · simp only [Act.put, List.setIfInBounds_toArray, List.set_cons_zero, List.set_cons_succ, i64_w, i32_w]
                        rfl
                      refine pure_ (i := 2) (N := some 15) (v := ?_) (a' := ?_) #[true, true, true, false, false, false, false, false, false, false, false, false, false, false, false, false, false, false] rfl rfl (any_of HT_.out (by kernel_rfl)) (fun _ _ _ h => h) (Or.inl ⟨by rfl, ?_⟩) ?_ ?_
                      rotate_left
                      · intro w'
                        go_simp
                        with_reducible rfl
                      rotate_left
                      · simp only [Act.put, List.setIfInBounds_toArray, List.set_cons_zero, List.set_cons_succ, i64_w, i32_w]
                        rfl
                      refine pure_ (i := 3) (N := some 16) (v := ?_) (a' := ?_) #[true, true, true, true, false, false, false, false, false, false, false, false, false, false, false, false, false, false] rfl rfl (any_of HT_.out (by kernel_rfl)) (fun _ _ _ h => h) (Or.inl ⟨by rfl, ?_⟩) ?_ ?_
                      rotate_left
                      · intro w'
                        go_simp
                        with_reducible rfl
                      rotate_left
                      · simp only [Act.put, List.setIfInBounds_toArray, List.set_cons_zero, List.set_cons_succ, i64_w, i32_w]
                        rfl
                      refine pure_ (i := 4) (N := some 17) (v := ?_) (a' := ?_) #[true, true, true, true, true, false, false, false, false, false, false, false, false, false, false, false, false, false] rfl rfl (any_of HT_.out (by kernel_rfl)) (fun _ _ _ h => h) (Or.inl ⟨by rfl, ?_⟩) ?_ ?_
                      rotate_left
                      · intro w'
                        go_simp
                        with_reducible rfl
                      rotate_left
                      · simp only [Act.put, List.setIfInBounds_toArray, List.set_cons_zero, List.set_cons_succ, i64_w, i32_w]
                        rfl
                      refine pure_ (i := 8) (N := some 21) (v := ?_) (a' := ?_) #[true, true, true, true, true, false, false, false, true, false, false, false, false, false, false, false, false, false] rfl rfl (any_of HT_.out (by kernel_rfl)) (fun _ _ _ h => h) (Or.inl ⟨by rfl, ?_⟩) ?_ ?_
                      rotate_left
                      · intro w'
                        go_simp
                        with_reducible rfl
                      rotate_left
                      · simp only [Act.put, List.setIfInBounds_toArray, List.set_cons_zero, List.set_cons_succ, i64_w, i32_w]
                        rfl
                      refine pure_ (i := 9) (N := some 22) (v := ?_) (a' := ?_) #[true, true, true, true, true, false, false, false, true, true, false, false, false, false, false, false, false, false] rfl rfl (any_of HT_.out (by kernel_rfl)) (fun _ _ _ h => h) (Or.inl ⟨by rfl, ?_⟩) ?_ ?_
                      rotate_left
                      · intro w'
                        go_simp
                        with_reducible rfl
                      rotate_left
                      · simp only [Act.put, List.setIfInBounds_toArray, List.set_cons_zero, List.set_cons_succ, i64_w, i32_w]
                        rfl
                      refine pure_ (i := 10) (N := some 23) (v := ?_) (a' := ?_) #[true, true, true, true, true, false, false, false, true, true, true, false, false, false, false, false, false, false] rfl rfl (any_of HT_.out (by kernel_rfl)) (fun _ _ _ h => h) (Or.inl ⟨by rfl, ?_⟩) ?_ ?_
                      rotate_left
                      · intro w'
                        go_simp
                        with_reducible rfl
                      rotate_left
                      · simp only [Act.put, List.setIfInBounds_toArray, List.set_cons_zero, List.set_cons_succ, i64_w, i32_w]
                        rfl
                      refine pure_ (i := 11) (N := some 24) (v := ?_) (a' := ?_) #[true, true, true, true, true, false, false, false, true, true, true, true, false, false, false, false, false, false] rfl rfl (any_of HT_.out (by kernel_rfl)) (fun _ _ _ h => h) (Or.inl ⟨by rfl, ?_⟩) ?_ ?_
                      rotate_left
                      · intro w'
                        go_simp
                        with_reducible rfl
                      rotate_left
                      · simp only [Act.put, List.setIfInBounds_toArray, List.set_cons_zero, List.set_cons_succ, i64_w, i32_w]
                        rfl
                      refine take_ (i := 5) (N := some 18) (v := ?_) (a' := ?_) #[true, true, true, true, true, true, false, false, true, true, true, true, false, false, false, false, false, false] rfl rfl (take_ofW HT_.out HW_.out (by kernel_rfl)) (fun _ _ _ h => h) (Or.inl ⟨by rfl, ?_⟩) hHeld ?_ ?_
                      rotate_left
                      · rintro w' ⟨s0, s1⟩
                        go_simp
                        with_reducible rfl
                      rotate_left
                      · simp only [Act.put, List.setIfInBounds_toArray, List.set_cons_zero, List.set_cons_succ, i64_w, i32_w]
                        rfl
                      refine pure_ (i := 6) (N := some 19) (v := ?_) (a' := ?_) #[true, true, true, true, true, true, true, false, true, true, true, true, false, false, false, false, false, false] rfl rfl (any_of HT_.out (by kernel_rfl)) (fun _ _ _ h => h) (Or.inl ⟨by rfl, ?_⟩) ?_ ?_
                      rotate_left
                      · intro w'
                        go_simp
                        with_reducible rfl
                      rotate_left
                      · simp only [Act.put, List.setIfInBounds_toArray, List.set_cons_zero, List.set_cons_succ, i64_w, i32_w]
                        rfl
                      refine take_ (i := 7) (N := some 20) (v := ?_) (a' := ?_) #[true, true, true, true, true, true, true, true, true, true, true, true, false, false, false, false, false, false] rfl rfl (take_ofW HT_.out HW_.out (by kernel_rfl)) (fun _ _ _ h => h) (Or.inl ⟨by rfl, ?_⟩) hHeld ?_ ?_
                      rotate_left
                      · rintro w' ⟨s0, s1⟩
                        go_simp
                        with_reducible rfl
                      rotate_left
                      · simp only [Act.put, List.setIfInBounds_toArray, List.set_cons_zero, List.set_cons_succ, i64_w, i32_w]
                        rfl
                      refine take_ (i := 12) (N := some 25) (v := ?_) (a' := ?_) #[true, true, true, true, true, true, true, true, true, true, true, true, true, false, false, false, false, false] rfl rfl (take_ofW HT_.out HW_.out (by kernel_rfl)) (fun _ _ _ h => h) (Or.inl ⟨by rfl, ?_⟩) hHeld ?_ ?_
                      rotate_left
                      · rintro w' ⟨s0, s1⟩
                        go_simp
                        with_reducible rfl
                      rotate_left
                      · simp only [Act.put, List.setIfInBounds_toArray, List.set_cons_zero, List.set_cons_succ, i64_w, i32_w]
                        rfl
                      refine pure_ (i := 13) (N := some 26) (v := ?_) (a' := ?_) #[true, true, true, true, true, true, true, true, true, true, true, true, true, true, false, false, false, false] rfl rfl (any_of HT_.out (by kernel_rfl)) (fun _ _ _ h => h) (Or.inl ⟨by rfl, ?_⟩) ?_ ?_
                      rotate_left
                      · intro w'
                        go_simp
                        with_reducible rfl
                      rotate_left
                      · simp only [Act.put, List.setIfInBounds_toArray, List.set_cons_zero, List.set_cons_succ, i64_w, i32_w]
                        rfl
                      refine take_ (i := 14) (N := some 27) (v := ?_) (a' := ?_) #[true, true, true, true, true, true, true, true, true, true, true, true, true, true, true, false, false, false] rfl rfl (take_ofW HT_.out HW_.out (by kernel_rfl)) (fun _ _ _ h => h) (Or.inl ⟨by rfl, ?_⟩) hHeld ?_ ?_
                      rotate_left
                      · rintro w' ⟨s0, s1⟩
                        go_simp
                        with_reducible rfl
                      rotate_left
                      · simp only [Act.put, List.setIfInBounds_toArray, List.set_cons_zero, List.set_cons_succ, i64_w, i32_w]
                        rfl
                      refine one_ (i := 15) (N := some 28) #[true, true, true, true, true, true, true, true, true, true, true, true, true, true, true, true, false, false] rfl rfl (one_of HT_.out (by kernel_rfl)) (by decide) (fun K hK => ?_)
                      refine Kd.R_lit_step (Kd.int .u8) _ 5 ?hg (N := 28) ?hd (xs := ([bt (⟨#[48, 49, 50, 51, 52, 53, 54, 55, 56, 57, 97, 98, 99, 100, 101, 102, 65, 66, 67, 68, 69, 70]⟩ : ByteArray) (ji6), bt (⟨#[48, 49, 50, 51, 52, 53, 54, 55, 56, 57, 97, 98, 99, 100, 101, 102, 65, 66, 67, 68, 69, 70]⟩ : ByteArray) (ji10)] : List Int)) (inner := [.int .u8 (bt (⟨#[48, 49, 50, 51, 52, 53, 54, 55, 56, 57, 97, 98, 99, 100, 101, 102, 65, 66, 67, 68, 69, 70]⟩ : ByteArray) (ji6)), .int .u8 (bt (⟨#[48, 49, 50, 51, 52, 53, 54, 55, 56, 57, 97, 98, 99, 100, 101, 102, 65, 66, 67, 68, 69, 70]⟩ : ByteArray) (ji10))]) (ok := fun _ => True) (okp := fun _ => True) ?hr ?hp (fun _ hk => hk) trivial (Below.refl _ _) (Nat.le_refl _) (by simp) ?_; (case hd => rfl); (case hg => rfl); (case hr => first | (go_simp; done) | (go_simp; rfl)); (case hp => exact (Reps.one (show Kd.M (Kd.int .u8) _ _ _ (bt (⟨#[48, 49, 50, 51, 52, 53, 54, 55, 56, 57, 97, 98, 99, 100, 101, 102, 65, 66, 67, 68, 69, 70]⟩ : ByteArray) (ji6)) [.int .u8 (bt (⟨#[48, 49, 50, 51, 52, 53, 54, 55, 56, 57, 97, 98, 99, 100, 101, 102, 65, 66, 67, 68, 69, 70]⟩ : ByteArray) (ji6))] from rfl) (Reps.one (show Kd.M (Kd.int .u8) _ _ _ (bt (⟨#[48, 49, 50, 51, 52, 53, 54, 55, 56, 57, 97, 98, 99, 100, 101, 102, 65, 66, 67, 68, 69, 70]⟩ : ByteArray) (ji10)) [.int .u8 (bt (⟨#[48, 49, 50, 51, 52, 53, 54, 55, 56, 57, 97, 98, 99, 100, 101, 102, 65, 66, 67, 68, 69, 70]⟩ : ByteArray) (ji10))] from rfl) (Reps.none _ _))))
                      intro v147 w24 ho25 hb hg_ hnew_
                      clear hg_ hnew_
                      (first | rw [← Ny146.out] at ho25 | (simp only [Int.reduceToNat] at ho25; rw [← Ny146.out] at ho25))
                      have n0_ := Aside0.mk (Kd.R_elder' (by (with_reducible repeat (first | apply Kd.R_alloc | apply Kd.R_drewN | apply Kd.R_drew)); exact HO_4.out) (Kd.R_base ho25) hb)
                      have n1_ := Aside0.mk (Kd.R_lower (Kd.R_new' ho25 (Kd.R_lt (by (with_reducible repeat (first | apply Kd.R_alloc | apply Kd.R_drewN | apply Kd.R_drew)); exact HO_4.out))) (below_size (by repeat (first | (with_reducible first | exact HB.out | apply below_alloc | apply pw_below_drewN | apply below_drew1) | exact HB.out))))
                      have n2_ := Aside0.mk (below_step (by repeat (first | (with_reducible first | exact HB.out | apply below_alloc | apply pw_below_drewN | apply below_drew1) | exact HB.out)) hb)
                      clear HO_4
                      clear HB
                      have HO_4 := n0_
                      have HO148 := n1_
                      have HB := n2_
                      clear n0_ n1_ n2_
                      clear hb ho25
                      obtain ⟨Ao27, co27, eo27⟩ := Kd.R_slice HO148.out
                      (first | subst eo27 | (injection eo27 with f1_ f2_ f3_; have f4_ := f1_.symm; have f5_ := f3_.symm; clear f1_ f2_ f3_; subst f4_; subst f5_))
                      refine hK.out _ _ ⟨((HB.out.cell (World.block_lt_of_cell? w _ hw144_0)).trans hw144_0), ((HB.out.cell (World.block_lt_of_cell? w _ hw145_0)).trans hw145_0)⟩ (fun hHeld => ?_)
                      clear hK K
                      refine norm_ (a' := ?_) ?_ ?_
                      rotate_left
                      · show Act.put _ (some 28) _ = _
                        simp only [Act.put, List.setIfInBounds_toArray, List.set_cons_zero, List.set_cons_succ, i64_w, i32_w]
                        rfl
                      refine one_ (i := 16) (N := some 29) #[true, true, true, true, true, true, true, true, true, true, true, true, true, true, true, true, true, false] rfl rfl (one_of HT_.out (by kernel_rfl)) (by decide) (fun K hK => ?_)
                      refine Kd.R_append_rows_step (Kd.int .u8) (w0 := w) w.heap.size (by rfl) (.tmp 13) (.tmp 28) 32 5 (.int .u8 0) 1 rfl Tryd.underlying32 info5 rfl (by decide) (by omega) u4 x4_1 y146 _ _ _ (fun k_ => some k_ ≠ (.slice Ao27 y146.length co27 : Value).ownBlock) (fun _ => False) rfl rfl ?aO ?aR (fun _ _ h => h) (fun _ h => h.elim) ?aF ?aB ?aS ?aL ?_
                      (case aR => repeat (first | exact (Kd.R_reads' HO148.out).2.2 | (with_reducible refine Kd.C_alloc ?_ _) | (with_reducible refine Kd.C_drewN ?_ _) | (with_reducible refine Kd.C_drew ?_)))
                      (case aB => exact (by repeat (first | (with_reducible first | exact HB.out | apply below_alloc | apply pw_below_drewN | apply below_drew1) | exact HB.out)))
                      (case aF => exact (fun k_ hk => Kd.fresh' (Kd.R_lt (by (with_reducible repeat (first | apply Kd.R_alloc | apply Kd.R_drewN | apply Kd.R_drew)); exact HO148.out)) k_ hk))
                      (case aO => exact (by (with_reducible repeat (first | apply Kd.R_alloc | apply Kd.R_drewN | apply Kd.R_drew)); exact Kd.R_mono HO_4.out (fun _ hk => hk.2)))
                      (case aS => exact (below_size (by repeat (first | (with_reducible first | exact HB.out | apply below_alloc | apply pw_below_drewN | apply below_drew1) | exact HB.out))))
                      (case aL => have := LMc14.out; omega)
                      intro v150 w26 ho hb hg hat
                      rw [← Ny149.out] at ho
                      have n0_ := Aside0.mk (Kd.R_after (ok := (fun _ => True)) (by (with_reducible repeat (first | apply Kd.R_alloc | apply Kd.R_drewN | apply Kd.R_drew)); exact HO148.out) hg hat)
                      have n1_ := Aside0.mk (hb)
                      have n2_ := Aside0.mk (ho)
                      clear HO148
                      clear HB
                      clear HO_4
                      have HO148 := n0_
                      have HB := n1_
                      have HO151 := n2_
                      clear n0_ n1_ n2_
                      clear ho hb hg hat
                      refine hK.out _ _ ⟨((HB.out.cell (World.block_lt_of_cell? w _ hw144_0)).trans hw144_0), ((HB.out.cell (World.block_lt_of_cell? w _ hw145_0)).trans hw145_0)⟩ (fun hHeld => ?_)
                      clear hK K
                      refine norm_ (a' := ?_) ?_ ?_
                      rotate_left
                      · show Act.put _ (some 29) _ = _
                        simp only [Act.put, List.setIfInBounds_toArray, List.set_cons_zero, List.set_cons_succ, i64_w, i32_w]
                        rfl
                      refine pure_ (i := 17) (N := some 4) (v := ?_) (a' := ?_) #[true, true, true, true, true, true, true, true, true, true, true, true, true, true, true, true, true, true] rfl rfl (any_of HT_.out (by kernel_rfl)) (fun _ _ _ h => h) (Or.inl ⟨by rfl, ?_⟩) ?_ ?_
                      rotate_left
                      · intro w'
                        go_simp
                        with_reducible rfl
                      rotate_left
                      · simp only [Act.put, List.setIfInBounds_toArray, List.set_cons_zero, List.set_cons_succ, i64_w, i32_w]
                        rfl
                      refine done_ (done_of HT_.out (by kernel_rfl)) ?_
                      try go_wp2
                      go_roundg k1
                      case measure => have := HK1.out; omega
                      case rel => exact ⟨(y149), (wrap64 (x5_1 + 1)), (by first | rfl | (simp; done) | (simp [*]; done)), H', ⟨by have := HK1.out; omega⟩, ⟨by (with_reducible repeat (first | apply Kd.R_alloc | apply Kd.R_drewN | apply Kd.R_drew)); exact Kd.R_mono HO151.out (fun _ hk => trivial)⟩, ⟨by repeat (first | (with_reducible first | exact HB.out | apply below_alloc | apply pw_below_drewN | apply below_drew1) | exact HB.out)⟩⟩
                  · rw [if_neg c14] at H
                    exact absurd H (by simp)
                · rw [if_neg c12] at H
                  exact absurd H (by simp)
              · rw [if_neg c11] at H
                exact absurd H (by simp)
            · rw [if_neg c8] at H
              exact absurd H (by simp)
          · rw [if_neg c7] at H
            exact absurd H (by simp)
        · rw [if_neg c5] at H
          exact absurd H (by simp)
      · rw [if_neg c4] at H
        have c4b0 : decide (x5_1 < (l0.length : Int)) = false := decide_eq_false c4
        clear c4
        by_cases c28 : x4_1.length < 140737488355328
        · rw [if_pos c28] at H
          have LMc28 := Aside0.mk c28
          clear c28
          obtain ⟨y155, hy155⟩ : ∃ y_ : List Int, y_ = (x4_1 ++ [62]) := ⟨_, rfl⟩
          replace H : (some (strOfNums y155)) = some r := by first | (rw [hy155]; with_reducible exact H) | (have H2_ := (Option.bind_some _ _).symm.trans H; rw [hy155]; with_reducible exact H2_) | (have H2_ := (Option.bind_some _ _).symm.trans H; with_reducible exact H2_) | with_reducible exact H | (rw [hy155]; exact H) | exact H
          have Ny155 := Aside0.mk hy155
          clear hy155
          obtain rfl := Option.some.inj H
          go_wp2_with (first | ((with_reducible refine gate_builtin (b := .append) (xs := #[.tmp 36, .tmp 37]) rfl ?_); at_builtin; refine Kd.R_append (Kd.int .u8) (w0 := w) w.heap.size rfl (.tmp 36) (.tmp 37) 32 5 (.int .u8 0) 1 rfl Tryd.underlying32 info5 rfl (by decide) (by omega) u4 x4_1 62 [.int .u8 62] (fun _ => True) (fun _ => False) rfl rfl ?aP (fun _ hk => hk.elim) ?aF ?aO ?aB ?aS ?aL ?_; (case aP => exact rfl); (case aB => exact (by repeat (first | (with_reducible first | exact HB.out | apply below_alloc | apply pw_below_drewN | apply below_drew1) | exact HB.out))); (case aF => exact (fun _ _ => trivial)); (case aO => exact (by (with_reducible repeat (first | apply Kd.R_alloc | apply Kd.R_drewN | apply Kd.R_drew)); exact HO_4.out)); (case aS => exact (below_size (by repeat (first | (with_reducible first | exact HB.out | apply below_alloc | apply pw_below_drewN | apply below_drew1) | exact HB.out)))); (case aL => have := LMc28.out; omega); intro v156 w29 ho hb hg hat; rw [← Ny155.out] at ho; have n0_ := Aside0.mk (hb); have n1_ := Aside0.mk (ho); clear HB; clear HO_4; have HB := n0_; have HO157 := n1_; clear n0_ n1_; clear ho hb hg hat; have hcv30 := own_string (P := Tryd.prog) Tryd.underlying32 Tryd.underlying5 Tryd.underlying9 (Kd.own_of_R HO157.out)))
          go_ret
          exact ⟨by first | rfl | (simp [errW_none, errW_some] <;> rfl) | (simp [*, errW_none, errW_some] <;> rfl), by repeat (first | (with_reducible first | exact HB.out | apply below_alloc | apply pw_below_drewN | apply below_drew1) | exact HB.out)⟩
        · rw [if_neg c28] at H
          exact absurd H (by simp)

end Go.Proofs.YtiocgpfnbmlfaaaDoor.PS2

/-! ## ST -/
namespace Go.Proofs.YtiocgpfnbmlfaaaDoor.SC
open Go Go.RowKit Go.ChangeShapes Go.Proofs.YtiocgpfnbmlfaaaDoor Go.Proofs.YtiocgpfnbmlfaaaDoor.QD Go.Proofs.YtiocgpfnbmlfaaaDoorW.PrintWords Go.Proofs.YtiocgpfnbmlfaaaDoorW.PrintLast

theorem rd_at (pre t : List UInt8) (c : UInt8) : rd (bI (pre ++ c :: t)) (pre.length : Int) = (c.toNat : Int) := by
  simp [rd, bI, List.getD]
theorem step_at (pre : List UInt8) (c : UInt8) (h : pre.length ≤ 100000) : wrap64 ((pre.length : Int) + 1) = ((pre ++ [c]).length : Int) := by
  rw [List.length_append, List.length_singleton, show wrap64 ((pre.length : Int) + 1) = (pre.length : Int) + 1 from by unfold wrap64; omega]
  rfl
theorem octI_fin : ∀ c : Fin 256, ([92, (48 + ((Int.tdiv (c.val : Int) 64) % 256)) % 256, 48 + (((Int.tdiv (c.val : Int) 8) % 256) % 8), (48 + (Int.tmod (c.val : Int) 8)) % 256] : List Int) =
    bI [92, 48 + UInt8.ofNat c.val / 64, 48 + UInt8.ofNat c.val / 8 % 8, 48 + UInt8.ofNat c.val % 8] := by decide +kernel
theorem octI (c : UInt8) : ([92, (48 + ((Int.tdiv (c.toNat : Int) 64) % 256)) % 256, 48 + (((Int.tdiv (c.toNat : Int) 8) % 256) % 8), (48 + (Int.tmod (c.toNat : Int) 8)) % 256] : List Int) = bI [92, 48 + c / 64, 48 + c / 8 % 8, 48 + c % 8] := by
  have := octI_fin ⟨c.toNat, c.toNat_lt⟩
  simpa using this
theorem bI_add (a b : List UInt8) : bI a ++ bI b = bI (a ++ b) := by simp [bI]
theorem toNat_ne {c : UInt8} (d : UInt8) (z : Int) (hz : (d.toNat : Int) = z) (h : c ≠ d) : ¬ (c.toNat : Int) = z := fun e => h (UInt8.toNat_inj.1 (by omega))
theorem toNat_eq {c d : UInt8} (h : (c.toNat : Int) = (d.toNat : Int)) : c = d := UInt8.toNat_inj.1 (by omega)

theorem escaped_from (xs : List UInt8) (p : Bool) (hx : xs.length ≤ 100000) : ∀ (rest pre acc : List UInt8), xs = pre ++ rest → acc.length + 4 * rest.length < 1000000 →
    PS2.mezzotintlaw04_escaped.l0 (rest.length + 1) (bI xs) p (bI acc) (pre.length : Int) = some (S (acc ++ bodyE p rest ++ [41]))
  | [], pre, acc, h, hl => by
    have h1 : ¬ ((pre.length : Int) < ((bI xs).length : Int)) := by rw [bI_len, h]; simp
    have h2 : (bI acc).length < 140737488355328 := by rw [bI_len]; simp only [List.length_nil] at hl; omega
    unfold PS2.mezzotintlaw04_escaped.l0
    rw [if_neg h1, if_pos h2]
    rw [show (bI acc ++ [41] : List Int) = bI (acc ++ [41]) from bI_add acc [41], bI_str]
    simp [bodyE]
  | c :: t, pre, acc, h, hl => by
    have hlen : xs.length = pre.length + (t.length + 1) := by rw [h]; simp
    have h1 : (pre.length : Int) < ((bI xs).length : Int) := by rw [bI_len]; omega
    have h0 : (0 : Int) ≤ (pre.length : Int) := by omega
    have hr : rd (bI xs) (pre.length : Int) = (c.toNat : Int) := by rw [h]; exact rd_at pre t c
    have hs := step_at pre c (by omega)
    have hxs : xs = (pre ++ [c]) ++ t := by rw [h]; simp
    simp only [List.length_cons] at hl ⊢
    have hlo : acc.length + 4 < 1000000 := by omega
    have hE : ∀ e : List UInt8, e.length ≤ 4 → e = escP p c → PS2.mezzotintlaw04_escaped.l0 (t.length + 1) (bI xs) p (bI (acc ++ e)) ((pre ++ [c]).length : Int) = some (S (acc ++ bodyE p (c :: t) ++ [41])) := by
      intro e he h'
      rw [escaped_from xs p hx t (pre ++ [c]) (acc ++ e) hxs (by rw [List.length_append]; omega), h']
      simp only [bodyE, List.append_assoc]
    have hO : escP p c = [92, 48 + c / 64, 48 + c / 8 % 8, 48 + c % 8] → ((some (([92, (48 + ((Int.tdiv (c.toNat : Int) 64) % 256)) % 256, 48 + (((Int.tdiv (c.toNat : Int) 8) % 256) % 8), (48 + (Int.tmod (c.toNat : Int) 8)) % 256] : List Int) : List Int)).bind fun y105 => (if (bI acc).length + y105.length < 140737488355328 then (PS2.mezzotintlaw04_escaped.l0 (t.length + 1) (bI xs) p (bI acc ++ y105) ((pre ++ [c]).length : Int)) else (none))) = some (S (acc ++ bodyE p (c :: t) ++ [41])) := by
      intro h'
      rw [octI, Option.bind_some, if_pos (by rw [bI_len, bI_len]; simp only [List.length_cons, List.length_nil]; omega), bI_add]
      exact hE _ (by simp) h'.symm
    have hP : escP p c = [c] → (if (bI acc).length < 140737488355328 then (PS2.mezzotintlaw04_escaped.l0 (t.length + 1) (bI xs) p (bI acc ++ [(c.toNat : Int)]) ((pre ++ [c]).length : Int)) else none) = some (S (acc ++ bodyE p (c :: t) ++ [41])) := by
      intro h'
      rw [if_pos (by rw [bI_len]; omega), show (bI acc ++ [(c.toNat : Int)] : List Int) = bI (acc ++ [c]) from bI_add acc [c]]
      exact hE _ (by simp) h'.symm
    unfold PS2.mezzotintlaw04_escaped.l0
    rw [if_pos h1, if_pos h0, hr, hs]
    by_cases hc : p = true ∧ c ≠ 40 ∧ c ≠ 41 ∧ c ≠ 92 ∧ c ≠ 13
    · have e : escP p c = [c] := by unfold escP; exact if_pos hc
      obtain ⟨rfl, n1, n2, n3, n4⟩ := hc
      rw [if_pos rfl, if_neg (toNat_ne 40 40 rfl n1), if_neg (toNat_ne 41 41 rfl n2), if_neg (toNat_ne 92 92 rfl n3), if_neg (toNat_ne 13 13 rfl n4)]
      exact hP e
    · have e := hO (by unfold escP; exact if_neg hc)
      by_cases hp : p = true
      · rw [if_pos hp]
        by_cases n1 : c = 40
        · rw [if_pos (by rw [n1]; rfl)]; exact e
        · rw [if_neg (toNat_ne 40 40 rfl n1)]
          by_cases n2 : c = 41
          · rw [if_pos (by rw [n2]; rfl)]; exact e
          · rw [if_neg (toNat_ne 41 41 rfl n2)]
            by_cases n3 : c = 92
            · rw [if_pos (by rw [n3]; rfl)]; exact e
            · rw [if_neg (toNat_ne 92 92 rfl n3)]
              by_cases n4 : c = 13
              · rw [if_pos (by rw [n4]; rfl)]; exact e
              · exact absurd ⟨hp, n1, n2, n3, n4⟩ hc
      · rw [if_neg hp]; exact e

def digsH : ByteArray := ⟨#[48, 49, 50, 51, 52, 53, 54, 55, 56, 57, 97, 98, 99, 100, 101, 102, 65, 66, 67, 68, 69, 70]⟩
theorem hexI_fin : ∀ n : Fin 16, bt digsH (n.val : Int) = ((hexD n.val).toNat : Int) := by decide +kernel
theorem hexI_at (n : Nat) (h : n < 16) : bt digsH (n : Int) = ((hexD n).toNat : Int) := hexI_fin ⟨n, h⟩

theorem hexed_from (xs : List UInt8) (hx : xs.length ≤ 100000) : ∀ (rest pre acc : List UInt8), xs = pre ++ rest → acc.length + 3 * rest.length < 1000000 →
    PS2.mezzotintlaw04_hexed.l0 (rest.length + 1) (bI xs) digsH (bI acc) (pre.length : Int) = some (S (acc ++ bodyH pre.length rest ++ [62]))
  | [], pre, acc, h, hl => by
    have h1 : ¬ ((pre.length : Int) < ((bI xs).length : Int)) := by rw [bI_len, h]; simp
    have h2 : (bI acc).length < 140737488355328 := by rw [bI_len]; simp only [List.length_nil] at hl; omega
    unfold PS2.mezzotintlaw04_hexed.l0
    rw [if_neg h1, if_pos h2]
    rw [show (bI acc ++ [62] : List Int) = bI (acc ++ [62]) from bI_add acc [62], bI_str]
    simp [bodyH]
  | c :: t, pre, acc, h, hl => by
    have hlen : xs.length = pre.length + (t.length + 1) := by rw [h]; simp
    have h1 : (pre.length : Int) < ((bI xs).length : Int) := by rw [bI_len]; omega
    have h0 : (0 : Int) ≤ (pre.length : Int) := by omega
    have hr : rd (bI xs) (pre.length : Int) = (c.toNat : Int) := by rw [h]; exact rd_at pre t c
    have hs := step_at pre c (by omega)
    have hxs : xs = (pre ++ [c]) ++ t := by rw [h]; simp
    have hc := c.toNat_lt
    have d1 : (Int.tdiv (c.toNat : Int) 16) % 256 = ((c.toNat / 16 : Nat) : Int) := by rw [Int.tdiv_eq_ediv_of_nonneg (by omega)]; omega
    have d2 : Int.tmod (c.toNat : Int) 16 = ((c.toNat % 16 : Nat) : Int) := by rw [Int.tmod_eq_emod_of_nonneg (by omega)]; omega
    have d3 : (Int.tmod (pre.length : Int) 7 = 3) = (pre.length % 7 = 3) := by rw [Int.tmod_eq_emod_of_nonneg (by omega)]; exact propext ⟨fun h => by omega, fun h => by omega⟩
    have hz : (digsH.size : Int) = 22 := rfl
    simp only [List.length_cons] at hl ⊢
    unfold PS2.mezzotintlaw04_hexed.l0
    rw [if_pos h1, if_pos h0, hr, hs, d1, d2, hz, if_pos (by omega), if_pos (by omega), if_pos (by omega), if_pos (by omega), hexI_at _ (by omega), hexI_at _ (by omega), Option.bind_some]
    rw [show ([((hexD (c.toNat / 16)).toNat : Int), ((hexD (c.toNat % 16)).toNat : Int)] : List Int) = bI [hexD (c.toNat / 16), hexD (c.toNat % 16)] from rfl]
    rw [if_pos (by rw [bI_len, bI_len]; simp only [List.length_cons, List.length_nil]; omega), Option.bind_some, bI_add]
    simp only [d3]
    have ih := fun (e : List UInt8) (he : e.length ≤ 1) => hexed_from xs hx t (pre ++ [c]) ((acc ++ [hexD (c.toNat / 16), hexD (c.toNat % 16)]) ++ e) hxs (by simp only [List.length_append, List.length_cons, List.length_nil]; omega)
    have hpl : (pre ++ [c]).length = pre.length + 1 := by simp
    by_cases h3 : pre.length % 7 = 3
    · rw [if_pos h3, if_pos (by rw [bI_len]; simp only [List.length_append, List.length_cons, List.length_nil]; omega)]
      rw [show (bI (acc ++ [hexD (c.toNat / 16), hexD (c.toNat % 16)]) ++ [10] : List Int) = bI ((acc ++ [hexD (c.toNat / 16), hexD (c.toNat % 16)]) ++ [10]) from bI_add _ [10]]
      rw [ih [10] (by simp), hpl]
      simp only [bodyH, if_pos h3, List.append_assoc, List.cons_append, List.nil_append]
    · rw [if_neg h3]
      have := ih [] (by simp)
      rw [List.append_nil] at this
      rw [this, hpl]
      simp only [bodyH, if_neg h3, List.append_assoc, List.cons_append, List.nil_append]

/-- what escaped and hexed write -/
theorem escaped_is (xs : List UInt8) (p : Bool) (hx : xs.length ≤ 100000) (A : Option Addr) (c : Nat) (w : World) (hr : (Kd.int .u8).C w A xs.length (bI xs)) (hc : xs.length ≤ c) :
    Calls Tryd.prog 27 #[.slice A xs.length c, .bool p] w fun e w' => e = .returned (.string (S (wayL (if p then 0 else 1) xs ++ [endL (if p then 0 else 1)]))) ∧ Below w.heap.size w w' := by
  have h := escaped_from xs p hx xs [] [40] rfl (by simp only [List.length_cons, List.length_nil]; omega)
  have := PS2.mezzotintlaw04_escaped.calls (xs.length + 1) A c (bI xs) p _ w (by rw [bI_len]; exact hr) (by rw [bI_len]; exact hc) h
  rw [bI_len] at this
  cases p <;> exact this
theorem hexed_is (xs : List UInt8) (hx : xs.length ≤ 100000) (A : Option Addr) (c : Nat) (w : World) (hr : (Kd.int .u8).C w A xs.length (bI xs)) (hc : xs.length ≤ c) :
    Calls Tryd.prog 28 #[.slice A xs.length c] w fun e w' => e = .returned (.string (S (wayL 2 xs ++ [endL 2]))) ∧ Below w.heap.size w w' := by
  have h := hexed_from xs hx xs [] [60] rfl (by simp only [List.length_cons, List.length_nil]; omega)
  have := PS2.mezzotintlaw04_hexed.calls (xs.length + 1) A c (bI xs) _ w (by rw [bI_len]; exact hr) (by rw [bI_len]; exact hc) h
  rw [bI_len] at this
  exact this

end Go.Proofs.YtiocgpfnbmlfaaaDoor.SC

/-! ## SV -/
namespace Go.Proofs.YtiocgpfnbmlfaaaDoor.SC
open Go Go.RowKit Go.ChangeShapes Go.Proofs.YtiocgpfnbmlfaaaDoor Go.Proofs.YtiocgpfnbmlfaaaDoor.PS1 Go.Proofs.YtiocgpfnbmlfaaaDoor.QD Go.Proofs.YtiocgpfnbmlfaaaDoorW.PrintWords Go.Proofs.YtiocgpfnbmlfaaaDoorW.PrintLast

def wayS (xs : List UInt8) (k : Nat) : ByteArray := S (wayL k xs ++ [endL k])
theorem wayS_size (xs : List UInt8) (k : Nat) : (wayS xs k).size = (wayL k xs).length + 1 := by unfold wayS; rw [S_size, List.length_append]; rfl
theorem row_head {W : World} {A : Option Addr} {x y : List UInt8} (h : (Kd.int .u8).C W A (x ++ y).length (bI (x ++ y))) : (Kd.int .u8).C W A x.length (bI x) := by
  obtain ⟨_, hb, h2⟩ := Kd.reads_of_C (d := (0 : Int)) h
  have hl : (x ++ y).length = x.length + y.length := List.length_append
  refine Kd.C_of_reads (enc := Value.int .u8) (d := (0 : Int)) (h1 := fun _ => rfl) ⟨bI_len x, by omega, fun hp => ?_⟩
  obtain ⟨ad, e, hc⟩ := h2 (by omega)
  refine ⟨ad, e, fun j hj => ?_⟩
  rw [hc j (by omega)]
  simp [bI, List.getD, List.getElem?_append_left, hj]

theorem way_next (k : Nat) (xs ys : List UInt8) (A : Option Addr) (c : Nat) (w : World) (hx : xs.length ≤ 10000) (hy : ys.length ≤ 1000) (h : (Kd.int .u8).C w A ys.length (bI ys)) :
    ∃ (W1 W2 : World) (cap1 cap g n : Nat),
      (convert 9 32 (.string (wayS xs k))).run Tryd.prog w = .ok (.slice (some ⟨w.heap.size, 0, none⟩) (wayS xs k).size cap1) W1 ∧
      (Builtin.append_ #[32, 32] 32 #[.slice (some ⟨w.heap.size, 0, none⟩) (wayS xs k).size cap1, .slice A ys.length c]).run Tryd.prog W1 = .ok (.slice (some ⟨g, 0, none⟩) n cap) W2 ∧
      Below w.heap.size w W2 ∧ n ≤ cap ∧ (wayL k xs).length + 1 ≤ n ∧ n ≤ 100000 ∧
      Calls Tryd.prog 24 #[.slice (some ⟨g, 0, none⟩) n cap, .int .i64 0] W2 (NextTQ 6 0 xs (((wayL k xs).length + 1 : Nat) : Int) 0 W2) ∧
      (∀ W, Below W2.heap.size W2 W → Calls Tryd.prog 24 #[.slice (some ⟨g, 0, none⟩) (wayL k xs).length cap, .int .i64 0] W (NextTQ 0 0 [] 0 14 W)) := by
  have hwl := wayL_len k xs
  have hsl : (wayL k xs ++ [endL k]).length = (wayL k xs).length + 1 := List.length_append
  obtain ⟨W1, W2, cap1, cap, g, hcv, hb1, happ, hb2, hcap, hrow⟩ := conv_append (wayL k xs ++ [endL k]) ys A c (by omega) w h
  have hl : ((wayL k xs ++ [endL k]) ++ ys).length = (wayL k xs).length + 1 + ys.length := by rw [List.length_append, hsl]
  refine ⟨W1, W2, cap1, cap, g, _, hcv, happ, hb2, hcap, by omega, by omega, ?_, fun W hb => ?_⟩
  · have := nextP_any (some ⟨g, 0, none⟩) cap _ 0 W2 hrow hcap (by omega)
    rw [way_read k xs ys (by omega)] at this
    exact this
  · have hr := Kd.C_below (row_head (x := wayL k xs) (y := [endL k] ++ ys) (by rw [← List.append_assoc]; exact hrow)) hb
    have := nextP_any (some ⟨g, 0, none⟩) cap (wayL k xs) 0 W hr (by omega) (by omega)
    rw [way_open k xs] at this
    exact this

end Go.Proofs.YtiocgpfnbmlfaaaDoor.SC

/-! ## RA -/
namespace Go.Proofs.YtiocgpfnbmlfaaaDoor.SC
open Go Go.RowKit Go.ChangeShapes Go.Proofs.YtiocgpfnbmlfaaaDoor Go.Proofs.YtiocgpfnbmlfaaaDoor.PS1 Go.Proofs.YtiocgpfnbmlfaaaDoor.QD Go.Proofs.YtiocgpfnbmlfaaaDoorW.PrintWords Go.Proofs.YtiocgpfnbmlfaaaDoorW.PrintLast

theorem row_arg {w : World} {a : Option Addr} {len cap : Nat} {zs : List Int} {m : Nat}
    (h : (a = none ∧ len = 0 ∧ cap = 0 ∧ zs = []) ∨ ∃ x, a = some x ∧ len ≤ cap ∧ cap ≤ maxLen ∧ zs.length = cap ∧ (∀ i, i < zs.length → w.cell? (x.add i) = some (.int .u8 (zs.getD i 0))) ∧ ∀ n ∈ zs, (Lit.int .u8 n).wf = true) (hl : len * 1 ≤ m) :
    ∃ xs : List UInt8, len = xs.length ∧ (Kd.int .u8).C w a xs.length (bI xs) ∧ xs.length ≤ cap ∧ xs.length ≤ m := by
  obtain ⟨l0, rfl, hr0, hm0, hw0, hc0⟩ := ReadsInt.ofRowC h
  have hB : isB l0 := by
    intro x hx
    have h := hw0 x hx
    simp [Lit.wf, IntKind.min, IntKind.max, IntKind.signed, IntKind.bits] at h
    omega
  have hC := Kd.C_of_reads (d := (0 : Int)) (h1 := fun _ => rfl) hr0
  refine ⟨unI l0, (unI_len l0).symm, ?_, by rw [unI_len]; exact hc0, by rw [unI_len]; omega⟩
  rw [unI_len, bI_un l0 hB]
  exact hC

end Go.Proofs.YtiocgpfnbmlfaaaDoor.SC

/-! ## SW -/
namespace Go.Proofs.YtiocgpfnbmlfaaaDoor.SC
open Go Go.RowKit Go.ChangeShapes Go.Proofs.YtiocgpfnbmlfaaaDoor Go.Proofs.YtiocgpfnbmlfaaaDoor.PS1 Go.Proofs.YtiocgpfnbmlfaaaDoor.QD Go.Proofs.YtiocgpfnbmlfaaaDoorW.PrintWords Go.Proofs.YtiocgpfnbmlfaaaDoorW.PrintLast

def waysV (xs : List UInt8) : Array Value := #[.string (wayS xs 0), .string (wayS xs 1), .string (wayS xs 2)]
theorem ways_at (xs : List UInt8) (k : Nat) (h : k < 3) : (waysV xs)[k]? = some (.string (wayS xs k)) := by
  match k, h with
  | 0, _ => rfl
  | 1, _ => rfl
  | 2, _ => rfl
  | n + 3, h => omega
theorem block_small {W : World} {g : Nat} {o : Obj} (h : W.heap[g]? = some o) : g < W.heap.size := by
  rcases Nat.lt_or_ge g W.heap.size with h' | h'
  · exact h'
  · rw [Array.getElem?_eq_none h'] at h; cases h

set_option maxHeartbeats 4000000 in
set_option maxRecDepth 100000 in
theorem strings_walk (A0 A1 : Option Addr) (c0 c1 : Nat) (xs ys : List UInt8) (w : World) (h0 : (Kd.int .u8).C w A0 xs.length (bI xs)) (h1 : (Kd.int .u8).C w A1 ys.length (bI ys)) (hc0 : xs.length ≤ c0) (hc1 : ys.length ≤ c1) :
    Calls Tryd.prog 10 #[.slice A0 xs.length c0, .slice A1 ys.length c1] w fun e w' => e = .returned (.bool true) ∧ Below w.heap.size w w' := by
  have HA := Lib.hid answers_any
  have H0 := Lib.hid h0
  have H1 := Lib.hid h1
  have HC := Lib.hid (And.intro hc0 hc1)
  clear h0 h1 hc0 hc1
  go_enter Tryd.func10, Tryd.ntmps10
  by_cases hl : 10000 < xs.length
  · have hli : (10000 : Int) < (xs.length : Int) := by omega
    go_wp2_with fail
    refine (HA.out _).mono ?_
    rintro e w1 ⟨rfl, hb⟩
    have HB := Lib.hid hb
    clear hb
    go_wp2_with fail
    refine (HA.out _).mono ?_
    rintro e w2 ⟨rfl, hb⟩
    have HB2 := Lib.hid (HB.out.trans (hb.mono HB.out.size))
    clear hb
    go_wp2_with fail
    go_ret
    exact ⟨rfl, HB2.out⟩
  · have hli : ¬ (10000 : Int) < (xs.length : Int) := by omega
    by_cases hm : 1000 < ys.length
    · have hmi : (1000 : Int) < (ys.length : Int) := by omega
      go_wp2_with fail
      refine (HA.out _).mono ?_
      rintro e w1 ⟨rfl, hb⟩
      have HB := Lib.hid hb
      clear hb
      go_wp2_with fail
      refine (HA.out _).mono ?_
      rintro e w2 ⟨rfl, hb⟩
      have HB2 := Lib.hid (HB.out.trans (hb.mono HB.out.size))
      clear hb
      go_wp2_with fail
      go_ret
      exact ⟨rfl, HB2.out⟩
    · have hmi : ¬ (1000 : Int) < (ys.length : Int) := by omega
      have HL := Lib.hid (And.intro hl hm)
      clear hl hm
      go_wp2_with fail
      refine (HA.out _).mono ?_
      rintro e w1 ⟨rfl, hb⟩
      have HB1 := Lib.hid hb
      clear hb
      go_wp2_with fail
      refine ((escaped_is xs true (by have := HL.out; omega) A0 c0 w1 (Kd.C_below H0.out HB1.out) HC.out.1 : Calls Tryd.prog 27 #[.slice A0 xs.length c0, .bool true] w1 fun e w' => e = .returned (.string (wayS xs 0)) ∧ Below w1.heap.size w1 w')).mono ?_
      rintro e w2 ⟨rfl, hb⟩
      have HB2 := Lib.hid (HB1.out.trans (hb.mono HB1.out.size))
      clear hb
      go_wp2_with fail
      refine ((escaped_is xs false (by have := HL.out; omega) A0 c0 w2 (Kd.C_below H0.out HB2.out) HC.out.1 : Calls Tryd.prog 27 #[.slice A0 xs.length c0, .bool false] w2 fun e w' => e = .returned (.string (wayS xs 1)) ∧ Below w2.heap.size w2 w')).mono ?_
      rintro e w3 ⟨rfl, hb⟩
      have HB3 := Lib.hid (HB2.out.trans (hb.mono HB2.out.size))
      clear hb
      go_wp2_with fail
      refine ((hexed_is xs (by have := HL.out; omega) A0 c0 w3 (Kd.C_below H0.out HB3.out) HC.out.1 : Calls Tryd.prog 28 #[.slice A0 xs.length c0] w3 fun e w' => e = .returned (.string (wayS xs 2)) ∧ Below w3.heap.size w3 w')).mono ?_
      rintro e w4 ⟨rfl, hb⟩
      have HB4 := Lib.hid (HB3.out.trans (hb.mono HB3.out.size))
      have HB5 := Lib.hid (HB4.out.alloc HB4.out.size (.cells (waysV xs) 9))
      have HG := Lib.hid (heap_alloc_new w4 (.cells (waysV xs) 9))
      clear hb
      go_wp2_with fail
      go_loopg [6] 3 (fun gk v6 wx => ∃ k : Nat, k + gk = 3 ∧ v6 = .int .i64 (k : Int) ∧ Hid (Below w.heap.size w wx) ∧ Hid (wx.heap[w4.heap.size]? = some (.cells (waysV xs) 9 (0, 0))))
      case atStart => exact ⟨0, by omega, rfl, HB5, HG⟩
      case round =>
        clear HB1 HB2 HB3 HB4 HB5 HG
        obtain ⟨k, hk, rfl, HB, HG⟩ := hrel
        have HK := Lib.hid hk
        clear hk
        by_cases hlt : k < 3
        · have hki : (k : Int) < 3 := by omega
          have hk0 : (0 : Int) ≤ (k : Int) := by omega
          have cw : wr.cell? ⟨w4.heap.size, k, none⟩ = some (.string (wayS xs k)) := by rw [Lib.cell_of_heap HG.out]; exact ways_at xs k hlt
          obtain ⟨W1, W2, cap1, cap, g, n, hcv, happ, hb2, hn1, hn2, hn3, hN, hM⟩ := way_next k xs ys A1 c1 wr (by have := HL.out; omega) (by have := HL.out; omega) (Kd.C_below H1.out HB.out)
          have HB2 := Lib.hid (HB.out.trans (hb2.mono HB.out.size))
          have HG2 := Lib.hid ((hb2.block w4.heap.size (block_small HG.out)).trans HG.out)
          have HN := Lib.hid hN
          have HM := Lib.hid hM
          have HLT := Lib.hid hlt
          clear hb2 hN hM hlt
          go_wp2_with (at_builtin; refine wpList_append_run rfl _ _ _ rfl happ rfl rfl ?_)
          refine HN.out.mono ?_
          rintro e w5 ⟨rfl, hb⟩
          have hB3a := HB2.out.trans (hb.mono HB2.out.size)
          have HB3 := Lib.hid (hB3a.alloc hB3a.size (.cells #[.int .i64 6, .int .i64 0, .string (S xs)] 27))
          have HBW := Lib.hid (hb.alloc hb.size (.cells #[.int .i64 6, .int .i64 0, .string (S xs)] 27))
          have HG3 := Lib.hid ((HBW.out.block w4.heap.size (block_small HG2.out)).trans HG2.out)
          have HT := Lib.hid (heap_alloc_new w5 (.cells #[.int .i64 6, .int .i64 0, .string (S xs)] 27))
          clear hb hB3a hcv happ cw
          go_upto_region 9 with fail
          generalize w5.alloc (.cells #[.int .i64 6, .int .i64 0, .string (S xs)] 27) = W5 at *
          generalize w5.heap.size = g5 at *
          have cw : W5.cell? ⟨w4.heap.size, k, none⟩ = some (.string (wayS xs k)) := by rw [Lib.cell_of_heap HG3.out]; exact ways_at xs k HLT.out
          have ct0 : W5.cell? ⟨g5, 0, none⟩ = some (.int .i64 6) := Lib.cell_of_heap HT.out 0
          have ct2 : W5.cell? ⟨g5, 2, none⟩ = some (.string (S xs)) := Lib.cell_of_heap HT.out 2
          have hcs : (convert 32 9 (.slice A0 xs.length c0)).run Tryd.prog W5 = .ok (.string (S xs)) W5 := by
            rw [← bI_str]
            exact Kd.C_string Tryd.underlying32 Tryd.underlying5 Tryd.underlying9 (Kd.C_below H0.out HB3.out)
          have hsz := wayS_size xs k
          go_upto_region 11 with fail
          have hM := HM.out W5 HBW.out
          generalize (wayL k xs).length = m at *
          have hq0 : (0 : Int) ≤ (m : Int) := by omega
          have hq1 : (m : Int) ≤ (cap : Int) := by omega
          have hq2 : (m : Int) ≤ 100000 := by omega
          have HM2 := Lib.hid hM
          clear hM HM
          go_wp2_with fail
          refine HM2.out.mono ?_
          rintro e w6 ⟨rfl, hb⟩
          have hB4a := HB3.out.trans (hb.mono HB3.out.size)
          have HB4 := Lib.hid (hB4a.alloc hB4a.size (.cells #[.int .i64 0, .int .i64 0, .string (S [])] 27))
          have HG4 := Lib.hid ((((Below.refl w6.heap.size w6).alloc (Nat.le_refl _) (.cells #[.int .i64 0, .int .i64 0, .string (S [])] 27)).block w4.heap.size (block_small ((hb.block w4.heap.size (block_small HG3.out)).trans HG3.out))).trans ((hb.block w4.heap.size (block_small HG3.out)).trans HG3.out))
          clear hb hB4a hcs cw ct0 ct2
          go_wp2_with fail
          go_roundg (3 - k - 1)
          case measure => have := HK.out; have := HLT.out; omega
          case rel => exact ⟨k + 1, by have := HK.out; have := HLT.out; omega, by push_cast; rfl, HB4, HG4⟩
        · obtain rfl : k = 3 := by have := HK.out; omega
          go_wp2_with fail
          go_ret
          exact ⟨rfl, HB.out⟩

end Go.Proofs.YtiocgpfnbmlfaaaDoor.SC

/-! ## SX -/
namespace Go.Proofs.YtiocgpfnbmlfaaaDoor.SC
open Go Go.RowKit Go.ChangeShapes Go.Proofs.YtiocgpfnbmlfaaaDoor Go.Proofs.YtiocgpfnbmlfaaaDoor.PS1 Go.Proofs.YtiocgpfnbmlfaaaDoor.QD Go.Proofs.YtiocgpfnbmlfaaaDoorW.PrintWords Go.Proofs.YtiocgpfnbmlfaaaDoorW.PrintLast

theorem strings_all (a0 : Option Addr) (len0 cap0 : Nat) (z0 : List Int) (a1 : Option Addr) (len1 cap1 : Nat) (z1 : List Int) (w : World)
    (w0 : (a0 = none ∧ len0 = 0 ∧ cap0 = 0 ∧ z0 = []) ∨ ∃ x, a0 = some x ∧ len0 ≤ cap0 ∧ cap0 ≤ maxLen ∧ z0.length = cap0 ∧ (∀ i, i < z0.length → w.cell? (x.add i) = some (.int .u8 (z0.getD i 0))) ∧ ∀ n ∈ z0, (Lit.int .u8 n).wf = true) (y0 : len0 * 1 ≤ 140737488351232)
    (w1 : (a1 = none ∧ len1 = 0 ∧ cap1 = 0 ∧ z1 = []) ∨ ∃ x, a1 = some x ∧ len1 ≤ cap1 ∧ cap1 ≤ maxLen ∧ z1.length = cap1 ∧ (∀ i, i < z1.length → w.cell? (x.add i) = some (.int .u8 (z1.getD i 0))) ∧ ∀ n ∈ z1, (Lit.int .u8 n).wf = true) (y1 : len1 * 1 ≤ 140737488351232) :
    Calls Tryd.prog 10 #[.slice a0 len0 cap0, .slice a1 len1 cap1] w fun e w' => e = .returned (.bool true) ∧ Below w.heap.size w w' := by
  obtain ⟨xs, rfl, hr0, hc0, hx⟩ := row_arg w0 y0
  obtain ⟨ys, rfl, hr1, hc1, hy⟩ := row_arg w1 y1
  exact strings_walk a0 a1 cap0 cap1 xs ys w hr0 hr1 hc0 hc1

end Go.Proofs.YtiocgpfnbmlfaaaDoor.SC
