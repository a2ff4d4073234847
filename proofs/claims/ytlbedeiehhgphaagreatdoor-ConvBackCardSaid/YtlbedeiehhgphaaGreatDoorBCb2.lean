/- A new store's first string. The store's strings: Write. The store's strings: lay, a text at the beginning of a string. conv: which operators there are; what is handed over; are the operands valid. strings.IndexAny(s, "eE") at every s of bounded size: the contract in the printed form. dec.whole. dec.digit and dec.radix. dec.radix, dec.whole, dec.power in the printed form. dec.shift: its walk. What dec.Token answers, in plain words. dec.Token: its walks, one for each way through it. -/
import Derived.Test.YtlbedeiehhgphaaGreatDoorBCb1
import Derived.Deep.RegionLaw
import Derived.Laws.MakeOwn
import Derived.Laws.Append
import Derived.Laws.CopyRow
import Derived.Test.YtlbedeiehhgphaaGreatDoorBCb0
import Derived.Laws.RangeAny
import Derived.Lib.DecodeN
import Derived.Laws.Runes
import Derived.WalkMore
import Derived.Shelf.Strings.IndexAnyAll
import Derived.Test.YtlbedeiehhgphaaGreatDoorWMore
import Derived.RowKit3
import Derived.Deep.RegionWith

/-! ## CD -/
namespace Go.Proofs.YtlbedeiehhgphaaGreatDoor.CV
open Go Go.RowKit Go.ChangeShapes Go.Proofs Go.Proofs.YtlbedeiehhgphaaGreatDoor Go.Proofs.YtlbedeiehhgphaaGreatDoor.QD Go.Proofs.YtlbedeiehhgphaaGreatDoorW.PrintWords Go.Proofs.YtlbedeiehhgphaaGreatDoorW.PrintLast

/-- below b, but for block g, all is as it was -/
structure Kb (g b : Nat) (w w' : World) : Prop where
  os : w'.os = w.os
  tape : w'.tape = w.tape
  output : w'.output = w.output
  size : w.heap.size ≤ w'.heap.size
  block : ∀ k, k < b → k ≠ g → w'.heap[k]? = w.heap[k]?
theorem Kb.refl (g b : Nat) (w : World) : Kb g b w w := ⟨rfl, rfl, rfl, Nat.le_refl _, fun _ _ _ => rfl⟩
theorem Kb.trans {g b : Nat} {w1 w2 w3 : World} (h : Kb g b w1 w2) (k : Kb g b w2 w3) : Kb g b w1 w3 :=
  ⟨k.os.trans h.os, k.tape.trans h.tape, k.output.trans h.output, Nat.le_trans h.size k.size, fun i hi hg => (k.block i hi hg).trans (h.block i hi hg)⟩
theorem Kb.mono {g b b' : Nat} {w w' : World} (h : Kb g b w w') (hb : b' ≤ b) : Kb g b' w w' := ⟨h.os, h.tape, h.output, h.size, fun i hi hg => h.block i (by omega) hg⟩
theorem Kb.of_below {g b : Nat} {w w' : World} (h : Below b w w') : Kb g b w w' := ⟨h.os, h.tape, h.output, h.size, fun i hi _ => h.block i hi⟩
theorem Kb.below {g b B : Nat} {w w' : World} (h : Kb g b w w') (hg : B ≤ g) (hB : B ≤ b) : Below B w w' := ⟨h.os, h.tape, h.output, h.size, fun i hi => h.block i (by omega) (by omega)⟩
theorem Kb.set (g b : Nat) (w : World) (o : Nat) (u : Value) : Kb g b w (w.setCell ⟨g, o, none⟩ u) :=
  ⟨rfl, rfl, rfl, by simp [World.setCell], fun i _ hg => Below.heap_setCell w ⟨g, o, none⟩ u i hg⟩
/-- a step behind another, told of its own first world -/
theorem Kb.then_ {g b : Nat} {w1 w2 w3 : World} (h : Kb g b w1 w2) (hb : b ≤ w2.heap.size) (k : Kb g w2.heap.size w2 w3) : Kb g b w1 w3 := h.trans (k.mono hb)
theorem Kb.belows {g b b' : Nat} {w1 w2 w3 : World} (h : Kb g b w1 w2) (k : Below b' w2 w3) (hb : b ≤ b') : Kb g b w1 w3 := h.trans (Kb.of_below (k.mono hb))
theorem infoRow : (Tryz.prog.info? 35).map (fun i => (i.zero, i.size, i.bytes)) = some (some (.slice none 0 0), 1, 24) := by kernel_rfl
theorem infoU8 : (Tryz.prog.info? 5).map (fun i => (i.zero, i.size, i.bytes)) = some (some (.int .u8 0), 1, 1) := by kernel_rfl

/-- a list of rows has its first -/
theorem append_first (w : World) (a : Addr) (v : Value) (hv : w.cell? a = some v) :
    (Builtin.append_ #[59, 59] 59 #[.slice none 0 0, .slice (some a) 1 1]).run Tryz.prog w =
      .ok (.slice (some ⟨w.heap.size, 0, none⟩) 1 (grownCap w 1 0 35)) (w.drew.alloc (.cells (#[v] ++ Builtin.zeroCells #[.slice none 0 0] (grownCap w 1 0 35 - 1)) 35)) := by
  obtain ⟨i, hi, hz0, hz1, hz2⟩ := info_parts infoRow
  have ht := Tryz.underlying59
  have h48' : ¬ (281474976710656 < Builtin.nextslicecap 1 0 * i.bytes) := by rw [hz2]; decide
  have hf := run_firstCells_some (P := Tryz.prog) w.drew i.size 1 a 1 1 [v] (by rw [hz1]; rfl) (fun j u h => by
    match j, h with
    | 0, h =>
      have e : a.add 0 = a := by
        unfold Addr.add
        cases a with
        | mk b o f => cases f <;> simp
      simp only [List.getElem?_cons_zero, Option.some.injEq] at h
      subst h
      rw [e]
      simpa using hv
    | j + 1, h => simp at h)
  have hf0 := run_firstCells_none (P := Tryz.prog) w.drew i.size 0 0 0
  simp [Builtin.append_, run_underlying ht, sizeOf, typeInfo, zeroValue, hi, hz0, Builtin.lenOf, h48', Question.forced, hf, hf0, newRow, grownCap]
  rfl

theorem step_append_run {P : Program} {ops : Array Oper} {o : Oper} {a : Act} {w : World} {K : Act → World → Prop} {Q : Exit → Act → World → Prop} {E : Prop}
    (hg : o.guard = none) (s x : Operand) (t : TypeId) (hop : o.op = Op.call { callee := Callee.builtin Builtin.append, args := #[s, x], argTypes := #[t, t] }) {v u v' : Value} {w' : World}
    (hs : a.eval s = v) (hx : a.eval x = u) (hr : (Builtin.append_ #[t, t] o.type #[v, u]).run P w = .ok v' w') (hK : K (a.put o.dst v') w') :
    if Region.wanted o (yielded ops a.tmps) = true then Oper.wp P o a w K Q else E := by
  have hw : Region.wanted o (yielded ops a.tmps) = true := by simp [Region.wanted, hg]
  rw [if_pos hw]
  unfold Oper.wp
  simp [execOp, hop, resolve, invoke, builtin, hs, hx, hr, Result.andThen]
  exact hK

theorem set8_far {g b : Nat} {w : World} (h : b ≠ g) (v0 v1 v2 v3 v4 v5 v6 v7 : Value) :
    ((((((((w.setCell ⟨g, 0, none⟩ v0).setCell ⟨g, 1, none⟩ v1).setCell ⟨g, 2, none⟩ v2).setCell ⟨g, 3, none⟩ v3).setCell ⟨g, 4, none⟩ v4).setCell ⟨g, 5, none⟩ v5).setCell ⟨g, 6, none⟩ v6).setCell ⟨g, 7, none⟩ v7).heap[b]? = w.heap[b]? := by
  rw [blk_far h, blk_far h, blk_far h, blk_far h, blk_far h, blk_far h, blk_far h, blk_far h]
/-- the world behind the statement that lays a first string -/
theorem first_world (W : World) (sp n c : Nat) (Z X : Array Value) (fr : Int) (hS : W.heap[sp]? = some (.cells #[.int .i64 fr, .slice none 0 0, .slice none 0 0, .slice none 0 0, .slice none 0 0, .slice none 0 0] 65 (0, 0))) (hl : sp < W.heap.size) :
    StB ((((W.setCell ⟨sp, 1, none⟩ (.slice (some ⟨W.heap.size + 1 + 1, 0, none⟩) 1 c)).alloc (.cells Z 5)).alloc (.cells #[.slice (some ⟨W.heap.size, 0, none⟩) n n] 35)).alloc (.cells (#[.slice (some ⟨W.heap.size, 0, none⟩) n n] ++ X) 35)).drew.drew sp fr (W.heap.size + 1 + 1) 1 c ∧
    ((((W.setCell ⟨sp, 1, none⟩ (.slice (some ⟨W.heap.size + 1 + 1, 0, none⟩) 1 c)).alloc (.cells Z 5)).alloc (.cells #[.slice (some ⟨W.heap.size, 0, none⟩) n n] 35)).alloc (.cells (#[.slice (some ⟨W.heap.size, 0, none⟩) n n] ++ X) 35)).drew.drew.heap[W.heap.size + 1 + 1]? = some (.cells (#[.slice (some ⟨W.heap.size, 0, none⟩) n n] ++ X) 35 (0, 0)) ∧
    ((((W.setCell ⟨sp, 1, none⟩ (.slice (some ⟨W.heap.size + 1 + 1, 0, none⟩) 1 c)).alloc (.cells Z 5)).alloc (.cells #[.slice (some ⟨W.heap.size, 0, none⟩) n n] 35)).alloc (.cells (#[.slice (some ⟨W.heap.size, 0, none⟩) n n] ++ X) 35)).drew.drew.heap[W.heap.size]? = some (.cells Z 5 (0, 0)) ∧
    Kb sp W.heap.size W ((((W.setCell ⟨sp, 1, none⟩ (.slice (some ⟨W.heap.size + 1 + 1, 0, none⟩) 1 c)).alloc (.cells Z 5)).alloc (.cells #[.slice (some ⟨W.heap.size, 0, none⟩) n n] 35)).alloc (.cells (#[.slice (some ⟨W.heap.size, 0, none⟩) n n] ++ X) 35)).drew.drew := by
  have h1 := set_heap hS 1 (.slice (some ⟨W.heap.size + 1 + 1, 0, none⟩) 1 c)
  simp only [List.setIfInBounds_toArray, List.set_cons_zero, List.set_cons_succ] at h1
  have k1 := Kb.set sp W.heap.size W 1 (.slice (some ⟨W.heap.size + 1 + 1, 0, none⟩) 1 c)
  have hs : (W.setCell ⟨sp, 1, none⟩ (.slice (some ⟨W.heap.size + 1 + 1, 0, none⟩) 1 c)).heap.size = W.heap.size := by simp [World.setCell]
  generalize W.setCell ⟨sp, 1, none⟩ (.slice (some ⟨W.heap.size + 1 + 1, 0, none⟩) 1 c) = W1 at *
  have b1 := obj_box W1 (.cells Z 5)
  have b2 := b1.alloc b1.size (.cells #[.slice (some ⟨W.heap.size, 0, none⟩) n n] 35)
  have b3 := (b2.alloc b2.size (.cells (#[.slice (some ⟨W.heap.size, 0, none⟩) n n] ++ X) 35)).drew.drew
  refine ⟨(b3.block sp (by omega)).trans h1, ?_, ?_, k1.belows b3 (by omega)⟩
  · have h := heap_alloc_new ((W1.alloc (.cells Z 5)).alloc (.cells #[.slice (some ⟨W.heap.size, 0, none⟩) n n] 35)) (.cells (#[.slice (some ⟨W.heap.size, 0, none⟩) n n] ++ X) 35)
    have hs2 : ((W1.alloc (.cells Z 5)).alloc (.cells #[.slice (some ⟨W.heap.size, 0, none⟩) n n] 35)).heap.size = W.heap.size + 1 + 1 := by simp [hs]
    rw [hs2] at h
    exact h
  · have h := heap_alloc_new W1 (.cells Z 5)
    have c2 := obj_box (W1.alloc (.cells Z 5)) (.cells #[.slice (some ⟨W.heap.size, 0, none⟩) n n] 35)
    have c3 := (c2.alloc c2.size (.cells (#[.slice (some ⟨W.heap.size, 0, none⟩) n n] ++ X) 35)).drew.drew
    rw [hs] at h
    exact (c3.block W.heap.size (by simp [hs])).trans h

set_option maxHeartbeats 4000000 in
set_option maxRecDepth 100000 in
theorem string_first (sp n : Nat) (fr : Int) (w : World) (hS : w.heap[sp]? = some (.cells #[.int .i64 fr, .slice none 0 0, .slice none 0 0, .slice none 0 0, .slice none 0 0, .slice none 0 0] 65 (0, 0))) (hn : n ≤ 1000) (hfr : 200 ≤ fr) (hfr2 : fr ≤ 1048576) :
    Calls Tryz.prog 7 #[.pointer (some ⟨sp, 0, none⟩), .int .i64 (n : Int)] w fun e w' => ∃ (tb bb cap : Nat) (X : Array Value), e = .returned (.tuple #[.agg #[.int .i64 6, .bool false, .int .i64 0, .int .i64 0, .string ⟨#[]⟩, .int .i64 0, .int .i64 0, .int .i64 (n : Int)], .int .i64 0]) ∧
      StB w' sp (fr - (1 + ((n : Int) + 7) / 8)) tb 1 cap ∧ w'.heap[tb]? = some (.cells (#[.slice (some ⟨bb, 0, none⟩) n n] ++ X) 35 (0, 0)) ∧ w'.heap[bb]? = some (.cells (madeCells (Value.int .u8 0).cells (n * 1)) 5 (0, 0)) ∧ Kb sp w.heap.size w w' ∧ w.heap.size ≤ tb ∧ w.heap.size ≤ bb ∧ tb ≠ bb := by
  have g0 : (0 : Int) ≤ (n : Int) := by omega
  have g1 : (n : Int) ≤ 65535 := by omega
  have gm : max (n : Int) 0 = (n : Int) := by omega
  have hq : Int.tdiv ((n : Int) + 7) 8 = (((n + 7) / 8 : Nat) : Int) := by rw [Int.tdiv_eq_ediv_of_nonneg (by omega)]; omega
  have hb0 := obj_box w (.cells #[.int .i64 0, .bool false, .int .i64 0, .int .i64 0, .string ⟨#[]⟩, .int .i64 0, .int .i64 0, .int .i64 0] 27)
  have hlt : sp < w.heap.size := by
    rcases Nat.lt_or_ge sp w.heap.size with h' | h'
    · exact h'
    · rw [Array.getElem?_eq_none h'] at hS; cases hS
  have hS1 := (hb0.block sp hlt).trans hS
  have w1 : wrap64 ((n : Int) + 7) = (n : Int) + 7 := w64 _ (by omega) (by omega)
  have w2 : wrap64 (1 + (((n + 7) / 8 : Nat) : Int)) = 1 + (((n + 7) / 8 : Nat) : Int) := w64 _ (by omega) (by omega)
  have HT := Lib.hid (take_ok sp fr 65535 (1 + (((n + 7) / 8 : Nat) : Int)) (n : Int) _ _ _ _ _ _ hS1 g0 (by omega) (by omega) (w64 _ (by omega) (by omega)))
  go_enter Tryz.func7, Tryz.ntmps7
  go_wp2_with fail
  refine HT.out.mono ?_
  rintro e w1 ⟨rfl, rfl⟩
  have hmk0 : ∀ w : World, (Instr.makeSlice 35 (.int .i64 (n : Int)) (.int .i64 (n : Int))).run Tryz.prog w = .ok (.slice (some ⟨w.heap.size, 0, none⟩) n n) (w.alloc (.cells (madeCells (Value.int .u8 0).cells (n * 1)) 5)) := by
    intro w
    obtain ⟨i0, hi, hz0, hz1, hz2⟩ := info_parts infoU8
    have := run_makeSlice (P := Tryz.prog) w 35 5 i0 (.int .u8 0) Tryz.underlying35 hi hz0 .i64 .i64 (n : Int) (n : Int) g0 (Int.le_refl _) (by rw [hz1]; omega) (by rw [hz2]; omega) (by omega)
    rw [Int.toNat_natCast, hz1] at this
    exact this
  generalize hZ : madeCells (Value.int .u8 0).cells (n * 1) = Z at *
  have HZ := Lib.hid hZ.symm
  clear hZ
  go_upto_region 4 with fail
  have hS2 : (w.setCell ⟨sp, 0, none⟩ (.int .i64 (fr - (1 + ((n : Int) + 7) / 8)))).heap[sp]? = some (.cells #[.int .i64 (fr - (1 + ((n : Int) + 7) / 8)), .slice none 0 0, .slice none 0 0, .slice none 0 0, .slice none 0 0, .slice none 0 0] 65 (0, 0)) := by
    have e := set_heap hS 0 (.int .i64 (fr - (1 + ((n : Int) + 7) / 8)))
    simp only [List.setIfInBounds_toArray, List.set_cons_zero] at e
    exact e
  have hS3 := ((obj_box (w.setCell ⟨sp, 0, none⟩ (.int .i64 (fr - (1 + ((n : Int) + 7) / 8)))) (.cells #[.int .i64 0, .bool false, .int .i64 0, .int .i64 0, .string ⟨#[]⟩, .int .i64 0, .int .i64 0, .int .i64 0] 27)).block sp (by simpa using hlt)).trans hS2
  have hO : ((w.setCell ⟨sp, 0, none⟩ (.int .i64 (fr - (1 + ((n : Int) + 7) / 8)))).alloc (.cells #[.int .i64 0, .bool false, .int .i64 0, .int .i64 0, .string ⟨#[]⟩, .int .i64 0, .int .i64 0, .int .i64 0] 27)).heap[w.heap.size]? = some (.cells #[.int .i64 0, .bool false, .int .i64 0, .int .i64 0, .string ⟨#[]⟩, .int .i64 0, .int .i64 0, .int .i64 0] 27 (0, 0)) := by
    have h := heap_alloc_new (w.setCell ⟨sp, 0, none⟩ (.int .i64 (fr - (1 + ((n : Int) + 7) / 8)))) (.cells #[.int .i64 0, .bool false, .int .i64 0, .int .i64 0, .string ⟨#[]⟩, .int .i64 0, .int .i64 0, .int .i64 0] 27)
    have hs : (w.setCell ⟨sp, 0, none⟩ (.int .i64 (fr - (1 + ((n : Int) + 7) / 8)))).heap.size = w.heap.size := by simp [World.setCell]
    rw [hs] at h
    exact h
  have hKW : Kb sp w.heap.size w ((w.setCell ⟨sp, 0, none⟩ (.int .i64 (fr - (1 + ((n : Int) + 7) / 8)))).alloc (.cells #[.int .i64 0, .bool false, .int .i64 0, .int .i64 0, .string ⟨#[]⟩, .int .i64 0, .int .i64 0, .int .i64 0] 27)) :=
    (Kb.set sp w.heap.size w 0 (.int .i64 (fr - (1 + ((n : Int) + 7) / 8)))).belows (obj_box _ _) (by simp [World.setCell])
  have hWs : ((w.setCell ⟨sp, 0, none⟩ (.int .i64 (fr - (1 + ((n : Int) + 7) / 8)))).alloc (.cells #[.int .i64 0, .bool false, .int .i64 0, .int .i64 0, .string ⟨#[]⟩, .int .i64 0, .int .i64 0, .int .i64 0] 27)).heap.size = w.heap.size + 1 := by simp [World.setCell]
  generalize (w.setCell ⟨sp, 0, none⟩ (.int .i64 (fr - (1 + ((n : Int) + 7) / 8)))).alloc (.cells #[.int .i64 0, .bool false, .int .i64 0, .int .i64 0, .string ⟨#[]⟩, .int .i64 0, .int .i64 0, .int .i64 0] 27) = W at *
  have HWs := Lib.hid hWs
  clear hWs
  have cS : W.cell? ⟨sp, 1, none⟩ = some (.slice none 0 0) := Lib.cell_of_heap hS3 1
  have fS := Lib.frozen_of_heap hS3 1
  have l0 : sp < W.heap.size := by
    rcases Nat.lt_or_ge sp W.heap.size with h' | h'
    · exact h'
    · rw [Array.getElem?_eq_none h'] at hS3; cases hS3
  have l1 : sp < W.heap.size + 1 := by omega
  have l2 : sp < W.heap.size + 1 + 1 := by omega
  have n0 : ¬ sp = W.heap.size := by omega
  have n1 : ¬ sp = W.heap.size + 1 := by omega
  have n2 : ¬ sp = W.heap.size + 1 + 1 := by omega
  clear hS hS1 hS2 HT
  have hcell : ((W.drew.alloc (.cells Z 5)).alloc (.cells #[.slice (some ⟨W.heap.size, 0, none⟩) n n] 35)).cell? ⟨W.heap.size + 1, 0, none⟩ = some (.slice (some ⟨W.heap.size, 0, none⟩) n n) := by
    have h := heap_alloc_new (W.drew.alloc (.cells Z 5)) (.cells #[.slice (some ⟨W.heap.size, 0, none⟩) n n] 35)
    have hs : (W.drew.alloc (.cells Z 5)).heap.size = W.heap.size + 1 := by simp
    rw [hs] at h
    exact Lib.cell_of_heap h 0
  go_cut [27] (fun _ wx => ∃ (tb bb cap : Nat) (X : Array Value), StB wx sp (fr - (1 + ((n : Int) + 7) / 8)) tb 1 cap ∧ wx.heap[tb]? = some (.cells (#[.slice (some ⟨bb, 0, none⟩) n n] ++ X) 35 (0, 0)) ∧ wx.heap[bb]? = some (.cells Z 5 (0, 0)) ∧ Kb sp W.heap.size W wx ∧ W.heap.size ≤ tb ∧ W.heap.size ≤ bb ∧ tb ≠ bb)
  case first =>
    go_region_law (refine step_append_run (v := .slice none 0 0) (u := .slice (some ⟨W.heap.size + 1, 0, none⟩) 1 1) rfl (.tmp 23) (.tmp 26) 59 rfl (by simp [Act.eval]) (by simp [Act.eval]) (append_first _ _ _ hcell) ?_)
    all_goals (go_wp2_with fail)
    all_goals go_meet
    all_goals
      obtain ⟨q1, q2, q3, q4⟩ := first_world W sp n _ Z _ _ hS3 l0
      exact ⟨_, _, _, _, q1, q2, q3, q4, by omega, Nat.le_refl _, by omega⟩
  obtain ⟨tb, bb, cap, X, q1, q2, q3, q4, q5, q6, q7⟩ := hcut
  have hWs := HWs.out
  have hO2 := (q4.block w.heap.size (by omega) (by omega)).trans hO
  obtain ⟨⟨b0, b1, b2, b3, b4, b5, b6, b7⟩, p0, p1, p2, p3, p4, p5, p6, p7⟩ := obj_facts hO2
  have cT : wc.cell? ⟨sp, 1, none⟩ = some (.slice (some ⟨tb, 0, none⟩) 1 cap) := Lib.cell_of_heap q1 1
  have HQ := Lib.hid (And.intro q1 (And.intro q2 (And.intro q3 (And.intro q4 (And.intro q5 (And.intro q6 q7))))))
  have HW := Lib.hid (And.intro hWs (And.intro hKW (And.intro hlt hO2)))
  clear q1 q2 q3 q4 q5 q6 q7 hWs hS3 cS fS hcell hO hKW hO2 l0 l1 l2 n0 n1 n2
  go_wp2_with fail
  obtain ⟨q1, q2, q3, q4, q5, q6, q7⟩ := HQ.out
  obtain ⟨hWs, hKW, hlt, hO2⟩ := HW.out
  have hF := obj_set8 hO2 (.int .i64 6) (.bool false) (.int .i64 0) (.int .i64 0) (.string ⟨#[]⟩) (.int .i64 0) (.int .i64 0) (.int .i64 (n : Int))
  have t1 := (set8_far (w := wc) (b := sp) (g := w.heap.size) (by omega) (.int .i64 6) (.bool false) (.int .i64 0) (.int .i64 0) (.string ⟨#[]⟩) (.int .i64 0) (.int .i64 0) (.int .i64 (n : Int))).trans q1
  have t2 := (set8_far (w := wc) (b := tb) (g := w.heap.size) (by omega) (.int .i64 6) (.bool false) (.int .i64 0) (.int .i64 0) (.string ⟨#[]⟩) (.int .i64 0) (.int .i64 0) (.int .i64 (n : Int))).trans q2
  have t3 := (set8_far (w := wc) (b := bb) (g := w.heap.size) (by omega) (.int .i64 6) (.bool false) (.int .i64 0) (.int .i64 0) (.string ⟨#[]⟩) (.int .i64 0) (.int .i64 0) (.int .i64 (n : Int))).trans q3
  have t4 := (hKW.then_ (by omega) q4).belows (set8_below (Below.refl w.heap.size wc) (Nat.le_refl _) (.int .i64 6) (.bool false) (.int .i64 0) (.int .i64 0) (.string ⟨#[]⟩) (.int .i64 0) (.int .i64 0) (.int .i64 (n : Int))) (Nat.le_refl _)
  clear q1 q2 q3 q4 HQ HW hKW hO2
  generalize ((((((((wc.setCell ⟨w.heap.size, 0, none⟩ (.int .i64 6)).setCell ⟨w.heap.size, 1, none⟩ (.bool false)).setCell ⟨w.heap.size, 2, none⟩ (.int .i64 0)).setCell ⟨w.heap.size, 3, none⟩ (.int .i64 0)).setCell ⟨w.heap.size, 4, none⟩ (.string ⟨#[]⟩)).setCell ⟨w.heap.size, 5, none⟩ (.int .i64 0)).setCell ⟨w.heap.size, 6, none⟩ (.int .i64 0)).setCell ⟨w.heap.size, 7, none⟩ (.int .i64 (n : Int))) = W3 at *
  obtain ⟨⟨r0, r1, r2, r3, r4, r5, r6, r7⟩, -⟩ := obj_facts hF
  refine bodyPost_ret (v := .tuple #[.agg #[.int .i64 6, .bool false, .int .i64 0, .int .i64 0, .string ⟨#[]⟩, .int .i64 0, .int .i64 0, .int .i64 (n : Int)], .int .i64 0]) (by simp [results, Tryz.results7, go_sem, r0, r1, r2, r3, r4, r5, r6, r7]) rfl ⟨tb, bb, cap, X, rfl, t1, t2, ?_, t4, by omega, by omega, q7⟩
  rw [t3, HZ.out]

end Go.Proofs.YtlbedeiehhgphaaGreatDoor.CV

/-! ## CE -/
namespace Go.Proofs.YtlbedeiehhgphaaGreatDoor.CV
open Go Go.RowKit Go.ChangeShapes Go.Proofs Go.Proofs.YtlbedeiehhgphaaGreatDoor Go.Proofs.YtlbedeiehhgphaaGreatDoor.QD Go.Proofs.YtlbedeiehhgphaaGreatDoorW.PrintWords Go.Proofs.YtlbedeiehhgphaaGreatDoorW.PrintLast

theorem wpList_copy_eq {P : Program} {w : World} {ops : Array Oper} {rest : List Oper} {o : Oper} {a : Act} {Q : Exit → Act → World → Prop} (hgd : o.guard = none) (d s : Operand) (t t' : TypeId)
    (ho : o.op = .call { callee := .builtin .copy, args := #[d, s], argTypes := #[t, t'] }) {v u v' : Value} {w' : World}
    (hr : (Builtin.copy_ #[t, t'] o.type #[v, u]).run P w = .ok v' w') (hs : a.eval d = v) (hx : a.eval s = u)
    (h : wpList P ops Q rest (a.put o.dst v') w') : wpList P ops Q (o :: rest) a w := by
  refine wpList_plain hgd fun K hK => ?_
  unfold Oper.wp execOp
  simp only [ho, resolve, invoke, builtin, Sem.run_bind, Sem.run_pure, Result.andThen_ok, List.map_toArray, List.map_cons, List.map_nil, hs, hx, hr]
  exact hK _ _ h
theorem blk_lt {W : World} {g : Nat} {o : Obj} (h : W.heap[g]? = some o) : g < W.heap.size := by
  rcases Nat.lt_or_ge g W.heap.size with h' | h'
  · exact h'
  · rw [Array.getElem?_eq_none h'] at h; cases h
theorem row_cells {W : World} {ad : Addr} {ys : List UInt8} (h : (Kd.int .u8).C W (some ad) ys.length (bI ys)) (h0 : 0 < ys.length) : ∀ j v, ((bI ys).map (Value.int .u8))[j]? = some v → W.cell? (ad.add j) = some v := by
  obtain ⟨_, _, h2⟩ := Kd.reads_of_C (d := (0 : Int)) h
  obtain ⟨ad', e, hc⟩ := h2 h0
  obtain rfl : ad = ad' := by injection e
  intro j v hv
  rw [List.getElem?_map] at hv
  have hj : j < (bI ys).length := by
    rcases Nat.lt_or_ge j (bI ys).length with h' | h'
    · exact h'
    · rw [List.getElem?_eq_none h'] at hv; cases hv
  rw [hc j (by rw [bI_len] at hj; exact hj)]
  rw [List.getElem?_eq_getElem hj] at hv
  rw [← Option.some.inj hv]
  simp [List.getD, List.getElem?_eq_getElem hj]

set_option maxHeartbeats 4000000 in
set_option maxRecDepth 100000 in
theorem write_is (sp tb m cap bb n r L c : Nat) (fr : Int) (ad : Addr) (ys : List UInt8) (cur : Array Value) (w : World) (hS : StB w sp fr tb m cap) (hT : w.cell? ⟨tb, r, none⟩ = some (.slice (some ⟨bb, 0, none⟩) n n)) (hr : r < m) (hL : L ≤ n) (hn : n ≤ 100000)
    (hB : w.heap[bb]? = some (.cells cur 5 (0, 0))) (hcur : cur.size = n) (hM : ys.length ≤ L) (hM0 : 0 < ys.length) (hrow : (Kd.int .u8).C w (some ad) ys.length (bI ys)) :
    Calls Tryz.prog 45 #[.pointer (some ⟨sp, 0, none⟩), .agg #[.int .i64 6, .bool false, .int .i64 0, .int .i64 0, .string ⟨#[]⟩, .int .i64 (r : Int), .int .i64 0, .int .i64 (L : Int)], .int .i64 0, .slice (some ad) ys.length c] w fun e w' => e = .returned (.int .i64 0) ∧ w'.heap[bb]? = some (.cells ((bI ys).map (Value.int .u8) ++ cur.toList.drop ys.length).toArray 5 (0, 0)) ∧ Kb bb w.heap.size w w' := by
  have h3 : (0 : Int) ≤ (ys.length : Int) := by omega
  have h4 : (ys.length : Int) ≤ (L : Int) := by omega
  have h7 : (0 : Int) ≤ (L : Int) := by omega
  have h8 : (L : Int) ≤ (n : Int) := by omega
  have h5 : wrap64 (L : Int) = (L : Int) := w64 _ (by omega) (by omega)
  have hb0 := obj_box w (.cells #[.int .i64 6, .bool false, .int .i64 0, .int .i64 0, .string ⟨#[]⟩, .int .i64 (r : Int), .int .i64 0, .int .i64 (L : Int)] 27)
  have HI := Lib.hid (is_str sp tb m cap bb n r L fr _ (hS.below hb0) (cell_below hT hb0) hr hL hn)
  have HB := Lib.hid hb0
  have H0 := Lib.hid (heap_alloc_new w (.cells #[.int .i64 6, .bool false, .int .i64 0, .int .i64 0, .string ⟨#[]⟩, .int .i64 (r : Int), .int .i64 0, .int .i64 (L : Int)] 27))
  have HS := Lib.hid hS
  have HT := Lib.hid hT
  have HBB := Lib.hid hB
  have HR := Lib.hid hrow
  have HL := Lib.hid (And.intro hr (And.intro hL (And.intro hn (And.intro hcur (And.intro hM hM0)))))
  clear hS hT hb0 hB hr hL hn hcur hM hM0 hrow
  go_enter Tryz.func45, Tryz.ntmps45
  go_wp2_with fail
  refine HI.out.mono ?_
  rintro e w1 ⟨rfl, hb⟩
  have HB1 := Lib.hid (HB.out.trans (hb.mono HB.out.size))
  obtain ⟨⟨a0, a1, a2, a3, a4, a5, a6, a7⟩, -⟩ := obj_facts ((hb.block w.heap.size (by simp)).trans H0.out)
  have HTX := Lib.hid (text_is sp tb m cap bb n r L fr w1 (HS.out.below HB1.out) (cell_below HT.out HB1.out) HL.out.1 HL.out.2.1 HL.out.2.2.1)
  clear hb HI HB H0
  go_wp2_with fail
  refine HTX.out.mono ?_
  rintro e w2 ⟨rfl, hb⟩
  have HB2 := Lib.hid (HB1.out.trans (hb.mono HB1.out.size))
  have hcp := run_copy_row (P := Tryz.prog) w2 35 35 3 5 bb 0 L n ad ys.length c cur 5 ((bI ys).map (Value.int .u8)) Tryz.underlying35 (by obtain ⟨i0, hi, -, hz1, -⟩ := info_parts infoU8; rw [hi]; exact congrArg some hz1)
    ((HB2.out.block bb (blk_lt HBB.out)).trans HBB.out) (by rw [List.length_map, bI_len]; exact (Nat.min_eq_left HL.out.2.2.2.2.1).symm) (row_cells (Kd.C_below HR.out HB2.out) HL.out.2.2.2.2.2) (by rw [List.length_map, bI_len]; have := HL.out; omega)
    (by
      intro v hv
      obtain ⟨z, -, rfl⟩ := List.mem_map.1 hv
      rfl)
  have hbb := (HB2.out.block bb (blk_lt HBB.out)).trans HBB.out
  have hSR := setRow_heap w2 bb cur (cur.toList.take 0 ++ (bI ys).map (Value.int .u8) ++ cur.toList.drop (0 + ((bI ys).map (Value.int .u8)).length)).toArray 5 (0, 0) hbb
  have hKB : Kb bb w.heap.size w (w2.setRow bb (cur.toList.take 0 ++ (bI ys).map (Value.int .u8) ++ cur.toList.drop (0 + ((bI ys).map (Value.int .u8)).length)).toArray) :=
    (Kb.of_below HB2.out).trans ⟨rfl, rfl, rfl, by simp, fun k _ hk => setRow_other w2 bb k _ hk⟩
  simp only [List.take_zero, List.nil_append, Nat.zero_add, List.length_map] at hSR hKB
  have hSR := Lib.hid hSR
  have hKB := Lib.hid hKB
  clear hb HTX HB1 hbb
  go_wp2_with (at_builtin; refine wpList_copy_eq rfl _ _ _ _ rfl hcp rfl rfl ?_)
  go_ret
  exact ⟨rfl, hSR.out.trans (by rw [bI_len]), hKB.out⟩

end Go.Proofs.YtlbedeiehhgphaaGreatDoor.CV

/-! ## CF -/
namespace Go.Proofs.YtlbedeiehhgphaaGreatDoor.CV
open Go Go.RowKit Go.ChangeShapes Go.Proofs Go.Proofs.YtlbedeiehhgphaaGreatDoor Go.Proofs.YtlbedeiehhgphaaGreatDoor.QD Go.Proofs.YtlbedeiehhgphaaGreatDoorW.PrintWords Go.Proofs.YtlbedeiehhgphaaGreatDoorW.PrintLast

theorem three_boxes (w : World) (o p q : Obj) : (((w.alloc o).alloc p).alloc q).heap[w.heap.size]? = some o ∧ (((w.alloc o).alloc p).alloc q).heap[w.heap.size + 1]? = some p ∧ (((w.alloc o).alloc p).alloc q).heap[w.heap.size + 1 + 1]? = some q ∧ Below w.heap.size w (((w.alloc o).alloc p).alloc q) ∧ (((w.alloc o).alloc p).alloc q).heap.size = w.heap.size + 1 + 1 + 1 := by
  have b1 := obj_box w o
  have b2 := b1.alloc b1.size p
  have c1 := obj_box (w.alloc o) p
  have c2 := c1.alloc c1.size q
  refine ⟨(c2.block w.heap.size (by simp)).trans (heap_alloc_new w o), ?_, ?_, b2.alloc b2.size q, by simp⟩
  · have d1 := obj_box ((w.alloc o).alloc p) q
    exact (d1.block (w.heap.size + 1) (by simp)).trans (obj_second w o p)
  · have h := obj_second (w.alloc o) p q
    have hs : (w.alloc o).heap.size = w.heap.size + 1 := by simp
    rw [hs] at h
    exact h
theorem cell_kb {w w' : World} {g i : Nat} {v : Value} (h : w.cell? ⟨g, i, none⟩ = some v) (hk : w'.heap[g]? = w.heap[g]?) : w'.cell? ⟨g, i, none⟩ = some v := by
  unfold World.cell? at *
  rw [hk]
  exact h

set_option maxHeartbeats 4000000 in
set_option maxRecDepth 100000 in
theorem lay_is (sp tb m cap bb n r L c : Nat) (fr : Int) (ad : Addr) (ys : List UInt8) (cur : Array Value) (w : World) (hS : StB w sp fr tb m cap) (hT : w.cell? ⟨tb, r, none⟩ = some (.slice (some ⟨bb, 0, none⟩) n n)) (hr : r < m) (hL : L ≤ n) (hn : n ≤ 100000)
    (hB : w.heap[bb]? = some (.cells cur 5 (0, 0))) (hcur : cur.size = n) (hM : ys.length ≤ L) (hM0 : 0 < ys.length) (hrow : (Kd.int .u8).C w (some ad) ys.length (bI ys)) (hsb : sp ≠ bb) (htb : tb ≠ bb) :
    Calls Tryz.prog 22 #[.agg #[.pointer (some ⟨sp, 0, none⟩)], .slice (some ad) ys.length c, .agg #[.int .i64 6, .bool false, .int .i64 0, .int .i64 0, .string ⟨#[]⟩, .int .i64 (r : Int), .int .i64 0, .int .i64 (L : Int)]] w fun e w' => e = .returned (.tuple #[.agg #[.int .i64 6, .bool false, .int .i64 0, .int .i64 0, .string ⟨#[]⟩, .int .i64 (r : Int), .int .i64 0, .int .i64 (ys.length : Int)], .int .i64 0]) ∧ w'.heap[bb]? = some (.cells ((bI ys).map (Value.int .u8) ++ cur.toList.drop ys.length).toArray 5 (0, 0)) ∧ Kb bb w.heap.size w w' := by
  have h4 : ¬ (L : Int) < (ys.length : Int) := by omega
  obtain ⟨q0, q1, q2, q3, q4⟩ := three_boxes w (.cells #[.pointer (some ⟨sp, 0, none⟩)] 72) (.cells #[.int .i64 6, .bool false, .int .i64 0, .int .i64 0, .string ⟨#[]⟩, .int .i64 (r : Int), .int .i64 0, .int .i64 (L : Int)] 27) (.cells #[.int .i64 0, .bool false, .int .i64 0, .int .i64 0, .string ⟨#[]⟩, .int .i64 0, .int .i64 0, .int .i64 0] 27)
  have HS := Lib.hid hS
  have HT := Lib.hid hT
  have HB := Lib.hid hB
  have HR := Lib.hid hrow
  have HQ := Lib.hid (And.intro q0 (And.intro q1 (And.intro q2 (And.intro q3 q4))))
  have HL := Lib.hid (And.intro hr (And.intro hL (And.intro hn (And.intro hcur (And.intro hM (And.intro hM0 (And.intro hsb htb)))))))
  have HWr := Lib.hid (fun w => writable_str sp (r : Int) (L : Int) w)
  clear hS hT hB hr hL hn hcur hM hM0 hrow hsb htb q0 q1 q2 q3 q4
  go_enter Tryz.func22, Tryz.ntmps22
  go_wp2_with fail
  refine (HWr.out _).mono ?_
  rintro e w1 ⟨rfl, hb⟩
  obtain ⟨q0, q1, q2, q3, q4⟩ := HQ.out
  have k0 := (hb.block w.heap.size (by omega)).trans q0
  have k1 := (hb.block (w.heap.size + 1) (by omega)).trans q1
  have k2 := (hb.block (w.heap.size + 1 + 1) (by omega)).trans q2
  have k3 := q3.trans (hb.mono q3.size)
  have k4 : w.heap.size + 1 + 1 + 1 ≤ w1.heap.size := by have := hb.size; omega
  clear q0 q1 q2 q3 q4 HQ hb
  have e0 : w1.cell? ⟨w.heap.size, 0, none⟩ = some (.pointer (some ⟨sp, 0, none⟩)) := Lib.cell_of_heap k0 0
  obtain ⟨⟨a0, a1, a2, a3, a4, a5, a6, a7⟩, -⟩ := obj_facts k1
  have HK := Lib.hid (And.intro k0 (And.intro k1 (And.intro k2 (And.intro k3 k4))))
  clear k0 k1 k2 k3 k4
  go_wp2_with fail
  obtain ⟨k0, k1, k2, k3, k4⟩ := HK.out
  obtain ⟨l1, l2, l3, l4, l5, l6, l7, l8⟩ := HL.out
  have hbbl := blk_lt HB.out
  have HWt := Lib.hid (write_is sp tb m cap bb n r L c fr ad ys cur w1 (HS.out.below k3) (cell_below HT.out k3) l1 l2 l3 ((k3.block bb hbbl).trans HB.out) l4 l5 l6 (Kd.C_below HR.out k3))
  clear k0 k1 k2 k3 k4 l1 l2 l3 l4 l5 l6 l7 l8 hbbl
  refine HWt.out.mono ?_
  rintro e w2 ⟨rfl, hc, hk⟩
  obtain ⟨k0, k1, k2, k3, k4⟩ := HK.out
  obtain ⟨l1, l2, l3, l4, l5, l6, l7, l8⟩ := HL.out
  have hbbl := blk_lt HB.out
  have m0 := (hk.block w.heap.size (by omega) (by omega)).trans k0
  have m1 := (hk.block (w.heap.size + 1) (by omega) (by omega)).trans k1
  have m2 := (hk.block (w.heap.size + 1 + 1) (by omega) (by omega)).trans k2
  have m3 : Kb bb w.heap.size w w2 := (Kb.of_below k3).then_ (by omega) hk
  have m4 := hk.size
  have s2 : StB w2 sp fr tb m cap := (hk.block sp (Nat.lt_of_lt_of_le (blk_lt HS.out) (by omega)) l7).trans (HS.out.below k3)
  have t2 := cell_kb (cell_below HT.out k3) (hk.block tb (Nat.lt_of_lt_of_le (World.block_lt_of_cell? w _ HT.out) (by omega)) l8)
  have HPt := Lib.hid (part_is sp tb m cap bb n r L ys.length fr w2 s2 t2 l1 l2 l3 l5)
  clear e0 a0 a1 a2 a3 a4 a5 a6 a7
  have e0 : w2.cell? ⟨w.heap.size, 0, none⟩ = some (.pointer (some ⟨sp, 0, none⟩)) := Lib.cell_of_heap m0 0
  obtain ⟨⟨a0, a1, a2, a3, a4, a5, a6, a7⟩, -⟩ := obj_facts m1
  have HM := Lib.hid (And.intro m2 (And.intro m3 (And.intro hc (And.intro hbbl (And.intro k4 m4)))))
  clear k0 k1 k2 k3 k4 l1 l2 l3 l4 l5 l6 l7 l8 hbbl m0 m1 m2 m3 m4 s2 t2 hc hk HWt HK
  go_wp2_with fail
  refine HPt.out.mono ?_
  rintro e w3 ⟨rfl, hb⟩
  obtain ⟨m2, m3, hc, hbbl, k4, m4⟩ := HM.out
  have n2 := (hb.block (w.heap.size + 1 + 1) (by omega)).trans m2
  have n3 : Kb bb w.heap.size w w3 := m3.belows hb (by omega)
  have n4 := (hb.block bb (by omega)).trans hc
  obtain ⟨⟨b0, b1, b2, b3, b4, b5, b6, b7⟩, p0, p1, p2, p3, p4, p5, p6, p7⟩ := obj_facts n2
  have hF := obj_set8 n2 (.int .i64 6) (.bool false) (.int .i64 0) (.int .i64 0) (.string ⟨#[]⟩) (.int .i64 (r : Int)) (.int .i64 0) (.int .i64 (ys.length : Int))
  have t3 := (set8_far (w := w3) (b := bb) (g := w.heap.size + 1 + 1) (by omega) (.int .i64 6) (.bool false) (.int .i64 0) (.int .i64 0) (.string ⟨#[]⟩) (.int .i64 (r : Int)) (.int .i64 0) (.int .i64 (ys.length : Int))).trans n4
  have t4 : Kb bb w.heap.size w ((((((((w3.setCell ⟨w.heap.size + 1 + 1, 0, none⟩ (.int .i64 6)).setCell ⟨w.heap.size + 1 + 1, 1, none⟩ (.bool false)).setCell ⟨w.heap.size + 1 + 1, 2, none⟩ (.int .i64 0)).setCell ⟨w.heap.size + 1 + 1, 3, none⟩ (.int .i64 0)).setCell ⟨w.heap.size + 1 + 1, 4, none⟩ (.string ⟨#[]⟩)).setCell ⟨w.heap.size + 1 + 1, 5, none⟩ (.int .i64 (r : Int))).setCell ⟨w.heap.size + 1 + 1, 6, none⟩ (.int .i64 0)).setCell ⟨w.heap.size + 1 + 1, 7, none⟩ (.int .i64 (ys.length : Int))) := n3.belows (set8_below (Below.refl w.heap.size w3) (by omega) (.int .i64 6) (.bool false) (.int .i64 0) (.int .i64 0) (.string ⟨#[]⟩) (.int .i64 (r : Int)) (.int .i64 0) (.int .i64 (ys.length : Int))) (Nat.le_refl _)
  have HF := Lib.hid hF
  have HT3 := Lib.hid t3
  have HT4 := Lib.hid t4
  clear m2 m3 hc k4 m4 n2 n3 n4 hF t3 t4 hb HPt HM e0 a0 a1 a2 a3 a4 a5 a6 a7
  go_wp2_with fail
  generalize ((((((((w3.setCell ⟨w.heap.size + 1 + 1, 0, none⟩ (.int .i64 6)).setCell ⟨w.heap.size + 1 + 1, 1, none⟩ (.bool false)).setCell ⟨w.heap.size + 1 + 1, 2, none⟩ (.int .i64 0)).setCell ⟨w.heap.size + 1 + 1, 3, none⟩ (.int .i64 0)).setCell ⟨w.heap.size + 1 + 1, 4, none⟩ (.string ⟨#[]⟩)).setCell ⟨w.heap.size + 1 + 1, 5, none⟩ (.int .i64 (r : Int))).setCell ⟨w.heap.size + 1 + 1, 6, none⟩ (.int .i64 0)).setCell ⟨w.heap.size + 1 + 1, 7, none⟩ (.int .i64 (ys.length : Int))) = W3 at *
  obtain ⟨⟨r0, r1, r2, r3, r4, r5, r6, r7⟩, -⟩ := obj_facts HF.out
  refine bodyPost_ret (v := .tuple #[.agg #[.int .i64 6, .bool false, .int .i64 0, .int .i64 0, .string ⟨#[]⟩, .int .i64 (r : Int), .int .i64 0, .int .i64 (ys.length : Int)], .int .i64 0]) (by simp [results, Tryz.results22, go_sem, r0, r1, r2, r3, r4, r5, r6, r7]) rfl ⟨rfl, HT3.out, HT4.out⟩

end Go.Proofs.YtlbedeiehhgphaaGreatDoor.CV

/-! ## CG -/
namespace Go.Proofs.YtlbedeiehhgphaaGreatDoor.CV
open Go Go.RowKit Go.ChangeShapes Go.Proofs Go.Proofs.YtlbedeiehhgphaaGreatDoor Go.Proofs.YtlbedeiehhgphaaGreatDoor.QD Go.Proofs.YtlbedeiehhgphaaGreatDoorW.PrintWords Go.Proofs.YtlbedeiehhgphaaGreatDoorW.PrintLast

set_option maxHeartbeats 4000000 in
set_option maxRecDepth 100000 in
theorem known_cvs (w : World) : Calls Tryz.prog 16 #[.string ⟨#[99, 118, 115]⟩] w fun e w' => e = .returned (.tuple #[.int .i64 2, .bool true]) ∧ w' = w := by
  go_enter Tryz.func16, Tryz.ntmps16
  go_wp2_with fail
  refine bodyPost_ret (v := .tuple #[.int .i64 2, .bool true]) (by simp [results, Tryz.results16, go_sem]) rfl ⟨rfl, rfl⟩

set_option maxHeartbeats 4000000 in
set_option maxRecDepth 100000 in
theorem known_cvi (w : World) : Calls Tryz.prog 16 #[.string ⟨#[99, 118, 105]⟩] w fun e w' => e = .returned (.tuple #[.int .i64 1, .bool true]) ∧ w' = w := by
  go_enter Tryz.func16, Tryz.ntmps16
  go_wp2_with fail
  refine bodyPost_ret (v := .tuple #[.int .i64 1, .bool true]) (by simp [results, Tryz.results16, go_sem]) rfl ⟨rfl, rfl⟩

set_option maxHeartbeats 4000000 in
set_option maxRecDepth 100000 in
theorem known_cvr (w : World) : Calls Tryz.prog 16 #[.string ⟨#[99, 118, 114]⟩] w fun e w' => e = .returned (.tuple #[.int .i64 1, .bool true]) ∧ w' = w := by
  go_enter Tryz.func16, Tryz.ntmps16
  go_wp2_with fail
  refine bodyPost_ret (v := .tuple #[.int .i64 1, .bool true]) (by simp [results, Tryz.results16, go_sem]) rfl ⟨rfl, rfl⟩

set_option maxHeartbeats 4000000 in
set_option maxRecDepth 100000 in
theorem known_cvrs (w : World) : Calls Tryz.prog 16 #[.string ⟨#[99, 118, 114, 115]⟩] w fun e w' => e = .returned (.tuple #[.int .i64 3, .bool true]) ∧ w' = w := by
  go_enter Tryz.func16, Tryz.ntmps16
  go_wp2_with fail
  refine bodyPost_ret (v := .tuple #[.int .i64 3, .bool true]) (by simp [results, Tryz.results16, go_sem]) rfl ⟨rfl, rfl⟩

set_option maxHeartbeats 4000000 in
set_option maxRecDepth 100000 in
theorem one_ok (k n r l : Int) (w : World) : Calls Tryz.prog 20 #[.agg #[.int .i64 k, .bool false, .int .i64 0, .int .i64 n, .string ⟨#[]⟩, .int .i64 r, .int .i64 0, .int .i64 l], .int .i64 0] w fun e w' => ∃ g, e = .returned (.tuple #[.slice (some ⟨g, 0, none⟩) 1 1, .int .i64 0]) ∧ w'.heap[g]? = some (.cells #[.int .i64 k, .bool false, .int .i64 0, .int .i64 n, .string ⟨#[]⟩, .int .i64 r, .int .i64 0, .int .i64 l] 27 (0, 0)) ∧ w.heap.size ≤ g ∧ Below w.heap.size w w' := by
  have hO := obj_second w (.cells #[.int .i64 k, .bool false, .int .i64 0, .int .i64 n, .string ⟨#[]⟩, .int .i64 r, .int .i64 0, .int .i64 l] 27) (.cells #[.int .i64 k, .bool false, .int .i64 0, .int .i64 n, .string ⟨#[]⟩, .int .i64 r, .int .i64 0, .int .i64 l] 27)
  have HO := Lib.hid hO
  clear hO
  go_enter Tryz.func20, Tryz.ntmps20
  go_wp2_with fail
  refine bodyPost_ret (v := .tuple #[.slice (some ⟨w.heap.size + 1, 0, none⟩) 1 1, .int .i64 0]) (by simp [results, Tryz.results20, go_sem]) rfl ⟨_, rfl, HO.out, by omega, two_box w _ _⟩

set_option maxHeartbeats 4000000 in
set_option maxRecDepth 100000 in
theorem closure_ok (x sp : Nat) (k n r l : Int) (w : World) (hx : w.cell? ⟨x, 0, none⟩ = some (.pointer (some ⟨sp, 0, none⟩)))
    (hV : ∀ W, Below w.heap.size w W → Calls Tryz.prog 19 #[.pointer (some ⟨sp, 0, none⟩), .agg #[.int .i64 k, .bool false, .int .i64 0, .int .i64 n, .string ⟨#[]⟩, .int .i64 r, .int .i64 0, .int .i64 l]] W fun e w' => e = .returned (.bool true) ∧ Below W.heap.size W w') :
    Calls Tryz.prog 18 #[.agg #[.int .i64 k, .bool false, .int .i64 0, .int .i64 n, .string ⟨#[]⟩, .int .i64 r, .int .i64 0, .int .i64 l], .pointer (some ⟨x, 0, none⟩)] w fun e w' => e = .returned (.bool false) ∧ Below w.heap.size w w' := by
  have hb0 := obj_box w (.cells #[.int .i64 k, .bool false, .int .i64 0, .int .i64 n, .string ⟨#[]⟩, .int .i64 r, .int .i64 0, .int .i64 l] 27)
  have HV := Lib.hid (hV _ hb0)
  have HB := Lib.hid hb0
  have hxl := World.block_lt_of_cell? w _ hx
  clear hV hb0
  go_enter Tryz.func18, Tryz.ntmps18
  go_wp2_with fail
  refine HV.out.mono ?_
  rintro e w1 ⟨rfl, hb⟩
  have HB1 := Lib.hid (HB.out.trans (hb.mono HB.out.size))
  clear hb
  go_wp2_with fail
  go_ret
  exact ⟨rfl, HB1.out⟩

set_option maxHeartbeats 4000000 in
set_option maxRecDepth 100000 in
theorem index_none (x g len cap : Nat) (K N R L : Nat → Int) (w : World) (hlen : len ≤ 1000)
    (hrow : ∀ j, j < len → ∀ i u, [Value.int .i64 (K j), .bool false, .int .i64 0, .int .i64 (N j), .string ⟨#[]⟩, .int .i64 (R j), .int .i64 0, .int .i64 (L j)][i]? = some u → w.cell? ⟨g, j * 8 + i, none⟩ = some u)
    (hF : ∀ j, j < len → ∀ W, Below w.heap.size w W → Calls Tryz.prog 18 #[.agg #[.int .i64 (K j), .bool false, .int .i64 0, .int .i64 (N j), .string ⟨#[]⟩, .int .i64 (R j), .int .i64 0, .int .i64 (L j)], .pointer (some ⟨x, 0, none⟩)] W fun e w' => e = .returned (.bool false) ∧ Below W.heap.size W w') :
    Calls Tryz.prog 36 #[.slice (some ⟨g, 0, none⟩) len cap, .func (.func 18) #[] #[.pointer (some ⟨x, 0, none⟩)]] w fun e w' => e = .returned (.int .i64 (-1)) ∧ Below w.heap.size w w' := by
  have HR := Lib.hid hrow
  have HF := Lib.hid hF
  clear hrow hF
  go_enter Tryz.func36, Tryz.ntmps36
  go_wp2_with fail
  go_loopg [8] len (fun gk v8 wx => ∃ k : Nat, k + gk = len ∧ v8 = .int .i64 (k : Int) ∧ Hid (Below w.heap.size w wx))
  case atStart => exact ⟨0, by omega, rfl, Lib.hid (Below.refl _ _)⟩
  case round =>
    obtain ⟨k, hk, rfl, HB⟩ := hrel
    have HK := Lib.hid hk
    clear hk
    by_cases hlt : k < len
    · have hki : (k : Int) < (len : Int) := by omega
      have hk0 : (0 : Int) ≤ (k : Int) := by omega
      have row := HR.out k hlt
      have c0 : wr.cell? ⟨g, k * 8, none⟩ = some (.int .i64 (K k)) := cell_below (row 0 _ rfl) HB.out
      have c1 : wr.cell? ⟨g, k * 8 + 1, none⟩ = some (.bool false) := cell_below (row 1 _ rfl) HB.out
      have c2 : wr.cell? ⟨g, k * 8 + 2, none⟩ = some (.int .i64 0) := cell_below (row 2 _ rfl) HB.out
      have c3 : wr.cell? ⟨g, k * 8 + 3, none⟩ = some (.int .i64 (N k)) := cell_below (row 3 _ rfl) HB.out
      have c4 : wr.cell? ⟨g, k * 8 + 4, none⟩ = some (.string ⟨#[]⟩) := cell_below (row 4 _ rfl) HB.out
      have c5 : wr.cell? ⟨g, k * 8 + 5, none⟩ = some (.int .i64 (R k)) := cell_below (row 5 _ rfl) HB.out
      have c6 : wr.cell? ⟨g, k * 8 + 6, none⟩ = some (.int .i64 0) := cell_below (row 6 _ rfl) HB.out
      have c7 : wr.cell? ⟨g, k * 8 + 7, none⟩ = some (.int .i64 (L k)) := cell_below (row 7 _ rfl) HB.out
      have HF1 := Lib.hid (HF.out k hlt wr HB.out)
      have HLT := Lib.hid hlt
      clear row hlt
      go_wp2_with fail
      refine HF1.out.mono ?_
      rintro e w1 ⟨rfl, hb⟩
      have HB1 := Lib.hid (HB.out.trans (hb.mono HB.out.size))
      have wk : wrap64 ((k : Int) + 1) = (k : Int) + 1 := by have := HLT.out; exact w64 _ (by omega) (by omega)
      clear hb
      go_wp2_with fail
      go_roundg (len - k - 1)
      case measure => have := HK.out; have := HLT.out; omega
      case rel => exact ⟨k + 1, by have := HK.out; have := HLT.out; omega, by push_cast; rfl, HB1⟩
    · obtain rfl : k = len := by have := HK.out; omega
      have hki : ¬ ((k : Int) < (k : Int)) := by omega
      go_wp2_with fail
      go_ret
      exact ⟨rfl, HB.out⟩

set_option maxHeartbeats 4000000 in
set_option maxRecDepth 100000 in
theorem contains_none (x g len cap : Nat) (K N R L : Nat → Int) (w : World) (hlen : len ≤ 1000)
    (hrow : ∀ j, j < len → ∀ i u, [Value.int .i64 (K j), .bool false, .int .i64 0, .int .i64 (N j), .string ⟨#[]⟩, .int .i64 (R j), .int .i64 0, .int .i64 (L j)][i]? = some u → w.cell? ⟨g, j * 8 + i, none⟩ = some u)
    (hF : ∀ j, j < len → ∀ W, Below w.heap.size w W → Calls Tryz.prog 18 #[.agg #[.int .i64 (K j), .bool false, .int .i64 0, .int .i64 (N j), .string ⟨#[]⟩, .int .i64 (R j), .int .i64 0, .int .i64 (L j)], .pointer (some ⟨x, 0, none⟩)] W fun e w' => e = .returned (.bool false) ∧ Below W.heap.size W w') :
    Calls Tryz.prog 17 #[.slice (some ⟨g, 0, none⟩) len cap, .func (.func 18) #[] #[.pointer (some ⟨x, 0, none⟩)]] w fun e w' => e = .returned (.bool false) ∧ Below w.heap.size w w' := by
  have HI := Lib.hid (index_none x g len cap K N R L w hlen hrow hF)
  clear hrow hF
  go_enter Tryz.func17, Tryz.ntmps17
  go_wp2_with fail
  refine HI.out.mono ?_
  rintro e w1 ⟨rfl, hb⟩
  have HB := Lib.hid hb
  clear hb
  go_wp2_with fail
  go_ret
  exact ⟨rfl, HB.out⟩

end Go.Proofs.YtlbedeiehhgphaaGreatDoor.CV

/-! ## GI -/
namespace Go.Proofs.YtlbedeiehhgphaaGreatDoor
open Go Go.RowKit Go.Lib

theorem run_next_at {P : Program} (wr : World) (g : Nat) (s : ByteArray) (pos : Nat) (ty : TypeId) (hb : wr.heap[g]? = some (.stringIter s pos)) (h : pos < s.size) :
    (Instr.next (.pointer (some ⟨g, 0, none⟩)) true ty).run P wr =
      .ok (.tuple #[.bool true, .int .i64 pos, .int .i32 (Utf8.decode s pos).1]) { wr with heap := wr.heap.setIfInBounds g (.stringIter s (pos + (Utf8.decode s pos).2)) } := by
  have hg : g < wr.heap.size := by
    rcases Nat.lt_or_ge g wr.heap.size with h' | h'
    · exact h'
    · simp [Array.getElem?_eq_none h'] at hb
  simp only [Instr.next, getObj, setObj, Sem.run_bind, Sem.run, hb, Result.andThen, h, if_true]
  simp [goInt]
theorem run_next_over {P : Program} (wr : World) (g : Nat) (s : ByteArray) (pos : Nat) (ty : TypeId) (hb : wr.heap[g]? = some (.stringIter s pos)) (h : ¬ pos < s.size) :
    (Instr.next (.pointer (some ⟨g, 0, none⟩)) true ty).run P wr = .ok (.tuple #[.bool false]) wr := by
  simp [Instr.next, getObj, Sem.run, hb, h]
theorem iter_set_at (wr : World) (g : Nat) (o o' : Obj) (hb : wr.heap[g]? = some o') :
    ({ wr with heap := wr.heap.setIfInBounds g o } : World).heap[g]? = some o := by
  have hg : g < wr.heap.size := by
    rcases Nat.lt_or_ge g wr.heap.size with h' | h'
    · exact h'
    · simp [Array.getElem?_eq_none h'] at hb
  simp [hg]
theorem iter_set_below (wr : World) (g B : Nat) (o : Obj) (hB : B ≤ g) : Below B wr { wr with heap := wr.heap.setIfInBounds g o } :=
  ⟨rfl, rfl, rfl, by simp, fun k hk => by simp only [Array.getElem?_setIfInBounds]; rw [if_neg (by omega)]⟩

/-- what a rune of two bytes and more covers -/
theorem wide_high (s : ByteArray) (i : Nat) (hi : i < s.size) (ha : 128 ≤ (s.get! i).toNat) :
    i + (Utf8.decode s i).2 ≤ s.size ∧ ∀ j, i ≤ j → j < i + (Utf8.decode s i).2 → 128 ≤ (s.get! j).toNat := by
  rw [Lib.decode_at]
  have ha' := ha
  generalize hb0 : (s.get! i).toNat = b0 at ha ⊢
  suffices H : i + (Lib.decodeN (s.size - i) b0 (s.get! (i + 1)).toNat (s.get! (i + 2)).toNat (s.get! (i + 3)).toNat).2 ≤ s.size ∧
      (2 ≤ (Lib.decodeN (s.size - i) b0 (s.get! (i + 1)).toNat (s.get! (i + 2)).toNat (s.get! (i + 3)).toNat).2 → 128 ≤ (s.get! (i + 1)).toNat) ∧
      (3 ≤ (Lib.decodeN (s.size - i) b0 (s.get! (i + 1)).toNat (s.get! (i + 2)).toNat (s.get! (i + 3)).toNat).2 → 128 ≤ (s.get! (i + 2)).toNat) ∧
      (4 ≤ (Lib.decodeN (s.size - i) b0 (s.get! (i + 1)).toNat (s.get! (i + 2)).toNat (s.get! (i + 3)).toNat).2 → 128 ≤ (s.get! (i + 3)).toNat) ∧
      (Lib.decodeN (s.size - i) b0 (s.get! (i + 1)).toNat (s.get! (i + 2)).toNat (s.get! (i + 3)).toNat).2 ≤ 4 by
    obtain ⟨h1, h2, h3, h4, h5⟩ := H
    refine ⟨h1, fun j hj hk => ?_⟩
    obtain rfl | rfl | rfl | rfl : j = i ∨ j = i + 1 ∨ j = i + 2 ∨ j = i + 3 := by omega
    · exact ha'
    · exact h2 (by omega)
    · exact h3 (by omega)
    · exact h4 (by omega)
  generalize (s.get! (i + 1)).toNat = b1
  generalize (s.get! (i + 2)).toNat = b2
  generalize (s.get! (i + 3)).toNat = b3
  unfold Lib.decodeN
  repeat' split
  all_goals (simp only []; omega)

set_option maxHeartbeats 2000000 in
set_option maxRecDepth 100000 in
theorem eE_bad (w : World) : Calls Tryz.prog 108 #[.string ⟨#[101, 69]⟩, .int .i32 65533] w fun e w' => e = .returned (.int .i64 (-1)) ∧ Below w.heap.size w w' := by
  go_enter Tryz.func108, Tryz.ntmps108
  go_wp2_with fail
  go_loopg [5, 6] 2 (fun g _ _ wx => ∃ i : Nat, i + g = 2 ∧ wx = w.iter ⟨#[101, 69]⟩ i)
  case atStart => exact ⟨0, by omega, rfl⟩
  case round =>
    obtain ⟨i, hig, rfl⟩ := hrel
    cases gk with
    | zero =>
      obtain rfl : i = 2 := by omega
      have hnx := fun ty => run_next_end (P := Tryz.prog) w ⟨#[101, 69]⟩ 2 ty (by decide)
      go_wp2_with fail
      go_ret
      exact ⟨rfl, (Below.refl _ _).alloc (Nat.le_refl _) _⟩
    | succ g =>
      obtain ⟨x, hx, hnx⟩ : ∃ x : Int, x ≠ 65533 ∧ ∀ ty, (Instr.next (.pointer (some ⟨w.heap.size, 0, none⟩)) true ty).run Tryz.prog (w.iter ⟨#[101, 69]⟩ i) =
          .ok (.tuple #[.bool true, .int .i64 i, .int .i32 x]) (w.iter ⟨#[101, 69]⟩ (i + 1)) := by
        obtain rfl | rfl : i = 0 ∨ i = 1 := by omega
        · exact ⟨101, by decide, fun ty => run_next_ascii (P := Tryz.prog) w ⟨#[101, 69]⟩ 0 ty (by decide) (by decide)⟩
        · exact ⟨69, by decide, fun ty => run_next_ascii (P := Tryz.prog) w ⟨#[101, 69]⟩ 1 ty (by decide) (by decide)⟩
      go_wp2_with fail
      go_roundg g
      case measure => omega
      case rel => exact ⟨i + 1, by omega, rfl⟩

theorem enc_high (r : Int) (hv : Utf8.valid r = true) (h128 : 128 ≤ r) : ∃ (e : ByteArray) (n : Nat) (hn : n < e.size), Utf8.encode r = e ∧ e.size = n + 1 ∧ 1 ≤ n ∧ n ≤ 3 ∧ 128 ≤ (e[n]'hn).toNat := by
  obtain ⟨h1, h2, h3⟩ := encode_facts r hv h128
  have h4 := h3 (by omega)
  exact ⟨Utf8.encode r, (Utf8.encode r).size - 1, by omega, rfl, by omega, by omega, by omega, h4⟩

set_option maxHeartbeats 2000000 in
set_option maxRecDepth 100000 in
theorem eE_good (w : World) (r : Int) (h128 : 128 ≤ r) (h65 : r ≠ 65533) : Calls Tryz.prog 108 #[.string ⟨#[101, 69]⟩, .int .i32 r] w fun e w' => e = .returned (.int .i64 (-1)) ∧ Below w.heap.size w w' := by
  cases hv : Utf8.valid r with
  | false =>
    rw [show Utf8.valid r = Lib.validRune r from validRune_eq r] at hv
    have HV := Lib.hid hv
    clear hv
    go_enter Tryz.func108, Tryz.ntmps108
    go_wp2_with (go_at_call 123; refine (Tryz.utf8_ValidRune _ _).mono ?_; rintro e w' ⟨rfl, rfl⟩; rw [HV.out])
    go_ret
    exact ⟨rfl, Below.refl _ _⟩
  | true =>
    obtain ⟨e, n, hn, he, hsz, h1, h3, hl⟩ := enc_high r hv h128
    have hcv : ∀ w, (convert 21 9 (.int .i32 r)).run Tryz.prog w = .ok (.string e) w := fun w => by
      rw [run_convert_int_string (P := Tryz.prog) w _ _ _ _ (by kernel_rfl) (by kernel_rfl), he]
    rw [show Utf8.valid r = Lib.validRune r from validRune_eq r] at hv
    have HV := Lib.hid hv
    clear hv
    generalize hx : e[n]'hn = x at hl
    have hx1 : (x.toNat : Int) ≠ 101 := by omega
    have hx2 : (x.toNat : Int) ≠ 69 := by omega
    have hix : Lib.indexByte [] x = -1 := rfl
    go_enter Tryz.func108, Tryz.ntmps108
    go_wp2_with (go_at_call 123; refine (Tryz.utf8_ValidRune _ _).mono ?_; rintro e w' ⟨rfl, rfl⟩; rw [HV.out])
    have hcv2 := hcv w'
    clear hcv
    go_step3
    go_wp2_with fail
    clear hcv2 he
    by_cases hn1 : n = 1
    · subst hn1
      go_loopg [9] 0 (fun _ i wx => i = .int .i64 1 ∧ wx = w')
      case atStart => exact ⟨rfl, rfl⟩
      case round =>
        obtain ⟨rfl, rfl⟩ := hrel
        go_wp2_with (first | go_step3 | (go_at_call 122; refine (Tryz.strings_IndexByte _ _ _).mono ?_; rintro e w' ⟨rfl, rfl⟩))
        have h1e : 1 < e.size := hn
        have hne : ((((⟨#[101, 69]⟩ : ByteArray)[1]'(by decide)).toNat : Int) != (x.toNat : Int)) = true := bne_iff_ne.2 (by show (69 : Int) ≠ _; omega)
        have hxx : (x.toNat : Int).toNat.toUInt8 = x := by simp
        have hix2 : Lib.indexByte ByteArray.empty.data.toList x = -1 := rfl
        go_quiet (fail)
        go_wp2_with go_step3
        have hcall : ∀ w, Calls Tryz.prog 122 #[.string ByteArray.empty, .int .u8 (x.toNat : Int)] w fun e w' => e = .returned (.int .i64 (-1)) ∧ w' = w := by
          intro w
          have := Tryz.strings_IndexByte ByteArray.empty (x.toNat : Int) w
          rw [hxx, hix2] at this
          exact this
        have hw2 : IntKind.i64.wrap 2 = 2 := rfl
        go_quiet ((go_at_call 122; exact (hcall _).mono fun e w2 ⟨he, hm⟩ => ⟨he, _, hm⟩))
        go_wp2_with go_step3
        simp only [Exit.noGoto_ret, Exit.then, Exit.inBlock]
        go_ret
        exact ⟨rfl, (Go.Proofs.YtlbedeiehhgphaaGreatDoorW.PrintWords.Drawn0.mk ⟨_, rfl⟩).below⟩
    · go_loopg [9] 0 (fun _ i wx => i = .int .i64 n ∧ wx = w')
      case atStart => exact ⟨rfl, rfl⟩
      case round =>
        obtain ⟨rfl, rfl⟩ := hrel
        have hnn : ¬ ((n : Int) < 2) := by omega
        go_wp2_with go_step3
        go_ret
        exact ⟨rfl, Below.refl _ _⟩

theorem eE_high (w : World) (r : Int) (h128 : 128 ≤ r) : Calls Tryz.prog 108 #[.string ⟨#[101, 69]⟩, .int .i32 r] w fun e w' => e = .returned (.int .i64 (-1)) ∧ Below w.heap.size w w' := by
  by_cases h : r = 65533
  · subst h; exact eE_bad w
  · exact eE_good w r h128 h

def IterAt (w0 : World) (s : ByteArray) (i : Nat) (wx : World) : Prop := i ≤ s.size ∧ wx.heap[w0.heap.size]? = some (.stringIter s i) ∧ Below w0.heap.size w0 wx ∧ NoAny s.data.toList [101, 69] i

theorem IterAt.lt {w0 : World} {s : ByteArray} {i : Nat} {wx : World} (h : IterAt w0 s i wx) : w0.heap.size < wx.heap.size := by
  rcases Nat.lt_or_ge w0.heap.size wx.heap.size with h' | h'
  · exact h'
  · have := h.2.1
    simp [Array.getElem?_eq_none h'] at this

theorem get_at_list (s : ByteArray) (j : Nat) (b : UInt8) (h : s.data.toList[j]? = some b) : s.get! j = b := by
  have hj : j < s.size := by
    rw [Lib.size_eq]
    rcases Nat.lt_or_ge j s.data.toList.length with h' | h'
    · exact h'
    · rw [List.getElem?_eq_none h'] at h; cases h
  have h2 := Lib.data_getElem? s j hj
  rw [h] at h2
  injection h2 with h2
  rw [h2]
  exact get_at s j hj

/-- one rune on: the place behind it, and the world that says so -/
theorem IterAt.next {w0 : World} {s : ByteArray} {i : Nat} {wx : World} (h : IterAt w0 s i wx) (hn : ∀ j, i ≤ j → j < i + (Utf8.decode s i).2 → ([101, 69] : List UInt8).contains (s.get! j) = false) (hle : i + (Utf8.decode s i).2 ≤ s.size) :
    IterAt w0 s (i + (Utf8.decode s i).2) { wx with heap := wx.heap.setIfInBounds w0.heap.size (.stringIter s (i + (Utf8.decode s i).2)) } := by
  obtain ⟨h1, h2, h3, h4⟩ := h
  refine ⟨hle, iter_set_at wx _ _ _ h2, h3.trans (iter_set_below wx _ _ _ (Nat.le_refl _)), ?_⟩
  intro j b hj hb
  by_cases hji : j < i
  · exact h4 j b hji hb
  · have := hn j (by omega) hj
    rwa [get_at_list s j b hb] at this

set_option maxHeartbeats 4000000 in
set_option maxRecDepth 1000000 in
theorem eE_short (s : ByteArray) (w : World) (h8 : s.size ≤ 8) :
    Calls Tryz.prog 90 #[.string s, .string ⟨#[101, 69]⟩] w fun e w' => e = .returned (.int .i64 (Lib.indexAny s.data.toList [101, 69])) ∧ Below w.heap.size w w' := by
  have h8z : decide ((8 : Int) < (s.size : Int)) = false := decide_eq_false (by omega)
  go_enter Tryz.func90, Tryz.ntmps90
  go_wp2_with (go_at_call 109; refine (Tryz.strings_shouldUseASCIISet _ _).mono ?_; rintro e w' ⟨rfl, hw⟩; rw [hw, h8z])
  go_loopg [9, 10] s.size (fun g _ _ wx => ∃ i : Nat, i ≤ s.size ∧ s.size ≤ i + g ∧ Hid (IterAt w s i wx))
  case atStart => exact ⟨0, by omega, by omega, ⟨Nat.zero_le _, World.iter_heap w s 0, (Below.refl _ _).alloc (Nat.le_refl _) _, NoAny.zero _ _⟩⟩
  case round =>
    obtain ⟨i, hle, hig, HI⟩ := hrel
    by_cases hi : i < s.size
    · have hnx := fun ty => run_next_at (P := Tryz.prog) wr w.heap.size s i ty HI.out.2.1 hi
      have hlt := HI.out.lt
      by_cases hasc : (s.get! i).toNat < 128
      · have hgi : s.get! i = s[i]'hi := get_at s i hi
        have hd := decode_ascii s i hi (by rw [← hgi]; exact hasc)
        rw [← hgi] at hd
        rw [hd] at hnx
        have hxl : s.data.toList[i]? = some (s.get! i) := by rw [hgi]; exact Lib.data_getElem? s i hi
        have HN := Lib.hid (fun hc => HI.out.next (by rw [hd]; intro j h1 h2; obtain rfl : j = i := by omega
                                                      exact hc) (by rw [hd]; omega))
        simp only [hd] at HN
        generalize s.get! i = x at *
        have Hx := Lib.hid hxl
        clear hxl hd hgi
        have hcon := Lib.contains_iff_indexByte [101, 69] x
        have hback : ((x.toNat : Int)).toNat.toUInt8 = x := by simp
        have hcall : ∀ w, Calls Tryz.prog 108 #[.string ⟨#[101, 69]⟩, .int .i32 x.toNat] w fun e w' => e = .returned (.int .i64 (Lib.indexByte [101, 69] x)) ∧ w' = w := by
          intro w
          have := Tryz.strings_IndexRune_ascii ⟨#[101, 69]⟩ (x.toNat : Int) w (by omega) (by omega)
          rw [hback] at this
          exact this
        have HC := Lib.hid hcall
        clear hcall
        generalize hq : Lib.indexByte [101, 69] x = q at hcon HC
        cases hin : ([101, 69] : List UInt8).contains x
        · rw [hin] at hcon
          have hlt2 : ¬ ((0 : Int) ≤ q) := of_decide_eq_false hcon.symm
          clear hcon hq
          go_wp2_with (go_at_call 108; refine (HC.out _).mono ?_; rintro e w' ⟨rfl, rfl⟩)
          cases gk with
          | zero => exact absurd hi (by omega)
          | succ g =>
            go_roundg g
            case measure => omega
            case rel => exact ⟨i + 1, by omega, by omega, HN.out hin⟩
        · rw [hin] at hcon
          have hge : (0 : Int) ≤ q := of_decide_eq_true hcon.symm
          clear hcon hq
          go_wp2_with (go_at_call 108; refine (HC.out _).mono ?_; rintro e w' ⟨rfl, rfl⟩)
          go_ret
          exact ⟨by rw [Lib.indexAny_hit HI.out.2.2.2 Hx.out hin]; rfl, HI.out.2.2.1.trans (iter_set_below wr _ _ _ (Nat.le_refl _))⟩
      · have hw := wide_high s i hi (by omega)
        have hr := (decode_high s i hi (by have : s.get! i = s[i]'hi := get_at s i hi; rw [← this]; omega)).1
        have hk := (decode_high s i hi (by have : s.get! i = s[i]'hi := get_at s i hi; rw [← this]; omega)).2
        have HN := Lib.hid (HI.out.next (fun j h1 h2 => by
          have := hw.2 j h1 h2
          generalize s.get! j = y at this
          simp only [List.contains_cons, List.contains_nil, Bool.or_false, Bool.or_eq_false_iff, beq_eq_false_iff_ne]
          constructor <;> (rintro rfl; revert this; decide)) hw.1)
        generalize (Utf8.decode s i).1 = r at *
        generalize (Utf8.decode s i).2 = k at *
        have hkl := hw.1
        clear hw
        have HC := Lib.hid (fun w => eE_high w (r : Int) (by omega))
        have hn0 : ¬ ((0 : Int) ≤ -1) := by omega
        go_wp2_with (go_at_call 108; refine (HC.out _).mono ?_; rintro e w' ⟨rfl, hb⟩)
        cases gk with
        | zero => exact absurd hi (by omega)
        | succ g =>
          go_roundg g
          case measure => omega
          case rel =>
            obtain ⟨h1, h2, h3, h4⟩ := HN.out
            refine ⟨i + k, by omega, by omega, h1, ?_, h3.trans (hb.mono (by simp; omega)), h4⟩
            rw [hb.block _ (by simpa using hlt)]
            exact h2
    · obtain rfl : i = s.size := by omega
      have hnx := fun ty => run_next_over (P := Tryz.prog) wr w.heap.size s s.size ty HI.out.2.1 hi
      go_wp2_with fail
      go_ret
      exact ⟨by rw [Lib.indexAny_none (by rw [← Lib.size_eq]; exact HI.out.2.2.2)]; rfl, HI.out.2.2.1⟩

def strings_IndexAny.f (a0 a1 : ByteArray) : Option Int :=
  if a1 = ⟨#[101, 69]⟩ ∧ a0.size ≤ 4000000000 then some (Lib.indexAny a0.data.toList [101, 69]) else none

theorem strings_IndexAny.calls (a0 a1 : ByteArray) (r : Int) (w : World) (h : strings_IndexAny.f a0 a1 = some r) :
    Calls Tryz.prog 90 #[.string a0, .string a1] w fun e w' => e = .returned (.int .i64 r) ∧ Below w.heap.size w w' := by
  unfold strings_IndexAny.f at h
  split at h
  · rename_i hh
    obtain ⟨rfl, hs⟩ := hh
    simp only [Option.some.injEq] at h
    obtain rfl := h
    by_cases h8 : a0.size ≤ 8
    · exact eE_short a0 w h8
    · refine (Tryz.strings_IndexAny_long (zero_of_info (n := 256) (by kernel_rfl)).1 a0 ⟨#[101, 69]⟩ w (by decide) (by omega) (by omega) (by decide) ?_).mono ?_
      · intro j b hb
        match j, hb with
        | 0, hb => simp at hb; subst hb; decide
        | 1, hb => simp at hb; subst hb; decide
        | n + 2, hb => simp at hb
      · rintro e w' ⟨rfl, rfl⟩
        exact ⟨rfl, ((Below.refl _ _).alloc (Nat.le_refl _) _).alloc (by simp) _⟩
  · cases h

#print axioms strings_IndexAny.calls
end Go.Proofs.YtlbedeiehhgphaaGreatDoor

/-! ## GW -/
namespace Go.Proofs.YtlbedeiehhgphaaGreatDoor
open Go Go.RowKit Go.Proofs.YtlbedeiehhgphaaGreatDoorW.PrintWords Go.Proofs.YtlbedeiehhgphaaGreatDoorW.PrintMore
attribute [local go_sem] max2_int min2_int max_two min_two

def capM : Nat := 1099511627776
def wholeL (l : List UInt8) : Int × Bool :=
  if (sgnL l).2 = [] ∨ (sgnL l).2.all isDig = false then (0, false)
  else ((if (sgnL l).1 then -(min (valD (sgnL l).2) capM : Nat) else (min (valD (sgnL l).2) capM : Nat) : Int),
    decide (-2147483648 ≤ (if (sgnL l).1 then -(min (valD (sgnL l).2) capM : Nat) else (min (valD (sgnL l).2) capM : Nat) : Int)) && decide ((if (sgnL l).1 then -(min (valD (sgnL l).2) capM : Nat) else (min (valD (sgnL l).2) capM : Nat) : Int) ≤ 2147483647))

set_option maxHeartbeats 1000000 in
set_option maxRecDepth 100000 in
theorem whole_bad (s t : ByteArray) (m : Bool) (w : World) (ht : (⟨(sgnL s.data.toList).2.toArray⟩ : ByteArray) = t) (hm : (sgnL s.data.toList).1 = m) (hts : t.size ≤ 140737488351232)
    (h : t.toList = [] ∨ (¬ t.toList = [] ∧ t.data.toList.all isDig = false)) :
    Calls Tryz.prog 88 #[.string s] w (PQ (0, false) w) := by
  have HS := Lib.hid (signed_any s w)
  have HT := Lib.hid (And.intro ht hm)
  clear ht hm
  rcases h with h | ⟨h0, h⟩
  · have hb : (t.toList == []) = true := by simpa using h
    clear h
    go_enter Tryz.func88, Tryz.ntmps88
    go_wp2_with fail
    refine HS.out.mono ?_
    rintro e w1 ⟨rfl, hb1⟩
    rw [HT.out.1, HT.out.2]
    go_wp2_with fail
    go_ret2
    exact ⟨rfl, hb1⟩
  · have hb : (t.toList == []) = false := by simpa using h0
    have HP := Lib.hid h
    clear h h0
    go_enter Tryz.func88, Tryz.ntmps88
    go_wp2_with fail
    refine HS.out.mono ?_
    rintro e w1 ⟨rfl, hb1⟩
    rw [HT.out.1, HT.out.2]
    go_wp2_with fail
    refine (plain_any t w1 hts false HP.out).mono ?_
    rintro e w2 ⟨rfl, hb2⟩
    go_wp2_with fail
    go_ret2
    exact ⟨rfl, hb1.trans (hb2.mono hb1.size)⟩

theorem step_cap (V0 V x : Nat) (hV : min V0 capM = V) (hx : x ≤ 9) : (if 1099511627776 < wrap64 (wrap64 (10 * (V : Int)) + (((48 + x : Nat) : Int) - 48) % 256) then 1099511627776 else wrap64 (wrap64 (10 * (V : Int)) + (((48 + x : Nat) : Int) - 48) % 256)) = ((min (10 * V0 + x) capM : Nat) : Int) := by
  have hc : capM = 1099511627776 := rfl
  have hb : V ≤ 1099511627776 := by rw [← hV, hc]; exact Nat.min_le_right _ _
  rw [step_num V x (by omega) hx]
  by_cases h : V0 ≤ capM
  · have : V0 = V := by rw [← hV]; exact (Nat.min_eq_left h).symm
    subst this
    by_cases h2 : 10 * V0 + x ≤ capM
    · rw [Nat.min_eq_left h2, if_neg (by omega)]
    · rw [Nat.min_eq_right (by omega), if_pos (by omega)]; rfl
  · have : V = capM := by rw [← hV]; exact Nat.min_eq_right (by omega)
    rw [Nat.min_eq_right (by omega)]
    by_cases h2 : (1099511627776 : Int) < ((10 * V + x : Nat) : Int)
    · rw [if_pos h2]; rfl
    · omega

set_option maxHeartbeats 1000000 in
set_option maxRecDepth 100000 in
theorem whole_good (s t : ByteArray) (m : Bool) (w : World) (ht : (⟨(sgnL s.data.toList).2.toArray⟩ : ByteArray) = t) (hm : (sgnL s.data.toList).1 = m) (h0 : ¬ t.toList = []) (hts : t.size ≤ 140737488351232) (h : t.data.toList.all isDig = true)
    (z : Int) (b : Bool) (hz : (z, b) = ((if m then -(min (valD t.data.toList) capM : Nat) else (min (valD t.data.toList) capM : Nat) : Int),
      decide (-2147483648 ≤ (if m then -(min (valD t.data.toList) capM : Nat) else (min (valD t.data.toList) capM : Nat) : Int)) && decide ((if m then -(min (valD t.data.toList) capM : Nat) else (min (valD t.data.toList) capM : Nat) : Int) ≤ 2147483647))) :
    Calls Tryz.prog 88 #[.string s] w (PQ (z, b) w) := by
  have HZ := Lib.hid hz
  clear hz
  have HS := Lib.hid (signed_any s w)
  have HT := Lib.hid (And.intro ht hm)
  clear ht hm
  have hb : (t.toList == []) = false := by simpa using h0
  have HP := Lib.hid h
  clear h h0
  go_enter Tryz.func88, Tryz.ntmps88
  go_wp2_with fail
  refine HS.out.mono ?_
  rintro e w1 ⟨rfl, hb1⟩
  rw [HT.out.1, HT.out.2]
  go_wp2_with fail
  refine (plain_any t w1 (by omega) true HP.out).mono ?_
  rintro e w2 ⟨rfl, hb2⟩
  have HB := Lib.hid (hb1.trans (hb2.mono hb1.size))
  obtain ⟨W, cap, hcv, hcap, hbW, hsz, hcell, _⟩ := conv_bytes w2 t
  have HC := Lib.hid (And.intro hcell hbW)
  clear hcell hbW hsz hb1 hb2 HS
  go_wp2_with fail
  clear hcv
  go_loop [5, 23] (fun n i => ∃ k : Nat, k ≤ t.size ∧ i = .int .i64 k ∧ n = .int .i64 (min (valD (t.data.toList.take k)) capM : Nat)) (fun _ i => t.size - (intOf i).toNat)
  case atStart => exact ⟨0, Nat.zero_le _, rfl, rfl⟩
  case round =>
    obtain ⟨k, hk, rfl, rfl⟩ := hrel
    by_cases hlt : k < t.size
    · have hc := HC.out.1 k hlt
      obtain ⟨x, hx, hxe, htk, hv⟩ := dig_step t k hlt HP.out
      have HV := Lib.hid (And.intro hxe hv)
      clear hxe hv htk
      generalize hV : min (valD (t.data.toList.take k)) capM = V
      have HW := Lib.hid hV
      clear hV
      go_wp2_with fail
      go_round
      case rel =>
        obtain ⟨hxe, hv⟩ := HV.out
        refine ⟨k + 1, by omega, by go_num, ?_⟩
        rw [hxe, hv, step_cap _ V x HW.out hx]
      case measure => simp [intOf]; omega
    · obtain rfl : k = t.size := by omega
      have hall : t.data.toList.take t.size = t.data.toList := List.take_of_length_le (by rw [← Lib.size_eq]; exact Nat.le_refl _)
      rw [hall]
      clear hall
      have hVb : min (valD t.data.toList) capM ≤ 1099511627776 := Nat.min_le_right _ _
      generalize min (valD t.data.toList) capM = V at *
      cases m
      all_goals
        go_wp2_with fail
        all_goals
          go_ret2
          refine ⟨ret2b ?_, HB.out.trans (HC.out.2.mono HB.out.size)⟩
          rw [HZ.out]
          simp
          try omega

theorem wholeL_cases (l : List UInt8) : ((sgnL l).2 = [] ∨ (¬ (sgnL l).2 = [] ∧ (sgnL l).2.all isDig = false)) ∧ wholeL l = (0, false) ∨
    (¬ (sgnL l).2 = [] ∧ (sgnL l).2.all isDig = true) ∧ wholeL l = ((if (sgnL l).1 then -(min (valD (sgnL l).2) capM : Nat) else (min (valD (sgnL l).2) capM : Nat) : Int),
    decide (-2147483648 ≤ (if (sgnL l).1 then -(min (valD (sgnL l).2) capM : Nat) else (min (valD (sgnL l).2) capM : Nat) : Int)) && decide ((if (sgnL l).1 then -(min (valD (sgnL l).2) capM : Nat) else (min (valD (sgnL l).2) capM : Nat) : Int) ≤ 2147483647)) := by
  unfold wholeL
  by_cases h0 : (sgnL l).2 = []
  · exact .inl ⟨.inl h0, by rw [if_pos (.inl h0)]⟩
  · cases h2 : (sgnL l).2.all isDig
    · exact .inl ⟨.inr ⟨h0, rfl⟩, by rw [if_pos (.inr rfl)]⟩
    · exact .inr ⟨⟨h0, rfl⟩, by rw [if_neg (by rintro (h | h); exact h0 h; cases h)]⟩

theorem dec_whole.calls0 (s : ByteArray) (w : World) (hs : s.size ≤ 140737488351232) : Calls Tryz.prog 88 #[.string s] w (PQ (wholeL s.data.toList) w) := by
  have hl := sgnL_len s.data.toList
  rw [← Lib.size_eq] at hl
  have hsz : (⟨(sgnL s.data.toList).2.toArray⟩ : ByteArray).size = (sgnL s.data.toList).2.length := by simp [ByteArray.size]
  have htl : (⟨(sgnL s.data.toList).2.toArray⟩ : ByteArray).toList = (sgnL s.data.toList).2 := by rw [Lib.toList_data]
  rcases wholeL_cases s.data.toList with ⟨h, hr⟩ | ⟨⟨h0, h2⟩, hr⟩
  · rw [hr]
    exact whole_bad s _ _ w rfl rfl (by omega) (by rw [htl]; exact h)
  · rw [hr]
    exact whole_good s _ _ w rfl rfl (by rw [htl]; exact h0) (by omega) h2 _ _ rfl

end Go.Proofs.YtlbedeiehhgphaaGreatDoor

/-! ## GR -/
namespace Go.Proofs.YtlbedeiehhgphaaGreatDoor
open Go Go.RowKit Go.Proofs.YtlbedeiehhgphaaGreatDoorW.PrintWords

def digV (c : Nat) : Nat := if 48 ≤ c ∧ c ≤ 57 then c - 48 else if 97 ≤ c ∧ c ≤ 122 then c - 97 + 10 else if 65 ≤ c ∧ c ≤ 90 then c - 65 + 10 else 99

theorem digit_fin : ∀ c : Fin 256, PR.dec_digit.f 5 (c.val : Int) = some (digV c.val : Int) := by decide +kernel
theorem digit_any (c : UInt8) (w : World) : Calls Tryz.prog 107 #[.int .u8 c.toNat] w fun e w' => e = .returned (.int .i64 (digV c.toNat : Nat)) ∧ Below w.heap.size w w' := by
  refine (PR.dec_digit.calls 5 _ _ w (digit_fin ⟨c.toNat, c.toNat_lt⟩)).mono ?_
  rintro e w' ⟨rfl, hd⟩
  exact ⟨rfl, by first | exact hd.below | exact hd⟩

theorem cut_any (s : ByteArray) (c : UInt8) (w : World) (hs : s.size ≤ 140737488351232) (a b : ByteArray) (f : Bool) (h : cut1 c s.data.toList = (a.data.toList, b.data.toList, f)) :
    Calls Tryz.prog 105 #[.string s, .string ⟨#[c]⟩] w fun e w' => e = .returned (.tuple #[.string a, .string b, .bool f]) ∧ Below w.heap.size w w' := by
  refine strings_Cut.calls s ⟨#[c]⟩ a b f w ?_
  unfold strings_Cut.f
  rw [if_pos ⟨rfl, hs⟩]
  have : (⟨#[c]⟩ : ByteArray).get! 0 = c := rfl
  rw [this, h]

/-- what radix answers: kind, number, is it one, error -/
def RQ (k n : Int) (ok : Bool) (er : Int) (w : World) (e : Ending) (w' : World) : Prop :=
  e = .returned (.tuple #[.agg #[.int .i64 k, .int .i64 n, .string ⟨#[]⟩], .bool ok, .int .i64 er]) ∧ Below w.heap.size w w'

/-- the result's own block -/
def TokBlk (b : Nat) (w : World) : Prop := w.heap[b]? = some (.cells #[.int .i64 0, .int .i64 0, .string ⟨#[]⟩] 134 (0, 0))
theorem TokBlk.below {b B : Nat} {w w' : World} (h : TokBlk b w) (hb : Below B w w') (hB : b < B) : TokBlk b w' := (hb.block b hB).trans h
theorem TokBlk.lt {b : Nat} {w : World} (h : TokBlk b w) : b < w.heap.size := by
  rcases Nat.lt_or_ge b w.heap.size with h' | h'
  · exact h'
  · simp [TokBlk, Array.getElem?_eq_none h'] at h
theorem TokBlk.facts {b : Nat} {w : World} (h : TokBlk b w) : (w.cell? ⟨b, 0, none⟩ = some (.int .i64 0) ∧ w.cell? ⟨b, 1, none⟩ = some (.int .i64 0) ∧ w.cell? ⟨b, 2, none⟩ = some (.string ⟨#[]⟩)) ∧
    (w.frozen? ⟨b, 0, none⟩ = false ∧ w.frozen? ⟨b, 1, none⟩ = false ∧ w.frozen? ⟨b, 2, none⟩ = false) := by
  refine ⟨⟨?_, ?_, ?_⟩, Lib.frozen_of_heap h 0, Lib.frozen_of_heap h 1, Lib.frozen_of_heap h 2⟩ <;> (rw [Lib.cell_of_heap h]; rfl)
theorem TokBlk.new (w : World) : TokBlk w.heap.size (w.alloc (.cells #[.int .i64 0, .int .i64 0, .string ⟨#[]⟩] 134)) := heap_alloc_new w _

set_option maxHeartbeats 1000000 in
set_option maxRecDepth 100000 in
theorem radix_nocut (s a b : ByteArray) (w : World) (hs : s.size ≤ 140737488351232) (h : cut1 35 s.data.toList = (a.data.toList, b.data.toList, false)) :
    Calls Tryz.prog 87 #[.string s] w (RQ 0 0 false 0 w) := by
  have HC := Lib.hid (fun w => cut_any s 35 w hs a b false h)
  have HT := Lib.hid (TokBlk.new w)
  clear h
  go_enter Tryz.func87, Tryz.ntmps87
  go_wp2_with fail
  refine (HC.out _).mono ?_
  rintro e w1 ⟨rfl, hb1⟩
  have hT1 := HT.out.below hb1 (by simp)
  have hlt := hT1.lt
  obtain ⟨⟨c0, c1, c2⟩, f0, f1, f2⟩ := hT1.facts
  have HB := Lib.hid hb1
  clear hb1 hT1
  go_wp2_with fail
  refine bodyPost_ret (v := .tuple #[.agg #[.int .i64 0, .int .i64 0, .string ⟨#[]⟩], .bool false, .int .i64 0]) (by simp [results, Tryz.results87, go_sem, c0, c1, c2]) rfl ⟨rfl, ?_⟩
  exact (((((Below.refl _ _).alloc (Nat.le_refl _) _).trans (HB.out.mono (by simp))).setCell (Nat.le_refl _) _).setCell (Nat.le_refl _) _).setCell (Nat.le_refl _) _


theorem below_alloc0 {w w1 : World} {o : Obj} (h : Below (w.alloc o).heap.size (w.alloc o) w1) : Below w.heap.size w w1 :=
  ((Below.refl _ _).alloc (Nat.le_refl _) _).trans (h.mono (by simp))

set_option maxHeartbeats 1000000 in
set_option maxRecDepth 100000 in
theorem radix_head (s a b : ByteArray) (w : World) (hs : s.size ≤ 140737488351232) (h : cut1 35 s.data.toList = (a.data.toList, b.data.toList, true))
    (hh : (a.toList == []) = true ∨ (a.toList == []) = false ∧ decide (2 < a.size) = true ∧ decide ((2 : Int) < (a.size : Int)) = true) :
    Calls Tryz.prog 87 #[.string s] w (RQ 0 0 false 0 w) := by
  have HC := Lib.hid (fun w => cut_any s 35 w hs a b true h)
  have HT := Lib.hid (TokBlk.new w)
  clear h
  rcases hh with hh | ⟨hh, h2, h2'⟩
  all_goals
    go_enter Tryz.func87, Tryz.ntmps87
    go_wp2_with fail
    refine (HC.out _).mono ?_
    rintro e w1 ⟨rfl, hb1⟩
    have hT1 := HT.out.below hb1 (by simp)
    have hlt := hT1.lt
    obtain ⟨⟨c0, c1, c2⟩, f0, f1, f2⟩ := hT1.facts
    have HB := Lib.hid (below_alloc0 hb1)
    clear hb1 hT1
    go_wp2_with fail
    refine bodyPost_ret (v := .tuple #[.agg #[.int .i64 0, .int .i64 0, .string ⟨#[]⟩], .bool false, .int .i64 0]) (by simp [results, Tryz.results87, go_sem, c0, c1, c2]) rfl ⟨rfl, ?_⟩
    exact ((HB.out.setCell (Nat.le_refl _) _).setCell (Nat.le_refl _) _).setCell (Nat.le_refl _) _

set_option maxHeartbeats 1000000 in
set_option maxRecDepth 100000 in
theorem radix_plain (s a b : ByteArray) (w : World) (hs : s.size ≤ 140737488351232) (h : cut1 35 s.data.toList = (a.data.toList, b.data.toList, true))
    (h0 : (a.toList == []) = false) (h2 : decide (2 < a.size) = false) (pl : Bool) (hp : a.data.toList.all isDig = pl) (hpb : pl = false ∨ pl = true ∧ (b.toList == []) = true) :
    Calls Tryz.prog 87 #[.string s] w (RQ 0 0 false 0 w) := by
  have HC := Lib.hid (fun w => cut_any s 35 w hs a b true h)
  have HT := Lib.hid (TokBlk.new w)
  have ha : a.size ≤ 2 := by simpa using h2
  have h2' : decide ((2 : Int) < (a.size : Int)) = false := by simp; omega
  have HP := Lib.hid hp
  clear h hp
  rcases hpb with rfl | ⟨rfl, hb⟩
  all_goals
    go_enter Tryz.func87, Tryz.ntmps87
    go_wp2_with fail
    refine (HC.out _).mono ?_
    rintro e w1 ⟨rfl, hb1⟩
    have HT1 := Lib.hid (HT.out.below hb1 (by simp))
    have HB1 := Lib.hid (below_alloc0 hb1)
    clear hb1
    go_wp2_with fail
    refine (plain_any a w1 (by omega) _ HP.out).mono ?_
    rintro e w2 ⟨rfl, hb2⟩
    have hT2 := HT1.out.below hb2 HT1.out.lt
    have hlt := hT2.lt
    obtain ⟨⟨c0, c1, c2⟩, f0, f1, f2⟩ := hT2.facts
    have HB := Lib.hid (HB1.out.trans (hb2.mono HB1.out.size))
    clear hb2 hT2
    go_wp2_with fail
    refine bodyPost_ret (v := .tuple #[.agg #[.int .i64 0, .int .i64 0, .string ⟨#[]⟩], .bool false, .int .i64 0]) (by simp [results, Tryz.results87, go_sem, c0, c1, c2]) rfl ⟨rfl, ?_⟩
    exact ((HB.out.setCell (Nat.le_refl _) _).setCell (Nat.le_refl _) _).setCell (Nat.le_refl _) _

/-- the digits, one by one: the number, is it too great -/
def radStep (base : Nat) (st : Nat × Bool) (c : UInt8) : Nat × Bool := if 4294967296 ≤ st.1 * base + digV c.toNat then (0, true) else (st.1 * base + digV c.toNat, st.2)
def radFold (base : Nat) (l : List UInt8) : Nat × Bool := l.foldl (radStep base) (0, false)
theorem radFold_snoc (base : Nat) (l : List UInt8) (c : UInt8) : radFold base (l ++ [c]) = radStep base (radFold base l) c := by simp [radFold]
theorem radFold_lt (base : Nat) (l : List UInt8) : (radFold base l).1 < 4294967296 := by
  rcases List.eq_nil_or_concat l with rfl | ⟨t, c, rfl⟩
  · simp [radFold]
  · rw [List.concat_eq_append, radFold_snoc]; unfold radStep; split
    · simp
    · simp; omega

/-- the second loop's head -/
def RadInv (w : World) (g base : Nat) (b : ByteArray) (k nk : Nat) (ov : Bool) (wr : World) : Prop :=
  (nk, ov) = radFold base (b.data.toList.take k) ∧ (∀ j, j < k → digV (b.data.toList.getD j 0).toNat < base) ∧ (∀ j, j < b.size → wr.cell? ⟨g, j, none⟩ = some (.int .u8 (b.data.toList.getD j 0).toNat)) ∧ g < wr.heap.size ∧ TokBlk w.heap.size wr ∧ Below w.heap.size w wr

theorem RadInv.below {w : World} {g base : Nat} {b : ByteArray} {k nk : Nat} {ov : Bool} {wr wx : World} (h : RadInv w g base b k nk ov wr) (hb : Below wr.heap.size wr wx) : RadInv w g base b k nk ov wx := by
  obtain ⟨h1, h2, h3, h4, h5, h6⟩ := h
  exact ⟨h1, h2, fun j hj => (hb.cell (p := ⟨g, j, none⟩) h4).trans (h3 j hj), Nat.lt_of_lt_of_le h4 hb.size, h5.below hb h5.lt, h6.trans (hb.mono h6.size)⟩
theorem take_getD (b : ByteArray) (k : Nat) (hk : k < b.size) : b.data.toList.take (k + 1) = b.data.toList.take k ++ [b.data.toList.getD k 0] := by
  have hl : k < b.data.toList.length := by rw [← Lib.size_eq]; exact hk
  rw [List.take_succ_eq_append_getElem hl, List.getD, List.getElem?_eq_getElem hl]
  rfl
theorem RadInv.next {w : World} {g base : Nat} {b : ByteArray} {k nk : Nat} {ov : Bool} {wr : World} (h : RadInv w g base b k nk ov wr) (hk : k < b.size) (hd : digV (b.data.toList.getD k 0).toNat < base)
    {st : Nat × Bool} (hs : radStep base (nk, ov) (b.data.toList.getD k 0) = st) : RadInv w g base b (k + 1) st.1 st.2 wr := by
  obtain ⟨h1, h2, h3⟩ := h
  refine ⟨?_, ?_, h3⟩
  · rw [take_getD b k hk, radFold_snoc, ← h1, hs]
  · intro j hj
    by_cases e : j = k
    · subst e; exact hd
    · exact h2 j (by omega)
theorem digV_le (c : Nat) : digV c ≤ 99 := by unfold digV; split <;> (try split) <;> (try split) <;> omega
theorem prod_le (n base : Nat) (hn : n < 4294967296) (hb : base ≤ 36) : (n : Int) * (base : Int) ≤ 154618822656 := by
  have : n * base ≤ 4294967296 * 36 := Nat.mul_le_mul (by omega) hb
  have h2 : ((n * base : Nat) : Int) = (n : Int) * (base : Int) := by push_cast; rfl
  omega
theorem prod_ge (n base : Nat) : 0 ≤ (n : Int) * (base : Int) := by
  have h2 : ((n * base : Nat) : Int) = (n : Int) * (base : Int) := by push_cast; rfl
  omega
theorem prod_dec_true {n base d : Nat} (h : 4294967296 ≤ n * base + d) : decide ((4294967296 : Int) ≤ (n : Int) * (base : Int) + (d : Int)) = true := by
  have h2 : ((n * base : Nat) : Int) = (n : Int) * (base : Int) := by push_cast; rfl
  simp; omega
theorem prod_dec_false {n base d : Nat} (h : ¬ 4294967296 ≤ n * base + d) : decide ((4294967296 : Int) ≤ (n : Int) * (base : Int) + (d : Int)) = false := by
  have h2 : ((n * base : Nat) : Int) = (n : Int) * (base : Int) := by push_cast; rfl
  simp; omega

def radEnd (st : Nat × Bool) : Int × Int × Bool × Int := if st.2 then (0, 0, true, 9) else (1, if 2147483648 ≤ st.1 then (st.1 : Int) - 4294967296 else st.1, true, 0)
def radTail (base : Nat) (r : List UInt8) : Int × Int × Bool × Int :=
  if base < 2 ∨ 36 < base ∨ r.any (fun c => decide (base ≤ digV c.toNat)) = true then (0, 0, false, 0) else radEnd (radFold base r)

theorem radTail_bad (base : Nat) (b : ByteArray) (j : Nat) (hj : j < b.size) (h : base ≤ digV (b.data.toList.getD j 0).toNat) : radTail base b.data.toList = (0, 0, false, 0) := by
  unfold radTail
  rw [if_pos]
  refine .inr (.inr ?_)
  rw [List.any_eq_true]
  have hl : j < b.data.toList.length := by rw [← Lib.size_eq]; exact hj
  refine ⟨b.data.toList.getD j 0, ?_, by simpa using h⟩
  rw [List.getD, List.getElem?_eq_getElem hl]
  exact List.getElem_mem hl

theorem radTail_ok {base : Nat} {b : ByteArray} {w : World} {g nj : Nat} {oj : Bool} {wr : World} (h : ¬ base < 2 ∧ ¬ 36 < base) (hI : RadInv w g base b b.size nj oj wr) : radTail base b.data.toList = radEnd (nj, oj) := by
  obtain ⟨h1, h2, _⟩ := hI
  have hall : b.data.toList.take b.size = b.data.toList := List.take_of_length_le (by rw [← Lib.size_eq]; exact Nat.le_refl _)
  rw [hall] at h1
  unfold radTail
  rw [if_neg, h1]
  rintro (hh | hh | hh)
  · exact h.1 hh
  · exact h.2 hh
  · rw [List.any_eq_true] at hh
    obtain ⟨c, hc, hcb⟩ := hh
    obtain ⟨j, hj, rfl⟩ := List.mem_iff_getElem.1 hc
    have := h2 j (by rw [Lib.size_eq]; exact hj)
    rw [List.getD, List.getElem?_eq_getElem hj] at this
    simp only [Option.getD_some, decide_eq_true_eq] at this hcb
    omega

set_option maxHeartbeats 2000000 in
set_option maxRecDepth 100000 in
theorem radix_loops (s a b : ByteArray) (w : World) (hs : s.size ≤ 140737488351232) (h : cut1 35 s.data.toList = (a.data.toList, b.data.toList, true)) (hbs : b.size ≤ 140737488351232)
    (h0 : (a.toList == []) = false) (h2 : decide (2 < a.size) = false) (hp : a.data.toList.all isDig = true) (hpb : (b.toList == []) = false)
    (k n er : Int) (ok : Bool) (hr : radTail (valD a.data.toList) b.data.toList = (k, n, ok, er)) :
    Calls Tryz.prog 87 #[.string s] w (RQ k n ok er w) := by
  have HR := Lib.hid hr
  have HC := Lib.hid (fun w => cut_any s 35 w hs a b true h)
  have HT := Lib.hid (TokBlk.new w)
  have ha : a.size ≤ 2 := by simpa using h2
  have h2' : decide ((2 : Int) < (a.size : Int)) = false := by simp; omega
  have HP := Lib.hid hp
  clear h hp hr
  go_enter Tryz.func87, Tryz.ntmps87
  go_wp2_with fail
  refine (HC.out _).mono ?_
  rintro e w1 ⟨rfl, hb1⟩
  have HT1 := Lib.hid (HT.out.below hb1 (by simp))
  have HB1 := Lib.hid (below_alloc0 hb1)
  clear hb1
  go_wp2_with fail
  refine (plain_any a w1 (by omega) _ HP.out).mono ?_
  rintro e w2 ⟨rfl, hb2⟩
  obtain ⟨W, cap, hcv, hcap, hbW, hsz, hcell, -⟩ := conv_bytes w2 a
  have HT2 := Lib.hid ((HT1.out.below hb2 HT1.out.lt).below hbW (HT1.out.below hb2 HT1.out.lt).lt)
  have HB2 := Lib.hid ((HB1.out.trans (hb2.mono HB1.out.size)).trans (hbW.mono (HB1.out.trans (hb2.mono HB1.out.size)).size))
  have HCE := Lib.hid hcell
  clear hb2 hbW hsz hcell HT1 HB1 HT HC
  go_wp2_with fail
  clear hcv
  go_loop [8, 46] (fun n i => ∃ k : Nat, k ≤ a.size ∧ i = .int .i64 k ∧ n = .int .i64 (valD (a.data.toList.take k))) (fun _ i => a.size - (intOf i).toNat)
  case atStart => exact ⟨0, Nat.zero_le _, rfl, rfl⟩
  case round =>
    obtain ⟨k, hk, rfl, rfl⟩ := hrel
    by_cases hlt : k < a.size
    · have hc := HCE.out k hlt
      obtain ⟨x, hx, hxe, -, hv⟩ := dig_step a k hlt HP.out
      have hb2 := valD_1000 a HP.out (by omega) k (by omega)
      have HV := Lib.hid (And.intro hxe (And.intro hv hb2))
      clear hxe hv hb2
      go_wp2_with fail
      go_round
      case rel =>
        obtain ⟨hxe, hv, hb2⟩ := HV.out
        refine ⟨k + 1, by omega, by go_num, ?_⟩
        rw [hxe, hv, step_num _ x (by omega) hx]
      case measure => simp [intOf]; omega
    · obtain rfl : k = a.size := by omega
      have hall : a.data.toList.take a.size = a.data.toList := List.take_of_length_le (by rw [← Lib.size_eq]; exact Nat.le_refl _)
      have hb2 := valD_1000 a HP.out (by omega) a.size (Nat.le_refl _)
      rw [hall] at hb2 ⊢
      clear hall hlt hk HCE
      generalize valD a.data.toList = base at *
      have hlt := HT2.out.lt
      obtain ⟨⟨c0, c1, c2⟩, f0, f1, f2⟩ := HT2.out.facts
      by_cases h1 : base < 2
      · have hd1 : decide ((base : Int) < 2) = true := by simp; omega
        have hrr : (k, n, ok, er) = ((0 : Int), (0 : Int), false, (0 : Int)) := by rw [← HR.out]; unfold radTail; rw [if_pos (.inl h1)]
        cases hrr
        have H1 := Lib.hid h1
        clear h1
        go_wp2_with fail
        refine bodyPost_ret (v := .tuple #[.agg #[.int .i64 0, .int .i64 0, .string ⟨#[]⟩], .bool false, .int .i64 0]) (by simp [results, Tryz.results87, go_sem, c0, c1, c2]) rfl ⟨rfl, ?_⟩
        exact ((HB2.out.setCell (Nat.le_refl _) _).setCell (Nat.le_refl _) _).setCell (Nat.le_refl _) _
      · have hd1 : decide ((base : Int) < 2) = false := by simp; omega
        by_cases h3 : 36 < base
        · have hd3 : decide ((36 : Int) < (base : Int)) = true := by simp; omega
          have hrr : (k, n, ok, er) = ((0 : Int), (0 : Int), false, (0 : Int)) := by rw [← HR.out]; unfold radTail; rw [if_pos (.inr (.inl h3))]
          cases hrr
          have H1 := Lib.hid (And.intro h1 h3)
          clear h1 h3
          go_wp2_with fail
          refine bodyPost_ret (v := .tuple #[.agg #[.int .i64 0, .int .i64 0, .string ⟨#[]⟩], .bool false, .int .i64 0]) (by simp [results, Tryz.results87, go_sem, c0, c1, c2]) rfl ⟨rfl, ?_⟩
          exact ((HB2.out.setCell (Nat.le_refl _) _).setCell (Nat.le_refl _) _).setCell (Nat.le_refl _) _
        · have hd3 : decide ((36 : Int) < (base : Int)) = false := by simp; omega
          have H1 := Lib.hid (And.intro h1 h3)
          clear h1 h3
          obtain ⟨W2, cap2, hcv2, hcap2, hbW2, hsz2, hcell2, -⟩ := conv_bytes W b
          have HI0 := Lib.hid (show RadInv w W.heap.size base b 0 0 false W2 from ⟨rfl, fun _ h => absurd h (Nat.not_lt_zero _), hcell2, by omega, HT2.out.below hbW2 hlt, HB2.out.trans (hbW2.mono HB2.out.size)⟩)
          clear hbW2 hsz2 hcell2 c0 c1 c2 f0 f1 f2
          go_wp2_with fail
          clear hcv2 hlt
          go_loopw [11, 12, 67] (fun n o i wr => ∃ (j nj : Nat) (oj : Bool), j ≤ b.size ∧ nj < 4294967296 ∧ i = .int .i64 j ∧ n = .int .i64 nj ∧ o = .bool oj ∧ Hid (RadInv w W.heap.size base b j nj oj wr)) (fun _ _ i _ => b.size - (intOf i).toNat)
          case atStart => exact ⟨0, 0, false, Nat.zero_le _, by omega, rfl, rfl, rfl, HI0.out⟩
          case round =>
            clear HI0
            obtain ⟨j, nj, oj, hj, hnj, rfl, rfl, rfl, HI⟩ := hrel
            have hlt := HI.out.2.2.2.2.1.lt
            obtain ⟨⟨c0, c1, c2⟩, f0, f1, f2⟩ := HI.out.2.2.2.2.1.facts
            by_cases hjlt : j < b.size
            · have hc := HI.out.2.2.1 j hjlt
              generalize hcc : b.data.toList.getD j 0 = c at *
              have HCC := Lib.hid hcc
              clear hcc c0 c1 c2 f0 f1 f2
              go_wp2_with fail
              refine (digit_any c wr).mono ?_
              rintro e wx ⟨rfl, hbx⟩
              have HIX := Lib.hid (HI.out.below hbx)
              clear hbx hlt
              have hlt := HIX.out.2.2.2.2.1.lt
              obtain ⟨⟨c0, c1, c2⟩, f0, f1, f2⟩ := HIX.out.2.2.2.2.1.facts
              have hd99 := digV_le c.toNat
              have HD := Lib.hid (show digV c.toNat = digV (b.data.toList.getD j 0).toNat by rw [HCC.out])
              generalize digV c.toNat = d at *
              by_cases hge : base ≤ d
              · have hdd : decide ((base : Int) ≤ (d : Int)) = true := by simp; omega
                have hrr : (k, n, ok, er) = ((0 : Int), (0 : Int), false, (0 : Int)) := by rw [← HR.out]; exact radTail_bad base b j hjlt (by rw [← HD.out]; exact hge)
                cases hrr
                go_wp2_with fail
                refine bodyPost_ret (v := .tuple #[.agg #[.int .i64 0, .int .i64 0, .string ⟨#[]⟩], .bool false, .int .i64 0]) (by simp [results, Tryz.results87, go_sem, c0, c1, c2]) rfl ⟨rfl, ?_⟩
                exact ((HIX.out.2.2.2.2.2.setCell (Nat.le_refl _) _).setCell (Nat.le_refl _) _).setCell (Nat.le_refl _) _
              · have hdd : decide ((base : Int) ≤ (d : Int)) = false := by simp; omega
                have hdn : decide (base ≤ d) = false := by simp; omega
                have hpr := prod_le nj base hnj (by have := H1.out; omega)
                have hp0 := prod_ge nj base
                by_cases hbig : 4294967296 ≤ nj * base + d
                · have hbb : decide ((4294967296 : Int) ≤ (nj : Int) * (base : Int) + (d : Int)) = true := prod_dec_true hbig
                  have HN := Lib.hid (HIX.out.next hjlt (by rw [← HD.out]; omega) (st := (0, true)) (by unfold radStep; rw [← HD.out, if_pos hbig]))
                  have HG := Lib.hid (And.intro hbig hge)
                  clear hbig hge
                  go_wp2_with fail
                  go_roundw
                  case rel => exact ⟨j + 1, 0, true, by omega, by omega, by go_num, rfl, rfl, HN.out⟩
                  case measure => simp [intOf]; omega
                · have hbb : decide ((4294967296 : Int) ≤ (nj : Int) * (base : Int) + (d : Int)) = false := prod_dec_false hbig
                  have HN := Lib.hid (HIX.out.next hjlt (by rw [← HD.out]; omega) (st := (nj * base + d, oj)) (by unfold radStep; rw [← HD.out, if_neg hbig]))
                  have HG := Lib.hid (And.intro hbig hge)
                  clear hbig hge
                  go_wp2_with fail
                  go_roundw
                  case rel => exact ⟨j + 1, nj * base + d, oj, by omega, by have := HG.out.1; omega, by go_num, by push_cast; rfl, rfl, HN.out⟩
                  case measure => simp [intOf]; omega
            · obtain rfl : j = b.size := by omega
              have hrr : (k, n, ok, er) = radEnd (nj, oj) := by rw [← HR.out]; exact radTail_ok H1.out HI.out
              cases oj
              · by_cases hbig : 2147483648 ≤ nj
                · have hbb : decide ((2147483648 : Int) ≤ (nj : Int)) = true := by simp; omega
                  have hv : (k, n, ok, er) = ((1 : Int), (nj : Int) - 4294967296, true, (0 : Int)) := by rw [hrr]; simp [radEnd, hbig]
                  cases hv
                  have HG := Lib.hid hbig
                  clear hbig hrr
                  go_wp2_with fail
                  refine bodyPost_ret (v := .tuple #[.agg #[.int .i64 1, .int .i64 ((nj : Int) - 4294967296), .string ⟨#[]⟩], .bool true, .int .i64 0]) (by simp [results, Tryz.results87, go_sem, c0, c1, c2]) rfl ⟨rfl, ?_⟩
                  exact ((HI.out.2.2.2.2.2.setCell (Nat.le_refl _) _).setCell (Nat.le_refl _) _).setCell (Nat.le_refl _) _
                · have hbb : decide ((2147483648 : Int) ≤ (nj : Int)) = false := by simp; omega
                  have hv : (k, n, ok, er) = ((1 : Int), (nj : Int), true, (0 : Int)) := by rw [hrr]; simp [radEnd, hbig]
                  cases hv
                  have HG := Lib.hid hbig
                  clear hbig hrr
                  go_wp2_with fail
                  refine bodyPost_ret (v := .tuple #[.agg #[.int .i64 1, .int .i64 (nj : Int), .string ⟨#[]⟩], .bool true, .int .i64 0]) (by simp [results, Tryz.results87, go_sem, c0, c1, c2]) rfl ⟨rfl, ?_⟩
                  exact ((HI.out.2.2.2.2.2.setCell (Nat.le_refl _) _).setCell (Nat.le_refl _) _).setCell (Nat.le_refl _) _
              · have hv : (k, n, ok, er) = ((0 : Int), (0 : Int), true, (9 : Int)) := by rw [hrr]; rfl
                cases hv
                clear hrr
                go_wp2_with fail
                refine bodyPost_ret (v := .tuple #[.agg #[.int .i64 0, .int .i64 0, .string ⟨#[]⟩], .bool true, .int .i64 9]) (by simp [results, Tryz.results87, go_sem, c0, c1, c2]) rfl ⟨rfl, ?_⟩
                exact ((HI.out.2.2.2.2.2.setCell (Nat.le_refl _) _).setCell (Nat.le_refl _) _).setCell (Nat.le_refl _) _

end Go.Proofs.YtlbedeiehhgphaaGreatDoor

/-! ## GF -/
namespace Go.Proofs.YtlbedeiehhgphaaGreatDoor
open Go Go.RowKit Go.Proofs.YtlbedeiehhgphaaGreatDoorW.PrintWords

def radixL (l : List UInt8) : Int × Int × Bool × Int :=
  if (cut1 35 l).2.2 = false ∨ (cut1 35 l).1 = [] ∨ 2 < (cut1 35 l).1.length ∨ (cut1 35 l).1.all isDig = false ∨ (cut1 35 l).2.1 = [] then (0, 0, false, 0)
  else radTail (valD (cut1 35 l).1) (cut1 35 l).2.1

theorem cut1_len (c : UInt8) : ∀ l : List UInt8, (cut1 c l).1.length ≤ l.length ∧ (cut1 c l).2.1.length ≤ l.length
  | [] => by simp [cut1]
  | b :: l => by
    have := cut1_len c l
    unfold cut1
    split <;> simp <;> omega

theorem radix_cases (l : List UInt8) :
    (cut1 35 l).2.2 = false ∧ radixL l = (0, 0, false, 0) ∨
    (cut1 35 l).2.2 = true ∧ ((cut1 35 l).1 = [] ∨ ¬ (cut1 35 l).1 = [] ∧ 2 < (cut1 35 l).1.length) ∧ radixL l = (0, 0, false, 0) ∨
    (cut1 35 l).2.2 = true ∧ ¬ (cut1 35 l).1 = [] ∧ ¬ 2 < (cut1 35 l).1.length ∧ ((cut1 35 l).1.all isDig = false ∨ (cut1 35 l).1.all isDig = true ∧ (cut1 35 l).2.1 = []) ∧ radixL l = (0, 0, false, 0) ∨
    (cut1 35 l).2.2 = true ∧ ¬ (cut1 35 l).1 = [] ∧ ¬ 2 < (cut1 35 l).1.length ∧ (cut1 35 l).1.all isDig = true ∧ ¬ (cut1 35 l).2.1 = [] ∧ radixL l = radTail (valD (cut1 35 l).1) (cut1 35 l).2.1 := by
  unfold radixL
  generalize cut1 35 l = r
  obtain ⟨a, b, f⟩ := r
  simp only
  cases f
  · exact .inl ⟨rfl, by rw [if_pos (.inl rfl)]⟩
  · refine .inr ?_
    by_cases h0 : a = []
    · exact .inl ⟨rfl, .inl h0, by rw [if_pos (.inr (.inl h0))]⟩
    · by_cases h1 : 2 < a.length
      · exact .inl ⟨rfl, .inr ⟨h0, h1⟩, by rw [if_pos (.inr (.inr (.inl h1)))]⟩
      · refine .inr ?_
        cases h2 : a.all isDig
        · exact .inl ⟨rfl, h0, h1, .inl rfl, by rw [if_pos (.inr (.inr (.inr (.inl rfl))))]⟩
        · by_cases h3 : b = []
          · exact .inl ⟨rfl, h0, h1, .inr ⟨rfl, h3⟩, by rw [if_pos (.inr (.inr (.inr (.inr h3))))]⟩
          · refine .inr ⟨rfl, h0, h1, rfl, h3, ?_⟩
            rw [if_neg]
            rintro (h | h | h | h | h)
            · cases h
            · exact h0 h
            · exact h1 h
            · cases h
            · exact h3 h

theorem radix_any (s : ByteArray) (w : World) (hs : s.size ≤ 140737488351232) (k n er : Int) (ok : Bool) (hr : radixL s.data.toList = (k, n, ok, er)) :
    Calls Tryz.prog 87 #[.string s] w (RQ k n ok er w) := by
  have hl := cut1_len 35 s.data.toList
  rw [← Lib.size_eq] at hl
  obtain ⟨a, ha⟩ : ∃ a : ByteArray, a.data.toList = (cut1 35 s.data.toList).1 := ⟨⟨(cut1 35 s.data.toList).1.toArray⟩, by simp⟩
  obtain ⟨b, hb⟩ : ∃ b : ByteArray, b.data.toList = (cut1 35 s.data.toList).2.1 := ⟨⟨(cut1 35 s.data.toList).2.1.toArray⟩, by simp⟩
  have ha0 : a.toList = (cut1 35 s.data.toList).1 := by rw [Lib.toList_data, ha]
  have hb0 : b.toList = (cut1 35 s.data.toList).2.1 := by rw [Lib.toList_data, hb]
  have haz : a.size = (cut1 35 s.data.toList).1.length := by rw [Lib.size_eq, ha]
  have hbz : b.size = (cut1 35 s.data.toList).2.1.length := by rw [Lib.size_eq, hb]
  have hcut : ∀ f, (cut1 35 s.data.toList).2.2 = f → cut1 35 s.data.toList = (a.data.toList, b.data.toList, f) := by
    intro f hf; rw [ha, hb, ← hf]
  rcases radix_cases s.data.toList with ⟨h1, h2⟩ | ⟨h1, h2, h3⟩ | ⟨h1, h2, h3, h4, h5⟩ | ⟨h1, h2, h3, h4, h5, h6⟩
  · rw [h2] at hr
    cases hr
    exact radix_nocut s a b w hs (hcut _ h1)
  · rw [h3] at hr
    cases hr
    refine radix_head s a b w hs (hcut _ h1) ?_
    rw [ha0, haz]
    rcases h2 with h2 | ⟨h2, h4⟩
    · exact .inl (by simp [h2])
    · exact .inr ⟨by simp [h2], by simp [h4], by simp; omega⟩
  · rw [h5] at hr
    cases hr
    refine radix_plain s a b w hs (hcut _ h1) (by rw [ha0]; simp [h2]) (by rw [haz]; simp; omega) _ rfl ?_
    rw [ha, hb0]
    rcases h4 with h4 | ⟨h4, h6⟩
    · exact .inl h4
    · exact .inr ⟨h4, by simp [h6]⟩
  · refine radix_loops s a b w hs (hcut _ h1) (by omega) (by rw [ha0]; simp [h2]) (by rw [haz]; simp; omega) (by rw [ha]; exact h4) (by rw [hb0]; simp [h5]) k n er ok ?_
    rw [ha, hb, ← h6, hr]

def dec_radix.f (a0 : ByteArray) : Option (Int × Int × ByteArray × Bool × Int) :=
  if a0.size ≤ 140737488351232 then some ((radixL a0.data.toList).1, (radixL a0.data.toList).2.1, ⟨#[]⟩, (radixL a0.data.toList).2.2.1, (radixL a0.data.toList).2.2.2) else none
theorem dec_radix.calls (a0 : ByteArray) (r1 r2 : Int) (r3 : ByteArray) (r4 : Bool) (r5 : Int) (w : World) (h : dec_radix.f a0 = some (r1, r2, r3, r4, r5)) :
    Calls Tryz.prog 87 #[.string a0] w fun e w' => e = .returned (.tuple #[.agg #[.int .i64 r1, .int .i64 r2, .string r3], .bool r4, .int .i64 r5]) ∧ Below w.heap.size w w' := by
  unfold dec_radix.f at h
  split at h
  · rename_i hh
    simp only [Option.some.injEq, Prod.mk.injEq] at h
    obtain ⟨rfl, rfl, rfl, rfl, rfl⟩ := h
    exact radix_any a0 w hh _ _ _ _ rfl
  · cases h

def dec_whole.f (a0 : ByteArray) : Option (Int × Bool) := if a0.size ≤ 140737488351232 then some (wholeL a0.data.toList) else none
theorem dec_whole.calls (a0 : ByteArray) (r1 : Int) (r2 : Bool) (w : World) (h : dec_whole.f a0 = some (r1, r2)) :
    Calls Tryz.prog 88 #[.string a0] w fun e w' => e = .returned (.tuple #[.int .i64 r1, .bool r2]) ∧ Below w.heap.size w w' := by
  unfold dec_whole.f at h
  split at h
  · rename_i hh
    have h := Option.some.inj h
    have := dec_whole.calls0 a0 w hh
    rw [h] at this
    exact this
  · cases h

def dec_power.f (a0 : ByteArray) : Option (Int × Bool) := if a0.size ≤ 140737488351232 then some (powL a0.data.toList) else none
theorem dec_power.calls (a0 : ByteArray) (r1 : Int) (r2 : Bool) (w : World) (h : dec_power.f a0 = some (r1, r2)) :
    Calls Tryz.prog 91 #[.string a0] w fun e w' => e = .returned (.tuple #[.int .i64 r1, .bool r2]) ∧ Below w.heap.size w w' := by
  unfold dec_power.f at h
  split at h
  · rename_i hh
    have h := Option.some.inj h
    have := dec_power.calls0 a0 w hh
    rw [h] at this
    exact this
  · cases h

end Go.Proofs.YtlbedeiehhgphaaGreatDoor

/-! ## GK -/
namespace Go.Proofs.YtlbedeiehhgphaaGreatDoor.QD
open Go Go.RowKit Go.Proofs.YtlbedeiehhgphaaGreatDoor Go.Proofs.YtlbedeiehhgphaaGreatDoorW.PrintWords

/-- the digits ahead of the point, with noughts where they do not reach -/
def aOf (D : List UInt8) (n : Nat) : List UInt8 := (D ++ List.replicate n 48).take n
theorem aOf_len (D : List UInt8) (n : Nat) : (aOf D n).length = n := by simp [aOf]
theorem aOf_all (D : List UInt8) (n : Nat) (hD : D.all isDig = true) : (aOf D n).all isDig = true := by
  rw [List.all_eq_true] at *
  intro x hx
  have := List.mem_of_mem_take hx
  rcases List.mem_append.1 this with h | h
  · exact hD x h
  · rw [(List.mem_replicate.1 h).2]; decide
/-- the digits behind the point -/
def bOf (D : List UInt8) (p : Int) : List UInt8 := List.replicate (-p).toNat 48 ++ D.drop p.toNat
theorem bOf_all (D : List UInt8) (p : Int) (hD : D.all isDig = true) : (bOf D p).all isDig = true := by
  rw [List.all_eq_true] at *
  intro x hx
  rcases List.mem_append.1 hx with h | h
  · rw [(List.mem_replicate.1 h).2]; decide
  · exact hD x (List.mem_of_mem_drop h)
theorem bOf_len (D : List UInt8) (p : Int) : (bOf D p).length ≤ (-p).toNat + D.length := by simp [bOf]

theorem repeat0 (n : Nat) : Lib.repeatL [48] n = List.replicate n 48 := by
  induction n with
  | zero => rfl
  | succ n ih =>
    have : Lib.repeatL [48] (n + 1) = [48] ++ Lib.repeatL [48] n := rfl
    rw [this, ih]; rfl
theorem repeat_f (n : Nat) (hn : n ≤ 100000) (k : Int) (hk : k = n) : strings_Repeat.f ⟨#[48]⟩ k = some (S (List.replicate n 48)) := by
  subst hk
  unfold strings_Repeat.f
  rw [if_pos ⟨by omega, by omega, by decide⟩, Int.toNat_natCast]
  show some (S (Lib.repeatL [48] n)) = _
  rw [repeat0]

def ShQ (x y : ByteArray) (w : World) (e : Ending) (w' : World) : Prop := e = .returned (.tuple #[.string x, .string y]) ∧ Below w.heap.size w w'

set_option maxHeartbeats 2000000 in
set_option maxRecDepth 100000 in
theorem shift_neg (a b d z r : ByteArray) (k : Int) (n : Nat) (w : World) (hd : a ++ b = d) (ha : a.size ≤ 100000) (hb : b.size ≤ 100000) (hk1 : -100000 ≤ k) (hk2 : k ≤ 100000)
    (hn : (a.size : Int) + k = -(n : Int)) (h0 : 0 < n) (hz : strings_Repeat.f ⟨#[48]⟩ (n : Int) = some z) (hzs : z.size = n) (hr : z ++ d = r) :
    Calls Tryz.prog 93 #[.string a, .string b, .int .i64 k] w (ShQ ⟨#[]⟩ r w) := by
  have hds : d.size = a.size + b.size := by rw [← hd]; simp
  have HZ := Lib.hid (fun w => strings_Repeat.calls ⟨#[48]⟩ (n : Int) z w hz)
  have c0 : a.size + b.size ≤ 9223372036854775807 := by omega
  have c1 : z.size + d.size ≤ 9223372036854775807 := by omega
  have c2 : (-(n : Int)) < 0 := by omega
  clear hz hds
  go_enter Tryz.func93, Tryz.ntmps93
  go_wp2_with (go_at_call 112; refine (HZ.out _).mono ?_; rintro e w' ⟨rfl, hb⟩; have HB := Lib.hid hb; clear hb)
  go_ret2
  exact ⟨rfl, HB.out⟩

set_option maxHeartbeats 2000000 in
set_option maxRecDepth 100000 in
theorem shift_far (a b d z r : ByteArray) (k : Int) (n m : Nat) (w : World) (hd : a ++ b = d) (ha : a.size ≤ 100000) (hb : b.size ≤ 100000) (hk1 : -100000 ≤ k) (hk2 : k ≤ 100000)
    (hn : (a.size : Int) + k = (n : Int)) (h0 : (n : Int) = (d.size : Int) + (m : Int)) (h1 : 0 < m) (hz : strings_Repeat.f ⟨#[48]⟩ (m : Int) = some z) (hzs : z.size = m) (hr : d ++ z = r) (hrs : r.size = n) (hr1 : r.extract 0 n = r) (_ : r.extract n n = ⟨#[]⟩) :
    Calls Tryz.prog 93 #[.string a, .string b, .int .i64 k] w (ShQ r ⟨#[]⟩ w) := by
  have hds : d.size = a.size + b.size := by rw [← hd]; simp
  have HZ := Lib.hid (fun w => strings_Repeat.calls ⟨#[48]⟩ (m : Int) z w hz)
  have c0 : a.size + b.size ≤ 9223372036854775807 := by omega
  have c1 : d.size + z.size ≤ 9223372036854775807 := by omega
  have c2 : ((n : Int) - (d.size : Int)) = (m : Int) := by omega
  have c3 : ¬ ((n : Int) < 0) := by omega
  have c4 : (d.size : Int) < (n : Int) := by omega
  have c5 : (0 : Int) ≤ (n : Int) := by omega
  clear hz hds h0
  go_enter Tryz.func93, Tryz.ntmps93
  go_wp2_with (go_at_call 112; refine (HZ.out _).mono ?_; rintro e w' ⟨rfl, hb⟩; have HB := Lib.hid hb; clear hb)
  go_quiet (fail)
  go_wp2_with fail
  go_ret2
  exact ⟨rfl, HB.out.trans ((Go.Proofs.YtlbedeiehhgphaaGreatDoorW.PrintWords.Drawn0.mk ⟨_, rfl⟩).below.mono HB.out.size)⟩

set_option maxHeartbeats 2000000 in
set_option maxRecDepth 100000 in
theorem shift_mid (a b d x y : ByteArray) (k : Int) (n : Nat) (w : World) (hd : a ++ b = d) (ha : a.size ≤ 100000) (hb : b.size ≤ 100000) (hk1 : -100000 ≤ k) (hk2 : k ≤ 100000)
    (hn : (a.size : Int) + k = (n : Int)) (h0 : n ≤ d.size) (hx : d.extract 0 n = x) (hy : d.extract n d.size = y) :
    Calls Tryz.prog 93 #[.string a, .string b, .int .i64 k] w (ShQ x y w) := by
  have hds : d.size = a.size + b.size := by rw [← hd]; simp
  have c0 : a.size + b.size ≤ 9223372036854775807 := by omega
  have c3 : ¬ ((n : Int) < 0) := by omega
  have c4 : ¬ ((d.size : Int) < (n : Int)) := by omega
  have c5 : (0 : Int) ≤ (n : Int) := by omega
  have c6 : (n : Int) ≤ (d.size : Int) := by omega
  clear hds
  go_enter Tryz.func93, Tryz.ntmps93
  go_wp2_with fail
  go_quiet (fail)
  go_wp2_with fail
  go_ret2
  exact ⟨rfl, (Go.Proofs.YtlbedeiehhgphaaGreatDoorW.PrintWords.Drawn0.mk ⟨_, rfl⟩).below⟩

def shiftL (a b : List UInt8) (k : Int) : List UInt8 × List UInt8 := (aOf (a ++ b) ((a.length : Int) + k).toNat, bOf (a ++ b) ((a.length : Int) + k))

theorem shift_any (a b : List UInt8) (k : Int) (w : World) (ha : a.length ≤ 10000) (hb : b.length ≤ 10000) (hk1 : -10000 ≤ k) (hk2 : k ≤ 10000) :
    Calls Tryz.prog 93 #[.string (S a), .string (S b), .int .i64 k] w (ShQ (S (shiftL a b k).1) (S (shiftL a b k).2) w) := by
  have hD := S_append a b
  have hDs : (S (a ++ b)).size = a.length + b.length := by rw [S_size]; simp
  have hA := S_size a
  have hB := S_size b
  unfold shiftL
  by_cases hneg : (a.length : Int) + k < 0
  · obtain ⟨n, hn⟩ : ∃ n : Nat, (a.length : Int) + k = -(n : Int) := ⟨(-((a.length : Int) + k)).toNat, by omega⟩
    have := shift_neg (S a) (S b) (S (a ++ b)) (S (List.replicate n 48)) (S (List.replicate n 48 ++ (a ++ b))) k n w hD (by omega) (by omega) (by omega) (by omega) (by rw [hA]; exact hn) (by omega) (repeat_f n (by omega) _ rfl) (by rw [S_size]; simp) (S_append _ _)
    rw [hn]
    have e1 : (-(n : Int)).toNat = 0 := by omega
    have e2 : (-(-(n : Int))).toNat = n := by omega
    unfold bOf aOf
    rw [e1, e2, List.take_zero, List.drop_zero]
    exact this
  · obtain ⟨n, hn⟩ : ∃ n : Nat, (a.length : Int) + k = (n : Int) := ⟨((a.length : Int) + k).toNat, by omega⟩
    rw [hn]
    have e1 : ((n : Int)).toNat = n := by omega
    have e2 : (-((n : Int))).toNat = 0 := by omega
    unfold bOf aOf
    rw [e1, e2, List.replicate_zero, List.nil_append]
    by_cases hfar : (a ++ b).length < n
    · obtain ⟨m, hm⟩ : ∃ m, n = (a ++ b).length + m := ⟨n - (a ++ b).length, by omega⟩
      have hdrop : (a ++ b).drop n = [] := List.drop_eq_nil_of_le (by omega)
      have htake : ((a ++ b) ++ List.replicate n 48).take n = (a ++ b) ++ List.replicate m 48 := by
        rw [List.take_append, List.take_of_length_le (by omega), List.take_replicate]
        congr 2
        omega
      have hrs : (S ((a ++ b) ++ List.replicate m 48)).size = n := by rw [S_size, List.length_append, List.length_replicate]; omega
      rw [hdrop, htake]
      refine shift_far (S a) (S b) (S (a ++ b)) (S (List.replicate m 48)) _ k n m w hD (by omega) (by omega) (by omega) (by omega) (by rw [hA]; exact hn) (by rw [S_size]; omega) (by omega) (repeat_f m (by omega) _ rfl) (by rw [S_size]; simp) (S_append _ _) hrs ?_ ?_
      · show (S ((a ++ b) ++ List.replicate m 48)).extract 0 n = S ((a ++ b) ++ List.replicate m 48)
        rw [S_to, List.take_of_length_le (by rw [← S_size]; omega)]
      · have := S_from ((a ++ b) ++ List.replicate m 48) n
        rw [hrs, List.drop_eq_nil_of_le (by rw [← S_size]; omega)] at this
        exact this
    · have htake : ((a ++ b) ++ List.replicate n 48).take n = (a ++ b).take n := List.take_append_of_le_length (by omega)
      rw [htake]
      exact shift_mid (S a) (S b) (S (a ++ b)) _ _ k n w hD (by omega) (by omega) (by omega) (by omega) (by rw [hA]; exact hn) (by rw [S_size]; omega) (S_to _ _) (S_from _ _)

end Go.Proofs.YtlbedeiehhgphaaGreatDoor.QD

/-! ## GN -/
namespace Go.Proofs.YtlbedeiehhgphaaGreatDoor.QD
open Go Go.RowKit Go.Proofs.YtlbedeiehhgphaaGreatDoor Go.Proofs.YtlbedeiehhgphaaGreatDoorW.PrintWords

/-- what is left of a world below a mark: the result's block, and what was there when the call began -/
def Kept (w wn : World) : Prop := TokBlk w.heap.size wn ∧ Below w.heap.size w wn
theorem Kept.step {w wn wm : World} (h : Kept w wn) (hb : Below wn.heap.size wn wm) : Kept w wm :=
  ⟨h.1.below hb h.1.lt, h.2.trans (hb.mono h.2.size)⟩
theorem Kept.first {w wn : World} {o : Obj} (h : TokBlk w.heap.size (w.alloc o)) (hb : Below (w.alloc o).heap.size (w.alloc o) wn) : Kept w wn :=
  ⟨h.below hb (by simp), below_alloc0 hb⟩
theorem setCell_size (w : World) (a : Addr) (v : Value) : (w.setCell a v).heap.size = w.heap.size := by simp [World.setCell]
/-- the last store, the result's three cells -/
theorem Kept.done {w wn : World} {v0 v1 v2 : Value} {a0 a1 a2 : Addr} (h : Kept w wn) (h0 : a0.block = w.heap.size) (h1 : a1.block = w.heap.size) (h2 : a2.block = w.heap.size) :
    Below w.heap.size w (((wn.setCell a0 v0).setCell a1 v1).setCell a2 v2) :=
  ((h.2.setCell (by omega) _).setCell (by omega) _).setCell (by omega) _

set_option maxHeartbeats 4000000 in
set_option maxRecDepth 100000 in
theorem tok_radix (s : ByteArray) (w : World) (hs : s.size ≤ 64) (kr nr er : Int) (okr : Bool) (hR : ∀ w, Calls Tryz.prog 87 #[.string s] w (RQ kr nr okr er w)) (hok : okr = true)  :
    Calls Tryz.prog 72 #[.string s] w (RQ kr nr true er w) := by
  have HR := Lib.hid hR
  have HT := Lib.hid (TokBlk.new w)
  have hsz : ¬ ((64 : Int) < (s.size : Int)) := by omega
  clear hR
  subst hok
  go_enter Tryz.func72, Tryz.ntmps72
  go_wp2_with fail
  refine (HR.out _).mono ?_
  rintro e w1 ⟨rfl, hb⟩
  have K := Lib.hid (Kept.first HT.out hb)
  clear hb HT
  obtain ⟨⟨c0, c1, c2⟩, f0, f1, f2⟩ := K.out.1.facts
  have hlt := K.out.1.lt
  go_wp2_with fail
  refine bodyPost_ret (v := .tuple #[.agg #[.int .i64 kr, .int .i64 nr, .string ⟨#[]⟩], .bool true, .int .i64 er]) (by simp [results, Tryz.results72, go_sem, c0, c1, c2, hlt]) rfl ⟨rfl, ?_⟩
  exact (K.out.done rfl rfl rfl).alloc (by simp only [setCell_size]; omega) _

set_option maxHeartbeats 4000000 in
set_option maxRecDepth 100000 in
theorem tok_whole (s : ByteArray) (w : World) (hs : s.size ≤ 64) (kr nr er : Int) (okr : Bool) (nw : Int) (okw : Bool) (hR : ∀ w, Calls Tryz.prog 87 #[.string s] w (RQ kr nr okr er w)) (hW : ∀ w, Calls Tryz.prog 88 #[.string s] w fun e w' => e = .returned (.tuple #[.int .i64 nw, .bool okw]) ∧ Below w.heap.size w w') (hokr : okr = false) (hokw : okw = true)  :
    Calls Tryz.prog 72 #[.string s] w (RQ 1 nw true 0 w) := by
  have HR := Lib.hid hR
  have HW := Lib.hid hW
  have HT := Lib.hid (TokBlk.new w)
  have hsz : ¬ ((64 : Int) < (s.size : Int)) := by omega
  clear hR hW
  subst hokr hokw
  go_enter Tryz.func72, Tryz.ntmps72
  go_wp2_with fail
  refine (HR.out _).mono ?_
  rintro e w1 ⟨rfl, hb⟩
  have K := Lib.hid (Kept.first HT.out hb)
  clear hb HT
  go_wp2_with fail
  refine (HW.out _).mono ?_
  rintro e w2 ⟨rfl, hb⟩
  replace K := Lib.hid (K.out.step (below_alloc0 hb))
  clear hb
  obtain ⟨⟨c0, c1, c2⟩, f0, f1, f2⟩ := K.out.1.facts
  have hlt := K.out.1.lt
  go_wp2_with fail
  refine bodyPost_ret (v := .tuple #[.agg #[.int .i64 1, .int .i64 nw, .string ⟨#[]⟩], .bool true, .int .i64 0]) (by simp [results, Tryz.results72, go_sem, c0, c1, c2]) rfl ⟨rfl, ?_⟩
  exact K.out.done rfl rfl rfl

set_option maxHeartbeats 4000000 in
set_option maxRecDepth 100000 in
theorem tok_badexp (s : ByteArray) (w : World) (hs : s.size ≤ 64) (kr nr er : Int) (okr : Bool) (nw : Int) (okw : Bool) (m : Bool) (r : ByteArray) (ix : Int) (q : ByteArray) (np : Int) (okp : Bool) (hR : ∀ w, Calls Tryz.prog 87 #[.string s] w (RQ kr nr okr er w)) (hW : ∀ w, Calls Tryz.prog 88 #[.string s] w fun e w' => e = .returned (.tuple #[.int .i64 nw, .bool okw]) ∧ Below w.heap.size w w') (hS : ∀ w, Calls Tryz.prog 89 #[.string s] w fun e w' => e = .returned (.tuple #[.bool m, .string r]) ∧ Below w.heap.size w w') (hI : ∀ w, Calls Tryz.prog 90 #[.string r, .string ⟨#[101, 69]⟩] w fun e w' => e = .returned (.int .i64 ix) ∧ Below w.heap.size w w') (hP : ∀ w, Calls Tryz.prog 91 #[.string q] w fun e w' => e = .returned (.tuple #[.int .i64 np, .bool okp]) ∧ Below w.heap.size w w') (hokr : okr = false) (hokw : okw = false) (i : Nat) (hix : ix = (i : Int)) (hil : i < r.size) (hrs : r.size ≤ 64) (hq : r.extract (i + 1) r.size = q) (hokp : okp = false)  :
    Calls Tryz.prog 72 #[.string s] w (RQ 0 0 false 0 w) := by
  have HR := Lib.hid hR
  have HW := Lib.hid hW
  have HS := Lib.hid hS
  have HI := Lib.hid hI
  have HP := Lib.hid hP
  have HT := Lib.hid (TokBlk.new w)
  have hsz : ¬ ((64 : Int) < (s.size : Int)) := by omega
  clear hR hW hS hI hP
  subst hokr hokw hix
  have d1 : (0 : Int) ≤ (i : Int) := by omega
  have d2 : (0 : Int) ≤ (i : Int) + 1 := by omega
  have d3 : (i : Int) + 1 ≤ (r.size : Int) := by omega
  have d4 : (i : Int) ≤ (r.size : Int) := by omega
  subst hokp
  go_enter Tryz.func72, Tryz.ntmps72
  go_wp2_with fail
  refine (HR.out _).mono ?_
  rintro e w1 ⟨rfl, hb⟩
  have K := Lib.hid (Kept.first HT.out hb)
  clear hb HT
  go_wp2_with fail
  refine (HW.out _).mono ?_
  rintro e w2 ⟨rfl, hb⟩
  replace K := Lib.hid (K.out.step (below_alloc0 hb))
  clear hb
  go_wp2_with fail
  refine (HS.out _).mono ?_
  rintro e w3 ⟨rfl, hb⟩
  replace K := Lib.hid (K.out.step hb)
  clear hb
  go_wp2_with fail
  refine (HI.out _).mono ?_
  rintro e w4 ⟨rfl, hb⟩
  replace K := Lib.hid (K.out.step hb)
  clear hb
  go_wp2_with fail
  refine (HP.out _).mono ?_
  rintro e w5 ⟨rfl, hb⟩
  replace K := Lib.hid (K.out.step hb)
  clear hb
  obtain ⟨⟨c0, c1, c2⟩, f0, f1, f2⟩ := K.out.1.facts
  have hlt := K.out.1.lt
  go_wp2_with fail
  refine bodyPost_ret (v := .tuple #[.agg #[.int .i64 0, .int .i64 0, .string ⟨#[]⟩], .bool false, .int .i64 0]) (by simp [results, Tryz.results72, go_sem, c0, c1, c2]) rfl ⟨rfl, ?_⟩
  exact K.out.done rfl rfl rfl

set_option maxHeartbeats 4000000 in
set_option maxRecDepth 100000 in
theorem tok_badmant_e (s : ByteArray) (w : World) (hs : s.size ≤ 64) (kr nr er : Int) (okr : Bool) (nw : Int) (okw : Bool) (m : Bool) (r : ByteArray) (ix : Int) (q : ByteArray) (np : Int) (okp : Bool) (r2 ma mb : ByteArray) (mp okm : Bool) (hR : ∀ w, Calls Tryz.prog 87 #[.string s] w (RQ kr nr okr er w)) (hW : ∀ w, Calls Tryz.prog 88 #[.string s] w fun e w' => e = .returned (.tuple #[.int .i64 nw, .bool okw]) ∧ Below w.heap.size w w') (hS : ∀ w, Calls Tryz.prog 89 #[.string s] w fun e w' => e = .returned (.tuple #[.bool m, .string r]) ∧ Below w.heap.size w w') (hI : ∀ w, Calls Tryz.prog 90 #[.string r, .string ⟨#[101, 69]⟩] w fun e w' => e = .returned (.int .i64 ix) ∧ Below w.heap.size w w') (hP : ∀ w, Calls Tryz.prog 91 #[.string q] w fun e w' => e = .returned (.tuple #[.int .i64 np, .bool okp]) ∧ Below w.heap.size w w') (hM : ∀ w, Calls Tryz.prog 92 #[.string r2] w fun e w' => e = .returned (.tuple #[.string ma, .string mb, .bool mp, .bool okm]) ∧ Below w.heap.size w w') (hokr : okr = false) (hokw : okw = false) (i : Nat) (hix : ix = (i : Int)) (hil : i < r.size) (hrs : r.size ≤ 64) (hq : r.extract (i + 1) r.size = q) (hokp : okp = true) (hr2 : r.extract 0 i = r2) (hokm : okm = false)  :
    Calls Tryz.prog 72 #[.string s] w (RQ 0 0 false 0 w) := by
  have HR := Lib.hid hR
  have HW := Lib.hid hW
  have HS := Lib.hid hS
  have HI := Lib.hid hI
  have HP := Lib.hid hP
  have HM := Lib.hid hM
  have HT := Lib.hid (TokBlk.new w)
  have hsz : ¬ ((64 : Int) < (s.size : Int)) := by omega
  clear hR hW hS hI hP hM
  subst hokr hokw hix
  have d1 : (0 : Int) ≤ (i : Int) := by omega
  have d2 : (0 : Int) ≤ (i : Int) + 1 := by omega
  have d3 : (i : Int) + 1 ≤ (r.size : Int) := by omega
  have d4 : (i : Int) ≤ (r.size : Int) := by omega
  subst hokp hokm
  go_enter Tryz.func72, Tryz.ntmps72
  go_wp2_with fail
  refine (HR.out _).mono ?_
  rintro e w1 ⟨rfl, hb⟩
  have K := Lib.hid (Kept.first HT.out hb)
  clear hb HT
  go_wp2_with fail
  refine (HW.out _).mono ?_
  rintro e w2 ⟨rfl, hb⟩
  replace K := Lib.hid (K.out.step (below_alloc0 hb))
  clear hb
  go_wp2_with fail
  refine (HS.out _).mono ?_
  rintro e w3 ⟨rfl, hb⟩
  replace K := Lib.hid (K.out.step hb)
  clear hb
  go_wp2_with fail
  refine (HI.out _).mono ?_
  rintro e w4 ⟨rfl, hb⟩
  replace K := Lib.hid (K.out.step hb)
  clear hb
  go_wp2_with fail
  refine (HP.out _).mono ?_
  rintro e w5 ⟨rfl, hb⟩
  replace K := Lib.hid (K.out.step hb)
  clear hb
  go_wp2_with fail
  refine (HM.out _).mono ?_
  rintro e w6 ⟨rfl, hb⟩
  replace K := Lib.hid (K.out.step hb)
  clear hb
  obtain ⟨⟨c0, c1, c2⟩, f0, f1, f2⟩ := K.out.1.facts
  have hlt := K.out.1.lt
  go_wp2_with fail
  refine bodyPost_ret (v := .tuple #[.agg #[.int .i64 0, .int .i64 0, .string ⟨#[]⟩], .bool false, .int .i64 0]) (by simp [results, Tryz.results72, go_sem, c0, c1, c2]) rfl ⟨rfl, ?_⟩
  exact K.out.done rfl rfl rfl

set_option maxHeartbeats 4000000 in
set_option maxRecDepth 100000 in
theorem tok_big_e (s : ByteArray) (w : World) (hs : s.size ≤ 64) (kr nr er : Int) (okr : Bool) (nw : Int) (okw : Bool) (m : Bool) (r : ByteArray) (ix : Int) (q : ByteArray) (np : Int) (okp : Bool) (r2 ma mb : ByteArray) (mp okm : Bool) (x y : ByteArray) (nv : Int) (okv : Bool) (hR : ∀ w, Calls Tryz.prog 87 #[.string s] w (RQ kr nr okr er w)) (hW : ∀ w, Calls Tryz.prog 88 #[.string s] w fun e w' => e = .returned (.tuple #[.int .i64 nw, .bool okw]) ∧ Below w.heap.size w w') (hS : ∀ w, Calls Tryz.prog 89 #[.string s] w fun e w' => e = .returned (.tuple #[.bool m, .string r]) ∧ Below w.heap.size w w') (hI : ∀ w, Calls Tryz.prog 90 #[.string r, .string ⟨#[101, 69]⟩] w fun e w' => e = .returned (.int .i64 ix) ∧ Below w.heap.size w w') (hP : ∀ w, Calls Tryz.prog 91 #[.string q] w fun e w' => e = .returned (.tuple #[.int .i64 np, .bool okp]) ∧ Below w.heap.size w w') (hM : ∀ w, Calls Tryz.prog 92 #[.string r2] w fun e w' => e = .returned (.tuple #[.string ma, .string mb, .bool mp, .bool okm]) ∧ Below w.heap.size w w') (hH : ∀ w, Calls Tryz.prog 93 #[.string ma, .string mb, .int .i64 np] w (ShQ x y w)) (hV : ∀ w, Calls Tryz.prog 94 #[.bool m, .string x, .string y] w fun e w' => e = .returned (.tuple #[.int .i64 nv, .bool okv]) ∧ Below w.heap.size w w') (hokr : okr = false) (hokw : okw = false) (i : Nat) (hix : ix = (i : Int)) (hil : i < r.size) (hrs : r.size ≤ 64) (hq : r.extract (i + 1) r.size = q) (hokp : okp = true) (hr2 : r.extract 0 i = r2) (hokm : okm = true) (hokv : okv = false)  :
    Calls Tryz.prog 72 #[.string s] w (RQ 0 0 true 9 w) := by
  have HR := Lib.hid hR
  have HW := Lib.hid hW
  have HS := Lib.hid hS
  have HI := Lib.hid hI
  have HP := Lib.hid hP
  have HM := Lib.hid hM
  have HH := Lib.hid hH
  have HV := Lib.hid hV
  have HT := Lib.hid (TokBlk.new w)
  have hsz : ¬ ((64 : Int) < (s.size : Int)) := by omega
  clear hR hW hS hI hP hM hH hV
  subst hokr hokw hix
  have d1 : (0 : Int) ≤ (i : Int) := by omega
  have d2 : (0 : Int) ≤ (i : Int) + 1 := by omega
  have d3 : (i : Int) + 1 ≤ (r.size : Int) := by omega
  have d4 : (i : Int) ≤ (r.size : Int) := by omega
  subst hokp hokm hokv
  go_enter Tryz.func72, Tryz.ntmps72
  go_wp2_with fail
  refine (HR.out _).mono ?_
  rintro e w1 ⟨rfl, hb⟩
  have K := Lib.hid (Kept.first HT.out hb)
  clear hb HT
  go_wp2_with fail
  refine (HW.out _).mono ?_
  rintro e w2 ⟨rfl, hb⟩
  replace K := Lib.hid (K.out.step (below_alloc0 hb))
  clear hb
  go_wp2_with fail
  refine (HS.out _).mono ?_
  rintro e w3 ⟨rfl, hb⟩
  replace K := Lib.hid (K.out.step hb)
  clear hb
  go_wp2_with fail
  refine (HI.out _).mono ?_
  rintro e w4 ⟨rfl, hb⟩
  replace K := Lib.hid (K.out.step hb)
  clear hb
  go_wp2_with fail
  refine (HP.out _).mono ?_
  rintro e w5 ⟨rfl, hb⟩
  replace K := Lib.hid (K.out.step hb)
  clear hb
  go_wp2_with fail
  refine (HM.out _).mono ?_
  rintro e w6 ⟨rfl, hb⟩
  replace K := Lib.hid (K.out.step hb)
  clear hb
  go_wp2_with fail
  refine (HH.out _).mono ?_
  rintro e w7 ⟨rfl, hb⟩
  replace K := Lib.hid (K.out.step hb)
  clear hb
  go_wp2_with fail
  refine (HV.out _).mono ?_
  rintro e w8 ⟨rfl, hb⟩
  replace K := Lib.hid (K.out.step hb)
  clear hb
  obtain ⟨⟨c0, c1, c2⟩, f0, f1, f2⟩ := K.out.1.facts
  have hlt := K.out.1.lt
  go_wp2_with fail
  refine bodyPost_ret (v := .tuple #[.agg #[.int .i64 0, .int .i64 0, .string ⟨#[]⟩], .bool true, .int .i64 9]) (by simp [results, Tryz.results72, go_sem, c0, c1, c2]) rfl ⟨rfl, ?_⟩
  exact K.out.done rfl rfl rfl

set_option maxHeartbeats 4000000 in
set_option maxRecDepth 100000 in
theorem tok_real_e (s : ByteArray) (w : World) (hs : s.size ≤ 64) (kr nr er : Int) (okr : Bool) (nw : Int) (okw : Bool) (m : Bool) (r : ByteArray) (ix : Int) (q : ByteArray) (np : Int) (okp : Bool) (r2 ma mb : ByteArray) (mp okm : Bool) (x y : ByteArray) (nv : Int) (okv : Bool) (hR : ∀ w, Calls Tryz.prog 87 #[.string s] w (RQ kr nr okr er w)) (hW : ∀ w, Calls Tryz.prog 88 #[.string s] w fun e w' => e = .returned (.tuple #[.int .i64 nw, .bool okw]) ∧ Below w.heap.size w w') (hS : ∀ w, Calls Tryz.prog 89 #[.string s] w fun e w' => e = .returned (.tuple #[.bool m, .string r]) ∧ Below w.heap.size w w') (hI : ∀ w, Calls Tryz.prog 90 #[.string r, .string ⟨#[101, 69]⟩] w fun e w' => e = .returned (.int .i64 ix) ∧ Below w.heap.size w w') (hP : ∀ w, Calls Tryz.prog 91 #[.string q] w fun e w' => e = .returned (.tuple #[.int .i64 np, .bool okp]) ∧ Below w.heap.size w w') (hM : ∀ w, Calls Tryz.prog 92 #[.string r2] w fun e w' => e = .returned (.tuple #[.string ma, .string mb, .bool mp, .bool okm]) ∧ Below w.heap.size w w') (hH : ∀ w, Calls Tryz.prog 93 #[.string ma, .string mb, .int .i64 np] w (ShQ x y w)) (hV : ∀ w, Calls Tryz.prog 94 #[.bool m, .string x, .string y] w fun e w' => e = .returned (.tuple #[.int .i64 nv, .bool okv]) ∧ Below w.heap.size w w') (hokr : okr = false) (hokw : okw = false) (i : Nat) (hix : ix = (i : Int)) (hil : i < r.size) (hrs : r.size ≤ 64) (hq : r.extract (i + 1) r.size = q) (hokp : okp = true) (hr2 : r.extract 0 i = r2) (hokm : okm = true) (hokv : okv = true)  :
    Calls Tryz.prog 72 #[.string s] w (RQ 2 nv true 0 w) := by
  have HR := Lib.hid hR
  have HW := Lib.hid hW
  have HS := Lib.hid hS
  have HI := Lib.hid hI
  have HP := Lib.hid hP
  have HM := Lib.hid hM
  have HH := Lib.hid hH
  have HV := Lib.hid hV
  have HT := Lib.hid (TokBlk.new w)
  have hsz : ¬ ((64 : Int) < (s.size : Int)) := by omega
  clear hR hW hS hI hP hM hH hV
  subst hokr hokw hix
  have d1 : (0 : Int) ≤ (i : Int) := by omega
  have d2 : (0 : Int) ≤ (i : Int) + 1 := by omega
  have d3 : (i : Int) + 1 ≤ (r.size : Int) := by omega
  have d4 : (i : Int) ≤ (r.size : Int) := by omega
  subst hokp hokm hokv
  go_enter Tryz.func72, Tryz.ntmps72
  go_wp2_with fail
  refine (HR.out _).mono ?_
  rintro e w1 ⟨rfl, hb⟩
  have K := Lib.hid (Kept.first HT.out hb)
  clear hb HT
  go_wp2_with fail
  refine (HW.out _).mono ?_
  rintro e w2 ⟨rfl, hb⟩
  replace K := Lib.hid (K.out.step (below_alloc0 hb))
  clear hb
  go_wp2_with fail
  refine (HS.out _).mono ?_
  rintro e w3 ⟨rfl, hb⟩
  replace K := Lib.hid (K.out.step hb)
  clear hb
  go_wp2_with fail
  refine (HI.out _).mono ?_
  rintro e w4 ⟨rfl, hb⟩
  replace K := Lib.hid (K.out.step hb)
  clear hb
  go_wp2_with fail
  refine (HP.out _).mono ?_
  rintro e w5 ⟨rfl, hb⟩
  replace K := Lib.hid (K.out.step hb)
  clear hb
  go_wp2_with fail
  refine (HM.out _).mono ?_
  rintro e w6 ⟨rfl, hb⟩
  replace K := Lib.hid (K.out.step hb)
  clear hb
  go_wp2_with fail
  refine (HH.out _).mono ?_
  rintro e w7 ⟨rfl, hb⟩
  replace K := Lib.hid (K.out.step hb)
  clear hb
  go_wp2_with fail
  refine (HV.out _).mono ?_
  rintro e w8 ⟨rfl, hb⟩
  replace K := Lib.hid (K.out.step hb)
  clear hb
  obtain ⟨⟨c0, c1, c2⟩, f0, f1, f2⟩ := K.out.1.facts
  have hlt := K.out.1.lt
  go_wp2_with fail
  refine bodyPost_ret (v := .tuple #[.agg #[.int .i64 2, .int .i64 nv, .string ⟨#[]⟩], .bool true, .int .i64 0]) (by simp [results, Tryz.results72, go_sem, c0, c1, c2]) rfl ⟨rfl, ?_⟩
  exact K.out.done rfl rfl rfl

set_option maxHeartbeats 4000000 in
set_option maxRecDepth 100000 in
theorem tok_badmant (s : ByteArray) (w : World) (hs : s.size ≤ 64) (kr nr er : Int) (okr : Bool) (nw : Int) (okw : Bool) (m : Bool) (r : ByteArray) (ix : Int) (r2 ma mb : ByteArray) (mp okm : Bool) (hR : ∀ w, Calls Tryz.prog 87 #[.string s] w (RQ kr nr okr er w)) (hW : ∀ w, Calls Tryz.prog 88 #[.string s] w fun e w' => e = .returned (.tuple #[.int .i64 nw, .bool okw]) ∧ Below w.heap.size w w') (hS : ∀ w, Calls Tryz.prog 89 #[.string s] w fun e w' => e = .returned (.tuple #[.bool m, .string r]) ∧ Below w.heap.size w w') (hI : ∀ w, Calls Tryz.prog 90 #[.string r, .string ⟨#[101, 69]⟩] w fun e w' => e = .returned (.int .i64 ix) ∧ Below w.heap.size w w') (hM : ∀ w, Calls Tryz.prog 92 #[.string r2] w fun e w' => e = .returned (.tuple #[.string ma, .string mb, .bool mp, .bool okm]) ∧ Below w.heap.size w w') (hokr : okr = false) (hokw : okw = false) (hix : ix < 0) (hokm : okm = false) (hr2 : r = r2)  :
    Calls Tryz.prog 72 #[.string s] w (RQ 0 0 false 0 w) := by
  have HR := Lib.hid hR
  have HW := Lib.hid hW
  have HS := Lib.hid hS
  have HI := Lib.hid hI
  have HM := Lib.hid hM
  have HT := Lib.hid (TokBlk.new w)
  have hsz : ¬ ((64 : Int) < (s.size : Int)) := by omega
  clear hR hW hS hI hM
  subst hokr hokw
  have d1 : ¬ ((0 : Int) ≤ ix) := by omega
  subst hokm hr2
  go_enter Tryz.func72, Tryz.ntmps72
  go_wp2_with fail
  refine (HR.out _).mono ?_
  rintro e w1 ⟨rfl, hb⟩
  have K := Lib.hid (Kept.first HT.out hb)
  clear hb HT
  go_wp2_with fail
  refine (HW.out _).mono ?_
  rintro e w2 ⟨rfl, hb⟩
  replace K := Lib.hid (K.out.step (below_alloc0 hb))
  clear hb
  go_wp2_with fail
  refine (HS.out _).mono ?_
  rintro e w3 ⟨rfl, hb⟩
  replace K := Lib.hid (K.out.step hb)
  clear hb
  go_wp2_with fail
  refine (HI.out _).mono ?_
  rintro e w4 ⟨rfl, hb⟩
  replace K := Lib.hid (K.out.step hb)
  clear hb
  go_wp2_with fail
  refine (HM.out _).mono ?_
  rintro e w5 ⟨rfl, hb⟩
  replace K := Lib.hid (K.out.step hb)
  clear hb
  obtain ⟨⟨c0, c1, c2⟩, f0, f1, f2⟩ := K.out.1.facts
  have hlt := K.out.1.lt
  go_wp2_with fail
  refine bodyPost_ret (v := .tuple #[.agg #[.int .i64 0, .int .i64 0, .string ⟨#[]⟩], .bool false, .int .i64 0]) (by simp [results, Tryz.results72, go_sem, c0, c1, c2]) rfl ⟨rfl, ?_⟩
  exact K.out.done rfl rfl rfl

set_option maxHeartbeats 4000000 in
set_option maxRecDepth 100000 in
theorem tok_big (s : ByteArray) (w : World) (hs : s.size ≤ 64) (kr nr er : Int) (okr : Bool) (nw : Int) (okw : Bool) (m : Bool) (r : ByteArray) (ix : Int) (r2 ma mb : ByteArray) (mp okm : Bool) (x y : ByteArray) (nv : Int) (okv : Bool) (hR : ∀ w, Calls Tryz.prog 87 #[.string s] w (RQ kr nr okr er w)) (hW : ∀ w, Calls Tryz.prog 88 #[.string s] w fun e w' => e = .returned (.tuple #[.int .i64 nw, .bool okw]) ∧ Below w.heap.size w w') (hS : ∀ w, Calls Tryz.prog 89 #[.string s] w fun e w' => e = .returned (.tuple #[.bool m, .string r]) ∧ Below w.heap.size w w') (hI : ∀ w, Calls Tryz.prog 90 #[.string r, .string ⟨#[101, 69]⟩] w fun e w' => e = .returned (.int .i64 ix) ∧ Below w.heap.size w w') (hM : ∀ w, Calls Tryz.prog 92 #[.string r2] w fun e w' => e = .returned (.tuple #[.string ma, .string mb, .bool mp, .bool okm]) ∧ Below w.heap.size w w') (hH : ∀ w, Calls Tryz.prog 93 #[.string ma, .string mb, .int .i64 0] w (ShQ x y w)) (hV : ∀ w, Calls Tryz.prog 94 #[.bool m, .string x, .string y] w fun e w' => e = .returned (.tuple #[.int .i64 nv, .bool okv]) ∧ Below w.heap.size w w') (hokr : okr = false) (hokw : okw = false) (hix : ix < 0) (hokm : okm = true) (hokv : okv = false) (hr2 : r = r2)  :
    Calls Tryz.prog 72 #[.string s] w (RQ 0 0 true 9 w) := by
  have HR := Lib.hid hR
  have HW := Lib.hid hW
  have HS := Lib.hid hS
  have HI := Lib.hid hI
  have HM := Lib.hid hM
  have HH := Lib.hid hH
  have HV := Lib.hid hV
  have HT := Lib.hid (TokBlk.new w)
  have hsz : ¬ ((64 : Int) < (s.size : Int)) := by omega
  clear hR hW hS hI hM hH hV
  subst hokr hokw
  have d1 : ¬ ((0 : Int) ≤ ix) := by omega
  subst hokm hokv hr2
  go_enter Tryz.func72, Tryz.ntmps72
  go_wp2_with fail
  refine (HR.out _).mono ?_
  rintro e w1 ⟨rfl, hb⟩
  have K := Lib.hid (Kept.first HT.out hb)
  clear hb HT
  go_wp2_with fail
  refine (HW.out _).mono ?_
  rintro e w2 ⟨rfl, hb⟩
  replace K := Lib.hid (K.out.step (below_alloc0 hb))
  clear hb
  go_wp2_with fail
  refine (HS.out _).mono ?_
  rintro e w3 ⟨rfl, hb⟩
  replace K := Lib.hid (K.out.step hb)
  clear hb
  go_wp2_with fail
  refine (HI.out _).mono ?_
  rintro e w4 ⟨rfl, hb⟩
  replace K := Lib.hid (K.out.step hb)
  clear hb
  go_wp2_with fail
  refine (HM.out _).mono ?_
  rintro e w5 ⟨rfl, hb⟩
  replace K := Lib.hid (K.out.step hb)
  clear hb
  go_wp2_with fail
  refine (HH.out _).mono ?_
  rintro e w6 ⟨rfl, hb⟩
  replace K := Lib.hid (K.out.step hb)
  clear hb
  go_wp2_with fail
  refine (HV.out _).mono ?_
  rintro e w7 ⟨rfl, hb⟩
  replace K := Lib.hid (K.out.step hb)
  clear hb
  obtain ⟨⟨c0, c1, c2⟩, f0, f1, f2⟩ := K.out.1.facts
  have hlt := K.out.1.lt
  go_wp2_with fail
  refine bodyPost_ret (v := .tuple #[.agg #[.int .i64 0, .int .i64 0, .string ⟨#[]⟩], .bool true, .int .i64 9]) (by simp [results, Tryz.results72, go_sem, c0, c1, c2]) rfl ⟨rfl, ?_⟩
  exact K.out.done rfl rfl rfl

set_option maxHeartbeats 4000000 in
set_option maxRecDepth 100000 in
theorem tok_real (s : ByteArray) (w : World) (hs : s.size ≤ 64) (kr nr er : Int) (okr : Bool) (nw : Int) (okw : Bool) (m : Bool) (r : ByteArray) (ix : Int) (r2 ma mb : ByteArray) (mp okm : Bool) (x y : ByteArray) (nv : Int) (okv : Bool) (hR : ∀ w, Calls Tryz.prog 87 #[.string s] w (RQ kr nr okr er w)) (hW : ∀ w, Calls Tryz.prog 88 #[.string s] w fun e w' => e = .returned (.tuple #[.int .i64 nw, .bool okw]) ∧ Below w.heap.size w w') (hS : ∀ w, Calls Tryz.prog 89 #[.string s] w fun e w' => e = .returned (.tuple #[.bool m, .string r]) ∧ Below w.heap.size w w') (hI : ∀ w, Calls Tryz.prog 90 #[.string r, .string ⟨#[101, 69]⟩] w fun e w' => e = .returned (.int .i64 ix) ∧ Below w.heap.size w w') (hM : ∀ w, Calls Tryz.prog 92 #[.string r2] w fun e w' => e = .returned (.tuple #[.string ma, .string mb, .bool mp, .bool okm]) ∧ Below w.heap.size w w') (hH : ∀ w, Calls Tryz.prog 93 #[.string ma, .string mb, .int .i64 0] w (ShQ x y w)) (hV : ∀ w, Calls Tryz.prog 94 #[.bool m, .string x, .string y] w fun e w' => e = .returned (.tuple #[.int .i64 nv, .bool okv]) ∧ Below w.heap.size w w') (hokr : okr = false) (hokw : okw = false) (hix : ix < 0) (hokm : okm = true) (hokv : okv = true) (hr2 : r = r2)  :
    Calls Tryz.prog 72 #[.string s] w (RQ 2 nv true 0 w) := by
  have HR := Lib.hid hR
  have HW := Lib.hid hW
  have HS := Lib.hid hS
  have HI := Lib.hid hI
  have HM := Lib.hid hM
  have HH := Lib.hid hH
  have HV := Lib.hid hV
  have HT := Lib.hid (TokBlk.new w)
  have hsz : ¬ ((64 : Int) < (s.size : Int)) := by omega
  clear hR hW hS hI hM hH hV
  subst hokr hokw
  have d1 : ¬ ((0 : Int) ≤ ix) := by omega
  subst hokm hokv hr2
  go_enter Tryz.func72, Tryz.ntmps72
  go_wp2_with fail
  refine (HR.out _).mono ?_
  rintro e w1 ⟨rfl, hb⟩
  have K := Lib.hid (Kept.first HT.out hb)
  clear hb HT
  go_wp2_with fail
  refine (HW.out _).mono ?_
  rintro e w2 ⟨rfl, hb⟩
  replace K := Lib.hid (K.out.step (below_alloc0 hb))
  clear hb
  go_wp2_with fail
  refine (HS.out _).mono ?_
  rintro e w3 ⟨rfl, hb⟩
  replace K := Lib.hid (K.out.step hb)
  clear hb
  go_wp2_with fail
  refine (HI.out _).mono ?_
  rintro e w4 ⟨rfl, hb⟩
  replace K := Lib.hid (K.out.step hb)
  clear hb
  go_wp2_with fail
  refine (HM.out _).mono ?_
  rintro e w5 ⟨rfl, hb⟩
  replace K := Lib.hid (K.out.step hb)
  clear hb
  go_wp2_with fail
  refine (HH.out _).mono ?_
  rintro e w6 ⟨rfl, hb⟩
  replace K := Lib.hid (K.out.step hb)
  clear hb
  go_wp2_with fail
  refine (HV.out _).mono ?_
  rintro e w7 ⟨rfl, hb⟩
  replace K := Lib.hid (K.out.step hb)
  clear hb
  obtain ⟨⟨c0, c1, c2⟩, f0, f1, f2⟩ := K.out.1.facts
  have hlt := K.out.1.lt
  go_wp2_with fail
  refine bodyPost_ret (v := .tuple #[.agg #[.int .i64 2, .int .i64 nv, .string ⟨#[]⟩], .bool true, .int .i64 0]) (by simp [results, Tryz.results72, go_sem, c0, c1, c2]) rfl ⟨rfl, ?_⟩
  exact K.out.done rfl rfl rfl

set_option maxHeartbeats 4000000 in
set_option maxRecDepth 100000 in
theorem tok_long (s : ByteArray) (w : World) (hs : 64 < s.size) :
    Calls Tryz.prog 72 #[.string s] w (RQ 0 0 false 0 w) := by
  have hT := TokBlk.new w
  have hlt := hT.lt
  obtain ⟨⟨c0, c1, c2⟩, f0, f1, f2⟩ := hT.facts
  have hsz : (64 : Int) < (s.size : Int) := by omega
  clear hT
  go_enter Tryz.func72, Tryz.ntmps72
  go_wp2_with fail
  refine bodyPost_ret (v := .tuple #[.agg #[.int .i64 0, .int .i64 0, .string ⟨#[]⟩], .bool false, .int .i64 0]) (by simp [results, Tryz.results72, go_sem, c0, c1, c2]) rfl ⟨rfl, ?_⟩
  exact (Below.refl _ _).alloc (Nat.le_refl _) _

end Go.Proofs.YtlbedeiehhgphaaGreatDoor.QD
