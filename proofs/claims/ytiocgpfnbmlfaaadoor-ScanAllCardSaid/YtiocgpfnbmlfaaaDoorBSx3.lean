/- Own texts of this claim, one behind the other (wip/prune.py). -/
import Derived.Test.YtiocgpfnbmlfaaaDoorBSx2
import Derived.Defers
import Derived.Recover
import Derived.RegionTactic
import Derived.BigRegion
import Derived.BigQuiet
import Derived.Lib.SlBytesConst
import Derived.Test.YtiocgpfnbmlfaaaDoorProg
import Derived.Below
import Derived.Deep.Draws
import Derived.Deep.AppendLies
import Derived.Maps.AppendAt
import Derived.OwnWalk
import Derived.Laws.BytesArg
import Derived.Laws.MakeOwn
import Derived.Laws.OwnMore
import Derived.Deep.OwnRows
import Derived.Tactics
import Derived.Lib.ConvBytes
import Derived.Laws.Slices
import Derived.WalkKit
import Derived.KernelRfl
import Derived.RowKit3
import Derived.Deep.LoopGhost
import Derived.Deep.QuietTactic
import Derived.WideLaws
import Derived.Deep.DeepCutAuto
import Derived.Deep.CutBlock
import Derived.Deep.RegionHeld3
import Derived.Laws.Rows
import Derived.Lib.AppendStr
import Derived.ArgAppend
import Derived.Laws.IdiomCopy
import Derived.OrdersHeld
import Derived.Laws.BitsLemmas
import Derived.RowKit
import Derived.Test.YtiocgpfnbmlfaaaDoorBSx0
import Derived.Test.YtiocgpfnbmlfaaaDoorBSx1
import Derived.Test.YtiocgpfnbmlfaaaDoorWWords
import Derived.Test.YtiocgpfnbmlfaaaDoorWLast
import Derived.Test.YtiocgpfnbmlfaaaDoorWEqStruct
import Derived.Test.YtiocgpfnbmlfaaaDoorWRepsOne
import Derived.Test.YtiocgpfnbmlfaaaDoorWGuard

/-! ## SI -/
namespace Go.Proofs.YtiocgpfnbmlfaaaDoor.SC
open Go Go.RowKit Go.Proofs.YtiocgpfnbmlfaaaDoor Go.Proofs.YtiocgpfnbmlfaaaDoor.PS1 Go.Proofs.YtiocgpfnbmlfaaaDoor.QD Go.Proofs.YtiocgpfnbmlfaaaDoorW.PrintWords Go.Proofs.YtiocgpfnbmlfaaaDoorW.PrintLast

/-- the three results' blocks -/
def NBlk (b : Nat) (w : World) : Prop := w.heap[b]? = some (.cells #[.int .i64 0, .int .i64 0, .string ⟨#[]⟩] 27 (0, 0)) ∧ w.heap[b + 1]? = some (.cells #[.int .i64 0] 3 (0, 0)) ∧ w.heap[b + 1 + 1]? = some (.cells #[.int .i64 0] 28 (0, 0))

theorem NBlk.facts {b : Nat} {w : World} (h : NBlk b w) : (w.cell? ⟨b, 0, none⟩ = some (.int .i64 0) ∧ w.cell? ⟨b, 1, none⟩ = some (.int .i64 0) ∧ w.cell? ⟨b, 2, none⟩ = some (.string ⟨#[]⟩) ∧ w.cell? ⟨b + 1, 0, none⟩ = some (.int .i64 0) ∧ w.cell? ⟨b + 1 + 1, 0, none⟩ = some (.int .i64 0)) ∧
    (w.frozen? ⟨b, 0, none⟩ = false ∧ w.frozen? ⟨b, 1, none⟩ = false ∧ w.frozen? ⟨b, 2, none⟩ = false ∧ w.frozen? ⟨b + 1, 0, none⟩ = false ∧ w.frozen? ⟨b + 1 + 1, 0, none⟩ = false) := by
  obtain ⟨h0, h1, h2⟩ := h
  refine ⟨⟨?_, ?_, ?_, ?_, ?_⟩, Lib.frozen_of_heap h0 0, Lib.frozen_of_heap h0 1, Lib.frozen_of_heap h0 2, Lib.frozen_of_heap h1 0, Lib.frozen_of_heap h2 0⟩
  · rw [Lib.cell_of_heap h0]; rfl
  · rw [Lib.cell_of_heap h0]; rfl
  · rw [Lib.cell_of_heap h0]; rfl
  · rw [Lib.cell_of_heap h1]; rfl
  · rw [Lib.cell_of_heap h2]; rfl
/-- the world behind the closure that caught a panic -/
def caught (b : Nat) (er : Int) (w : World) : World :=
  ((((w.setCell ⟨b, 0, none⟩ (.int .i64 0)).setCell ⟨b, 1, none⟩ (.int .i64 0)).setCell ⟨b, 2, none⟩ (.string ⟨#[]⟩)).setCell ⟨b + 1, 0, none⟩ (.int .i64 0)).setCell ⟨b + 1 + 1, 0, none⟩ (.int .i64 er)

set_option maxHeartbeats 1000000 in
set_option maxRecDepth 100000 in
theorem catch_gave (b : Nat) (er : Int) (older : List PanicEntry) (w : World) (h : NBlk b w) :
    CallsD Tryd.prog 48 #[.pointer (some ⟨b, 0, none⟩), .pointer (some ⟨b + 1, 0, none⟩), .pointer (some ⟨b + 1 + 1, 0, none⟩)] (.panicking ({ v := .iface 28 (.int .i64 er), recovered := false } :: older)) w fun e u' w' =>
      e = .returned (.tuple #[]) ∧ u' = .panicking ({ v := .iface 28 (.int .i64 er), recovered := true } :: older) ∧ w' = caught b er w := by
  obtain ⟨⟨c0, c1, c2, c3, c4⟩, f0, f1, f2, f3, f4⟩ := h.facts
  clear h
  have hta : ∀ w, (Instr.typeAssert (.iface 28 (.int .i64 er)) 20 28 true).run Tryd.prog w = .ok (.tuple #[.int .i64 er, .bool true]) w := fun _ => by kernel_rfl
  refine callsD_of_wpS Tryd.func48 rfl fun c₀ cs hu => ?_
  apply wpS_seq
  apply wpS_region
  simp [wpOpsS, go_sem, recoverD, hu, Tryd.ntmps48, Exit.thenS]
  refine wpS_of_wp ?_
  generalize hQ : (fun (e : Exit) (a' : Act) (w' : World) => bodyPostS Tryd.prog Tryd.f48 c₀ cs _ e a' _ w') = Q
  clear hu
  have HQ := Lib.hid hQ
  clear hQ
  rw [show (#[Value.pointer (some ⟨b, 0, none⟩), Value.pointer (some ⟨b + 1, 0, none⟩), Value.pointer (some ⟨b + 1 + 1, 0, none⟩)] ++ ((Array.replicate 16 undef).setIfInBounds 3 (Value.iface 28 (Value.int IntKind.i64 er))).setIfInBounds 0 (Value.iface 28 (Value.int IntKind.i64 er)) : Array Value) =
    #[Value.pointer (some ⟨b, 0, none⟩), Value.pointer (some ⟨b + 1, 0, none⟩), Value.pointer (some ⟨b + 1 + 1, 0, none⟩), Value.iface 28 (Value.int IntKind.i64 er), undef, undef, Value.iface 28 (Value.int IntKind.i64 er), undef, undef, undef, undef, undef, undef, undef, undef, undef, undef, undef, undef] from rfl]
  go_wp2_with fail
  rw [← HQ.out]
  simp [bodyPostS, results, Tryd.results48, caught]

set_option maxHeartbeats 1000000 in
set_option maxRecDepth 100000 in
theorem catch_none (p0 p1 p2 : Value) (w : World) :
    CallsD Tryd.prog 48 #[p0, p1, p2] .returning w fun e u' w' => e = .returned (.tuple #[]) ∧ u' = .returning ∧ w' = w := by
  refine callsD_of_wpS Tryd.func48 rfl fun c₀ cs hu => ?_
  apply wpS_seq
  apply wpS_region
  simp [wpOpsS, go_sem, recoverD, hu, Tryd.ntmps48, Exit.thenS]
  refine wpS_of_wp ?_
  generalize hQ : (fun (e : Exit) (a' : Act) (w' : World) => bodyPostS Tryd.prog Tryd.f48 c₀ cs _ e a' _ w') = Q
  have HU := Lib.hid hu
  clear hu
  have HQ := Lib.hid hQ
  clear hQ
  rw [show (#[p0, p1, p2] ++ ((Array.replicate 16 undef).setIfInBounds 3 Value.nilIface).setIfInBounds 0 Value.nilIface : Array Value) =
    #[p0, p1, p2, Value.nilIface, undef, undef, Value.nilIface, undef, undef, undef, undef, undef, undef, undef, undef, undef, undef, undef, undef] from rfl]
  go_wp2_with fail
  rw [← HQ.out]
  cases c₀
  have := HU.out
  simp_all [bodyPostS, results, Tryd.results48]

def NextTQ (k n : Int) (x : List UInt8) (q : Int) (er : Int) (w : World) (e : Ending) (w' : World) : Prop :=
  e = .returned (.tuple #[.agg #[.int .i64 k, .int .i64 n, .string (S x)], .int .i64 q, .int .i64 er]) ∧ Below w.heap.size w w'

set_option maxHeartbeats 1000000 in
set_option maxRecDepth 100000 in
theorem nextT_bad (A : Option Addr) (n cap : Nat) (p : Int) (w : World) (h : p < 0 ∨ (0 ≤ p ∧ (n : Int) < p)) :
    Calls Tryd.prog 24 #[.slice A n cap, .int .i64 p] w (NextTQ 0 0 [] 0 21 w) := by
  rcases h with h | ⟨h0, h⟩
  · go_enter_defers Tryd.func24, Tryd.ntmps24
    go_wp2_with fail
    simp [bodyPostD, Leaves, results, Tryd.results24, go_sem, NextTQ, S]
    exact (((Below.refl _ _).alloc (Nat.le_refl _) _).alloc (by simp) _).alloc (by simp; omega) _
  · have h1 : ¬ p < 0 := by omega
    clear h0
    go_enter_defers Tryd.func24, Tryd.ntmps24
    go_wp2_with fail
    simp [bodyPostD, Leaves, results, Tryd.results24, go_sem, NextTQ, S]
    exact (((Below.refl _ _).alloc (Nat.le_refl _) _).alloc (by simp) _).alloc (by simp; omega) _

/-- the world when the reader stands -/
def stand (w : World) (A : Option Addr) (n cap p : Nat) : World :=
  (((w.alloc (.cells #[.int .i64 0, .int .i64 0, .string ⟨#[]⟩] 27)).alloc (.cells #[.int .i64 0] 3)).alloc (.cells #[.int .i64 0] 28)).alloc (.cells #[.slice A n cap, .int .i64 (p : Int)] 71)
theorem stand_below (w : World) (A : Option Addr) (n cap p : Nat) : Below w.heap.size w (stand w A n cap p) :=
  ((((Below.refl _ _).alloc (Nat.le_refl _) _).alloc (by simp) _).alloc (by simp; omega) _).alloc (by simp; omega) _
theorem stand_at {w : World} {A : Option Addr} {n cap p : Nat} {B : List UInt8} (hrow : (Kd.int .u8).C w A B.length (bI B)) (hn : B.length = n) (hcap : B.length ≤ cap) (hp : p ≤ B.length) (hs : B.length ≤ 140737488351232) :
    At w (stand w A n cap p) (w.heap.size + 1 + 1 + 1) A cap B (B.drop p) := by
  subst hn
  refine ⟨⟨?_, by omega, stand_below ..⟩, hrow, List.drop_suffix _ _, hs, hcap⟩
  have : B.length - (B.drop p).length = p := by rw [List.length_drop]; omega
  rw [this]
  have := heap_alloc_new (((w.alloc (.cells #[.int .i64 0, .int .i64 0, .string ⟨#[]⟩] 27)).alloc (.cells #[.int .i64 0] 3)).alloc (.cells #[.int .i64 0] 28)) (.cells #[.slice A B.length cap, .int .i64 (p : Int)] 71)
  simpa [Rd, stand] using this
theorem stand_blk (w : World) (A : Option Addr) (n cap p : Nat) : NBlk w.heap.size (stand w A n cap p) := by
  have s1 : (w.alloc (.cells #[.int .i64 0, .int .i64 0, .string ⟨#[]⟩] 27)).heap.size = w.heap.size + 1 := by simp
  have s2 : ((w.alloc (.cells #[.int .i64 0, .int .i64 0, .string ⟨#[]⟩] 27)).alloc (.cells #[.int .i64 0] 3)).heap.size = w.heap.size + 1 + 1 := by simp
  have s3 : (((w.alloc (.cells #[.int .i64 0, .int .i64 0, .string ⟨#[]⟩] 27)).alloc (.cells #[.int .i64 0] 3)).alloc (.cells #[.int .i64 0] 28)).heap.size = w.heap.size + 1 + 1 + 1 := by simp
  have h0 := heap_alloc_new w (.cells #[.int .i64 0, .int .i64 0, .string ⟨#[]⟩] 27)
  have h1 := heap_alloc_new (w.alloc (.cells #[.int .i64 0, .int .i64 0, .string ⟨#[]⟩] 27)) (.cells #[.int .i64 0] 3)
  have h2 := heap_alloc_new ((w.alloc (.cells #[.int .i64 0, .int .i64 0, .string ⟨#[]⟩] 27)).alloc (.cells #[.int .i64 0] 3)) (.cells #[.int .i64 0] 28)
  rw [s1] at h1
  rw [s2] at h2
  unfold stand
  refine ⟨?_, ?_, ?_⟩
  · rw [Below.heap_alloc _ _ _ (by omega), Below.heap_alloc _ _ _ (by omega), Below.heap_alloc _ _ _ (by omega)]; exact h0
  · rw [Below.heap_alloc _ _ _ (by omega), Below.heap_alloc _ _ _ (by omega)]; exact h1
  · rw [Below.heap_alloc _ _ _ (by omega)]; exact h2
theorem stand_size (w : World) (A : Option Addr) (n cap p : Nat) : (stand w A n cap p).heap.size = w.heap.size + 1 + 1 + 1 + 1 := by simp [stand]
theorem NBlk.kept {b g : Nat} {w w' : World} (h : NBlk b w) (hk : Kb g w.heap.size w w') (hg : b + 1 + 1 < g) (hs : b + 1 + 1 < w.heap.size) : NBlk b w' :=
  ⟨(hk.block _ (by omega) (by omega)).trans h.1, (hk.block _ (by omega) (by omega)).trans h.2.1, (hk.block _ hs (by omega)).trans h.2.2⟩

theorem blk_set3 {w : World} {b : Nat} {x0 x1 x2 : Value} {t : TypeId} {fr : Nat × Nat} (h : w.heap[b]? = some (.cells #[x0, x1, x2] t fr)) (y0 y1 y2 : Value) :
    (((w.setCell ⟨b, 0, none⟩ y0).setCell ⟨b, 1, none⟩ y1).setCell ⟨b, 2, none⟩ y2).heap[b]? = some (.cells #[y0, y1, y2] t fr) := by
  simp only [World.setCell, Array.getElem?_modify, if_true, h]
  rfl
theorem blk_set1 {w : World} {b : Nat} {x0 : Value} {t : TypeId} {fr : Nat × Nat} (h : w.heap[b]? = some (.cells #[x0] t fr)) (y0 : Value) : (w.setCell ⟨b, 0, none⟩ y0).heap[b]? = some (.cells #[y0] t fr) := by
  simp only [World.setCell, Array.getElem?_modify, if_true, h]
  rfl
theorem blk_far {w : World} {b b' o : Nat} {v : Value} (h : b ≠ b') : (w.setCell ⟨b', o, none⟩ v).heap[b]? = w.heap[b]? := Below.heap_setCell w ⟨b', o, none⟩ v b h
/-- the results, behind the last statement -/
def told (b : Nat) (k z q x : Value) (w : World) : World :=
  (((((((w.setCell ⟨b, 0, none⟩ k).setCell ⟨b, 1, none⟩ z).setCell ⟨b, 2, none⟩ x).setCell ⟨b, 0, none⟩ k).setCell ⟨b, 1, none⟩ z).setCell ⟨b, 2, none⟩ x).setCell ⟨b + 1, 0, none⟩ q).setCell ⟨b + 1 + 1, 0, none⟩ (.int .i64 0)
theorem told_cells {b : Nat} {w : World} (h : NBlk b w) (k z q x : Value) : (told b k z q x w).cell? ⟨b, 0, none⟩ = #[k, z, x][0]? ∧ (told b k z q x w).cell? ⟨b, 1, none⟩ = #[k, z, x][1]? ∧ (told b k z q x w).cell? ⟨b, 2, none⟩ = #[k, z, x][2]? ∧
    (told b k z q x w).cell? ⟨b + 1, 0, none⟩ = #[q][0]? ∧ (told b k z q x w).cell? ⟨b + 1 + 1, 0, none⟩ = #[Value.int .i64 0][0]? := by
  obtain ⟨h0, h1, h2⟩ := h
  have e0 : (told b k z q x w).heap[b]? = some (.cells #[k, z, x] 27 (0, 0)) := by
    unfold told
    rw [blk_far (by omega), blk_far (by omega)]
    exact blk_set3 (blk_set3 h0 _ _ _) _ _ _
  have e1 : (told b k z q x w).heap[b + 1]? = some (.cells #[q] 3 (0, 0)) := by
    unfold told
    rw [blk_far (by omega)]
    refine blk_set1 (x0 := .int .i64 0) ?_ _
    rw [blk_far (by omega), blk_far (by omega), blk_far (by omega), blk_far (by omega), blk_far (by omega), blk_far (by omega)]
    exact h1
  have e2 : (told b k z q x w).heap[b + 1 + 1]? = some (.cells #[.int .i64 0] 28 (0, 0)) := by
    unfold told
    refine blk_set1 (x0 := .int .i64 0) ?_ _
    rw [blk_far (by omega), blk_far (by omega), blk_far (by omega), blk_far (by omega), blk_far (by omega), blk_far (by omega), blk_far (by omega)]
    exact h2
  exact ⟨Lib.cell_of_heap e0 0, Lib.cell_of_heap e0 1, Lib.cell_of_heap e0 2, Lib.cell_of_heap e1 0, Lib.cell_of_heap e2 0⟩
theorem told_below {b : Nat} {w : World} (k z q x : Value) {w0 : World} (h : Below b w0 w) : Below b w0 (told b k z q x w) :=
  (((((((h.setCell (p := ⟨b, 0, none⟩) (Nat.le_refl _) _).setCell (p := ⟨b, 1, none⟩) (Nat.le_refl _) _).setCell (p := ⟨b, 2, none⟩) (Nat.le_refl _) _).setCell (p := ⟨b, 0, none⟩) (Nat.le_refl _) _).setCell (p := ⟨b, 1, none⟩) (Nat.le_refl _) _).setCell (p := ⟨b, 2, none⟩) (Nat.le_refl _) _).setCell (p := ⟨b + 1, 0, none⟩) (Nat.le_succ _) _).setCell (p := ⟨b + 1 + 1, 0, none⟩) (Nat.le_succ_of_le (Nat.le_succ _)) _

/-- what Next answers -/
def nextL (r : TkR) (n : Nat) : Int × Int × List UInt8 × Int × Int :=
  match r with
  | .inl er => (0, 0, [], 0, er)
  | .inr (k, z, x, s) => (k, z, x, ((n - s.length : Nat) : Int), 0)

set_option maxHeartbeats 2000000 in
set_option maxRecDepth 100000 in
theorem nextT_any (A : Option Addr) (n cap p : Nat) (B : List UInt8) (w : World) (hrow : (Kd.int .u8).C w A B.length (bI B)) (hn : B.length = n) (hcap : B.length ≤ cap) (hp : p ≤ n) (hs : n ≤ 140737488351232) (r : TkR) (hr : tokenL (B.drop p) = r) :
    Calls Tryd.prog 24 #[.slice A n cap, .int .i64 (p : Int)] w (NextTQ (nextL r n).1 (nextL r n).2.1 (nextL r n).2.2.1 (nextL r n).2.2.2.1 (nextL r n).2.2.2.2 w) := by
  have hmf : ∀ (fn : Fn) (first cap : Array Value) (w : World), (Instr.makeFunc fn first cap).run Tryd.prog w = .ok (.func fn first cap) w := fun _ _ _ _ => rfl
  have HA := Lib.hid (stand_at (p := p) hrow hn hcap (by omega) (by omega))
  have HN := Lib.hid hn
  have HR := Lib.hid hr
  have p0 : ¬ ((p : Int) < 0) := by omega
  have p1 : ¬ ((n : Int) < (p : Int)) := by omega
  clear hrow hn hcap hr
  go_enter_defers Tryd.func24, Tryd.ntmps24
  go_wp2_with fail
  have HT := token_any HA.out
  rw [HR.out] at HT
  refine HT.mono ?_
  clear HT
  rintro e w1 hq
  rcases tkQ_cases hq with ⟨er, hr, rfl, hk⟩ | ⟨k, z, x, s, hr, rfl, ha, hk⟩
  · have hNB := (stand_blk w A n cap p).kept hk (by omega) (by rw [stand_size]; omega)
    have HB := Lib.hid ((stand_below w A n cap p).trans (hk.below (by omega) (by rw [stand_size]; omega)))
    subst hr
    clear hk hq
    go_wp2_with fail
    refine leaves_cons (f := 48) (args := #[.pointer (some ⟨w.heap.size, 0, none⟩), .pointer (some ⟨w.heap.size + 1, 0, none⟩), .pointer (some ⟨w.heap.size + 1 + 1, 0, none⟩)]) (by simp) (by simp [go_sem]) ?_
    refine (catch_gave w.heap.size er [] w1 hNB).mono ?_
    rintro e u' w'' ⟨rfl, rfl, rfl⟩
    obtain ⟨⟨c0, c1, c2, c3, c4⟩, f0, f1, f2, f3, f4⟩ := hNB.facts
    simp [Leaves, settle, results, Tryd.results24, go_sem, caught, c0, c1, c2, c3, c4, NextTQ, nextL, S]
    exact ((((HB.out.setCell (p := ⟨w.heap.size, 0, none⟩) (Nat.le_refl _) _).setCell (p := ⟨w.heap.size, 1, none⟩) (Nat.le_refl _) _).setCell (p := ⟨w.heap.size, 2, none⟩) (Nat.le_refl _) _).setCell (p := ⟨w.heap.size + 1, 0, none⟩) (Nat.le_succ _) _).setCell (p := ⟨w.heap.size + 1 + 1, 0, none⟩) (Nat.le_succ_of_le (Nat.le_succ _)) _
  · have hNB := (stand_blk w A n cap p).kept hk (by omega) (by rw [stand_size]; omega)
    have HB := Lib.hid ((stand_below w A n cap p).trans (hk.below (by omega) (by rw [stand_size]; omega)))
    have HA2 := Lib.hid ha
    have HNB := Lib.hid hNB
    obtain ⟨⟨c0, c1, c2, c3, c4⟩, f0, f1, f2, f3, f4⟩ := hNB.facts
    obtain ⟨⟨k0, k1⟩, l0, l1⟩ := ha.st.blk.facts
    subst hr
    clear hk hq ha hNB
    go_wp2_with fail
    go_region
    go_wp2_with fail
    refine leaves_cons (f := 48) (args := #[.pointer (some ⟨w.heap.size, 0, none⟩), .pointer (some ⟨w.heap.size + 1, 0, none⟩), .pointer (some ⟨w.heap.size + 1 + 1, 0, none⟩)]) (by simp) (by simp [go_sem]) ?_
    refine (catch_none _ _ _ _).mono ?_
    rintro e u' w'' ⟨rfl, rfl, rfl⟩
    have ht := told_cells HNB.out (.int .i64 k) (.int .i64 z) (.int .i64 ((B.length - s.length : Nat) : Int)) (.string (S x))
    have hb := told_below (.int .i64 k) (.int .i64 z) (.int .i64 ((B.length - s.length : Nat) : Int)) (.string (S x)) HB.out
    unfold told at ht hb
    have HB2 := Lib.hid hb
    clear hb c0 c1 c2 c3 c4 f0 f1 f2 f3 f4 k0 k1 l0 l1
    rw [← HN.out]
    generalize ((((((((w1.setCell ⟨w.heap.size, 0, none⟩ (Value.int .i64 k)).setCell ⟨w.heap.size, 1, none⟩ (Value.int .i64 z)).setCell ⟨w.heap.size, 2, none⟩ (Value.string (S x))).setCell ⟨w.heap.size, 0, none⟩ (Value.int .i64 k)).setCell ⟨w.heap.size, 1, none⟩ (Value.int .i64 z)).setCell ⟨w.heap.size, 2, none⟩ (Value.string (S x))).setCell ⟨w.heap.size + 1, 0, none⟩ (Value.int .i64 ((B.length - s.length : Nat) : Int))).setCell ⟨w.heap.size + 1 + 1, 0, none⟩ (Value.int .i64 0)) = W at *
    obtain ⟨c0, c1, c2, c3, c4⟩ := ht
    simp [Leaves, settle, results, Tryd.results24, go_sem, c0, c1, c2, c3, c4, NextTQ, nextL]
    exact HB2.out.drew

end Go.Proofs.YtiocgpfnbmlfaaaDoor.SC

/-! ## SJ -/
namespace Go.Proofs.YtiocgpfnbmlfaaaDoor.SC
open Go Go.RowKit Go.Proofs.YtiocgpfnbmlfaaaDoor Go.Proofs.YtiocgpfnbmlfaaaDoor.PS1 Go.Proofs.YtiocgpfnbmlfaaaDoor.QD Go.Proofs.YtiocgpfnbmlfaaaDoorW.PrintWords Go.Proofs.YtiocgpfnbmlfaaaDoorW.PrintLast

/-- numbers as bytes -/
def unI (l : List Int) : List UInt8 := l.map fun n => UInt8.ofNat n.toNat
def isB (l : List Int) : Prop := ∀ x ∈ l, 0 ≤ x ∧ x < 256
instance (l : List Int) : Decidable (isB l) := by unfold isB; infer_instance
theorem bI_un (l : List Int) (h : isB l) : bI (unI l) = l := by
  unfold bI unI
  rw [List.map_map]
  conv => rhs; rw [← List.map_id l]
  refine List.map_congr_left fun x hx => ?_
  obtain ⟨h1, h2⟩ := h x hx
  simp only [Function.comp, id_eq, UInt8.toNat_ofNat']
  omega
theorem un_bI (l : List UInt8) : unI (bI l) = l := by
  unfold bI unI
  rw [List.map_map]
  conv => rhs; rw [← List.map_id l]
  refine List.map_congr_left fun x hx => ?_
  simp
theorem bI_isB (l : List UInt8) : isB (bI l) := by
  intro x hx
  unfold bI at hx
  obtain ⟨c, _, rfl⟩ := List.mem_map.1 hx
  have := c.toNat_lt
  omega
theorem unI_len (l : List Int) : (unI l).length = l.length := by simp [unI]
/-- what Next answers at any place -/
def nextP (B : List UInt8) (p : Int) : Int × Int × List UInt8 × Int × Int :=
  if p < 0 ∨ (B.length : Int) < p then (0, 0, [], 0, 21) else nextL (tokenL (B.drop p.toNat)) B.length
theorem nextP_any (A : Option Addr) (cap : Nat) (B : List UInt8) (p : Int) (w : World) (hrow : (Kd.int .u8).C w A B.length (bI B)) (hcap : B.length ≤ cap) (hs : B.length ≤ 140737488351232) :
    Calls Tryd.prog 24 #[.slice A B.length cap, .int .i64 p] w (NextTQ (nextP B p).1 (nextP B p).2.1 (nextP B p).2.2.1 (nextP B p).2.2.2.1 (nextP B p).2.2.2.2 w) := by
  unfold nextP
  by_cases h : p < 0 ∨ (B.length : Int) < p
  · rw [if_pos h]
    exact nextT_bad A B.length cap p w (by omega)
  · rw [if_neg h]
    obtain ⟨q, rfl⟩ : ∃ q : Nat, p = (q : Int) := ⟨p.toNat, by omega⟩
    rw [Int.toNat_natCast]
    exact nextT_any A B.length cap q B w hrow rfl hcap (by omega) hs _ rfl

end Go.Proofs.YtiocgpfnbmlfaaaDoor.SC
namespace Go.Proofs.YtiocgpfnbmlfaaaDoor
open Go Go.RowKit Go.Proofs.YtiocgpfnbmlfaaaDoorW.PrintWords

def scan_Next.f (l0 : List Int) (a1 : Int) : Option (Int × Int × ByteArray × Int × Int) :=
  if SC.isB l0 ∧ l0.length ≤ 140737488351232 then some ((SC.nextP (SC.unI l0) a1).1, (SC.nextP (SC.unI l0) a1).2.1, QD.S (SC.nextP (SC.unI l0) a1).2.2.1, (SC.nextP (SC.unI l0) a1).2.2.2.1, (SC.nextP (SC.unI l0) a1).2.2.2.2) else none
theorem scan_Next.calls (A0 : Option Addr) (c0 : Nat) (l0 : List Int) (a1 : Int) (r1 r2 : Int) (r3 : ByteArray) (r4 r5 : Int) (w : World) (hr0 : Kd.C (Kd.int .u8) w A0 l0.length l0) (hc0 : l0.length ≤ c0) (h : scan_Next.f l0 a1 = some (r1, r2, r3, r4, r5)) :
    Calls Tryd.prog 24 #[.slice A0 l0.length c0, .int .i64 a1] w fun e w' => e = .returned (.tuple #[.agg #[.int .i64 r1, .int .i64 r2, .string r3], .int .i64 r4, .int .i64 r5]) ∧ Below w.heap.size w w' := by
  unfold scan_Next.f at h
  split at h
  · rename_i hb
    simp only [Option.some.injEq, Prod.mk.injEq] at h
    obtain ⟨rfl, rfl, rfl, rfl, rfl⟩ := h
    have hun := SC.bI_un l0 hb.1
    have := SC.nextP_any A0 c0 (SC.unI l0) a1 w (by rw [hun, SC.unI_len]; exact hr0) (by rw [SC.unI_len]; exact hc0) (by rw [SC.unI_len]; exact hb.2)
    rw [SC.unI_len] at this
    exact this
  · cases h

end Go.Proofs.YtiocgpfnbmlfaaaDoor

/-! ## SK -/
namespace Go.Proofs.YtiocgpfnbmlfaaaDoor.SC
open Go Go.RowKit Go.Proofs.YtiocgpfnbmlfaaaDoor Go.Proofs.YtiocgpfnbmlfaaaDoor.PS1 Go.Proofs.YtiocgpfnbmlfaaaDoor.QD Go.Proofs.YtiocgpfnbmlfaaaDoorW.PrintWords Go.Proofs.YtiocgpfnbmlfaaaDoorW.PrintLast

/-- bytes just made, as a row that is read -/
theorem row_fresh (W : World) (l : List UInt8) (hl : l.length ≤ 140737488351232) (fr : Nat × Nat) : (Kd.int .u8).C (W.alloc (.cells ((bI l).map (Value.int .u8)).toArray 5 fr)) (some ⟨W.heap.size, 0, none⟩) l.length (bI l) := by
  refine Kd.C_of_reads (enc := Value.int .u8) (d := (0 : Int)) (h1 := fun _ => rfl) ⟨bI_len l, by omega, fun _ => ⟨_, rfl, fun j hj => ?_⟩⟩
  have hb := heap_alloc_new W (.cells ((bI l).map (Value.int .u8)).toArray 5 fr)
  have ha : (⟨W.heap.size, 0, none⟩ : Addr).add j = ⟨W.heap.size, 0 + j, none⟩ := by
    simp [Addr.add]
    intro h; exact h.symm
  rw [ha, Lib.cell_of_heap hb, Nat.zero_add]
  have hj' : j < (bI l).length := by rw [bI_len]; exact hj
  simp [List.getD, hj']

theorem answer_text : nextP [40, 97, 41, 32, 98] 0 = (6, 0, [97], 3, 0) := by
  have h : tokenL [40, 97, 41, 32, 98] = .inr (6, 0, [97], [32, 98]) := by
    have hs : skipL false [40, 97, 41, 32, 98] = [40, 97, 41, 32, 98] := by decide
    unfold tokenL
    rw [hs]
    show strL (rnd 1 [97, 41, 32, 98]) = _
    rw [rnd_put 1 97 _ (by decide) (by decide) (by decide)]
    show strL ((rnd 1 [41, 32, 98]).map _) = _
    rw [rnd_close]
    rfl
  unfold nextP
  rw [if_neg (by decide)]
  show nextL (tokenL [40, 97, 41, 32, 98]) 5 = _
  rw [h]
  rfl

set_option maxHeartbeats 2000000 in
set_option maxRecDepth 100000 in
theorem answers_any (w : World) : Calls Tryd.prog 23 #[] w fun e w' => e = .returned (.bool true) ∧ Below w.heap.size w w' := by
  have HN := nextP_any (some ⟨w.heap.size, 0, none⟩) 5 [40, 97, 41, 32, 98] 0 (w.alloc (.cells ((bI [40, 97, 41, 32, 98]).map (Value.int .u8)).toArray 5 (5, 6))) (row_fresh w _ (by decide) _) (by decide) (by decide)
  have kc := fun (w : World) (C : Array Value) (n c : Nat) => Lib.run_convert_bytes_const (P := Tryd.prog) w 32 5 C n c Tryd.underlying32 Tryd.underlying5
  rw [answer_text] at HN
  replace HN := Lib.hid HN
  go_enter Tryd.func23, Tryd.ntmps23
  go_wp2_with fail
  refine HN.out.mono ?_
  rintro e w1 ⟨rfl, hb⟩
  have HB := Lib.hid (show Below w.heap.size w w1 from ((Below.refl _ _).alloc (Nat.le_refl _) _).trans (hb.mono (by simp)))
  clear hb
  go_wp2_with fail
  go_ret
  have e97 : (S [97]).toList = [97] := S_list _
  refine ⟨?_, HB.out.trans ((Below.refl _ _).alloc HB.out.size _)⟩
  show Ending.returned (.bool ((S [97]).toList == [97])) = _
  rw [e97]
  rfl

end Go.Proofs.YtiocgpfnbmlfaaaDoor.SC
namespace Go.Proofs.YtiocgpfnbmlfaaaDoor
open Go Go.RowKit Go.Proofs.YtiocgpfnbmlfaaaDoorW.PrintWords

def mezzotintlaw04_answers.f : Option Bool := some true
theorem mezzotintlaw04_answers.calls (r : Bool) (w : World) (h : mezzotintlaw04_answers.f = some r) : Calls Tryd.prog 23 #[] w fun e w' => e = .returned (.bool r) ∧ Below w.heap.size w w' := by
  obtain rfl : true = r := Option.some.inj h
  exact SC.answers_any w

end Go.Proofs.YtiocgpfnbmlfaaaDoor

/-! ## SL -/
namespace Go.Proofs.YtiocgpfnbmlfaaaDoor
open Go Go.RowKit Go.Proofs.YtiocgpfnbmlfaaaDoor.SC Go.Proofs.YtiocgpfnbmlfaaaDoor.PS1 Go.Proofs.YtiocgpfnbmlfaaaDoor.QD Go.Proofs.YtiocgpfnbmlfaaaDoorW.PrintWords Go.Proofs.YtiocgpfnbmlfaaaDoorW.PrintLast

set_option maxHeartbeats 1000000 in
set_option maxRecDepth 100000 in
theorem refnone_any (er : Int) (w : World) : Calls Tryd.prog 50 #[.int .i64 er] w fun e w' => e = .returned (.tuple #[.agg #[.int .i64 0, .int .i64 0, .string ⟨#[]⟩], .int .i64 0, .int .i64 er]) ∧ Below w.heap.size w w' := by
  go_enter Tryd.func50, Tryd.ntmps50
  go_wp2_with fail
  refine bodyPost_ret (v := .tuple #[.agg #[.int .i64 0, .int .i64 0, .string ⟨#[]⟩], .int .i64 0, .int .i64 er]) (by simp [results, Tryd.results50, go_sem]) rfl ⟨rfl, ?_⟩
  exact (Below.refl _ _).alloc (Nat.le_refl _) _

def mezzotintref04_name.f (a0 : Int) (l1 : List Int) (a2 : Int) (a3 : Int) : Option (Int × Int × ByteArray × Int × Int) :=
  if 127 < wrap64 (a3 - a2) then some (0, 0, ⟨#[]⟩, 0, 9)
  else if 0 ≤ a2 ∧ a2 ≤ a3 ∧ a3 ≤ (l1.length : Int) then some (a0, 0, strOfNums ((l1.take a3.toNat).drop a2.toNat), a3, 0) else none

set_option maxHeartbeats 2000000 in
set_option maxRecDepth 100000 in
theorem refname_long (a0 : Int) (A1 : Option Addr) (c1 n1 : Nat) (a2 a3 : Int) (w : World) (hl : 127 < wrap64 (a3 - a2)) :
    Calls Tryd.prog 54 #[.int .i64 a0, .slice A1 n1 c1, .int .i64 a2, .int .i64 a3] w fun e w' => e = .returned (.tuple #[.agg #[.int .i64 0, .int .i64 0, .string ⟨#[]⟩], .int .i64 0, .int .i64 9]) ∧ Below w.heap.size w w' := by
  have HT := Lib.hid (TokBlk.new w)
  have hd : decide (127 < wrap64 (a3 - a2)) = true := decide_eq_true hl
  clear hl
  go_enter Tryd.func54, Tryd.ntmps54
  go_wp2_with fail
  refine (refnone_any 9 _).mono ?_
  rintro e w1 ⟨rfl, hb⟩
  have hT := HT.out.below hb (by simp)
  obtain ⟨⟨c0, c1, c2⟩, f0, f1, f2⟩ := hT.facts
  have hlt := hT.lt
  have HB := Lib.hid (below_alloc0 hb)
  clear hb hT
  go_wp2_with fail
  refine bodyPost_ret (v := .tuple #[.agg #[.int .i64 0, .int .i64 0, .string ⟨#[]⟩], .int .i64 0, .int .i64 9]) (by simp [results, Tryd.results54, go_sem, c0, c1, c2]) rfl ⟨rfl, ?_⟩
  exact ((HB.out.setCell (p := ⟨w.heap.size, 0, none⟩) (Nat.le_refl _) _).setCell (p := ⟨w.heap.size, 1, none⟩) (Nat.le_refl _) _).setCell (p := ⟨w.heap.size, 2, none⟩) (Nat.le_refl _) _

set_option maxHeartbeats 2000000 in
set_option maxRecDepth 100000 in
theorem refname_ok (a0 : Int) (A1 : Option Addr) (c1 n1 : Nat) (l1 : List Int) (a2 a3 : Int) (w : World) (hn : l1.length = n1) (hr : Kd.C (Kd.int .u8) w A1 l1.length l1) (hc : l1.length ≤ c1) (hl : ¬ 127 < wrap64 (a3 - a2)) (h0 : 0 ≤ a2) (h1 : a2 ≤ a3) (h2 : a3 ≤ (l1.length : Int)) (x : ByteArray) (hx : strOfNums ((l1.take a3.toNat).drop a2.toNat) = x) :
    Calls Tryd.prog 54 #[.int .i64 a0, .slice A1 n1 c1, .int .i64 a2, .int .i64 a3] w fun e w' => e = .returned (.tuple #[.agg #[.int .i64 a0, .int .i64 0, .string x], .int .i64 a3, .int .i64 0]) ∧ Below w.heap.size w w' := by
  have hd : decide (127 < wrap64 (a3 - a2)) = false := decide_eq_false hl
  obtain ⟨i0, hi, _, hsz, _⟩ := info_parts infoU8
  obtain ⟨A', hcut, hA, hC⟩ := print_mid_of (P := Tryd.prog) (Value.int .u8) 0 32 5 .i64 .i64 Tryd.underlying32 hi hsz A1 c1 l1 a2 a3 h0 h1 h2 hc
  have hcv := Kd.C_string (P := Tryd.prog) (A := A') (c := c1 - a2.toNat) Tryd.underlying32 Tryd.underlying5 Tryd.underlying9 (Kd.C_alloc (Kd.C_of_reads (h1 := fun _ => rfl) (hA _ (Kd.reads_of_C hr))) (.cells #[.int .i64 0, .int .i64 0, .string ⟨#[]⟩] 27))
  rw [hx] at hcv
  rw [hn] at hcut
  generalize ((l1.take a3.toNat).drop a2.toNat).length = k at *
  clear hx hA hC hi hsz hr hc hl
  go_enter Tryd.func54, Tryd.ntmps54
  go_wp2_with fail
  refine bodyPost_ret (v := .tuple #[.agg #[.int .i64 a0, .int .i64 0, .string x], .int .i64 a3, .int .i64 0]) (by simp [results, Tryd.results54, go_sem]) rfl ⟨rfl, ?_⟩
  exact (Below.refl _ _).alloc (Nat.le_refl _) _

theorem mezzotintref04_name.calls (a0 : Int) (A1 : Option Addr) (c1 : Nat) (l1 : List Int) (a2 : Int) (a3 : Int) (r1 : Int) (r2 : Int) (r3 : ByteArray) (r4 : Int) (r5 : Int) (w : World) (hr1 : Kd.C (Kd.int .u8) w A1 l1.length l1) (hc1 : l1.length ≤ c1) (h : mezzotintref04_name.f a0 l1 a2 a3 = some (r1, r2, r3, r4, r5)) :
    Calls Tryd.prog 54 #[.int .i64 a0, .slice A1 l1.length c1, .int .i64 a2, .int .i64 a3] w fun e w' => e = .returned (.tuple #[.agg #[.int .i64 r1, .int .i64 r2, .string r3], .int .i64 r4, .int .i64 r5]) ∧ Below w.heap.size w w' := by
  unfold mezzotintref04_name.f at h
  by_cases hl : 127 < wrap64 (a3 - a2)
  · rw [if_pos hl] at h
    simp only [Option.some.injEq, Prod.mk.injEq] at h
    obtain ⟨rfl, rfl, rfl, rfl, rfl⟩ := h
    exact refname_long a0 A1 c1 l1.length a2 a3 w hl
  · rw [if_neg hl] at h
    by_cases hb : 0 ≤ a2 ∧ a2 ≤ a3 ∧ a3 ≤ (l1.length : Int)
    · rw [if_pos hb] at h
      simp only [Option.some.injEq, Prod.mk.injEq] at h
      obtain ⟨rfl, rfl, rfl, rfl, rfl⟩ := h
      exact refname_ok a0 A1 c1 l1.length l1 a2 a3 w rfl hr1 hc1 hl hb.1 hb.2.1 hb.2.2 _ rfl
    · rw [if_neg hb] at h
      cases h

end Go.Proofs.YtiocgpfnbmlfaaaDoor

/-! ## PNx0 -/
namespace Go.Proofs.YtiocgpfnbmlfaaaDoor.PN
open Go.RowKit Go.Proofs.YtiocgpfnbmlfaaaDoorW.PrintWords Go.Proofs.YtiocgpfnbmlfaaaDoorW.PrintLast Go.Proofs.YtiocgpfnbmlfaaaDoorW.PrintMore
attribute [local go_sem] max2_int min2_int max_two min_two max_three min_three max_four min_four   -- for this text's walks alone
set_option linter.unusedVariables false
set_option linter.unusedSimpArgs false



def errW : Option Int → Value
 | none => .nilIface
 | some c => .iface 0 (.int .i64 c)
theorem errW_none : errW none = .nilIface := rfl
theorem errW_some (c : Int) : errW (some c) = .iface 0 (.int .i64 c) := rfl

theorem info5 : (Tryd.prog.info? 5).map (fun i => (i.zero, i.size, i.bytes)) = some (some (.int .u8 0), 1, 1) := by kernel_rfl
-- the values' own types

end Go.Proofs.YtiocgpfnbmlfaaaDoor.PN

/-! ## PNx1 -/
namespace Go.Proofs.YtiocgpfnbmlfaaaDoor.PN
open Go.RowKit Go.Proofs.YtiocgpfnbmlfaaaDoorW.PrintWords Go.Proofs.YtiocgpfnbmlfaaaDoorW.PrintLast Go.Proofs.YtiocgpfnbmlfaaaDoorW.PrintMore
attribute [local go_sem] max2_int min2_int max_two min_two max_three min_three max_four min_four   -- for this text's walks alone
set_option linter.unusedVariables false
set_option linter.unusedSimpArgs false

theorem eqA27 (d : Nat) (w : World) (x0 y0 : Int) (x1 y1 : Int) (x2 y2 : ByteArray) :
  (Op.equalIn (d + 2) 27 (.agg #[.int .i64 x0, .int .i64 x1, .string x2]) (.agg #[.int .i64 y0, .int .i64 y1, .string y2])).run Tryd.prog w = .ok (x0 == y0 && (x1 == y1 && (x2.toList == y2.toList))) w := by
 refine eqA_of Tryd.underlying27 (by kernel_rfl) ?_
 refine eqf_cons (by rfl) (by go_simp; rfl) (by go_simp; rfl) (by go_simp) ?_
 refine eqf_cons (by rfl) (by go_simp; rfl) (by go_simp; rfl) (by go_simp) ?_
 exact eqf_last (by rfl) (by go_simp; rfl) (by go_simp; rfl) (by go_simp)
end Go.Proofs.YtiocgpfnbmlfaaaDoor.PN

/-! ## PNx2 -/
namespace Go.Proofs.YtiocgpfnbmlfaaaDoor.PN
open Go.RowKit Go.Proofs.YtiocgpfnbmlfaaaDoorW.PrintWords Go.Proofs.YtiocgpfnbmlfaaaDoorW.PrintLast Go.Proofs.YtiocgpfnbmlfaaaDoorW.PrintMore
attribute [local go_sem] max2_int min2_int max_two min_two max_three min_three max_four min_four   -- for this text's walks alone
set_option linter.unusedVariables false
set_option linter.unusedSimpArgs false

-- given: function 23 (mezzotintlaw04_answers)

-- given: function 24 (scan_Next)

-- given: function 18 (mezzotintref01_Token)

/-! ### mezzotintref04_none: function 50 -/
def mezzotintref04_none.f (a0 : Int) : Option (Int × Int × ByteArray × Int × Int) := some (0, 0, (⟨#[]⟩ : ByteArray), 0, a0)
set_option maxHeartbeats 8000000 in
set_option maxRecDepth 100000 in
theorem mezzotintref04_none.calls (a0 : Int) (r1 : Int) (r2 : Int) (r3 : ByteArray) (r4 : Int) (r5 : Int) (w : World) (h : mezzotintref04_none.f a0 = some (r1, r2, r3, r4, r5)) :
  Calls Tryd.prog 50 #[.int .i64 a0] w fun e w' => e = .returned (.tuple #[.agg #[.int .i64 r1, .int .i64 r2, .string r3], .int .i64 r4, .int .i64 r5]) ∧ Below w.heap.size w w' := by
 have hu27 := Tryd.underlying27
 have HB := Aside0.mk (Below.refl w.heap.size w)
 have H : (some (0, 0, (⟨#[]⟩ : ByteArray), 0, a0)) = some (r1, r2, r3, r4, r5) := h
 clear h
 simp only [Option.some.injEq, Prod.mk.injEq] at H
 obtain ⟨rfl, rfl, rfl, rfl, rfl⟩ := H
 go_enter Tryd.func50, Tryd.ntmps50
 go_wp2_with (first | ((with_reducible refine gate_dst (N := 2) rfl ?_); refine box_event ?hg (N := 2) ?hd (cs := #[.int .i64 0, .int .i64 0, .string (⟨#[]⟩ : ByteArray)]) (t := 27) ?hr ?_; (case hd => rfl); (case hg => rfl); (case hr => first | (go_simp; done) | (go_simp; rfl)); intro gb101 hg w2 hbox hb; have n0_ := Aside0.mk (below_step (by repeat (first | (with_reducible first | exact HB.out | apply below_alloc | apply pw_below_drewN | apply below_drew1) | exact HB.out)) hb); have n1_ := Aside0.mk (hbox); have n2_ := Aside0.mk ((by rw [hg]; exact (below_size (by repeat (first | (with_reducible first | exact HB.out | apply below_alloc | apply pw_below_drewN | apply below_drew1) | exact HB.out))) : w.heap.size ≤ gb101)); have n3_ := Aside0.mk ((by rw [hg]; exact (below_size (by repeat (first | (with_reducible first | exact HB.out | apply below_alloc | apply pw_below_drewN | apply below_drew1) | exact HB.out))) : w.heap.size ≤ gb101)); clear HB; have HB := n0_; have BK101 := n1_; have GW101 := n2_; have GE101 := n3_; clear n0_ n1_ n2_ n3_; clear hb hbox hg; have hcz3_0 : w2.cell? ⟨gb101, 0, none⟩ = some (.int .i64 0) := (blk_cell BK101.out 0).trans rfl; have hcz3_1 : w2.cell? ⟨gb101, 1, none⟩ = some (.int .i64 0) := (blk_cell BK101.out 1).trans rfl; have hcz3_2 : w2.cell? ⟨gb101, 2, none⟩ = some (.string (⟨#[]⟩ : ByteArray)) := (blk_cell BK101.out 2).trans rfl; have hfz3_0 := blk_frozen BK101.out 0; have hfz3_1 := blk_frozen BK101.out 1; have hfz3_2 := blk_frozen BK101.out 2))
 refine bodyPost_ret (results_ctt rfl _ _ gb101 27 #[.int .i64 0, .int .i64 0, .string (⟨#[]⟩ : ByteArray)] (0, 0) _ rfl (by (with_reducible repeat (first | refine blk_drewN ?_ _ | refine blk_drew ?_ | refine blk_alloc ?_ _)); refine blk_put (cs := #[.int .i64 0, .int .i64 0, .string (⟨#[]⟩ : ByteArray)]) ?_ 2 _ rfl; (with_reducible repeat (first | refine blk_drewN ?_ _ | refine blk_drew ?_ | refine blk_alloc ?_ _)); refine blk_put (cs := #[.int .i64 0, .int .i64 0, .string (⟨#[]⟩ : ByteArray)]) ?_ 1 _ rfl; (with_reducible repeat (first | refine blk_drewN ?_ _ | refine blk_drew ?_ | refine blk_alloc ?_ _)); refine blk_put (cs := #[.int .i64 0, .int .i64 0, .string (⟨#[]⟩ : ByteArray)]) ?_ 0 _ rfl; (with_reducible repeat (first | refine blk_drewN ?_ _ | refine blk_drew ?_ | refine blk_alloc ?_ _)); exact BK101.out) Tryd.underlying27 rfl (by kernel_rfl)) rfl ?_
 exact ⟨by first | rfl | (simp [errW_none, errW_some] <;> rfl) | (simp [*, errW_none, errW_some] <;> rfl), by repeat (first | (with_reducible first | exact HB.out | apply below_alloc | apply pw_below_drewN | apply below_drew1 | refine below_set ?_ GE101.out) | exact HB.out)⟩

/-! ### mezzotintref04_Blank: function 82 -/
def mezzotintref04_Blank.f (a0 : Int) : Option (Bool) := if a0 = 0 then (some true) else (if a0 = 9 then (some true) else (if a0 = 10 then (some true) else (if a0 = 12 then (some true) else (if a0 = 13 then (some true) else (some (a0 == 32))))))
set_option maxHeartbeats 8000000 in
set_option maxRecDepth 100000 in
theorem mezzotintref04_Blank.calls (a0 : Int) (r : Bool) (w : World) (h : mezzotintref04_Blank.f a0 = some r) :
  Calls Tryd.prog 82 #[.int .u8 a0] w fun e w' => e = .returned (.bool r) ∧ Drawn0 w w' := by
 have H : (if a0 = 0 then (some true) else (if a0 = 9 then (some true) else (if a0 = 10 then (some true) else (if a0 = 12 then (some true) else (if a0 = 13 then (some true) else (some (a0 == 32))))))) = some r := h
 clear h
 by_cases c2 : a0 = 0
 ·rw [if_pos c2] at H
  have c2b0 : (a0 == 0) = true := beq_iff_eq.mpr c2
  have c2b1 : (a0 != 0) = false := bne_eq_false_iff_eq.mpr c2
  clear c2
  obtain rfl := Option.some.inj H
  go_enter Tryd.func82, Tryd.ntmps82
  go_wp2
  go_ret
  exact ⟨by first | rfl | (simp; done) | (simp [*]; done), by repeat (first | exact Drawn0.refl _ | apply Drawn0.step)⟩
 ·rw [if_neg c2] at H
  have c2b0 : (a0 == 0) = false := beq_eq_false_iff_ne.mpr c2
  have c2b1 : (a0 != 0) = true := bne_iff_ne.mpr c2
  by_cases c3 : a0 = 9
  ·rw [if_pos c3] at H
   have c3b0 : (a0 == 9) = true := beq_iff_eq.mpr c3
   have c3b1 : (a0 != 9) = false := bne_eq_false_iff_eq.mpr c3
   clear c3
   obtain rfl := Option.some.inj H
   go_enter Tryd.func82, Tryd.ntmps82
   go_wp2
   go_ret
   exact ⟨by first | rfl | (simp; done) | (simp [*]; done), by repeat (first | exact Drawn0.refl _ | apply Drawn0.step)⟩
  ·rw [if_neg c3] at H
   have c3b0 : (a0 == 9) = false := beq_eq_false_iff_ne.mpr c3
   have c3b1 : (a0 != 9) = true := bne_iff_ne.mpr c3
   by_cases c4 : a0 = 10
   ·rw [if_pos c4] at H
    have c4b0 : (a0 == 10) = true := beq_iff_eq.mpr c4
    have c4b1 : (a0 != 10) = false := bne_eq_false_iff_eq.mpr c4
    clear c4
    obtain rfl := Option.some.inj H
    go_enter Tryd.func82, Tryd.ntmps82
    go_wp2
    go_ret
    exact ⟨by first | rfl | (simp; done) | (simp [*]; done), by repeat (first | exact Drawn0.refl _ | apply Drawn0.step)⟩
   ·rw [if_neg c4] at H
    have c4b0 : (a0 == 10) = false := beq_eq_false_iff_ne.mpr c4
    have c4b1 : (a0 != 10) = true := bne_iff_ne.mpr c4
    by_cases c5 : a0 = 12
    ·rw [if_pos c5] at H
     have c5b0 : (a0 == 12) = true := beq_iff_eq.mpr c5
     have c5b1 : (a0 != 12) = false := bne_eq_false_iff_eq.mpr c5
     clear c5
     obtain rfl := Option.some.inj H
     go_enter Tryd.func82, Tryd.ntmps82
     go_wp2
     go_ret
     exact ⟨by first | rfl | (simp; done) | (simp [*]; done), by repeat (first | exact Drawn0.refl _ | apply Drawn0.step)⟩
    ·rw [if_neg c5] at H
     have c5b0 : (a0 == 12) = false := beq_eq_false_iff_ne.mpr c5
     have c5b1 : (a0 != 12) = true := bne_iff_ne.mpr c5
     by_cases c6 : a0 = 13
     ·rw [if_pos c6] at H
      have c6b0 : (a0 == 13) = true := beq_iff_eq.mpr c6
      have c6b1 : (a0 != 13) = false := bne_eq_false_iff_eq.mpr c6
      clear c6
      obtain rfl := Option.some.inj H
      go_enter Tryd.func82, Tryd.ntmps82
      go_wp2
      go_ret
      exact ⟨by first | rfl | (simp; done) | (simp [*]; done), by repeat (first | exact Drawn0.refl _ | apply Drawn0.step)⟩
     ·rw [if_neg c6] at H
      have c6b0 : (a0 == 13) = false := beq_eq_false_iff_ne.mpr c6
      have c6b1 : (a0 != 13) = true := bne_iff_ne.mpr c6
      obtain rfl := Option.some.inj H
      go_enter Tryd.func82, Tryd.ntmps82
      go_wp2
      go_ret
      exact ⟨by first | rfl | (simp; done) | (simp [*]; done), by repeat (first | exact Drawn0.refl _ | apply Drawn0.step)⟩

/-! ### mezzotintref04_Skip: function 51 -/
mutual
def mezzotintref04_Skip.l0 : Nat → List Int → Int → Option (Int)
 | 0, _, _ => none
 | k + 1, x0, x1 => if x1 < (x0.length : Int) then (if 0 ≤ x1 then (if (rd x0 x1) = 37 then (mezzotintref04_Skip.l1 k x0 x1) else ((mezzotintref04_Blank.f (rd x0 x1)).bind fun t107 => (if t107 = true then (mezzotintref04_Skip.l0 k x0 (wrap64 (x1 + 1))) else (some x1)))) else (none)) else (some x1)
def mezzotintref04_Skip.l1 : Nat → List Int → Int → Option (Int)
 | 0, _, _ => none
 | k + 1, x0, x1 => if x1 < (x0.length : Int) then (if 0 ≤ x1 then (if (rd x0 x1) = 10 then (mezzotintref04_Skip.l0 k x0 x1) else (if (rd x0 x1) = 13 then (mezzotintref04_Skip.l0 k x0 x1) else (if (rd x0 x1) = 12 then (mezzotintref04_Skip.l0 k x0 x1) else (mezzotintref04_Skip.l1 k x0 (wrap64 (x1 + 1)))))) else (none)) else (mezzotintref04_Skip.l0 k x0 x1)
end
def mezzotintref04_Skip.f (k : Nat) (l0 : List Int) (a1 : Int) : Option (Int) := mezzotintref04_Skip.l0 k l0 a1
set_option maxHeartbeats 8000000 in
set_option maxRecDepth 100000 in
theorem mezzotintref04_Skip.calls (k : Nat) (A0 : Option Addr) (c0 : Nat) (l0 : List Int) (a1 : Int) (r : Int) (w : World) (hr0 : Kd.C (Kd.int .u8) w A0 l0.length l0) (hc0 : l0.length ≤ c0) (h : mezzotintref04_Skip.f k l0 a1 = some r) :
  Calls Tryd.prog 51 #[.slice A0 l0.length c0, .int .i64 a1] w fun e w' => e = .returned (.int .i64 r) ∧ Drawn0 w w' := by
 have HR0 := Aside0.mk hr0
 have HC0 := Aside0.mk hc0
 clear hr0 hc0
 have H : (mezzotintref04_Skip.l0 k l0 a1) = some r := h
 clear h
 have H' := Aside0.mk H
 clear H
 go_enter Tryd.func51, Tryd.ntmps51
 go_wp2
 go_loopg [1] k (fun kq v1 w' => ∃ (x1_1 : Int), v1 = .int .i64 x1_1 ∧ Aside0 (mezzotintref04_Skip.l0 kq l0 x1_1 = some r) ∧ Aside0 (kq ≤ k) ∧ Drawn0 w w')
 case atStart => exact ⟨(a1), (by first | rfl | (simp; done) | (simp [*]; done)), H', ⟨Nat.le_refl _⟩, by repeat (first | exact Drawn0.refl _ | apply Drawn0.step)⟩
 case round =>
  clear H'
  try clear p2
  obtain ⟨x1_1, rfl, HA, HK1, ⟨m1, rfl⟩⟩ := hrel
  cases gk with
  | zero => exact absurd HA.out (by simp [mezzotintref04_Skip.l0])
  | succ k1 =>
   have H := HA.out
   clear HA
   simp only [mezzotintref04_Skip.l0] at H
   by_cases c3 : x1_1 < (l0.length : Int)
   ·rw [if_pos c3] at H
    have c3b0 : decide (x1_1 < (l0.length : Int)) = true := decide_eq_true c3
    clear c3
    by_cases c4 : 0 ≤ x1_1
    ·rw [if_pos c4] at H
     have c4b0 : decide (0 ≤ x1_1) = true := decide_eq_true c4
     clear c4
     by_cases c5 : (rd l0 x1_1) = 37
     ·rw [if_pos c5] at H
      have c5b0 : ((rd l0 x1_1) == 37) = true := beq_iff_eq.mpr c5
      have c5b1 : ((rd l0 x1_1) != 37) = false := bne_eq_false_iff_eq.mpr c5
      clear c5
      have H' := Aside0.mk H
      clear H
      have p102 : 0 ≤ (x1_1 : Int) := of_decide_eq_true (by first | (with_reducible assumption) | assumption)
      have q102 : x1_1 < (l0.length : Int) := of_decide_eq_true (by first | (with_reducible assumption) | assumption)
      obtain ⟨ad102, e102, hx102_0⟩ := Kd.at_int HR0.out x1_1 p102 q102
      cases e102
      replace p102 := eq_true p102
      replace q102 := eq_true q102
      go_wp2
      go_loopg [1] k1 (fun kq v1 w' => ∃ (x1_2 : Int), v1 = .int .i64 x1_2 ∧ Aside0 (mezzotintref04_Skip.l1 kq l0 x1_2 = some r) ∧ Aside0 (kq ≤ k1) ∧ Drawn0 w w')
      case atStart => exact ⟨(x1_1), (by first | rfl | (simp; done) | (simp [*]; done)), H', ⟨Nat.le_refl _⟩, by repeat (first | exact Drawn0.refl _ | apply Drawn0.step)⟩
      case round =>
       clear H'
       try clear p1
       try clear q1
       try clear hx1
       try clear p2
       try clear c3
       try clear c3b0
       try clear c4
       try clear c4b0
       try clear c5
       try clear c5b0
       try clear c5b1
       try clear hx102_0
       try clear p102
       try clear p2
       try clear q102
       obtain ⟨x1_2, rfl, HA, HK2, ⟨m2, rfl⟩⟩ := hrel
       cases gk with
       | zero => exact absurd HA.out (by simp [mezzotintref04_Skip.l1])
       | succ k2 =>
        have H := HA.out
        clear HA
        simp only [mezzotintref04_Skip.l1] at H
        by_cases c6 : x1_2 < (l0.length : Int)
        ·rw [if_pos c6] at H
         have c6b0 : decide (x1_2 < (l0.length : Int)) = true := decide_eq_true c6
         clear c6
         by_cases c7 : 0 ≤ x1_2
         ·rw [if_pos c7] at H
          have c7b0 : decide (0 ≤ x1_2) = true := decide_eq_true c7
          clear c7
          by_cases c8 : (rd l0 x1_2) = 10
          ·rw [if_pos c8] at H
           have c8b0 : ((rd l0 x1_2) == 10) = true := beq_iff_eq.mpr c8
           have c8b1 : ((rd l0 x1_2) != 10) = false := bne_eq_false_iff_eq.mpr c8
           clear c8
           have H' := Aside0.mk H
           clear H
           have p103 : 0 ≤ (x1_2 : Int) := of_decide_eq_true (by first | (with_reducible assumption) | assumption)
           have q103 : x1_2 < (l0.length : Int) := of_decide_eq_true (by first | (with_reducible assumption) | assumption)
           obtain ⟨ad103, e103, hx103_0⟩ := Kd.at_int HR0.out x1_2 p103 q103
           obtain rfl : ad102 = ad103 := (by injection e103)
           replace p103 := eq_true p103
           replace q103 := eq_true q103
           go_wp2
           go_roundg k2
           case measure => have := HK1.out; have := HK2.out; omega
           case rel => exact ⟨(x1_2), (by first | rfl | (simp; done) | (simp [*]; done)), H', ⟨by have := HK1.out; have := HK2.out; omega⟩, by repeat (first | exact Drawn0.refl _ | apply Drawn0.step)⟩
          ·rw [if_neg c8] at H
           have c8b0 : ((rd l0 x1_2) == 10) = false := beq_eq_false_iff_ne.mpr c8
           have c8b1 : ((rd l0 x1_2) != 10) = true := bne_iff_ne.mpr c8
           by_cases c9 : (rd l0 x1_2) = 13
           ·rw [if_pos c9] at H
            have c9b0 : ((rd l0 x1_2) == 13) = true := beq_iff_eq.mpr c9
            have c9b1 : ((rd l0 x1_2) != 13) = false := bne_eq_false_iff_eq.mpr c9
            clear c9
            have H' := Aside0.mk H
            clear H
            have p103 : 0 ≤ (x1_2 : Int) := of_decide_eq_true (by first | (with_reducible assumption) | assumption)
            have q103 : x1_2 < (l0.length : Int) := of_decide_eq_true (by first | (with_reducible assumption) | assumption)
            obtain ⟨ad103, e103, hx103_0⟩ := Kd.at_int HR0.out x1_2 p103 q103
            obtain rfl : ad102 = ad103 := (by injection e103)
            replace p103 := eq_true p103
            replace q103 := eq_true q103
            have p104 : 0 ≤ (x1_2 : Int) := of_decide_eq_true (by first | (with_reducible assumption) | assumption)
            have q104 : x1_2 < (l0.length : Int) := of_decide_eq_true (by first | (with_reducible assumption) | assumption)
            obtain ⟨ad104, e104, hx104_0⟩ := Kd.at_int HR0.out x1_2 p104 q104
            obtain rfl : ad102 = ad104 := (by injection e104)
            replace p104 := eq_true p104
            replace q104 := eq_true q104
            go_wp2
            go_roundg k2
            case measure => have := HK1.out; have := HK2.out; omega
            case rel => exact ⟨(x1_2), (by first | rfl | (simp; done) | (simp [*]; done)), H', ⟨by have := HK1.out; have := HK2.out; omega⟩, by repeat (first | exact Drawn0.refl _ | apply Drawn0.step)⟩
           ·rw [if_neg c9] at H
            have c9b0 : ((rd l0 x1_2) == 13) = false := beq_eq_false_iff_ne.mpr c9
            have c9b1 : ((rd l0 x1_2) != 13) = true := bne_iff_ne.mpr c9
            by_cases c10 : (rd l0 x1_2) = 12
            ·rw [if_pos c10] at H
             have c10b0 : ((rd l0 x1_2) == 12) = true := beq_iff_eq.mpr c10
             have c10b1 : ((rd l0 x1_2) != 12) = false := bne_eq_false_iff_eq.mpr c10
             clear c10
             have H' := Aside0.mk H
             clear H
             have p103 : 0 ≤ (x1_2 : Int) := of_decide_eq_true (by first | (with_reducible assumption) | assumption)
             have q103 : x1_2 < (l0.length : Int) := of_decide_eq_true (by first | (with_reducible assumption) | assumption)
             obtain ⟨ad103, e103, hx103_0⟩ := Kd.at_int HR0.out x1_2 p103 q103
             obtain rfl : ad102 = ad103 := (by injection e103)
             replace p103 := eq_true p103
             replace q103 := eq_true q103
             have p104 : 0 ≤ (x1_2 : Int) := of_decide_eq_true (by first | (with_reducible assumption) | assumption)
             have q104 : x1_2 < (l0.length : Int) := of_decide_eq_true (by first | (with_reducible assumption) | assumption)
             obtain ⟨ad104, e104, hx104_0⟩ := Kd.at_int HR0.out x1_2 p104 q104
             obtain rfl : ad102 = ad104 := (by injection e104)
             replace p104 := eq_true p104
             replace q104 := eq_true q104
             have p105 : 0 ≤ (x1_2 : Int) := of_decide_eq_true (by first | (with_reducible assumption) | assumption)
             have q105 : x1_2 < (l0.length : Int) := of_decide_eq_true (by first | (with_reducible assumption) | assumption)
             obtain ⟨ad105, e105, hx105_0⟩ := Kd.at_int HR0.out x1_2 p105 q105
             obtain rfl : ad102 = ad105 := (by injection e105)
             replace p105 := eq_true p105
             replace q105 := eq_true q105
             go_wp2
             go_roundg k2
             case measure => have := HK1.out; have := HK2.out; omega
             case rel => exact ⟨(x1_2), (by first | rfl | (simp; done) | (simp [*]; done)), H', ⟨by have := HK1.out; have := HK2.out; omega⟩, by repeat (first | exact Drawn0.refl _ | apply Drawn0.step)⟩
            ·rw [if_neg c10] at H
             have c10b0 : ((rd l0 x1_2) == 12) = false := beq_eq_false_iff_ne.mpr c10
             have c10b1 : ((rd l0 x1_2) != 12) = true := bne_iff_ne.mpr c10
             have H' := Aside0.mk H
             clear H
             have p103 : 0 ≤ (x1_2 : Int) := of_decide_eq_true (by first | (with_reducible assumption) | assumption)
             have q103 : x1_2 < (l0.length : Int) := of_decide_eq_true (by first | (with_reducible assumption) | assumption)
             obtain ⟨ad103, e103, hx103_0⟩ := Kd.at_int HR0.out x1_2 p103 q103
             obtain rfl : ad102 = ad103 := (by injection e103)
             replace p103 := eq_true p103
             replace q103 := eq_true q103
             have p104 : 0 ≤ (x1_2 : Int) := of_decide_eq_true (by first | (with_reducible assumption) | assumption)
             have q104 : x1_2 < (l0.length : Int) := of_decide_eq_true (by first | (with_reducible assumption) | assumption)
             obtain ⟨ad104, e104, hx104_0⟩ := Kd.at_int HR0.out x1_2 p104 q104
             obtain rfl : ad102 = ad104 := (by injection e104)
             replace p104 := eq_true p104
             replace q104 := eq_true q104
             have p105 : 0 ≤ (x1_2 : Int) := of_decide_eq_true (by first | (with_reducible assumption) | assumption)
             have q105 : x1_2 < (l0.length : Int) := of_decide_eq_true (by first | (with_reducible assumption) | assumption)
             obtain ⟨ad105, e105, hx105_0⟩ := Kd.at_int HR0.out x1_2 p105 q105
             obtain rfl : ad102 = ad105 := (by injection e105)
             replace p105 := eq_true p105
             replace q105 := eq_true q105
             go_wp2
             go_roundg k2
             case measure => have := HK1.out; have := HK2.out; omega
             case rel => exact ⟨(wrap64 (x1_2 + 1)), (by first | rfl | (simp; done) | (simp [*]; done)), H', ⟨by have := HK1.out; have := HK2.out; omega⟩, by repeat (first | exact Drawn0.refl _ | apply Drawn0.step)⟩
         ·rw [if_neg c7] at H
          exact absurd H (by simp)
        ·rw [if_neg c6] at H
         have c6b0 : decide (x1_2 < (l0.length : Int)) = false := decide_eq_false c6
         clear c6
         have H' := Aside0.mk H
         clear H
         go_wp2
         go_roundg k2
         case measure => have := HK1.out; have := HK2.out; omega
         case rel => exact ⟨(x1_2), (by first | rfl | (simp; done) | (simp [*]; done)), H', ⟨by have := HK1.out; have := HK2.out; omega⟩, by repeat (first | exact Drawn0.refl _ | apply Drawn0.step)⟩
     ·rw [if_neg c5] at H
      have c5b0 : ((rd l0 x1_1) == 37) = false := beq_eq_false_iff_ne.mpr c5
      have c5b1 : ((rd l0 x1_1) != 37) = true := bne_iff_ne.mpr c5
      replace H := Option.bind_eq_some_iff.mp H
      obtain ⟨t107, A110, H⟩ := H
      replace H : (if t107 = true then (mezzotintref04_Skip.l0 k1 l0 (wrap64 (x1_1 + 1))) else (some x1_1)) = some r := H
      have A11 := Aside0.mk A110
      clear A110
      by_cases c12 : t107 = true
      ·subst c12
       have H1 : (mezzotintref04_Skip.l0 k1 l0 (wrap64 (x1_1 + 1))) = some r := by rw [if_pos rfl] at H; exact H
       clear H
       have H := H1
       clear H1
       have H' := Aside0.mk H
       clear H
       have p102 : 0 ≤ (x1_1 : Int) := of_decide_eq_true (by first | (with_reducible assumption) | assumption)
       have q102 : x1_1 < (l0.length : Int) := of_decide_eq_true (by first | (with_reducible assumption) | assumption)
       obtain ⟨ad102, e102, hx102_0⟩ := Kd.at_int HR0.out x1_1 p102 q102
       cases e102
       replace p102 := eq_true p102
       replace q102 := eq_true q102
       have p106 : 0 ≤ (x1_1 : Int) := of_decide_eq_true (by first | (with_reducible assumption) | assumption)
       have q106 : x1_1 < (l0.length : Int) := of_decide_eq_true (by first | (with_reducible assumption) | assumption)
       obtain ⟨ad106, e106, hx106_0⟩ := Kd.at_int HR0.out x1_1 p106 q106
       obtain rfl : ad102 = ad106 := (by injection e106)
       replace p106 := eq_true p106
       replace q106 := eq_true q106
       go_wp2_with (first | ((with_reducible refine gate_callee (f := 82) rfl ?_); refine goesL_ (some 45) rfl rfl Tryd.func82 (by kernel_rfl) rfl #[.int .u8 (rd l0 x1_1)] rfl (by (try simp only [List.map_toArray, List.map_cons, List.map_nil]); first | done | rfl | (simp only [List.length_drop, List.length_take]; rfl)) ?_; (with_reducible refine (mezzotintref04_Blank.calls (rd l0 x1_1) true _ A11.out).mono ?_); rintro e w' ⟨rfl, ⟨nd, rfl⟩⟩; refine ⟨_, rfl, ?_⟩))
       go_roundg k1
       case measure => have := HK1.out; omega
       case rel => exact ⟨(wrap64 (x1_1 + 1)), (by first | rfl | (simp; done) | (simp [*]; done)), H', ⟨by have := HK1.out; omega⟩, by repeat (first | exact Drawn0.refl _ | apply Drawn0.step)⟩
      ·replace c12 := Bool.eq_false_iff.mpr c12
       subst c12
       have H1 : (some x1_1) = some r := by rw [if_neg (show ¬ (false = true) by decide)] at H; exact H
       clear H
       have H := H1
       clear H1
       obtain rfl := Option.some.inj H
       have p102 : 0 ≤ (x1_1 : Int) := of_decide_eq_true (by first | (with_reducible assumption) | assumption)
       have q102 : x1_1 < (l0.length : Int) := of_decide_eq_true (by first | (with_reducible assumption) | assumption)
       obtain ⟨ad102, e102, hx102_0⟩ := Kd.at_int HR0.out x1_1 p102 q102
       cases e102
       replace p102 := eq_true p102
       replace q102 := eq_true q102
       have p106 : 0 ≤ (x1_1 : Int) := of_decide_eq_true (by first | (with_reducible assumption) | assumption)
       have q106 : x1_1 < (l0.length : Int) := of_decide_eq_true (by first | (with_reducible assumption) | assumption)
       obtain ⟨ad106, e106, hx106_0⟩ := Kd.at_int HR0.out x1_1 p106 q106
       obtain rfl : ad102 = ad106 := (by injection e106)
       replace p106 := eq_true p106
       replace q106 := eq_true q106
       go_wp2_with (first | ((with_reducible refine gate_callee (f := 82) rfl ?_); refine goesL_ (some 45) rfl rfl Tryd.func82 (by kernel_rfl) rfl #[.int .u8 (rd l0 x1_1)] rfl (by (try simp only [List.map_toArray, List.map_cons, List.map_nil]); first | done | rfl | (simp only [List.length_drop, List.length_take]; rfl)) ?_; (with_reducible refine (mezzotintref04_Blank.calls (rd l0 x1_1) false _ A11.out).mono ?_); rintro e w' ⟨rfl, ⟨nd, rfl⟩⟩; refine ⟨_, rfl, ?_⟩))
       go_ret
       exact ⟨by first | rfl | (simp; done) | (simp [*]; done), by repeat (first | exact Drawn0.refl _ | apply Drawn0.step)⟩
    ·rw [if_neg c4] at H
     exact absurd H (by simp)
   ·rw [if_neg c3] at H
    have c3b0 : decide (x1_1 < (l0.length : Int)) = false := decide_eq_false c3
    clear c3
    obtain rfl := Option.some.inj H
    go_wp2
    go_ret
    exact ⟨by first | rfl | (simp; done) | (simp [*]; done), by repeat (first | exact Drawn0.refl _ | apply Drawn0.step)⟩

end Go.Proofs.YtiocgpfnbmlfaaaDoor.PN

/-! ## PNx3 -/
namespace Go.Proofs.YtiocgpfnbmlfaaaDoor.PN
open Go.RowKit Go.Proofs.YtiocgpfnbmlfaaaDoorW.PrintWords Go.Proofs.YtiocgpfnbmlfaaaDoorW.PrintLast Go.Proofs.YtiocgpfnbmlfaaaDoorW.PrintMore
attribute [local go_sem] max2_int min2_int max_two min_two max_three min_three max_four min_four   -- for this text's walks alone
set_option linter.unusedVariables false
set_option linter.unusedSimpArgs false

/-! ### mezzotintref04_Round: function 52 -/
mutual
def mezzotintref04_Round.l0 : Nat → List Int → List Int → Int → Int → Option (List Int × Int × Int)
 | 0, _, _, _, _ => none
 | k + 1, x0, x7, x8, x9 => if x9 ≥ (x0.length : Int) then (some (([] : List Int), 0, 14)) else (if 0 ≤ x9 then (if x9 < (x0.length : Int) then (if (rd x0 x9) = 40 then (mezzotintref04_Round.j1 k x0 x7 (wrap64 (x8 + 1)) (wrap64 (x9 + 1)) (rd x0 x9)) else (mezzotintref04_Round.j1 k x0 x7 x8 (wrap64 (x9 + 1)) (rd x0 x9))) else (none)) else (none))
def mezzotintref04_Round.j1 : Nat → List Int → List Int → Int → Int → Int → Option (List Int × Int × Int)
 | 0, _, _, _, _, _ => none
 | k + 1, x0, x7, x8, x9, x10 => if x10 = 41 then (if (wrap64 (x8 - 1)) = 0 then (some (x7, x9, 0)) else (mezzotintref04_Round.j2 k x0 x7 (wrap64 (x8 - 1)) x9 x10)) else (mezzotintref04_Round.j2 k x0 x7 x8 x9 x10)
def mezzotintref04_Round.j2 : Nat → List Int → List Int → Int → Int → Int → Option (List Int × Int × Int)
 | 0, _, _, _, _, _ => none
 | k + 1, x0, x7, x8, x9, x10 => if x10 = 13 then (if x9 < (x0.length : Int) then (if 0 ≤ x9 then (if (rd x0 x9) = 10 then (mezzotintref04_Round.j3 k x0 x7 x8 (wrap64 (x9 + 1)) 10) else (mezzotintref04_Round.j3 k x0 x7 x8 x9 10)) else (none)) else (mezzotintref04_Round.j3 k x0 x7 x8 x9 10)) else (mezzotintref04_Round.j3 k x0 x7 x8 x9 x10)
def mezzotintref04_Round.j3 : Nat → List Int → List Int → Int → Int → Int → Option (List Int × Int × Int)
 | 0, _, _, _, _, _ => none
 | k + 1, x0, x7, x8, x9, x10 => if x10 = 92 then (if x9 ≥ (x0.length : Int) then (some (([] : List Int), 0, 14)) else (if 0 ≤ x9 then (if x9 < (x0.length : Int) then (if (rd x0 x9) = 110 then (if x7.length < 140737488355328 then (mezzotintref04_Round.l0 k x0 (x7 ++ [10]) x8 (wrap64 (x9 + 1))) else (none)) else (if (rd x0 x9) = 114 then (if x7.length < 140737488355328 then (mezzotintref04_Round.l0 k x0 (x7 ++ [13]) x8 (wrap64 (x9 + 1))) else (none)) else (if (rd x0 x9) = 116 then (if x7.length < 140737488355328 then (mezzotintref04_Round.l0 k x0 (x7 ++ [9]) x8 (wrap64 (x9 + 1))) else (none)) else (if (rd x0 x9) = 98 then (if x7.length < 140737488355328 then (mezzotintref04_Round.l0 k x0 (x7 ++ [8]) x8 (wrap64 (x9 + 1))) else (none)) else (if (rd x0 x9) = 102 then (if x7.length < 140737488355328 then (mezzotintref04_Round.l0 k x0 (x7 ++ [12]) x8 (wrap64 (x9 + 1))) else (none)) else (if (rd x0 x9) = 10 then (mezzotintref04_Round.l0 k x0 x7 x8 (wrap64 (x9 + 1))) else (if (rd x0 x9) = 13 then (if (wrap64 (x9 + 1)) < (x0.length : Int) then (if 0 ≤ (wrap64 (x9 + 1)) then (if (rd x0 (wrap64 (x9 + 1))) = 10 then (mezzotintref04_Round.l0 k x0 x7 x8 (wrap64 ((wrap64 (x9 + 1)) + 1))) else (mezzotintref04_Round.l0 k x0 x7 x8 (wrap64 (x9 + 1)))) else (none)) else (mezzotintref04_Round.l0 k x0 x7 x8 (wrap64 (x9 + 1)))) else (if (rd x0 x9) ≥ 48 then (mezzotintref04_Round.j4 k x0 x7 x8 (wrap64 (x9 + 1)) (rd x0 x9) (decide ((rd x0 x9) ≤ 55))) else (mezzotintref04_Round.j4 k x0 x7 x8 (wrap64 (x9 + 1)) (rd x0 x9) false))))))))) else (none)) else (none))) else (if x7.length < 140737488355328 then (mezzotintref04_Round.l0 k x0 (x7 ++ [x10]) x8 x9) else (none))
def mezzotintref04_Round.j4 : Nat → List Int → List Int → Int → Int → Int → Bool → Option (List Int × Int × Int)
 | 0, _, _, _, _, _, _ => none
 | k + 1, x0, x7, x8, x9, x10, x121 => if x121 = true then (mezzotintref04_Round.l1 k x0 x7 x8 x9 ((x10 - 48) % 256) 0) else (if x7.length < 140737488355328 then (mezzotintref04_Round.l0 k x0 (x7 ++ [x10]) x8 x9) else (none))
def mezzotintref04_Round.l1 : Nat → List Int → List Int → Int → Int → Int → Int → Option (List Int × Int × Int)
 | 0, _, _, _, _, _, _ => none
 | k + 1, x0, x7, x8, x9, x11, x12 => if x12 < 2 then (if x9 < (x0.length : Int) then (if 0 ≤ x9 then (if (rd x0 x9) ≥ 48 then (if (rd x0 x9) ≤ 55 then (mezzotintref04_Round.l1 k x0 x7 x8 (wrap64 (x9 + 1)) (wrap64 ((wrap64 (x11 * 8)) + (((rd x0 x9) - 48) % 256))) (wrap64 (x12 + 1))) else (if x7.length < 140737488355328 then (mezzotintref04_Round.l0 k x0 (x7 ++ [(Int.tmod x11 256) % 256]) x8 x9) else (none))) else (if x7.length < 140737488355328 then (mezzotintref04_Round.l0 k x0 (x7 ++ [(Int.tmod x11 256) % 256]) x8 x9) else (none))) else (none)) else (if x7.length < 140737488355328 then (mezzotintref04_Round.l0 k x0 (x7 ++ [(Int.tmod x11 256) % 256]) x8 x9) else (none))) else (if x7.length < 140737488355328 then (mezzotintref04_Round.l0 k x0 (x7 ++ [(Int.tmod x11 256) % 256]) x8 x9) else (none))
end
def mezzotintref04_Round.f (k : Nat) (l0 : List Int) (a1 : Int) : Option (List Int × Int × Int) := mezzotintref04_Round.l0 k l0 ([] : List Int) 1 (wrap64 (a1 + 1))
set_option maxHeartbeats 8000000 in
set_option maxRecDepth 100000 in
theorem mezzotintref04_Round.calls (k : Nat) (A0 : Option Addr) (c0 : Nat) (l0 : List Int) (a1 : Int) (r1 : List Int) (r2 : Int) (r3 : Int) (w : World) (hr0 : Kd.C (Kd.int .u8) w A0 l0.length l0) (hc0 : l0.length ≤ c0) (h : mezzotintref04_Round.f k l0 a1 = some (r1, r2, r3)) :
  Calls Tryd.prog 52 #[.slice A0 l0.length c0, .int .i64 a1] w fun e w' => ∃ v0_ : Value, e = .returned (.tuple #[v0_, .int .i64 r2, .int .i64 r3]) ∧ Kd.R (Kd.int .u8) 5 w' w.heap.size (fun _ => True) v0_ r1 ∧ Below w.heap.size w w' := by
 have HR0 := Aside0.mk hr0
 have HC0 := Aside0.mk hc0
 clear hr0 hc0
 have HB := Aside0.mk (Below.refl w.heap.size w)
 have H : (mezzotintref04_Round.l0 k l0 ([] : List Int) 1 (wrap64 (a1 + 1))) = some (r1, r2, r3) := h
 clear h
 have H' := Aside0.mk H
 clear H
 go_enter Tryd.func52, Tryd.ntmps52
 go_wp2
 go_loopg [7, 8, 9] k (fun kq v7 v8 v9 w' => ∃ (x7_1 : List Int) (x8_1 : Int) (x9_1 : Int), v8 = .int .i64 x8_1 ∧ v9 = .int .i64 x9_1 ∧ Aside0 (mezzotintref04_Round.l0 kq l0 x7_1 x8_1 x9_1 = some (r1, r2, r3)) ∧ Aside0 (kq ≤ k) ∧ Aside0 (Kd.R (Kd.int .u8) 5 w' w.heap.size (fun _ => True) v7 x7_1) ∧ Aside0 (Below w.heap.size w w'))
 case atStart => exact ⟨(([] : List Int)), (1), (wrap64 (a1 + 1)), (by first | rfl | (simp; done) | (simp [*]; done)), (by first | rfl | (simp; done) | (simp [*]; done)), H', ⟨Nat.le_refl _⟩, ⟨by first | exact Kd.R_nil _ _ _ _ _ | exact Kd.N_nil _ _ _ _ _ | exact Kd.V_nil _ _ _ _ _ | exact Kd.Q_nil _ _ _ _ _ | exact Kd.S_nil _ _ _ _ _⟩, ⟨by repeat (first | (with_reducible first | exact HB.out | apply below_alloc | apply pw_below_drewN | apply below_drew1) | exact HB.out)⟩⟩
 case round =>
  clear H'
  try clear p2
  obtain ⟨x7_1, x8_1, x9_1, rfl, rfl, HA, HK1, HO_7, HB⟩ := hrel
  cases gk with
  | zero => exact absurd HA.out (by simp [mezzotintref04_Round.l0])
  | succ k1 =>
   have H := HA.out
   clear HA
   simp only [mezzotintref04_Round.l0] at H
   by_cases c3 : x9_1 ≥ (l0.length : Int)
   ·as_aux_lemma =>
    rw [if_pos c3] at H
    have c3b0 : decide ((l0.length : Int) ≤ x9_1) = true := decide_eq_true c3
    clear c3
    simp only [Option.some.injEq, Prod.mk.injEq] at H
    obtain ⟨rfl, rfl, rfl⟩ := H
    go_wp2
    go_ret3
    exact ⟨_, by first | rfl | (simp [errW_none, errW_some] <;> rfl) | (simp [*, errW_none, errW_some] <;> rfl), by first | exact Kd.R_nil _ _ _ _ _ | exact Kd.N_nil _ _ _ _ _ | exact Kd.V_nil _ _ _ _ _ | exact Kd.Q_nil _ _ _ _ _ | exact Kd.S_nil _ _ _ _ _, by repeat (first | (with_reducible first | exact HB.out | apply below_alloc | apply pw_below_drewN | apply below_drew1) | exact HB.out)⟩
   ·rw [if_neg c3] at H
    have c3b0 : decide ((l0.length : Int) ≤ x9_1) = false := decide_eq_false c3
    clear c3
    by_cases c4 : 0 ≤ x9_1
    ·rw [if_pos c4] at H
     have c4b0 : decide (0 ≤ x9_1) = true := decide_eq_true c4
     clear c4
     by_cases c5 : x9_1 < (l0.length : Int)
     ·rw [if_pos c5] at H
      have c5b0 : decide (x9_1 < (l0.length : Int)) = true := decide_eq_true c5
      clear c5
      have HC6 := Aside0.mk H
      clear H
      have p108 : 0 ≤ (x9_1 : Int) := of_decide_eq_true (by first | (with_reducible assumption) | assumption)
      have q108 : x9_1 < (l0.length : Int) := of_decide_eq_true (by first | (with_reducible assumption) | assumption)
      obtain ⟨ad108, e108, hx108_0⟩ := Kd.at_int HR0.out x9_1 p108 q108
      cases e108
      replace hx108_0 := (HB.out.cell (World.block_lt_of_cell? w _ hx108_0)).trans hx108_0
      replace p108 := eq_true p108
      replace q108 := eq_true q108
      go_upto_if 26 with (fail)
      go_cut [8] (fun v8 wc => ∃ (kq : Nat) (x8_5 : Int), v8 = .int .i64 x8_5 ∧ Aside0 (mezzotintref04_Round.j1 kq l0 x7_1 x8_5 (wrap64 (x9_1 + 1)) (rd l0 x9_1) = some (r1, r2, r3)) ∧ Aside0 (kq ≤ k1) ∧ Aside0 (Kd.R (Kd.int .u8) 5 wc w.heap.size (fun _ => True) u7 x7_1) ∧ Aside0 (Below w.heap.size w wc))
      case first =>
       have H := HC6.out
       clear HC6
       by_cases c7 : (rd l0 x9_1) = 40
       ·as_aux_lemma =>
        rw [if_pos c7] at H
        have c7b0 : ((rd l0 x9_1) == 40) = true := beq_iff_eq.mpr c7
        have c7b1 : ((rd l0 x9_1) != 40) = false := bne_eq_false_iff_eq.mpr c7
        clear c7
        (first | rw [c7b0] | (simp only [i64_w, i32_w]; rw [c7b0]) | skip)
        have H' := Aside0.mk H
        clear H
        go_wp2
        go_meet
        case rel => exact ⟨_, (wrap64 (x8_1 + 1)), (by first | rfl | (simp; done) | (simp [*]; done)), H', ⟨by have := HK1.out; first | omega | exact Nat.le_refl _⟩, ⟨by (with_reducible repeat (first | apply Kd.R_alloc | apply Kd.R_drewN | apply Kd.R_drew)); exact HO_7.out⟩, ⟨by repeat (first | (with_reducible first | exact HB.out | apply below_alloc | apply pw_below_drewN | apply below_drew1) | exact HB.out)⟩⟩
       ·as_aux_lemma =>
        rw [if_neg c7] at H
        have c7b0 : ((rd l0 x9_1) == 40) = false := beq_eq_false_iff_ne.mpr c7
        have c7b1 : ((rd l0 x9_1) != 40) = true := bne_iff_ne.mpr c7
        (first | rw [c7b0] | (simp only [i64_w, i32_w]; rw [c7b0]) | skip)
        have H' := Aside0.mk H
        clear H
        go_wp2
        go_meet
        case rel => exact ⟨_, (x8_1), (by first | rfl | (simp; done) | (simp [*]; done)), H', ⟨by have := HK1.out; first | omega | exact Nat.le_refl _⟩, ⟨by (with_reducible repeat (first | apply Kd.R_alloc | apply Kd.R_drewN | apply Kd.R_drew)); exact HO_7.out⟩, ⟨by repeat (first | (with_reducible first | exact HB.out | apply below_alloc | apply pw_below_drewN | apply below_drew1) | exact HB.out)⟩⟩
      case rest =>
       clear HC6
       try clear p1
       try clear q1
       try clear hx1
       try clear p2
       try clear c3
       try clear c3b0
       try clear c4
       try clear c4b0
       try clear c5
       try clear c5b0
       try clear p6
       try clear c7
       try clear c7b0
       try clear c7b1
       try clear hx108_0
       try clear p108
       try clear p2
       try clear q108
       obtain ⟨kq, x8_5, rfl, HA, HJ5, HO_7, HB⟩ := hcut
       cases kq with
       | zero => exact absurd HA.out (by simp [mezzotintref04_Round.j1])
       | succ kj5 =>
        have H := HA.out
        clear HA
        simp only [mezzotintref04_Round.j1] at H
        have HC8 := Aside0.mk H
        clear H
        go_upto_if 30 with (fail)
        go_cut [8] (fun v8 wc => ∃ (kq : Nat) (x8_7 : Int), v8 = .int .i64 x8_7 ∧ Aside0 (mezzotintref04_Round.j2 kq l0 x7_1 x8_7 (wrap64 (x9_1 + 1)) (rd l0 x9_1) = some (r1, r2, r3)) ∧ Aside0 (kq ≤ kj5) ∧ Aside0 (Kd.R (Kd.int .u8) 5 wc w.heap.size (fun _ => True) u7 x7_1) ∧ Aside0 (Below w.heap.size w wc))
        case first =>
         have H := HC8.out
         clear HC8
         by_cases c9 : (rd l0 x9_1) = 41
         ·as_aux_lemma =>
          rw [if_pos c9] at H
          have c9b0 : ((rd l0 x9_1) == 41) = true := beq_iff_eq.mpr c9
          have c9b1 : ((rd l0 x9_1) != 41) = false := bne_eq_false_iff_eq.mpr c9
          clear c9
          (first | rw [c9b0] | (simp only [i64_w, i32_w]; rw [c9b0]) | skip)
          by_cases c10 : (wrap64 (x8_5 - 1)) = 0
          ·rw [if_pos c10] at H
           have c10b0 : ((wrap64 (x8_5 - 1)) == 0) = true := beq_iff_eq.mpr c10
           have c10b1 : ((wrap64 (x8_5 - 1)) != 0) = false := bne_eq_false_iff_eq.mpr c10
           clear c10
           simp only [Option.some.injEq, Prod.mk.injEq] at H
           obtain ⟨rfl, rfl, rfl⟩ := H
           go_wp2
           go_ret3
           exact ⟨_, by first | rfl | (simp [errW_none, errW_some] <;> rfl) | (simp [*, errW_none, errW_some] <;> rfl), by (with_reducible repeat (first | apply Kd.R_alloc | apply Kd.R_drewN | apply Kd.R_drew)); exact HO_7.out, by repeat (first | (with_reducible first | exact HB.out | apply below_alloc | apply pw_below_drewN | apply below_drew1) | exact HB.out)⟩
          ·rw [if_neg c10] at H
           have c10b0 : ((wrap64 (x8_5 - 1)) == 0) = false := beq_eq_false_iff_ne.mpr c10
           have c10b1 : ((wrap64 (x8_5 - 1)) != 0) = true := bne_iff_ne.mpr c10
           have H' := Aside0.mk H
           clear H
           go_wp2
           go_meet
           case rel => exact ⟨_, (wrap64 (x8_5 - 1)), (by first | rfl | (simp; done) | (simp [*]; done)), H', ⟨by have := HK1.out; have := HJ5.out; first | omega | exact Nat.le_refl _⟩, ⟨by (with_reducible repeat (first | apply Kd.R_alloc | apply Kd.R_drewN | apply Kd.R_drew)); exact HO_7.out⟩, ⟨by repeat (first | (with_reducible first | exact HB.out | apply below_alloc | apply pw_below_drewN | apply below_drew1) | exact HB.out)⟩⟩
         ·as_aux_lemma =>
          rw [if_neg c9] at H
          have c9b0 : ((rd l0 x9_1) == 41) = false := beq_eq_false_iff_ne.mpr c9
          have c9b1 : ((rd l0 x9_1) != 41) = true := bne_iff_ne.mpr c9
          (first | rw [c9b0] | (simp only [i64_w, i32_w]; rw [c9b0]) | skip)
          have H' := Aside0.mk H
          clear H
          go_wp2
          go_meet
          case rel => exact ⟨_, (x8_5), (by first | rfl | (simp; done) | (simp [*]; done)), H', ⟨by have := HK1.out; have := HJ5.out; first | omega | exact Nat.le_refl _⟩, ⟨by (with_reducible repeat (first | apply Kd.R_alloc | apply Kd.R_drewN | apply Kd.R_drew)); exact HO_7.out⟩, ⟨by repeat (first | (with_reducible first | exact HB.out | apply below_alloc | apply pw_below_drewN | apply below_drew1) | exact HB.out)⟩⟩
        case rest =>
         clear HC8
         try clear c1
         try clear p1
         try clear q1
         try clear hx1
         try clear p2
         try clear c3
         try clear c3b0
         try clear c4
         try clear c4b0
         try clear c5
         try clear c5b0
         try clear p6
         try clear c7
         try clear c7b0
         try clear c7b1
         try clear c9
         try clear c9b0
         try clear c9b1
         try clear c10
         try clear c10b0
         try clear c10b1
         try clear p10
         try clear q10
         try clear hx10
         try clear hx108_0
         try clear p1
         try clear p108
         try clear p2
         try clear p6
         try clear q1
         try clear q108
         obtain ⟨kq, x8_7, rfl, HA, HJ7, HO_7, HB⟩ := hcut
         cases kq with
         | zero => exact absurd HA.out (by simp [mezzotintref04_Round.j2])
         | succ kj7 =>
          have H := HA.out
          clear HA
          simp only [mezzotintref04_Round.j2] at H
          have HC11 := Aside0.mk H
          clear H
          go_upto_if 38 with (fail)
          go_cut [9, 10] (fun v9 v10 wc => ∃ (kq : Nat) (x9_10 : Int) (x10_10 : Int), v9 = .int .i64 x9_10 ∧ v10 = .int .u8 x10_10 ∧ Aside0 (mezzotintref04_Round.j3 kq l0 x7_1 x8_7 x9_10 x10_10 = some (r1, r2, r3)) ∧ Aside0 (kq ≤ kj7) ∧ Aside0 (Kd.R (Kd.int .u8) 5 wc w.heap.size (fun _ => True) u7 x7_1) ∧ Aside0 (Below w.heap.size w wc))
          case first =>
           have H := HC11.out
           clear HC11
           by_cases c12 : (rd l0 x9_1) = 13
           ·as_aux_lemma =>
            rw [if_pos c12] at H
            have c12b0 : ((rd l0 x9_1) == 13) = true := beq_iff_eq.mpr c12
            have c12b1 : ((rd l0 x9_1) != 13) = false := bne_eq_false_iff_eq.mpr c12
            clear c12
            (first | rw [c12b0] | (simp only [i64_w, i32_w]; rw [c12b0]) | skip)
            by_cases c13 : (wrap64 (x9_1 + 1)) < (l0.length : Int)
            ·rw [if_pos c13] at H
             have c13b0 : decide ((wrap64 (x9_1 + 1)) < (l0.length : Int)) = true := decide_eq_true c13
             clear c13
             obtain ⟨ji14, hji14⟩ : ∃ j_ : Int, (wrap64 (x9_1 + 1)) = j_ := ⟨_, rfl⟩
             replace H : (if 0 ≤ (ji14) then (if (rd l0 (ji14)) = 10 then (mezzotintref04_Round.j3 kj7 l0 x7_1 x8_7 (wrap64 ((ji14) + 1)) 10) else (mezzotintref04_Round.j3 kj7 l0 x7_1 x8_7 (ji14) 10)) else (none)) = some (r1, r2, r3) := by first | (rw [hji14] at H; exact H) | (simp only [hji14] at H ⊢; exact H)
             (try rw [hji14] at c13b0)
             have hji14w : (IntKind.i64.wrap (x9_1 + 1)) = ji14 := (i64_w _).trans hji14
             by_cases c15 : 0 ≤ (ji14)
             ·rw [if_pos c15] at H
              have c15b0 : decide (0 ≤ (ji14)) = true := decide_eq_true c15
              clear c15
              by_cases c16 : (rd l0 (ji14)) = 10
              ·rw [if_pos c16] at H
               have c16b0 : ((rd l0 (ji14)) == 10) = true := beq_iff_eq.mpr c16
               have c16b1 : ((rd l0 (ji14)) != 10) = false := bne_eq_false_iff_eq.mpr c16
               clear c16
               have H' := Aside0.mk H
               clear H
               have p109 : 0 ≤ ((ji14) : Int) := of_decide_eq_true (by first | (with_reducible assumption) | assumption)
               have q109 : (ji14) < (l0.length : Int) := of_decide_eq_true (by first | (with_reducible assumption) | assumption)
               obtain ⟨ad109, e109, hx109_0⟩ := Kd.at_int HR0.out (ji14) p109 q109
               obtain rfl : ad108 = ad109 := (by injection e109)
               replace hx109_0 := (HB.out.cell (World.block_lt_of_cell? w _ hx109_0)).trans hx109_0
               replace p109 := eq_true p109
               replace q109 := eq_true q109
               go_wp2
               go_meet
               case rel => exact ⟨_, (wrap64 ((ji14) + 1)), (10), (by first | rfl | (simp; done) | (simp only [← hji14] <;> (first | rfl | simp)) | (simp [*]; done)), (by first | rfl | (simp; done) | (simp [*]; done)), H', ⟨by have := HK1.out; have := HJ5.out; have := HJ7.out; first | omega | exact Nat.le_refl _⟩, ⟨by (with_reducible repeat (first | apply Kd.R_alloc | apply Kd.R_drewN | apply Kd.R_drew)); exact HO_7.out⟩, ⟨by repeat (first | (with_reducible first | exact HB.out | apply below_alloc | apply pw_below_drewN | apply below_drew1) | exact HB.out)⟩⟩
              ·rw [if_neg c16] at H
               have c16b0 : ((rd l0 (ji14)) == 10) = false := beq_eq_false_iff_ne.mpr c16
               have c16b1 : ((rd l0 (ji14)) != 10) = true := bne_iff_ne.mpr c16
               have H' := Aside0.mk H
               clear H
               have p109 : 0 ≤ ((ji14) : Int) := of_decide_eq_true (by first | (with_reducible assumption) | assumption)
               have q109 : (ji14) < (l0.length : Int) := of_decide_eq_true (by first | (with_reducible assumption) | assumption)
               obtain ⟨ad109, e109, hx109_0⟩ := Kd.at_int HR0.out (ji14) p109 q109
               obtain rfl : ad108 = ad109 := (by injection e109)
               replace hx109_0 := (HB.out.cell (World.block_lt_of_cell? w _ hx109_0)).trans hx109_0
               replace p109 := eq_true p109
               replace q109 := eq_true q109
               go_wp2
               go_meet
               case rel => exact ⟨_, ((ji14)), (10), (by first | rfl | (simp; done) | (simp only [← hji14] <;> (first | rfl | simp)) | (simp [*]; done)), (by first | rfl | (simp; done) | (simp [*]; done)), H', ⟨by have := HK1.out; have := HJ5.out; have := HJ7.out; first | omega | exact Nat.le_refl _⟩, ⟨by (with_reducible repeat (first | apply Kd.R_alloc | apply Kd.R_drewN | apply Kd.R_drew)); exact HO_7.out⟩, ⟨by repeat (first | (with_reducible first | exact HB.out | apply below_alloc | apply pw_below_drewN | apply below_drew1) | exact HB.out)⟩⟩
             ·rw [if_neg c15] at H
              exact absurd H (by simp)
            ·rw [if_neg c13] at H
             have c13b0 : decide ((wrap64 (x9_1 + 1)) < (l0.length : Int)) = false := decide_eq_false c13
             clear c13
             have H' := Aside0.mk H
             clear H
             go_wp2
             go_meet
             case rel => exact ⟨_, ((wrap64 (x9_1 + 1))), (10), (by first | rfl | (simp; done) | (simp [*]; done)), (by first | rfl | (simp; done) | (simp [*]; done)), H', ⟨by have := HK1.out; have := HJ5.out; have := HJ7.out; first | omega | exact Nat.le_refl _⟩, ⟨by (with_reducible repeat (first | apply Kd.R_alloc | apply Kd.R_drewN | apply Kd.R_drew)); exact HO_7.out⟩, ⟨by repeat (first | (with_reducible first | exact HB.out | apply below_alloc | apply pw_below_drewN | apply below_drew1) | exact HB.out)⟩⟩
           ·as_aux_lemma =>
            rw [if_neg c12] at H
            have c12b0 : ((rd l0 x9_1) == 13) = false := beq_eq_false_iff_ne.mpr c12
            have c12b1 : ((rd l0 x9_1) != 13) = true := bne_iff_ne.mpr c12
            (first | rw [c12b0] | (simp only [i64_w, i32_w]; rw [c12b0]) | skip)
            have H' := Aside0.mk H
            clear H
            go_wp2
            go_meet
            case rel => exact ⟨_, ((wrap64 (x9_1 + 1))), ((rd l0 x9_1)), (by first | rfl | (simp; done) | (simp [*]; done)), (by first | rfl | (simp; done) | (simp [*]; done)), H', ⟨by have := HK1.out; have := HJ5.out; have := HJ7.out; first | omega | exact Nat.le_refl _⟩, ⟨by (with_reducible repeat (first | apply Kd.R_alloc | apply Kd.R_drewN | apply Kd.R_drew)); exact HO_7.out⟩, ⟨by repeat (first | (with_reducible first | exact HB.out | apply below_alloc | apply pw_below_drewN | apply below_drew1) | exact HB.out)⟩⟩
          case rest =>
           clear HC11
           try clear c1
           try clear p1
           try clear q1
           try clear hx1
           try clear p2
           try clear c3
           try clear c3b0
           try clear c4
           try clear c4b0
           try clear c5
           try clear c5b0
           try clear p6
           try clear c7
           try clear c7b0
           try clear c7b1
           try clear c9
           try clear c9b0
           try clear c9b1
           try clear c10
           try clear c10b0
           try clear c10b1
           try clear p10
           try clear q10
           try clear hx10
           try clear c12
           try clear c12b0
           try clear c12b1
           try clear c13
           try clear c13b0
           try clear c15
           try clear c15b0
           try clear c16
           try clear c16b0
           try clear c16b1
           try clear hx108_0
           try clear hx109_0
           try clear p1
           try clear p10
           try clear p108
           try clear p109
           try clear p2
           try clear p6
           try clear q1
           try clear q10
           try clear q108
           try clear q109
           obtain ⟨kq, x9_10, x10_10, rfl, rfl, HA, HJ10, HO_7, HB⟩ := hcut
           cases kq with
           | zero => exact absurd HA.out (by simp [mezzotintref04_Round.j3])
           | succ kj10 =>
            have H := HA.out
            clear HA
            simp only [mezzotintref04_Round.j3] at H
            by_cases c17 : x10_10 = 92
            ·rw [if_pos c17] at H
             have c17b0 : (x10_10 == 92) = true := beq_iff_eq.mpr c17
             have c17b1 : (x10_10 != 92) = false := bne_eq_false_iff_eq.mpr c17
             clear c17
             by_cases c18 : x9_10 ≥ (l0.length : Int)
             ·as_aux_lemma =>
              rw [if_pos c18] at H
              have c18b0 : decide ((l0.length : Int) ≤ x9_10) = true := decide_eq_true c18
              clear c18
              simp only [Option.some.injEq, Prod.mk.injEq] at H
              obtain ⟨rfl, rfl, rfl⟩ := H
              go_wp2
              go_ret3
              exact ⟨_, by first | rfl | (simp [errW_none, errW_some] <;> rfl) | (simp [*, errW_none, errW_some] <;> rfl), by first | exact Kd.R_nil _ _ _ _ _ | exact Kd.N_nil _ _ _ _ _ | exact Kd.V_nil _ _ _ _ _ | exact Kd.Q_nil _ _ _ _ _ | exact Kd.S_nil _ _ _ _ _, by repeat (first | (with_reducible first | exact HB.out | apply below_alloc | apply pw_below_drewN | apply below_drew1) | exact HB.out)⟩
             ·rw [if_neg c18] at H
              have c18b0 : decide ((l0.length : Int) ≤ x9_10) = false := decide_eq_false c18
              clear c18
              by_cases c19 : 0 ≤ x9_10
              ·rw [if_pos c19] at H
               have c19b0 : decide (0 ≤ x9_10) = true := decide_eq_true c19
               clear c19
               by_cases c20 : x9_10 < (l0.length : Int)
               ·rw [if_pos c20] at H
                have c20b0 : decide (x9_10 < (l0.length : Int)) = true := decide_eq_true c20
                clear c20
                by_cases c21 : (rd l0 x9_10) = 110
                ·as_aux_lemma =>
                 rw [if_pos c21] at H
                 have c21b0 : ((rd l0 x9_10) == 110) = true := beq_iff_eq.mpr c21
                 have c21b1 : ((rd l0 x9_10) != 110) = false := bne_eq_false_iff_eq.mpr c21
                 clear c21
                 by_cases c22 : x7_1.length < 140737488355328
                 ·rw [if_pos c22] at H
                  have LMc22 := Aside0.mk c22
                  clear c22
                  obtain ⟨y114, hy114⟩ : ∃ y_ : List Int, y_ = (x7_1 ++ [10]) := ⟨_, rfl⟩
                  replace H : (mezzotintref04_Round.l0 kj10 l0 y114 x8_7 (wrap64 (x9_10 + 1))) = some (r1, r2, r3) := by first | (rw [hy114]; with_reducible exact H) | (have H2_ := (Option.bind_some _ _).symm.trans H; rw [hy114]; with_reducible exact H2_) | (have H2_ := (Option.bind_some _ _).symm.trans H; with_reducible exact H2_) | with_reducible exact H | (rw [hy114]; exact H) | exact H
                  have Ny114 := Aside0.mk hy114
                  clear hy114
                  have H' := Aside0.mk H
                  clear H
                  have p113 : 0 ≤ (x9_10 : Int) := of_decide_eq_true (by first | (with_reducible assumption) | assumption)
                  have q113 : x9_10 < (l0.length : Int) := of_decide_eq_true (by first | (with_reducible assumption) | assumption)
                  obtain ⟨ad113, e113, hx113_0⟩ := Kd.at_int HR0.out x9_10 p113 q113
                  obtain rfl : ad108 = ad113 := (by injection e113)
                  replace hx113_0 := (HB.out.cell (World.block_lt_of_cell? w _ hx113_0)).trans hx113_0
                  replace p113 := eq_true p113
                  replace q113 := eq_true q113
                  go_wp2_with (first | ((with_reducible refine gate_builtin (b := .append) (xs := #[.tmp 75, .tmp 76]) rfl ?_); (try (refine gate_guard (by rfl) ?_; dsimp only)); at_builtin; refine Kd.R_append (Kd.int .u8) (w0 := w) w.heap.size rfl (.tmp 75) (.tmp 76) 32 5 (.int .u8 0) 1 rfl Tryd.underlying32 info5 rfl (by decide) (by omega) u7 x7_1 10 [.int .u8 10] (fun _ => True) (fun _ => False) rfl rfl ?aP (fun _ hk => hk.elim) ?aF ?aO ?aB ?aS ?aL ?_; (case aP => exact rfl); (case aB => exact (by repeat (first | (with_reducible first | exact HB.out | apply below_alloc | apply pw_below_drewN | apply below_drew1) | exact HB.out))); (case aF => exact (fun _ _ => trivial)); (case aO => exact (by (with_reducible repeat (first | apply Kd.R_alloc | apply Kd.R_drewN | apply Kd.R_drew)); exact HO_7.out)); (case aS => exact (below_size (by repeat (first | (with_reducible first | exact HB.out | apply below_alloc | apply pw_below_drewN | apply below_drew1) | exact HB.out)))); (case aL => have := LMc22.out; omega); intro v115 w23 ho hb hg hat; rw [← Ny114.out] at ho; have n0_ := Aside0.mk (hb); have n1_ := Aside0.mk (ho); clear HB; clear HO_7; have HB := n0_; have HO116 := n1_; clear n0_ n1_; clear ho hb hg hat))
                  go_roundg kj10
                  case measure => have := HK1.out; have := HJ5.out; have := HJ7.out; have := HJ10.out; omega
                  case rel => exact ⟨(y114), (x8_7), (wrap64 (x9_10 + 1)), (by first | rfl | (simp; done) | (simp [*]; done)), (by first | rfl | (simp; done) | (simp [*]; done)), H', ⟨by have := HK1.out; have := HJ5.out; have := HJ7.out; have := HJ10.out; omega⟩, ⟨by (with_reducible repeat (first | apply Kd.R_alloc | apply Kd.R_drewN | apply Kd.R_drew)); exact HO116.out⟩, ⟨by repeat (first | (with_reducible first | exact HB.out | apply below_alloc | apply pw_below_drewN | apply below_drew1) | exact HB.out)⟩⟩
                 ·rw [if_neg c22] at H
                  exact absurd H (by simp)
                ·rw [if_neg c21] at H
                 have c21b0 : ((rd l0 x9_10) == 110) = false := beq_eq_false_iff_ne.mpr c21
                 have c21b1 : ((rd l0 x9_10) != 110) = true := bne_iff_ne.mpr c21
                 by_cases c24 : (rd l0 x9_10) = 114
                 ·as_aux_lemma =>
                  rw [if_pos c24] at H
                  have c24b0 : ((rd l0 x9_10) == 114) = true := beq_iff_eq.mpr c24
                  have c24b1 : ((rd l0 x9_10) != 114) = false := bne_eq_false_iff_eq.mpr c24
                  clear c24
                  by_cases c25 : x7_1.length < 140737488355328
                  ·rw [if_pos c25] at H
                   have LMc25 := Aside0.mk c25
                   clear c25
                   obtain ⟨y117, hy117⟩ : ∃ y_ : List Int, y_ = (x7_1 ++ [13]) := ⟨_, rfl⟩
                   replace H : (mezzotintref04_Round.l0 kj10 l0 y117 x8_7 (wrap64 (x9_10 + 1))) = some (r1, r2, r3) := by first | (rw [hy117]; with_reducible exact H) | (have H2_ := (Option.bind_some _ _).symm.trans H; rw [hy117]; with_reducible exact H2_) | (have H2_ := (Option.bind_some _ _).symm.trans H; with_reducible exact H2_) | with_reducible exact H | (rw [hy117]; exact H) | exact H
                   have Ny117 := Aside0.mk hy117
                   clear hy117
                   have H' := Aside0.mk H
                   clear H
                   have p113 : 0 ≤ (x9_10 : Int) := of_decide_eq_true (by first | (with_reducible assumption) | assumption)
                   have q113 : x9_10 < (l0.length : Int) := of_decide_eq_true (by first | (with_reducible assumption) | assumption)
                   obtain ⟨ad113, e113, hx113_0⟩ := Kd.at_int HR0.out x9_10 p113 q113
                   obtain rfl : ad108 = ad113 := (by injection e113)
                   replace hx113_0 := (HB.out.cell (World.block_lt_of_cell? w _ hx113_0)).trans hx113_0
                   replace p113 := eq_true p113
                   replace q113 := eq_true q113
                   go_wp2_with (first | ((with_reducible refine gate_builtin (b := .append) (xs := #[.tmp 81, .tmp 82]) rfl ?_); (try (refine gate_guard (by rfl) ?_; dsimp only)); at_builtin; refine Kd.R_append (Kd.int .u8) (w0 := w) w.heap.size rfl (.tmp 81) (.tmp 82) 32 5 (.int .u8 0) 1 rfl Tryd.underlying32 info5 rfl (by decide) (by omega) u7 x7_1 13 [.int .u8 13] (fun _ => True) (fun _ => False) rfl rfl ?aP (fun _ hk => hk.elim) ?aF ?aO ?aB ?aS ?aL ?_; (case aP => exact rfl); (case aB => exact (by repeat (first | (with_reducible first | exact HB.out | apply below_alloc | apply pw_below_drewN | apply below_drew1) | exact HB.out))); (case aF => exact (fun _ _ => trivial)); (case aO => exact (by (with_reducible repeat (first | apply Kd.R_alloc | apply Kd.R_drewN | apply Kd.R_drew)); exact HO_7.out)); (case aS => exact (below_size (by repeat (first | (with_reducible first | exact HB.out | apply below_alloc | apply pw_below_drewN | apply below_drew1) | exact HB.out)))); (case aL => have := LMc25.out; omega); intro v118 w26 ho hb hg hat; rw [← Ny117.out] at ho; have n0_ := Aside0.mk (hb); have n1_ := Aside0.mk (ho); clear HB; clear HO_7; have HB := n0_; have HO119 := n1_; clear n0_ n1_; clear ho hb hg hat))
                   go_roundg kj10
                   case measure => have := HK1.out; have := HJ5.out; have := HJ7.out; have := HJ10.out; omega
                   case rel => exact ⟨(y117), (x8_7), (wrap64 (x9_10 + 1)), (by first | rfl | (simp; done) | (simp [*]; done)), (by first | rfl | (simp; done) | (simp [*]; done)), H', ⟨by have := HK1.out; have := HJ5.out; have := HJ7.out; have := HJ10.out; omega⟩, ⟨by (with_reducible repeat (first | apply Kd.R_alloc | apply Kd.R_drewN | apply Kd.R_drew)); exact HO119.out⟩, ⟨by repeat (first | (with_reducible first | exact HB.out | apply below_alloc | apply pw_below_drewN | apply below_drew1) | exact HB.out)⟩⟩
                  ·rw [if_neg c25] at H
                   exact absurd H (by simp)
                 ·rw [if_neg c24] at H
                  have c24b0 : ((rd l0 x9_10) == 114) = false := beq_eq_false_iff_ne.mpr c24
                  have c24b1 : ((rd l0 x9_10) != 114) = true := bne_iff_ne.mpr c24
                  by_cases c27 : (rd l0 x9_10) = 116
                  ·as_aux_lemma =>
                   rw [if_pos c27] at H
                   have c27b0 : ((rd l0 x9_10) == 116) = true := beq_iff_eq.mpr c27
                   have c27b1 : ((rd l0 x9_10) != 116) = false := bne_eq_false_iff_eq.mpr c27
                   clear c27
                   by_cases c28 : x7_1.length < 140737488355328
                   ·rw [if_pos c28] at H
                    have LMc28 := Aside0.mk c28
                    clear c28
                    obtain ⟨y120, hy120⟩ : ∃ y_ : List Int, y_ = (x7_1 ++ [9]) := ⟨_, rfl⟩
                    replace H : (mezzotintref04_Round.l0 kj10 l0 y120 x8_7 (wrap64 (x9_10 + 1))) = some (r1, r2, r3) := by first | (rw [hy120]; with_reducible exact H) | (have H2_ := (Option.bind_some _ _).symm.trans H; rw [hy120]; with_reducible exact H2_) | (have H2_ := (Option.bind_some _ _).symm.trans H; with_reducible exact H2_) | with_reducible exact H | (rw [hy120]; exact H) | exact H
                    have Ny120 := Aside0.mk hy120
                    clear hy120
                    have H' := Aside0.mk H
                    clear H
                    have p113 : 0 ≤ (x9_10 : Int) := of_decide_eq_true (by first | (with_reducible assumption) | assumption)
                    have q113 : x9_10 < (l0.length : Int) := of_decide_eq_true (by first | (with_reducible assumption) | assumption)
                    obtain ⟨ad113, e113, hx113_0⟩ := Kd.at_int HR0.out x9_10 p113 q113
                    obtain rfl : ad108 = ad113 := (by injection e113)
                    replace hx113_0 := (HB.out.cell (World.block_lt_of_cell? w _ hx113_0)).trans hx113_0
                    replace p113 := eq_true p113
                    replace q113 := eq_true q113
                    go_wp2_with (first | ((with_reducible refine gate_builtin (b := .append) (xs := #[.tmp 87, .tmp 88]) rfl ?_); (try (refine gate_guard (by rfl) ?_; dsimp only)); at_builtin; refine Kd.R_append (Kd.int .u8) (w0 := w) w.heap.size rfl (.tmp 87) (.tmp 88) 32 5 (.int .u8 0) 1 rfl Tryd.underlying32 info5 rfl (by decide) (by omega) u7 x7_1 9 [.int .u8 9] (fun _ => True) (fun _ => False) rfl rfl ?aP (fun _ hk => hk.elim) ?aF ?aO ?aB ?aS ?aL ?_; (case aP => exact rfl); (case aB => exact (by repeat (first | (with_reducible first | exact HB.out | apply below_alloc | apply pw_below_drewN | apply below_drew1) | exact HB.out))); (case aF => exact (fun _ _ => trivial)); (case aO => exact (by (with_reducible repeat (first | apply Kd.R_alloc | apply Kd.R_drewN | apply Kd.R_drew)); exact HO_7.out)); (case aS => exact (below_size (by repeat (first | (with_reducible first | exact HB.out | apply below_alloc | apply pw_below_drewN | apply below_drew1) | exact HB.out)))); (case aL => have := LMc28.out; omega); intro v121 w29 ho hb hg hat; rw [← Ny120.out] at ho; have n0_ := Aside0.mk (hb); have n1_ := Aside0.mk (ho); clear HB; clear HO_7; have HB := n0_; have HO122 := n1_; clear n0_ n1_; clear ho hb hg hat))
                    go_roundg kj10
                    case measure => have := HK1.out; have := HJ5.out; have := HJ7.out; have := HJ10.out; omega
                    case rel => exact ⟨(y120), (x8_7), (wrap64 (x9_10 + 1)), (by first | rfl | (simp; done) | (simp [*]; done)), (by first | rfl | (simp; done) | (simp [*]; done)), H', ⟨by have := HK1.out; have := HJ5.out; have := HJ7.out; have := HJ10.out; omega⟩, ⟨by (with_reducible repeat (first | apply Kd.R_alloc | apply Kd.R_drewN | apply Kd.R_drew)); exact HO122.out⟩, ⟨by repeat (first | (with_reducible first | exact HB.out | apply below_alloc | apply pw_below_drewN | apply below_drew1) | exact HB.out)⟩⟩
                   ·rw [if_neg c28] at H
                    exact absurd H (by simp)
                  ·rw [if_neg c27] at H
                   have c27b0 : ((rd l0 x9_10) == 116) = false := beq_eq_false_iff_ne.mpr c27
                   have c27b1 : ((rd l0 x9_10) != 116) = true := bne_iff_ne.mpr c27
                   by_cases c30 : (rd l0 x9_10) = 98
                   ·as_aux_lemma =>
                    rw [if_pos c30] at H
                    have c30b0 : ((rd l0 x9_10) == 98) = true := beq_iff_eq.mpr c30
                    have c30b1 : ((rd l0 x9_10) != 98) = false := bne_eq_false_iff_eq.mpr c30
                    clear c30
                    by_cases c31 : x7_1.length < 140737488355328
                    ·rw [if_pos c31] at H
                     have LMc31 := Aside0.mk c31
                     clear c31
                     obtain ⟨y123, hy123⟩ : ∃ y_ : List Int, y_ = (x7_1 ++ [8]) := ⟨_, rfl⟩
                     replace H : (mezzotintref04_Round.l0 kj10 l0 y123 x8_7 (wrap64 (x9_10 + 1))) = some (r1, r2, r3) := by first | (rw [hy123]; with_reducible exact H) | (have H2_ := (Option.bind_some _ _).symm.trans H; rw [hy123]; with_reducible exact H2_) | (have H2_ := (Option.bind_some _ _).symm.trans H; with_reducible exact H2_) | with_reducible exact H | (rw [hy123]; exact H) | exact H
                     have Ny123 := Aside0.mk hy123
                     clear hy123
                     have H' := Aside0.mk H
                     clear H
                     have p113 : 0 ≤ (x9_10 : Int) := of_decide_eq_true (by first | (with_reducible assumption) | assumption)
                     have q113 : x9_10 < (l0.length : Int) := of_decide_eq_true (by first | (with_reducible assumption) | assumption)
                     obtain ⟨ad113, e113, hx113_0⟩ := Kd.at_int HR0.out x9_10 p113 q113
                     obtain rfl : ad108 = ad113 := (by injection e113)
                     replace hx113_0 := (HB.out.cell (World.block_lt_of_cell? w _ hx113_0)).trans hx113_0
                     replace p113 := eq_true p113
                     replace q113 := eq_true q113
                     go_wp2_with (first | ((with_reducible refine gate_builtin (b := .append) (xs := #[.tmp 93, .tmp 94]) rfl ?_); (try (refine gate_guard (by rfl) ?_; dsimp only)); at_builtin; refine Kd.R_append (Kd.int .u8) (w0 := w) w.heap.size rfl (.tmp 93) (.tmp 94) 32 5 (.int .u8 0) 1 rfl Tryd.underlying32 info5 rfl (by decide) (by omega) u7 x7_1 8 [.int .u8 8] (fun _ => True) (fun _ => False) rfl rfl ?aP (fun _ hk => hk.elim) ?aF ?aO ?aB ?aS ?aL ?_; (case aP => exact rfl); (case aB => exact (by repeat (first | (with_reducible first | exact HB.out | apply below_alloc | apply pw_below_drewN | apply below_drew1) | exact HB.out))); (case aF => exact (fun _ _ => trivial)); (case aO => exact (by (with_reducible repeat (first | apply Kd.R_alloc | apply Kd.R_drewN | apply Kd.R_drew)); exact HO_7.out)); (case aS => exact (below_size (by repeat (first | (with_reducible first | exact HB.out | apply below_alloc | apply pw_below_drewN | apply below_drew1) | exact HB.out)))); (case aL => have := LMc31.out; omega); intro v124 w32 ho hb hg hat; rw [← Ny123.out] at ho; have n0_ := Aside0.mk (hb); have n1_ := Aside0.mk (ho); clear HB; clear HO_7; have HB := n0_; have HO125 := n1_; clear n0_ n1_; clear ho hb hg hat))
                     go_roundg kj10
                     case measure => have := HK1.out; have := HJ5.out; have := HJ7.out; have := HJ10.out; omega
                     case rel => exact ⟨(y123), (x8_7), (wrap64 (x9_10 + 1)), (by first | rfl | (simp; done) | (simp [*]; done)), (by first | rfl | (simp; done) | (simp [*]; done)), H', ⟨by have := HK1.out; have := HJ5.out; have := HJ7.out; have := HJ10.out; omega⟩, ⟨by (with_reducible repeat (first | apply Kd.R_alloc | apply Kd.R_drewN | apply Kd.R_drew)); exact HO125.out⟩, ⟨by repeat (first | (with_reducible first | exact HB.out | apply below_alloc | apply pw_below_drewN | apply below_drew1) | exact HB.out)⟩⟩
                    ·rw [if_neg c31] at H
                     exact absurd H (by simp)
                   ·rw [if_neg c30] at H
                    have c30b0 : ((rd l0 x9_10) == 98) = false := beq_eq_false_iff_ne.mpr c30
                    have c30b1 : ((rd l0 x9_10) != 98) = true := bne_iff_ne.mpr c30
                    by_cases c33 : (rd l0 x9_10) = 102
                    ·as_aux_lemma =>
                     rw [if_pos c33] at H
                     have c33b0 : ((rd l0 x9_10) == 102) = true := beq_iff_eq.mpr c33
                     have c33b1 : ((rd l0 x9_10) != 102) = false := bne_eq_false_iff_eq.mpr c33
                     clear c33
                     by_cases c34 : x7_1.length < 140737488355328
                     ·rw [if_pos c34] at H
                      have LMc34 := Aside0.mk c34
                      clear c34
                      obtain ⟨y126, hy126⟩ : ∃ y_ : List Int, y_ = (x7_1 ++ [12]) := ⟨_, rfl⟩
                      replace H : (mezzotintref04_Round.l0 kj10 l0 y126 x8_7 (wrap64 (x9_10 + 1))) = some (r1, r2, r3) := by first | (rw [hy126]; with_reducible exact H) | (have H2_ := (Option.bind_some _ _).symm.trans H; rw [hy126]; with_reducible exact H2_) | (have H2_ := (Option.bind_some _ _).symm.trans H; with_reducible exact H2_) | with_reducible exact H | (rw [hy126]; exact H) | exact H
                      have Ny126 := Aside0.mk hy126
                      clear hy126
                      have H' := Aside0.mk H
                      clear H
                      have p113 : 0 ≤ (x9_10 : Int) := of_decide_eq_true (by first | (with_reducible assumption) | assumption)
                      have q113 : x9_10 < (l0.length : Int) := of_decide_eq_true (by first | (with_reducible assumption) | assumption)
                      obtain ⟨ad113, e113, hx113_0⟩ := Kd.at_int HR0.out x9_10 p113 q113
                      obtain rfl : ad108 = ad113 := (by injection e113)
                      replace hx113_0 := (HB.out.cell (World.block_lt_of_cell? w _ hx113_0)).trans hx113_0
                      replace p113 := eq_true p113
                      replace q113 := eq_true q113
                      go_wp2_with (first | ((with_reducible refine gate_builtin (b := .append) (xs := #[.tmp 99, .tmp 100]) rfl ?_); (try (refine gate_guard (by rfl) ?_; dsimp only)); at_builtin; refine Kd.R_append (Kd.int .u8) (w0 := w) w.heap.size rfl (.tmp 99) (.tmp 100) 32 5 (.int .u8 0) 1 rfl Tryd.underlying32 info5 rfl (by decide) (by omega) u7 x7_1 12 [.int .u8 12] (fun _ => True) (fun _ => False) rfl rfl ?aP (fun _ hk => hk.elim) ?aF ?aO ?aB ?aS ?aL ?_; (case aP => exact rfl); (case aB => exact (by repeat (first | (with_reducible first | exact HB.out | apply below_alloc | apply pw_below_drewN | apply below_drew1) | exact HB.out))); (case aF => exact (fun _ _ => trivial)); (case aO => exact (by (with_reducible repeat (first | apply Kd.R_alloc | apply Kd.R_drewN | apply Kd.R_drew)); exact HO_7.out)); (case aS => exact (below_size (by repeat (first | (with_reducible first | exact HB.out | apply below_alloc | apply pw_below_drewN | apply below_drew1) | exact HB.out)))); (case aL => have := LMc34.out; omega); intro v127 w35 ho hb hg hat; rw [← Ny126.out] at ho; have n0_ := Aside0.mk (hb); have n1_ := Aside0.mk (ho); clear HB; clear HO_7; have HB := n0_; have HO128 := n1_; clear n0_ n1_; clear ho hb hg hat))
                      go_roundg kj10
                      case measure => have := HK1.out; have := HJ5.out; have := HJ7.out; have := HJ10.out; omega
                      case rel => exact ⟨(y126), (x8_7), (wrap64 (x9_10 + 1)), (by first | rfl | (simp; done) | (simp [*]; done)), (by first | rfl | (simp; done) | (simp [*]; done)), H', ⟨by have := HK1.out; have := HJ5.out; have := HJ7.out; have := HJ10.out; omega⟩, ⟨by (with_reducible repeat (first | apply Kd.R_alloc | apply Kd.R_drewN | apply Kd.R_drew)); exact HO128.out⟩, ⟨by repeat (first | (with_reducible first | exact HB.out | apply below_alloc | apply pw_below_drewN | apply below_drew1) | exact HB.out)⟩⟩
                     ·rw [if_neg c34] at H
                      exact absurd H (by simp)
                    ·rw [if_neg c33] at H
                     have c33b0 : ((rd l0 x9_10) == 102) = false := beq_eq_false_iff_ne.mpr c33
                     have c33b1 : ((rd l0 x9_10) != 102) = true := bne_iff_ne.mpr c33
                     by_cases c36 : (rd l0 x9_10) = 10
                     ·as_aux_lemma =>
                      rw [if_pos c36] at H
                      have c36b0 : ((rd l0 x9_10) == 10) = true := beq_iff_eq.mpr c36
                      have c36b1 : ((rd l0 x9_10) != 10) = false := bne_eq_false_iff_eq.mpr c36
                      clear c36
                      have H' := Aside0.mk H
                      clear H
                      have p113 : 0 ≤ (x9_10 : Int) := of_decide_eq_true (by first | (with_reducible assumption) | assumption)
                      have q113 : x9_10 < (l0.length : Int) := of_decide_eq_true (by first | (with_reducible assumption) | assumption)
                      obtain ⟨ad113, e113, hx113_0⟩ := Kd.at_int HR0.out x9_10 p113 q113
                      obtain rfl : ad108 = ad113 := (by injection e113)
                      replace hx113_0 := (HB.out.cell (World.block_lt_of_cell? w _ hx113_0)).trans hx113_0
                      replace p113 := eq_true p113
                      replace q113 := eq_true q113
                      go_wp2
                      go_roundg kj10
                      case measure => have := HK1.out; have := HJ5.out; have := HJ7.out; have := HJ10.out; omega
                      case rel => exact ⟨(x7_1), (x8_7), (wrap64 (x9_10 + 1)), (by first | rfl | (simp; done) | (simp [*]; done)), (by first | rfl | (simp; done) | (simp [*]; done)), H', ⟨by have := HK1.out; have := HJ5.out; have := HJ7.out; have := HJ10.out; omega⟩, ⟨by (with_reducible repeat (first | apply Kd.R_alloc | apply Kd.R_drewN | apply Kd.R_drew)); exact HO_7.out⟩, ⟨by repeat (first | (with_reducible first | exact HB.out | apply below_alloc | apply pw_below_drewN | apply below_drew1) | exact HB.out)⟩⟩
                     ·rw [if_neg c36] at H
                      have c36b0 : ((rd l0 x9_10) == 10) = false := beq_eq_false_iff_ne.mpr c36
                      have c36b1 : ((rd l0 x9_10) != 10) = true := bne_iff_ne.mpr c36
                      by_cases c37 : (rd l0 x9_10) = 13
                      ·rw [if_pos c37] at H
                       have c37b0 : ((rd l0 x9_10) == 13) = true := beq_iff_eq.mpr c37
                       have c37b1 : ((rd l0 x9_10) != 13) = false := bne_eq_false_iff_eq.mpr c37
                       clear c37
                       by_cases c38 : (wrap64 (x9_10 + 1)) < (l0.length : Int)
                       ·as_aux_lemma =>
                        rw [if_pos c38] at H
                        have c38b0 : decide ((wrap64 (x9_10 + 1)) < (l0.length : Int)) = true := decide_eq_true c38
                        clear c38
                        obtain ⟨ji39, hji39⟩ : ∃ j_ : Int, (wrap64 (x9_10 + 1)) = j_ := ⟨_, rfl⟩
                        replace H : (if 0 ≤ (ji39) then (if (rd l0 (ji39)) = 10 then (mezzotintref04_Round.l0 kj10 l0 x7_1 x8_7 (wrap64 ((ji39) + 1))) else (mezzotintref04_Round.l0 kj10 l0 x7_1 x8_7 ji39)) else (none)) = some (r1, r2, r3) := by first | (rw [hji39] at H; exact H) | (simp only [hji39] at H ⊢; exact H)
                        (try rw [hji39] at c38b0)
                        have hji39w : (IntKind.i64.wrap (x9_10 + 1)) = ji39 := (i64_w _).trans hji39
                        by_cases c40 : 0 ≤ (ji39)
                        ·rw [if_pos c40] at H
                         have c40b0 : decide (0 ≤ (ji39)) = true := decide_eq_true c40
                         clear c40
                         by_cases c41 : (rd l0 (ji39)) = 10
                         ·rw [if_pos c41] at H
                          have c41b0 : ((rd l0 (ji39)) == 10) = true := beq_iff_eq.mpr c41
                          have c41b1 : ((rd l0 (ji39)) != 10) = false := bne_eq_false_iff_eq.mpr c41
                          clear c41
                          have H' := Aside0.mk H
                          clear H
                          have p113 : 0 ≤ (x9_10 : Int) := of_decide_eq_true (by first | (with_reducible assumption) | assumption)
                          have q113 : x9_10 < (l0.length : Int) := of_decide_eq_true (by first | (with_reducible assumption) | assumption)
                          obtain ⟨ad113, e113, hx113_0⟩ := Kd.at_int HR0.out x9_10 p113 q113
                          obtain rfl : ad108 = ad113 := (by injection e113)
                          replace hx113_0 := (HB.out.cell (World.block_lt_of_cell? w _ hx113_0)).trans hx113_0
                          replace p113 := eq_true p113
                          replace q113 := eq_true q113
                          have p129 : 0 ≤ ((ji39) : Int) := of_decide_eq_true (by first | (with_reducible assumption) | assumption)
                          have q129 : (ji39) < (l0.length : Int) := of_decide_eq_true (by first | (with_reducible assumption) | assumption)
                          obtain ⟨ad129, e129, hx129_0⟩ := Kd.at_int HR0.out (ji39) p129 q129
                          obtain rfl : ad108 = ad129 := (by injection e129)
                          replace hx129_0 := (HB.out.cell (World.block_lt_of_cell? w _ hx129_0)).trans hx129_0
                          replace p129 := eq_true p129
                          replace q129 := eq_true q129
                          go_wp2
                          go_roundg kj10
                          case measure => have := HK1.out; have := HJ5.out; have := HJ7.out; have := HJ10.out; omega
                          case rel => exact ⟨(x7_1), (x8_7), (wrap64 ((ji39) + 1)), (by first | rfl | (simp; done) | (simp [*]; done)), (by first | rfl | (simp; done) | (simp only [← hji39] <;> (first | rfl | simp)) | (simp [*]; done)), H', ⟨by have := HK1.out; have := HJ5.out; have := HJ7.out; have := HJ10.out; omega⟩, ⟨by (with_reducible repeat (first | apply Kd.R_alloc | apply Kd.R_drewN | apply Kd.R_drew)); exact HO_7.out⟩, ⟨by repeat (first | (with_reducible first | exact HB.out | apply below_alloc | apply pw_below_drewN | apply below_drew1) | exact HB.out)⟩⟩
                         ·rw [if_neg c41] at H
                          have c41b0 : ((rd l0 (ji39)) == 10) = false := beq_eq_false_iff_ne.mpr c41
                          have c41b1 : ((rd l0 (ji39)) != 10) = true := bne_iff_ne.mpr c41
                          have H' := Aside0.mk H
                          clear H
                          have p113 : 0 ≤ (x9_10 : Int) := of_decide_eq_true (by first | (with_reducible assumption) | assumption)
                          have q113 : x9_10 < (l0.length : Int) := of_decide_eq_true (by first | (with_reducible assumption) | assumption)
                          obtain ⟨ad113, e113, hx113_0⟩ := Kd.at_int HR0.out x9_10 p113 q113
                          obtain rfl : ad108 = ad113 := (by injection e113)
                          replace hx113_0 := (HB.out.cell (World.block_lt_of_cell? w _ hx113_0)).trans hx113_0
                          replace p113 := eq_true p113
                          replace q113 := eq_true q113
                          have p129 : 0 ≤ ((ji39) : Int) := of_decide_eq_true (by first | (with_reducible assumption) | assumption)
                          have q129 : (ji39) < (l0.length : Int) := of_decide_eq_true (by first | (with_reducible assumption) | assumption)
                          obtain ⟨ad129, e129, hx129_0⟩ := Kd.at_int HR0.out (ji39) p129 q129
                          obtain rfl : ad108 = ad129 := (by injection e129)
                          replace hx129_0 := (HB.out.cell (World.block_lt_of_cell? w _ hx129_0)).trans hx129_0
                          replace p129 := eq_true p129
                          replace q129 := eq_true q129
                          go_wp2
                          go_roundg kj10
                          case measure => have := HK1.out; have := HJ5.out; have := HJ7.out; have := HJ10.out; omega
                          case rel => exact ⟨(x7_1), (x8_7), (ji39), (by first | rfl | (simp; done) | (simp [*]; done)), (by first | rfl | (simp; done) | (simp only [← hji39] <;> (first | rfl | simp)) | (simp [*]; done)), H', ⟨by have := HK1.out; have := HJ5.out; have := HJ7.out; have := HJ10.out; omega⟩, ⟨by (with_reducible repeat (first | apply Kd.R_alloc | apply Kd.R_drewN | apply Kd.R_drew)); exact HO_7.out⟩, ⟨by repeat (first | (with_reducible first | exact HB.out | apply below_alloc | apply pw_below_drewN | apply below_drew1) | exact HB.out)⟩⟩
                        ·rw [if_neg c40] at H
                         exact absurd H (by simp)
                       ·as_aux_lemma =>
                        rw [if_neg c38] at H
                        have c38b0 : decide ((wrap64 (x9_10 + 1)) < (l0.length : Int)) = false := decide_eq_false c38
                        clear c38
                        have H' := Aside0.mk H
                        clear H
                        have p113 : 0 ≤ (x9_10 : Int) := of_decide_eq_true (by first | (with_reducible assumption) | assumption)
                        have q113 : x9_10 < (l0.length : Int) := of_decide_eq_true (by first | (with_reducible assumption) | assumption)
                        obtain ⟨ad113, e113, hx113_0⟩ := Kd.at_int HR0.out x9_10 p113 q113
                        obtain rfl : ad108 = ad113 := (by injection e113)
                        replace hx113_0 := (HB.out.cell (World.block_lt_of_cell? w _ hx113_0)).trans hx113_0
                        replace p113 := eq_true p113
                        replace q113 := eq_true q113
                        go_wp2
                        go_roundg kj10
                        case measure => have := HK1.out; have := HJ5.out; have := HJ7.out; have := HJ10.out; omega
                        case rel => exact ⟨(x7_1), (x8_7), (wrap64 (x9_10 + 1)), (by first | rfl | (simp; done) | (simp [*]; done)), (by first | rfl | (simp; done) | (simp [*]; done)), H', ⟨by have := HK1.out; have := HJ5.out; have := HJ7.out; have := HJ10.out; omega⟩, ⟨by (with_reducible repeat (first | apply Kd.R_alloc | apply Kd.R_drewN | apply Kd.R_drew)); exact HO_7.out⟩, ⟨by repeat (first | (with_reducible first | exact HB.out | apply below_alloc | apply pw_below_drewN | apply below_drew1) | exact HB.out)⟩⟩
                      ·rw [if_neg c37] at H
                       have c37b0 : ((rd l0 x9_10) == 13) = false := beq_eq_false_iff_ne.mpr c37
                       have c37b1 : ((rd l0 x9_10) != 13) = true := bne_iff_ne.mpr c37
                       have HC42 := Aside0.mk H
                       clear H
                       have p113 : 0 ≤ (x9_10 : Int) := of_decide_eq_true (by first | (with_reducible assumption) | assumption)
                       have q113 : x9_10 < (l0.length : Int) := of_decide_eq_true (by first | (with_reducible assumption) | assumption)
                       obtain ⟨ad113, e113, hx113_0⟩ := Kd.at_int HR0.out x9_10 p113 q113
                       obtain rfl : ad108 = ad113 := (by injection e113)
                       replace hx113_0 := (HB.out.cell (World.block_lt_of_cell? w _ hx113_0)).trans hx113_0
                       replace p113 := eq_true p113
                       replace q113 := eq_true q113
                       go_upto_region 39 with (fail)
                       go_cut [121] (fun v121 wc => ∃ (kq : Nat) (x121_41 : Bool), v121 = .bool x121_41 ∧ Aside0 (mezzotintref04_Round.j4 kq l0 x7_1 x8_7 (wrap64 (x9_10 + 1)) (rd l0 x9_10) x121_41 = some (r1, r2, r3)) ∧ Aside0 (kq ≤ kj10) ∧ Aside0 (Kd.R (Kd.int .u8) 5 wc w.heap.size (fun _ => True) u7 x7_1) ∧ Aside0 (Below w.heap.size w wc))
                       case first =>
                        have H := HC42.out
                        clear HC42
                        by_cases c43 : (rd l0 x9_10) ≥ 48
                        ·as_aux_lemma =>
                         rw [if_pos c43] at H
                         have c43b0 : decide (48 ≤ (rd l0 x9_10)) = true := decide_eq_true c43
                         clear c43
                         (first | rw [c43b0] | (simp only [i64_w, i32_w]; rw [c43b0]) | skip)
                         have H' := Aside0.mk H
                         clear H
                         go_wp2
                         go_meet
                         case rel => exact ⟨_, (decide ((rd l0 x9_10) ≤ 55)), (by first | rfl | (simp; done) | (simp [*]; done)), H', ⟨by have := HK1.out; have := HJ5.out; have := HJ7.out; have := HJ10.out; first | omega | exact Nat.le_refl _⟩, ⟨by (with_reducible repeat (first | apply Kd.R_alloc | apply Kd.R_drewN | apply Kd.R_drew)); exact HO_7.out⟩, ⟨by repeat (first | (with_reducible first | exact HB.out | apply below_alloc | apply pw_below_drewN | apply below_drew1) | exact HB.out)⟩⟩
                        ·as_aux_lemma =>
                         rw [if_neg c43] at H
                         have c43b0 : decide (48 ≤ (rd l0 x9_10)) = false := decide_eq_false c43
                         clear c43
                         (first | rw [c43b0] | (simp only [i64_w, i32_w]; rw [c43b0]) | skip)
                         have H' := Aside0.mk H
                         clear H
                         go_wp2
                         go_meet
                         case rel => exact ⟨_, (false), (by first | rfl | (simp; done) | (simp [*]; done)), H', ⟨by have := HK1.out; have := HJ5.out; have := HJ7.out; have := HJ10.out; first | omega | exact Nat.le_refl _⟩, ⟨by (with_reducible repeat (first | apply Kd.R_alloc | apply Kd.R_drewN | apply Kd.R_drew)); exact HO_7.out⟩, ⟨by repeat (first | (with_reducible first | exact HB.out | apply below_alloc | apply pw_below_drewN | apply below_drew1) | exact HB.out)⟩⟩
                       case rest =>
                        clear HC42
                        try clear c1
                        try clear p1
                        try clear q1
                        try clear hx1
                        try clear c2
                        try clear p2
                        try clear c3
                        try clear c3b0
                        try clear c4
                        try clear c4b0
                        try clear c5
                        try clear c5b0
                        try clear p6
                        try clear c7
                        try clear c7b0
                        try clear c7b1
                        try clear c9
                        try clear c9b0
                        try clear c9b1
                        try clear c10
                        try clear c10b0
                        try clear c10b1
                        try clear p10
                        try clear q10
                        try clear hx10
                        try clear p11
                        try clear q11
                        try clear hx11
                        try clear c12
                        try clear c12b0
                        try clear c12b1
                        try clear p12
                        try clear q12
                        try clear hx12
                        try clear c13
                        try clear c13b0
                        try clear c15
                        try clear c15b0
                        try clear c16
                        try clear c16b0
                        try clear c16b1
                        try clear c17
                        try clear c17b0
                        try clear c17b1
                        try clear c18
                        try clear c18b0
                        try clear c19
                        try clear c19b0
                        try clear c20
                        try clear c20b0
                        try clear c21
                        try clear c21b0
                        try clear c21b1
                        try clear c22
                        try clear c24
                        try clear c24b0
                        try clear c24b1
                        try clear c25
                        try clear c27
                        try clear c27b0
                        try clear c27b1
                        try clear c28
                        try clear c30
                        try clear c30b0
                        try clear c30b1
                        try clear c31
                        try clear c33
                        try clear c33b0
                        try clear c33b1
                        try clear c34
                        try clear c36
                        try clear c36b0
                        try clear c36b1
                        try clear c37
                        try clear c37b0
                        try clear c37b1
                        try clear c38
                        try clear c38b0
                        try clear c40
                        try clear c40b0
                        try clear c41
                        try clear c41b0
                        try clear c41b1
                        try clear c43
                        try clear c43b0
                        try clear hx108_0
                        try clear hx109_0
                        try clear hx113_0
                        try clear hx129_0
                        try clear p1
                        try clear p10
                        try clear p108
                        try clear p109
                        try clear p113
                        try clear p129
                        try clear p2
                        try clear p6
                        try clear q1
                        try clear q10
                        try clear q108
                        try clear q109
                        try clear q113
                        try clear q129
                        obtain ⟨kq, x121_41, rfl, HA, HJ41, HO_7, HB⟩ := hcut
                        cases kq with
                        | zero => exact absurd HA.out (by simp [mezzotintref04_Round.j4])
                        | succ kj41 =>
                         have H := HA.out
                         clear HA
                         simp only [mezzotintref04_Round.j4] at H
                         by_cases c44 : x121_41 = true
                         ·subst c44
                          have H1 : (mezzotintref04_Round.l1 kj41 l0 x7_1 x8_7 (wrap64 (x9_10 + 1)) (((rd l0 x9_10) - 48) % 256) 0) = some (r1, r2, r3) := by rw [if_pos rfl] at H; exact H
                          clear H
                          have H := H1
                          clear H1
                          have H' := Aside0.mk H
                          clear H
                          go_wp2
                          go_loopg [9, 11, 12] kj41 (fun kq v9 v11 v12 w' => ∃ (x9_6 : Int) (x11_6 : Int) (x12_6 : Int), v9 = .int .i64 x9_6 ∧ v11 = .int .i64 x11_6 ∧ v12 = .int .i64 x12_6 ∧ Aside0 (mezzotintref04_Round.l1 kq l0 x7_1 x8_7 x9_6 x11_6 x12_6 = some (r1, r2, r3)) ∧ Aside0 (kq ≤ kj41) ∧ Aside0 (Kd.R (Kd.int .u8) 5 w' w.heap.size (fun _ => True) u7 x7_1) ∧ Aside0 (Below w.heap.size w w'))
                          case atStart => exact ⟨((wrap64 (x9_10 + 1))), (((rd l0 x9_10) - 48) % 256), (0), (by first | rfl | (simp; done) | (simp [*]; done)), (by first | rfl | (simp; done) | (simp [*]; done)), (by first | rfl | (simp; done) | (simp [*]; done)), H', ⟨Nat.le_refl _⟩, ⟨by (with_reducible repeat (first | apply Kd.R_alloc | apply Kd.R_drewN | apply Kd.R_drew)); exact HO_7.out⟩, ⟨by repeat (first | (with_reducible first | exact HB.out | apply below_alloc | apply pw_below_drewN | apply below_drew1) | exact HB.out)⟩⟩
                          case round =>
                           clear H'
                           try clear c1
                           try clear p1
                           try clear q1
                           try clear hx1
                           try clear c2
                           try clear p2
                           try clear c3
                           try clear c3b0
                           try clear c4
                           try clear c4b0
                           try clear c5
                           try clear c5b0
                           try clear p6
                           try clear c7
                           try clear c7b0
                           try clear c7b1
                           try clear c9
                           try clear c9b0
                           try clear c9b1
                           try clear c10
                           try clear c10b0
                           try clear c10b1
                           try clear p10
                           try clear q10
                           try clear hx10
                           try clear p11
                           try clear q11
                           try clear hx11
                           try clear c12
                           try clear c12b0
                           try clear c12b1
                           try clear p12
                           try clear q12
                           try clear hx12
                           try clear c13
                           try clear c13b0
                           try clear c15
                           try clear c15b0
                           try clear c16
                           try clear c16b0
                           try clear c16b1
                           try clear c17
                           try clear c17b0
                           try clear c17b1
                           try clear c18
                           try clear c18b0
                           try clear c19
                           try clear c19b0
                           try clear c20
                           try clear c20b0
                           try clear c21
                           try clear c21b0
                           try clear c21b1
                           try clear c22
                           try clear c24
                           try clear c24b0
                           try clear c24b1
                           try clear c25
                           try clear c27
                           try clear c27b0
                           try clear c27b1
                           try clear c28
                           try clear c30
                           try clear c30b0
                           try clear c30b1
                           try clear c31
                           try clear c33
                           try clear c33b0
                           try clear c33b1
                           try clear c34
                           try clear c36
                           try clear c36b0
                           try clear c36b1
                           try clear c37
                           try clear c37b0
                           try clear c37b1
                           try clear c38
                           try clear c38b0
                           try clear c40
                           try clear c40b0
                           try clear c41
                           try clear c41b0
                           try clear c41b1
                           try clear c43
                           try clear c43b0
                           try clear c44
                           try clear hx108_0
                           try clear hx109_0
                           try clear hx113_0
                           try clear hx129_0
                           try clear p1
                           try clear p10
                           try clear p108
                           try clear p109
                           try clear p11
                           try clear p113
                           try clear p12
                           try clear p129
                           try clear p2
                           try clear p6
                           try clear q1
                           try clear q10
                           try clear q108
                           try clear q109
                           try clear q11
                           try clear q113
                           try clear q12
                           try clear q129
                           obtain ⟨x9_6, x11_6, x12_6, rfl, rfl, rfl, HA, HK6, HO_7, HB⟩ := hrel
                           cases gk with
                           | zero => exact absurd HA.out (by simp [mezzotintref04_Round.l1])
                           | succ k6 =>
                            have H := HA.out
                            clear HA
                            simp only [mezzotintref04_Round.l1] at H
                            by_cases c45 : x12_6 < 2
                            ·rw [if_pos c45] at H
                             have c45b0 : decide (x12_6 < 2) = true := decide_eq_true c45
                             clear c45
                             by_cases c46 : x9_6 < (l0.length : Int)
                             ·rw [if_pos c46] at H
                              have c46b0 : decide (x9_6 < (l0.length : Int)) = true := decide_eq_true c46
                              clear c46
                              by_cases c47 : 0 ≤ x9_6
                              ·rw [if_pos c47] at H
                               have c47b0 : decide (0 ≤ x9_6) = true := decide_eq_true c47
                               clear c47
                               by_cases c48 : (rd l0 x9_6) ≥ 48
                               ·rw [if_pos c48] at H
                                have c48b0 : decide (48 ≤ (rd l0 x9_6)) = true := decide_eq_true c48
                                clear c48
                                by_cases c49 : (rd l0 x9_6) ≤ 55
                                ·as_aux_lemma =>
                                 rw [if_pos c49] at H
                                 have c49b0 : decide ((rd l0 x9_6) ≤ 55) = true := decide_eq_true c49
                                 clear c49
                                 have H' := Aside0.mk H
                                 clear H
                                 have p130 : 0 ≤ (x9_6 : Int) := of_decide_eq_true (by first | (with_reducible assumption) | assumption)
                                 have q130 : x9_6 < (l0.length : Int) := of_decide_eq_true (by first | (with_reducible assumption) | assumption)
                                 obtain ⟨ad130, e130, hx130_0⟩ := Kd.at_int HR0.out x9_6 p130 q130
                                 obtain rfl : ad108 = ad130 := (by injection e130)
                                 replace hx130_0 := (HB.out.cell (World.block_lt_of_cell? w _ hx130_0)).trans hx130_0
                                 replace p130 := eq_true p130
                                 replace q130 := eq_true q130
                                 have p131 : 0 ≤ (x9_6 : Int) := of_decide_eq_true (by first | (with_reducible assumption) | assumption)
                                 have q131 : x9_6 < (l0.length : Int) := of_decide_eq_true (by first | (with_reducible assumption) | assumption)
                                 obtain ⟨ad131, e131, hx131_0⟩ := Kd.at_int HR0.out x9_6 p131 q131
                                 obtain rfl : ad108 = ad131 := (by injection e131)
                                 replace hx131_0 := (HB.out.cell (World.block_lt_of_cell? w _ hx131_0)).trans hx131_0
                                 replace p131 := eq_true p131
                                 replace q131 := eq_true q131
                                 have p132 : 0 ≤ (x9_6 : Int) := of_decide_eq_true (by first | (with_reducible assumption) | assumption)
                                 have q132 : x9_6 < (l0.length : Int) := of_decide_eq_true (by first | (with_reducible assumption) | assumption)
                                 obtain ⟨ad132, e132, hx132_0⟩ := Kd.at_int HR0.out x9_6 p132 q132
                                 obtain rfl : ad108 = ad132 := (by injection e132)
                                 replace hx132_0 := (HB.out.cell (World.block_lt_of_cell? w _ hx132_0)).trans hx132_0
                                 replace p132 := eq_true p132
                                 replace q132 := eq_true q132
                                 go_wp2
                                 go_roundg k6
                                 case measure => have := HK1.out; have := HJ5.out; have := HJ7.out; have := HJ10.out; have := HJ41.out; have := HK6.out; omega
                                 case rel => exact ⟨(wrap64 (x9_6 + 1)), (wrap64 ((wrap64 (x11_6 * 8)) + (((rd l0 x9_6) - 48) % 256))), (wrap64 (x12_6 + 1)), (by first | rfl | (simp; done) | (simp [*]; done)), (by first | rfl | (simp; done) | (simp [*]; done)), (by first | rfl | (simp; done) | (simp [*]; done)), H', ⟨by have := HK1.out; have := HJ5.out; have := HJ7.out; have := HJ10.out; have := HJ41.out; have := HK6.out; omega⟩, ⟨by (with_reducible repeat (first | apply Kd.R_alloc | apply Kd.R_drewN | apply Kd.R_drew)); exact HO_7.out⟩, ⟨by repeat (first | (with_reducible first | exact HB.out | apply below_alloc | apply pw_below_drewN | apply below_drew1) | exact HB.out)⟩⟩
                                ·as_aux_lemma =>
                                 rw [if_neg c49] at H
                                 have c49b0 : decide ((rd l0 x9_6) ≤ 55) = false := decide_eq_false c49
                                 clear c49
                                 by_cases c50 : x7_1.length < 140737488355328
                                 ·rw [if_pos c50] at H
                                  have LMc50 := Aside0.mk c50
                                  clear c50
                                  obtain ⟨y133, hy133⟩ : ∃ y_ : List Int, y_ = (x7_1 ++ [(Int.tmod x11_6 256) % 256]) := ⟨_, rfl⟩
                                  replace H : (mezzotintref04_Round.l0 k6 l0 y133 x8_7 x9_6) = some (r1, r2, r3) := by first | (rw [hy133]; with_reducible exact H) | (have H2_ := (Option.bind_some _ _).symm.trans H; rw [hy133]; with_reducible exact H2_) | (have H2_ := (Option.bind_some _ _).symm.trans H; with_reducible exact H2_) | with_reducible exact H | (rw [hy133]; exact H) | exact H
                                  have Ny133 := Aside0.mk hy133
                                  clear hy133
                                  have H' := Aside0.mk H
                                  clear H
                                  have p130 : 0 ≤ (x9_6 : Int) := of_decide_eq_true (by first | (with_reducible assumption) | assumption)
                                  have q130 : x9_6 < (l0.length : Int) := of_decide_eq_true (by first | (with_reducible assumption) | assumption)
                                  obtain ⟨ad130, e130, hx130_0⟩ := Kd.at_int HR0.out x9_6 p130 q130
                                  obtain rfl : ad108 = ad130 := (by injection e130)
                                  replace hx130_0 := (HB.out.cell (World.block_lt_of_cell? w _ hx130_0)).trans hx130_0
                                  replace p130 := eq_true p130
                                  replace q130 := eq_true q130
                                  have p131 : 0 ≤ (x9_6 : Int) := of_decide_eq_true (by first | (with_reducible assumption) | assumption)
                                  have q131 : x9_6 < (l0.length : Int) := of_decide_eq_true (by first | (with_reducible assumption) | assumption)
                                  obtain ⟨ad131, e131, hx131_0⟩ := Kd.at_int HR0.out x9_6 p131 q131
                                  obtain rfl : ad108 = ad131 := (by injection e131)
                                  replace hx131_0 := (HB.out.cell (World.block_lt_of_cell? w _ hx131_0)).trans hx131_0
                                  replace p131 := eq_true p131
                                  replace q131 := eq_true q131
                                  go_wp2_with (first | ((with_reducible refine gate_builtin (b := .append) (xs := #[.tmp 166, .tmp 170]) rfl ?_); (try (refine gate_guard (by rfl) ?_; dsimp only)); at_builtin; refine Kd.R_append (Kd.int .u8) (w0 := w) w.heap.size rfl (.tmp 166) (.tmp 170) 32 5 (.int .u8 0) 1 rfl Tryd.underlying32 info5 rfl (by decide) (by omega) u7 x7_1 ((Int.tmod x11_6 256) % 256) [.int .u8 ((Int.tmod x11_6 256) % 256)] (fun _ => True) (fun _ => False) rfl rfl ?aP (fun _ hk => hk.elim) ?aF ?aO ?aB ?aS ?aL ?_; (case aP => exact rfl); (case aB => exact (by repeat (first | (with_reducible first | exact HB.out | apply below_alloc | apply pw_below_drewN | apply below_drew1) | exact HB.out))); (case aF => exact (fun _ _ => trivial)); (case aO => exact (by (with_reducible repeat (first | apply Kd.R_alloc | apply Kd.R_drewN | apply Kd.R_drew)); exact HO_7.out)); (case aS => exact (below_size (by repeat (first | (with_reducible first | exact HB.out | apply below_alloc | apply pw_below_drewN | apply below_drew1) | exact HB.out)))); (case aL => have := LMc50.out; omega); intro v134 w51 ho hb hg hat; rw [← Ny133.out] at ho; have n0_ := Aside0.mk (hb); have n1_ := Aside0.mk (ho); clear HB; clear HO_7; have HB := n0_; have HO135 := n1_; clear n0_ n1_; clear ho hb hg hat))
                                  go_roundg k6
                                  case measure => have := HK1.out; have := HJ5.out; have := HJ7.out; have := HJ10.out; have := HJ41.out; have := HK6.out; omega
                                  case rel => exact ⟨(y133), (x8_7), (x9_6), (by first | rfl | (simp; done) | (simp [*]; done)), (by first | rfl | (simp; done) | (simp [*]; done)), H', ⟨by have := HK1.out; have := HJ5.out; have := HJ7.out; have := HJ10.out; have := HJ41.out; have := HK6.out; omega⟩, ⟨by (with_reducible repeat (first | apply Kd.R_alloc | apply Kd.R_drewN | apply Kd.R_drew)); exact HO135.out⟩, ⟨by repeat (first | (with_reducible first | exact HB.out | apply below_alloc | apply pw_below_drewN | apply below_drew1) | exact HB.out)⟩⟩
                                 ·rw [if_neg c50] at H
                                  exact absurd H (by simp)
                               ·as_aux_lemma =>
                                rw [if_neg c48] at H
                                have c48b0 : decide (48 ≤ (rd l0 x9_6)) = false := decide_eq_false c48
                                clear c48
                                by_cases c52 : x7_1.length < 140737488355328
                                ·rw [if_pos c52] at H
                                 have LMc52 := Aside0.mk c52
                                 clear c52
                                 obtain ⟨y136, hy136⟩ : ∃ y_ : List Int, y_ = (x7_1 ++ [(Int.tmod x11_6 256) % 256]) := ⟨_, rfl⟩
                                 replace H : (mezzotintref04_Round.l0 k6 l0 y136 x8_7 x9_6) = some (r1, r2, r3) := by first | (rw [hy136]; with_reducible exact H) | (have H2_ := (Option.bind_some _ _).symm.trans H; rw [hy136]; with_reducible exact H2_) | (have H2_ := (Option.bind_some _ _).symm.trans H; with_reducible exact H2_) | with_reducible exact H | (rw [hy136]; exact H) | exact H
                                 have Ny136 := Aside0.mk hy136
                                 clear hy136
                                 have H' := Aside0.mk H
                                 clear H
                                 have p130 : 0 ≤ (x9_6 : Int) := of_decide_eq_true (by first | (with_reducible assumption) | assumption)
                                 have q130 : x9_6 < (l0.length : Int) := of_decide_eq_true (by first | (with_reducible assumption) | assumption)
                                 obtain ⟨ad130, e130, hx130_0⟩ := Kd.at_int HR0.out x9_6 p130 q130
                                 obtain rfl : ad108 = ad130 := (by injection e130)
                                 replace hx130_0 := (HB.out.cell (World.block_lt_of_cell? w _ hx130_0)).trans hx130_0
                                 replace p130 := eq_true p130
                                 replace q130 := eq_true q130
                                 go_wp2_with (first | ((with_reducible refine gate_builtin (b := .append) (xs := #[.tmp 166, .tmp 170]) rfl ?_); (try (refine gate_guard (by rfl) ?_; dsimp only)); at_builtin; refine Kd.R_append (Kd.int .u8) (w0 := w) w.heap.size rfl (.tmp 166) (.tmp 170) 32 5 (.int .u8 0) 1 rfl Tryd.underlying32 info5 rfl (by decide) (by omega) u7 x7_1 ((Int.tmod x11_6 256) % 256) [.int .u8 ((Int.tmod x11_6 256) % 256)] (fun _ => True) (fun _ => False) rfl rfl ?aP (fun _ hk => hk.elim) ?aF ?aO ?aB ?aS ?aL ?_; (case aP => exact rfl); (case aB => exact (by repeat (first | (with_reducible first | exact HB.out | apply below_alloc | apply pw_below_drewN | apply below_drew1) | exact HB.out))); (case aF => exact (fun _ _ => trivial)); (case aO => exact (by (with_reducible repeat (first | apply Kd.R_alloc | apply Kd.R_drewN | apply Kd.R_drew)); exact HO_7.out)); (case aS => exact (below_size (by repeat (first | (with_reducible first | exact HB.out | apply below_alloc | apply pw_below_drewN | apply below_drew1) | exact HB.out)))); (case aL => have := LMc52.out; omega); intro v137 w53 ho hb hg hat; rw [← Ny136.out] at ho; have n0_ := Aside0.mk (hb); have n1_ := Aside0.mk (ho); clear HB; clear HO_7; have HB := n0_; have HO138 := n1_; clear n0_ n1_; clear ho hb hg hat))
                                 go_roundg k6
                                 case measure => have := HK1.out; have := HJ5.out; have := HJ7.out; have := HJ10.out; have := HJ41.out; have := HK6.out; omega
                                 case rel => exact ⟨(y136), (x8_7), (x9_6), (by first | rfl | (simp; done) | (simp [*]; done)), (by first | rfl | (simp; done) | (simp [*]; done)), H', ⟨by have := HK1.out; have := HJ5.out; have := HJ7.out; have := HJ10.out; have := HJ41.out; have := HK6.out; omega⟩, ⟨by (with_reducible repeat (first | apply Kd.R_alloc | apply Kd.R_drewN | apply Kd.R_drew)); exact HO138.out⟩, ⟨by repeat (first | (with_reducible first | exact HB.out | apply below_alloc | apply pw_below_drewN | apply below_drew1) | exact HB.out)⟩⟩
                                ·rw [if_neg c52] at H
                                 exact absurd H (by simp)
                              ·as_aux_lemma =>
                               rw [if_neg c47] at H
                               exact absurd H (by simp)
                             ·as_aux_lemma =>
                              rw [if_neg c46] at H
                              have c46b0 : decide (x9_6 < (l0.length : Int)) = false := decide_eq_false c46
                              clear c46
                              by_cases c54 : x7_1.length < 140737488355328
                              ·rw [if_pos c54] at H
                               have LMc54 := Aside0.mk c54
                               clear c54
                               obtain ⟨y139, hy139⟩ : ∃ y_ : List Int, y_ = (x7_1 ++ [(Int.tmod x11_6 256) % 256]) := ⟨_, rfl⟩
                               replace H : (mezzotintref04_Round.l0 k6 l0 y139 x8_7 x9_6) = some (r1, r2, r3) := by first | (rw [hy139]; with_reducible exact H) | (have H2_ := (Option.bind_some _ _).symm.trans H; rw [hy139]; with_reducible exact H2_) | (have H2_ := (Option.bind_some _ _).symm.trans H; with_reducible exact H2_) | with_reducible exact H | (rw [hy139]; exact H) | exact H
                               have Ny139 := Aside0.mk hy139
                               clear hy139
                               have H' := Aside0.mk H
                               clear H
                               go_wp2_with (first | ((with_reducible refine gate_builtin (b := .append) (xs := #[.tmp 166, .tmp 170]) rfl ?_); (try (refine gate_guard (by rfl) ?_; dsimp only)); at_builtin; refine Kd.R_append (Kd.int .u8) (w0 := w) w.heap.size rfl (.tmp 166) (.tmp 170) 32 5 (.int .u8 0) 1 rfl Tryd.underlying32 info5 rfl (by decide) (by omega) u7 x7_1 ((Int.tmod x11_6 256) % 256) [.int .u8 ((Int.tmod x11_6 256) % 256)] (fun _ => True) (fun _ => False) rfl rfl ?aP (fun _ hk => hk.elim) ?aF ?aO ?aB ?aS ?aL ?_; (case aP => exact rfl); (case aB => exact (by repeat (first | (with_reducible first | exact HB.out | apply below_alloc | apply pw_below_drewN | apply below_drew1) | exact HB.out))); (case aF => exact (fun _ _ => trivial)); (case aO => exact (by (with_reducible repeat (first | apply Kd.R_alloc | apply Kd.R_drewN | apply Kd.R_drew)); exact HO_7.out)); (case aS => exact (below_size (by repeat (first | (with_reducible first | exact HB.out | apply below_alloc | apply pw_below_drewN | apply below_drew1) | exact HB.out)))); (case aL => have := LMc54.out; omega); intro v140 w55 ho hb hg hat; rw [← Ny139.out] at ho; have n0_ := Aside0.mk (hb); have n1_ := Aside0.mk (ho); clear HB; clear HO_7; have HB := n0_; have HO141 := n1_; clear n0_ n1_; clear ho hb hg hat))
                               go_roundg k6
                               case measure => have := HK1.out; have := HJ5.out; have := HJ7.out; have := HJ10.out; have := HJ41.out; have := HK6.out; omega
                               case rel => exact ⟨(y139), (x8_7), (x9_6), (by first | rfl | (simp; done) | (simp [*]; done)), (by first | rfl | (simp; done) | (simp [*]; done)), H', ⟨by have := HK1.out; have := HJ5.out; have := HJ7.out; have := HJ10.out; have := HJ41.out; have := HK6.out; omega⟩, ⟨by (with_reducible repeat (first | apply Kd.R_alloc | apply Kd.R_drewN | apply Kd.R_drew)); exact HO141.out⟩, ⟨by repeat (first | (with_reducible first | exact HB.out | apply below_alloc | apply pw_below_drewN | apply below_drew1) | exact HB.out)⟩⟩
                              ·rw [if_neg c54] at H
                               exact absurd H (by simp)
                            ·as_aux_lemma =>
                             rw [if_neg c45] at H
                             have c45b0 : decide (x12_6 < 2) = false := decide_eq_false c45
                             clear c45
                             by_cases c56 : x7_1.length < 140737488355328
                             ·rw [if_pos c56] at H
                              have LMc56 := Aside0.mk c56
                              clear c56
                              obtain ⟨y142, hy142⟩ : ∃ y_ : List Int, y_ = (x7_1 ++ [(Int.tmod x11_6 256) % 256]) := ⟨_, rfl⟩
                              replace H : (mezzotintref04_Round.l0 k6 l0 y142 x8_7 x9_6) = some (r1, r2, r3) := by first | (rw [hy142]; with_reducible exact H) | (have H2_ := (Option.bind_some _ _).symm.trans H; rw [hy142]; with_reducible exact H2_) | (have H2_ := (Option.bind_some _ _).symm.trans H; with_reducible exact H2_) | with_reducible exact H | (rw [hy142]; exact H) | exact H
                              have Ny142 := Aside0.mk hy142
                              clear hy142
                              have H' := Aside0.mk H
                              clear H
                              go_wp2_with (first | ((with_reducible refine gate_builtin (b := .append) (xs := #[.tmp 166, .tmp 170]) rfl ?_); (try (refine gate_guard (by rfl) ?_; dsimp only)); at_builtin; refine Kd.R_append (Kd.int .u8) (w0 := w) w.heap.size rfl (.tmp 166) (.tmp 170) 32 5 (.int .u8 0) 1 rfl Tryd.underlying32 info5 rfl (by decide) (by omega) u7 x7_1 ((Int.tmod x11_6 256) % 256) [.int .u8 ((Int.tmod x11_6 256) % 256)] (fun _ => True) (fun _ => False) rfl rfl ?aP (fun _ hk => hk.elim) ?aF ?aO ?aB ?aS ?aL ?_; (case aP => exact rfl); (case aB => exact (by repeat (first | (with_reducible first | exact HB.out | apply below_alloc | apply pw_below_drewN | apply below_drew1) | exact HB.out))); (case aF => exact (fun _ _ => trivial)); (case aO => exact (by (with_reducible repeat (first | apply Kd.R_alloc | apply Kd.R_drewN | apply Kd.R_drew)); exact HO_7.out)); (case aS => exact (below_size (by repeat (first | (with_reducible first | exact HB.out | apply below_alloc | apply pw_below_drewN | apply below_drew1) | exact HB.out)))); (case aL => have := LMc56.out; omega); intro v143 w57 ho hb hg hat; rw [← Ny142.out] at ho; have n0_ := Aside0.mk (hb); have n1_ := Aside0.mk (ho); clear HB; clear HO_7; have HB := n0_; have HO144 := n1_; clear n0_ n1_; clear ho hb hg hat))
                              go_roundg k6
                              case measure => have := HK1.out; have := HJ5.out; have := HJ7.out; have := HJ10.out; have := HJ41.out; have := HK6.out; omega
                              case rel => exact ⟨(y142), (x8_7), (x9_6), (by first | rfl | (simp; done) | (simp [*]; done)), (by first | rfl | (simp; done) | (simp [*]; done)), H', ⟨by have := HK1.out; have := HJ5.out; have := HJ7.out; have := HJ10.out; have := HJ41.out; have := HK6.out; omega⟩, ⟨by (with_reducible repeat (first | apply Kd.R_alloc | apply Kd.R_drewN | apply Kd.R_drew)); exact HO144.out⟩, ⟨by repeat (first | (with_reducible first | exact HB.out | apply below_alloc | apply pw_below_drewN | apply below_drew1) | exact HB.out)⟩⟩
                             ·rw [if_neg c56] at H
                              exact absurd H (by simp)
                         ·replace c44 := Bool.eq_false_iff.mpr c44
                          subst c44
                          have H1 : (if x7_1.length < 140737488355328 then (mezzotintref04_Round.l0 kj41 l0 (x7_1 ++ [(rd l0 x9_10)]) x8_7 (wrap64 (x9_10 + 1))) else (none)) = some (r1, r2, r3) := by rw [if_neg (show ¬ (false = true) by decide)] at H; exact H
                          clear H
                          have H := H1
                          clear H1
                          by_cases c58 : x7_1.length < 140737488355328
                          ·as_aux_lemma =>
                           rw [if_pos c58] at H
                           have LMc58 := Aside0.mk c58
                           clear c58
                           obtain ⟨y145, hy145⟩ : ∃ y_ : List Int, y_ = (x7_1 ++ [(rd l0 x9_10)]) := ⟨_, rfl⟩
                           replace H : (mezzotintref04_Round.l0 kj41 l0 y145 x8_7 (wrap64 (x9_10 + 1))) = some (r1, r2, r3) := by first | (rw [hy145]; with_reducible exact H) | (have H2_ := (Option.bind_some _ _).symm.trans H; rw [hy145]; with_reducible exact H2_) | (have H2_ := (Option.bind_some _ _).symm.trans H; with_reducible exact H2_) | with_reducible exact H | (rw [hy145]; exact H) | exact H
                           have Ny145 := Aside0.mk hy145
                           clear hy145
                           have H' := Aside0.mk H
                           clear H
                           go_wp2_with (first | ((with_reducible refine gate_builtin (b := .append) (xs := #[.tmp 68, .tmp 70]) rfl ?_); (try (refine gate_guard (by rfl) ?_; dsimp only)); at_builtin; refine Kd.R_append (Kd.int .u8) (w0 := w) w.heap.size rfl (.tmp 68) (.tmp 70) 32 5 (.int .u8 0) 1 rfl Tryd.underlying32 info5 rfl (by decide) (by omega) u7 x7_1 (rd l0 x9_10) [.int .u8 (rd l0 x9_10)] (fun _ => True) (fun _ => False) rfl rfl ?aP (fun _ hk => hk.elim) ?aF ?aO ?aB ?aS ?aL ?_; (case aP => exact rfl); (case aB => exact (by repeat (first | (with_reducible first | exact HB.out | apply below_alloc | apply pw_below_drewN | apply below_drew1) | exact HB.out))); (case aF => exact (fun _ _ => trivial)); (case aO => exact (by (with_reducible repeat (first | apply Kd.R_alloc | apply Kd.R_drewN | apply Kd.R_drew)); exact HO_7.out)); (case aS => exact (below_size (by repeat (first | (with_reducible first | exact HB.out | apply below_alloc | apply pw_below_drewN | apply below_drew1) | exact HB.out)))); (case aL => have := LMc58.out; omega); intro v146 w59 ho hb hg hat; rw [← Ny145.out] at ho; have n0_ := Aside0.mk (hb); have n1_ := Aside0.mk (ho); clear HB; clear HO_7; have HB := n0_; have HO147 := n1_; clear n0_ n1_; clear ho hb hg hat))
                           go_roundg kj41
                           case measure => have := HK1.out; have := HJ5.out; have := HJ7.out; have := HJ10.out; have := HJ41.out; omega
                           case rel => exact ⟨(y145), (x8_7), ((wrap64 (x9_10 + 1))), (by first | rfl | (simp; done) | (simp [*]; done)), (by first | rfl | (simp; done) | (simp [*]; done)), H', ⟨by have := HK1.out; have := HJ5.out; have := HJ7.out; have := HJ10.out; have := HJ41.out; omega⟩, ⟨by (with_reducible repeat (first | apply Kd.R_alloc | apply Kd.R_drewN | apply Kd.R_drew)); exact HO147.out⟩, ⟨by repeat (first | (with_reducible first | exact HB.out | apply below_alloc | apply pw_below_drewN | apply below_drew1) | exact HB.out)⟩⟩
                          ·as_aux_lemma =>
                           rw [if_neg c58] at H
                           exact absurd H (by simp)
               ·as_aux_lemma =>
                rw [if_neg c20] at H
                exact absurd H (by simp)
              ·as_aux_lemma =>
               rw [if_neg c19] at H
               exact absurd H (by simp)
            ·as_aux_lemma =>
             rw [if_neg c17] at H
             have c17b0 : (x10_10 == 92) = false := beq_eq_false_iff_ne.mpr c17
             have c17b1 : (x10_10 != 92) = true := bne_iff_ne.mpr c17
             by_cases c60 : x7_1.length < 140737488355328
             ·rw [if_pos c60] at H
              have LMc60 := Aside0.mk c60
              clear c60
              obtain ⟨y110, hy110⟩ : ∃ y_ : List Int, y_ = (x7_1 ++ [x10_10]) := ⟨_, rfl⟩
              replace H : (mezzotintref04_Round.l0 kj10 l0 y110 x8_7 x9_10) = some (r1, r2, r3) := by first | (rw [hy110]; with_reducible exact H) | (have H2_ := (Option.bind_some _ _).symm.trans H; rw [hy110]; with_reducible exact H2_) | (have H2_ := (Option.bind_some _ _).symm.trans H; with_reducible exact H2_) | with_reducible exact H | (rw [hy110]; exact H) | exact H
              have Ny110 := Aside0.mk hy110
              clear hy110
              have H' := Aside0.mk H
              clear H
              go_wp2_with (first | ((with_reducible refine gate_builtin (b := .append) (xs := #[.tmp 54, .tmp 56]) rfl ?_); (try (refine gate_guard (by rfl) ?_; dsimp only)); at_builtin; refine Kd.R_append (Kd.int .u8) (w0 := w) w.heap.size rfl (.tmp 54) (.tmp 56) 32 5 (.int .u8 0) 1 rfl Tryd.underlying32 info5 rfl (by decide) (by omega) u7 x7_1 x10_10 [.int .u8 x10_10] (fun _ => True) (fun _ => False) rfl rfl ?aP (fun _ hk => hk.elim) ?aF ?aO ?aB ?aS ?aL ?_; (case aP => exact rfl); (case aB => exact (by repeat (first | (with_reducible first | exact HB.out | apply below_alloc | apply pw_below_drewN | apply below_drew1) | exact HB.out))); (case aF => exact (fun _ _ => trivial)); (case aO => exact (by (with_reducible repeat (first | apply Kd.R_alloc | apply Kd.R_drewN | apply Kd.R_drew)); exact HO_7.out)); (case aS => exact (below_size (by repeat (first | (with_reducible first | exact HB.out | apply below_alloc | apply pw_below_drewN | apply below_drew1) | exact HB.out)))); (case aL => have := LMc60.out; omega); intro v111 w61 ho hb hg hat; rw [← Ny110.out] at ho; have n0_ := Aside0.mk (hb); have n1_ := Aside0.mk (ho); clear HB; clear HO_7; have HB := n0_; have HO112 := n1_; clear n0_ n1_; clear ho hb hg hat))
              go_roundg kj10
              case measure => have := HK1.out; have := HJ5.out; have := HJ7.out; have := HJ10.out; omega
              case rel => exact ⟨(y110), (x8_7), (x9_10), (by first | rfl | (simp; done) | (simp [*]; done)), (by first | rfl | (simp; done) | (simp [*]; done)), H', ⟨by have := HK1.out; have := HJ5.out; have := HJ7.out; have := HJ10.out; omega⟩, ⟨by (with_reducible repeat (first | apply Kd.R_alloc | apply Kd.R_drewN | apply Kd.R_drew)); exact HO112.out⟩, ⟨by repeat (first | (with_reducible first | exact HB.out | apply below_alloc | apply pw_below_drewN | apply below_drew1) | exact HB.out)⟩⟩
             ·rw [if_neg c60] at H
              exact absurd H (by simp)
     ·as_aux_lemma =>
      rw [if_neg c5] at H
      exact absurd H (by simp)
    ·as_aux_lemma =>
     rw [if_neg c4] at H
     exact absurd H (by simp)

end Go.Proofs.YtiocgpfnbmlfaaaDoor.PN
