/- scan: the reader's state; more and next. scan: blanks, regular bytes, hexadecimal digits; skip. scan: word, name, text. scan: escape, what stands behind a backslash. scan: a string in round brackets. scan: a string in pointed brackets. scan: what begins with a slash, or with a pointed bracket. -/
import Derived.Test.YtiocgpfnbmlfaaaDoorBSu2
import Derived.Deep.DeepCutAuto
import Derived.Deep.LoopGhost
import Derived.Deep.RegionWith

/-! ## SA -/
namespace Go.Proofs.YtiocgpfnbmlfaaaDoor.SC
open Go Go.RowKit Go.Proofs.YtiocgpfnbmlfaaaDoor Go.Proofs.YtiocgpfnbmlfaaaDoor.PS1 Go.Proofs.YtiocgpfnbmlfaaaDoor.QD Go.Proofs.YtiocgpfnbmlfaaaDoorW.PrintWords Go.Proofs.YtiocgpfnbmlfaaaDoorW.PrintLast

/-! ### the world but for one block -/
/-- below b, but for block g, all is as it was -/
structure Kb (g b : Nat) (w w' : World) : Prop where
  os : w'.os = w.os
  tape : w'.tape = w.tape
  output : w'.output = w.output
  size : w.heap.size ≤ w'.heap.size
  block : ∀ k, k < b → k ≠ g → w'.heap[k]? = w.heap[k]?
theorem Kb.refl (g b : Nat) (w : World) : Kb g b w w := ⟨rfl, rfl, rfl, Nat.le_refl _, fun _ _ _ => rfl⟩
theorem Kb.trans {g b : Nat} {w1 w2 w3 : World} (h : Kb g b w1 w2) (k : Kb g b w2 w3) : Kb g b w1 w3 :=
  ⟨k.os.trans h.os, k.tape.trans h.tape, k.output.trans h.output, Nat.le_trans h.size k.size, fun i hi hg => (k.block i hi hg).trans (h.block i hi hg)⟩
theorem Kb.mono {g b b' : Nat} {w w' : World} (h : Kb g b w w') (hb : b' ≤ b) : Kb g b' w w' := ⟨h.os, h.tape, h.output, h.size, fun i hi hg => h.block i (by omega) hg⟩
theorem Kb.of_below {g b : Nat} {w w' : World} (h : Below b w w') : Kb g b w w' := ⟨h.os, h.tape, h.output, h.size, fun i hi _ => h.block i hi⟩
theorem Kb.below {g b B : Nat} {w w' : World} (h : Kb g b w w') (hg : B ≤ g) (hB : B ≤ b) : Below B w w' := ⟨h.os, h.tape, h.output, h.size, fun i hi => h.block i (by omega) (by omega)⟩
theorem Kb.set (g b : Nat) (w : World) (o : Nat) (u : Value) : Kb g b w (w.setCell ⟨g, o, none⟩ u) :=
  ⟨rfl, rfl, rfl, by simp [World.setCell], fun i _ hg => Below.heap_setCell w ⟨g, o, none⟩ u i hg⟩
/-- a step behind another, told of its own first world -/
theorem Kb.then_ {g b : Nat} {w1 w2 w3 : World} (h : Kb g b w1 w2) (hb : b ≤ w2.heap.size) (k : Kb g w2.heap.size w2 w3) : Kb g b w1 w3 := h.trans (k.mono hb)
theorem Kb.belows {g b b' : Nat} {w1 w2 w3 : World} (h : Kb g b w1 w2) (k : Below b' w2 w3) (hb : b ≤ b') : Kb g b w1 w3 := h.trans (Kb.of_below (k.mono hb))
theorem drewN_below (w : World) (m : Nat) : Below w.heap.size w (w.drewN m) := (Drawn0.mk ⟨m, rfl⟩).below
theorem drewN_heap (w : World) (m : Nat) : (w.drewN m).heap = w.heap := by
  have h := drewN_below w m
  induction m with
  | zero => rfl
  | succ m ih => rw [← World.drew_drewN]; exact ih (drewN_below w m)

/-! ### the reader: a block of two cells -/
def Rd (w : World) (g : Nat) (A : Option Addr) (n cap p : Nat) : Prop := w.heap[g]? = some (.cells #[.slice A n cap, .int .i64 (p : Int)] 71 (0, 0))
structure St (w0 w : World) (g : Nat) (A : Option Addr) (n cap p : Nat) : Prop where
  blk : Rd w g A n cap p
  ge : w0.heap.size ≤ g
  below : Below w0.heap.size w0 w
/-- bytes as numbers -/
def bI (l : List UInt8) : List Int := l.map fun c => (c.toNat : Int)
theorem bI_len (l : List UInt8) : (bI l).length = l.length := by simp [bI]
theorem bI_str (l : List UInt8) : strOfNums (bI l) = S l := by
  unfold strOfNums bI S
  congr 2
  rw [List.map_map]
  refine List.map_id'' ?_ l
  intro c
  apply UInt8.toNat_inj.1
  simp
/-- the bytes that it reads -/
def Src (w : World) (A : Option Addr) (B : List UInt8) : Prop := ∀ (i : Nat) (c : UInt8), B[i]? = some c → ∃ ad, A = some ad ∧ w.cell? (ad.add i) = some (.int .u8 (c.toNat : Int))

theorem src_of {w : World} {A : Option Addr} {B : List UInt8} (h : (Kd.int .u8).C w A B.length (bI B)) : Src w A B := by
  intro i c hc
  obtain ⟨hlt, rfl⟩ := List.getElem?_eq_some_iff.1 hc
  obtain ⟨ad, e, hx⟩ := Kd.at_int h (i : Int) (by omega) (by omega)
  refine ⟨ad, e, ?_⟩
  rw [Int.toNat_natCast] at hx
  rw [hx]
  unfold rd bI
  rw [Int.toNat_natCast]
  simp [List.getD, hlt]
theorem Rd.lt {w : World} {g n cap p : Nat} {A : Option Addr} (h : Rd w g A n cap p) : g < w.heap.size := by
  rcases Nat.lt_or_ge g w.heap.size with h' | h'
  · exact h'
  · simp [Rd, Array.getElem?_eq_none h'] at h
theorem Rd.facts {w : World} {g n cap p : Nat} {A : Option Addr} (h : Rd w g A n cap p) : (w.cell? ⟨g, 0, none⟩ = some (.slice A n cap) ∧ w.cell? ⟨g, 1, none⟩ = some (.int .i64 (p : Int))) ∧ (w.frozen? ⟨g, 0, none⟩ = false ∧ w.frozen? ⟨g, 1, none⟩ = false) := by
  refine ⟨⟨?_, ?_⟩, Lib.frozen_of_heap h 0, Lib.frozen_of_heap h 1⟩ <;> (rw [Lib.cell_of_heap h]; rfl)
theorem Rd.set {w : World} {g n cap p : Nat} {A : Option Addr} (h : Rd w g A n cap p) (q : Nat) (z : Int) (hz : z = (q : Int)) : Rd (w.setCell ⟨g, 1, none⟩ (.int .i64 z)) g A n cap q := by
  subst hz
  unfold Rd at *
  simp only [World.setCell, Array.getElem?_modify, if_true, h]
  rfl
theorem St.drewN {w0 w : World} {g n cap p : Nat} {A : Option Addr} (h : St w0 w g A n cap p) (m : Nat) : St w0 (w.drewN m) g A n cap p :=
  ⟨by unfold Rd; rw [drewN_heap]; exact h.blk, h.ge, h.below.trans ((drewN_below w m).mono h.below.size)⟩
theorem St.set {w0 w : World} {g n cap p : Nat} {A : Option Addr} (h : St w0 w g A n cap p) (q : Nat) (z : Int) (hz : z = (q : Int)) : St w0 (w.setCell ⟨g, 1, none⟩ (.int .i64 z)) g A n cap q :=
  ⟨h.blk.set q z hz, h.ge, h.below.setCell h.ge _⟩
theorem St.step {w0 w w' : World} {g n cap p b : Nat} {A : Option Addr} (h : St w0 w g A n cap p) (hb : Below b w w') (hg : g < b) : St w0 w' g A n cap p :=
  ⟨(hb.block g hg).trans h.blk, h.ge, h.below.trans (hb.mono (by have := h.ge; omega))⟩
theorem St.byte {w0 w : World} {g n cap p : Nat} {A : Option Addr} {B : List UInt8} (h : St w0 w g A n cap p) (hs : Src w0 A B) {i : Nat} {c : UInt8} (hc : B[i]? = some c) :
    ∃ ad, A = some ad ∧ w.cell? (ad.add i) = some (.int .u8 (c.toNat : Int)) := by
  obtain ⟨ad, e, hx⟩ := hs i c hc
  exact ⟨ad, e, (h.below.cell (World.block_lt_of_cell? w0 _ hx)).trans hx⟩

theorem add_block (ad : Addr) (p : Nat) : (ad.add p).block = ad.block := by
  unfold Addr.add
  split <;> rfl

/-! ### more -/
def QuietQ (v : Value) (w : World) (e : Ending) (w' : World) : Prop := e = .returned v ∧ ∃ m, w' = w.drewN m

set_option maxHeartbeats 1000000 in
set_option maxRecDepth 100000 in
theorem more_is (b : Bool) {w0 w : World} {g n cap p : Nat} {A : Option Addr} (h : St w0 w g A n cap p) (hp : decide (p < n) = b) :
    Calls Tryd.prog 76 #[.pointer (some ⟨g, 0, none⟩)] w fun e w' => e = .returned (.bool b) ∧ ∃ m, w' = w.drewN m := by
  obtain ⟨⟨c0, c1⟩, f0, f1⟩ := h.blk.facts
  have HP := Lib.hid hp
  clear h hp
  go_enter Tryd.func76, Tryd.ntmps76
  go_wp2_with fail
  go_quiet (fail)
  go_wp2_with fail
  go_ret
  exact ⟨congrArg (fun b => Ending.returned (.bool b)) HP.out, _, rfl⟩

/-! ### the reader by what it has still to read -/
structure At (w0 w : World) (g : Nat) (A : Option Addr) (cap : Nat) (B l : List UInt8) : Prop where
  st : St w0 w g A B.length cap (B.length - l.length)
  row : (Kd.int .u8).C w0 A B.length (bI B)
  suf : l <:+ B
  small : B.length ≤ 140737488351232
  capl : B.length ≤ cap
section
variable {w0 w w' : World} {g cap : Nat} {A : Option Addr} {B l t : List UInt8} {c : UInt8}
theorem At.drewN (h : At w0 w g A cap B l) (m : Nat) : At w0 (w.drewN m) g A cap B l := ⟨h.st.drewN m, h.row, h.suf, h.small, h.capl⟩
theorem At.row_at (h : At w0 w g A cap B l) : (Kd.int .u8).C w A B.length (bI B) := Kd.C_below h.row h.st.below
theorem At.src (h : At w0 w g A cap B l) : Src w0 A B := src_of h.row
theorem At.step {b : Nat} (h : At w0 w g A cap B l) (hb : Below b w w') (hg : g < b) : At w0 w' g A cap B l := ⟨h.st.step hb hg, h.row, h.suf, h.small, h.capl⟩
theorem At.len (h : At w0 w g A cap B l) : l.length ≤ B.length := h.suf.length_le
theorem At.cons (h : At w0 w g A cap B (c :: t)) : ∃ p : Nat, B.length - (c :: t).length = p ∧ p < B.length ∧ B.length - t.length = p + 1 ∧ B[p]? = some c := by
  obtain ⟨a, ha⟩ := h.suf
  refine ⟨a.length, ?_, ?_, ?_, ?_⟩
  · rw [← ha]; simp
  · rw [← ha]; simp
  · rw [← ha]; simp; omega
  · rw [← ha]; simp
/-- all that a walk wants to know where a byte is left -/
theorem At.head (h : At w0 w g A cap B (c :: t)) : ∃ (n p : Nat) (ad : Addr), A = some ad ∧ B.length = n ∧ p < n ∧ n ≤ 140737488351232 ∧ B.length - t.length = p + 1 ∧ w.cell? ⟨g, 0, none⟩ = some (.slice A n cap) ∧ w.cell? ⟨g, 1, none⟩ = some (.int .i64 (p : Int)) ∧
    w.frozen? ⟨g, 0, none⟩ = false ∧ w.frozen? ⟨g, 1, none⟩ = false ∧ w.cell? (ad.add p) = some (.int .u8 (c.toNat : Int)) ∧ ad.block ≠ g := by
  obtain ⟨p, hp, hlt, hp1, hc⟩ := h.cons
  have hst := h.st
  rw [hp] at hst
  obtain ⟨ad, e, hx⟩ := hst.byte h.src hc
  obtain ⟨⟨c0, c1⟩, f0, f1⟩ := hst.blk.facts
  refine ⟨B.length, p, ad, e, rfl, hlt, h.small, hp1, c0, c1, f0, f1, hx, fun hb => ?_⟩
  obtain ⟨ad', e', hx'⟩ := h.src p c hc
  rw [e] at e'
  cases e'
  have h1 := World.block_lt_of_cell? w0 _ hx'
  have h2 := h.st.ge
  have h3 := add_block ad p
  omega
theorem cell_set_far {w : World} {ad : Addr} {g o p : Nat} {u v : Value} (h : w.cell? (ad.add p) = some v) (hne : ad.block ≠ g) : (w.setCell ⟨g, o, none⟩ u).cell? (ad.add p) = some v :=
  (World.cell?_of_block (w := w) (w' := w.setCell ⟨g, o, none⟩ u) (a := ad.add p) (Below.heap_setCell w ⟨g, o, none⟩ u (ad.add p).block (by rw [add_block]; exact hne))).trans h
theorem At.set (h : At w0 w g A cap B (c :: t)) (z : Int) (hz : z = ((B.length - t.length : Nat) : Int)) : At w0 (w.setCell ⟨g, 1, none⟩ (.int .i64 z)) g A cap B t :=
  ⟨h.st.set _ z hz, h.row, (List.suffix_cons c t).trans h.suf, h.small, h.capl⟩
theorem At.lt (h : At w0 w g A cap B l) : g < w.heap.size := h.st.blk.lt
theorem At.keep {w'' : World} (h : At w0 w g A cap B l) (hk : Kb g w.heap.size w w'') (hb : w''.heap[g]? = w.heap[g]?) : At w0 w'' g A cap B l :=
  ⟨⟨hb.trans h.st.blk, h.st.ge, h.st.below.trans (hk.below h.st.ge h.st.below.size)⟩, h.row, h.suf, h.small, h.capl⟩
end

/-! ### next -/
def NextQ (b : Bool) (w0 w : World) (g : Nat) (A : Option Addr) (cap : Nat) (B l : List UInt8) (e : Ending) (w' : World) : Prop := e = .returned (.bool b) ∧ At w0 w' g A cap B l ∧ Kb g w.heap.size w w'

set_option maxHeartbeats 1000000 in
set_option maxRecDepth 100000 in
theorem next_yes {w0 w : World} {g cap : Nat} {A : Option Addr} {B t : List UInt8} {c : UInt8} (h : At w0 w g A cap B (c :: t)) (z : Int) (hz : z = (c.toNat : Int)) :
    Calls Tryd.prog 102 #[.pointer (some ⟨g, 0, none⟩), .int .u8 z] w (NextQ true w0 w g A cap B t) := by
  subst hz
  obtain ⟨n, p, ad, rfl, hn, hlt, hsm, hp1, c0, c1, f0, f1, hx, hne⟩ := h.head
  have H := Lib.hid h
  have HP := Lib.hid hp1
  have HM := Lib.hid (fun m => more_is true (h.st.drewN m) (decide_eq_true (show B.length - (c :: t).length < B.length by have := h.len; simp only [List.length_cons] at this ⊢; omega)))
  have g1 : (0 : Int) ≤ (p : Int) := by omega
  have g2 : (p : Int) < (n : Int) := by omega
  have g3 : (n : Int) ≤ 140737488351232 := by omega
  clear h hp1 hn
  go_enter Tryd.func102, Tryd.ntmps102
  go_wp2_with fail
  go_quiet ((go_at_call 76; exact (HM.out _).mono fun e w2 ⟨he, m, hm⟩ => ⟨he, _, hm.trans (World.drewN_drewN ..)⟩))
  go_wp2_with fail
  go_ret
  exact ⟨rfl, (H.out.drewN _).set _ (by rw [HP.out]; push_cast; rfl), (Kb.of_below (drewN_below _ _)).trans (Kb.set _ _ _ _ _)⟩

set_option maxHeartbeats 1000000 in
set_option maxRecDepth 100000 in
theorem next_end {w0 w : World} {g cap : Nat} {A : Option Addr} {B : List UInt8} (h : At w0 w g A cap B []) (z : Int) :
    Calls Tryd.prog 102 #[.pointer (some ⟨g, 0, none⟩), .int .u8 z] w (NextQ false w0 w g A cap B []) := by
  have hst := h.st
  obtain ⟨⟨c0, c1⟩, f0, f1⟩ := hst.blk.facts
  have HM := Lib.hid (fun m => more_is false (hst.drewN m) (decide_eq_false (by simp)))
  have H := Lib.hid h
  clear h hst
  go_enter Tryd.func102, Tryd.ntmps102
  go_wp2_with fail
  go_quiet ((go_at_call 76; exact (HM.out _).mono fun e w2 ⟨he, m, hm⟩ => ⟨he, _, hm.trans (World.drewN_drewN ..)⟩))
  go_wp2_with fail
  go_ret
  exact ⟨rfl, H.out.drewN _, Kb.of_below (drewN_below _ _)⟩

set_option maxHeartbeats 1000000 in
set_option maxRecDepth 100000 in
theorem next_other {w0 w : World} {g cap : Nat} {A : Option Addr} {B t : List UInt8} {c : UInt8} (h : At w0 w g A cap B (c :: t)) (z : Int) (hz : ((c.toNat : Int) == z) = false) :
    Calls Tryd.prog 102 #[.pointer (some ⟨g, 0, none⟩), .int .u8 z] w (NextQ false w0 w g A cap B (c :: t)) := by
  obtain ⟨n, p, ad, rfl, hn, hlt, hsm, hp1, c0, c1, f0, f1, hx, hne⟩ := h.head
  have H := Lib.hid h
  have HP := Lib.hid hp1
  have HM := Lib.hid (fun m => more_is true (h.st.drewN m) (decide_eq_true (show B.length - (c :: t).length < B.length by have := h.len; simp only [List.length_cons] at this ⊢; omega)))
  have g1 : (0 : Int) ≤ (p : Int) := by omega
  have g2 : (p : Int) < (n : Int) := by omega
  have g3 : (n : Int) ≤ 140737488351232 := by omega
  clear h hp1 hn
  go_enter Tryd.func102, Tryd.ntmps102
  go_wp2_with fail
  go_quiet ((go_at_call 76; exact (HM.out _).mono fun e w2 ⟨he, m, hm⟩ => ⟨he, _, hm.trans (World.drewN_drewN ..)⟩))
  go_wp2_with fail
  go_ret
  exact ⟨rfl, H.out.drewN _, Kb.of_below (drewN_below _ _)⟩

/-! ### take -/
def TakeQ (c : UInt8) (w0 w : World) (g : Nat) (A : Option Addr) (cap : Nat) (B l : List UInt8) (e : Ending) (w' : World) : Prop := e = .returned (.int .u8 (c.toNat : Int)) ∧ At w0 w' g A cap B l ∧ Kb g w.heap.size w w'
/-- the panic that scan gives up with -/
def GaveUp (er : Int) (g : Nat) (w : World) (e : Ending) (w' : World) : Prop := e = .panicked [{ v := .iface 28 (.int .i64 er), recovered := false }] ∧ Kb g w.heap.size w w'

set_option maxHeartbeats 1000000 in
set_option maxRecDepth 100000 in
theorem take_yes {w0 w : World} {g cap : Nat} {A : Option Addr} {B t : List UInt8} {c : UInt8} (h : At w0 w g A cap B (c :: t)) :
    Calls Tryd.prog 100 #[.pointer (some ⟨g, 0, none⟩)] w (TakeQ c w0 w g A cap B t) := by
  obtain ⟨n, p, ad, rfl, hn, hlt, hsm, hp1, c0, c1, f0, f1, hx, hne⟩ := h.head
  have H := Lib.hid h
  have HP := Lib.hid hp1
  have HM := Lib.hid (fun m => more_is true (h.st.drewN m) (decide_eq_true (show B.length - (c :: t).length < B.length by have := h.len; simp only [List.length_cons] at this ⊢; omega)))
  have g1 : (0 : Int) ≤ (p : Int) := by omega
  have g2 : (p : Int) < (n : Int) := by omega
  have g3 : (n : Int) ≤ 140737488351232 := by omega
  clear h hp1 hn
  go_enter Tryd.func100, Tryd.ntmps100
  go_wp2_with fail
  refine (HM.out 0).mono ?_
  rintro e w1 ⟨rfl, m, hm⟩
  have HK := Lib.hid (show Kb g w.heap.size w w1 by rw [hm]; exact Kb.of_below (drewN_below w m))
  have H1 := Lib.hid (show At w0 w1 g (some ad) cap B (c :: t) by rw [hm]; exact H.out.drewN m)
  have e1 : w1.heap = w.heap := by rw [hm]; exact drewN_heap w m
  have k0 : w1.cell? ⟨g, 0, none⟩ = some (.slice (some ad) n cap) := (World.cell?_of_block (w := w) (by rw [e1])).trans c0
  have k1 : w1.cell? ⟨g, 1, none⟩ = some (.int .i64 (p : Int)) := (World.cell?_of_block (w := w) (by rw [e1])).trans c1
  have kf : w1.frozen? ⟨g, 1, none⟩ = false := (World.frozen?_of_block (w := w) (by rw [e1])).trans f1
  have kx : (w1.setCell ⟨g, 1, none⟩ (.int .i64 ((p : Int) + 1))).cell? (ad.add p) = some (.int .u8 (c.toNat : Int)) := cell_set_far ((World.cell?_of_block (w := w) (by rw [e1])).trans hx) hne
  clear hm e1 c0 c1 f0 f1 hx HM H
  go_wp2_with fail
  go_quiet (fail)
  go_wp2_with fail
  go_ret
  exact ⟨rfl, (H1.out.set _ (by rw [HP.out]; push_cast; rfl)).drewN _, (HK.out.trans (Kb.set _ _ _ _ _)).belows (drewN_below _ _) (by have := HK.out.size; simpa [World.setCell] using this)⟩

set_option maxHeartbeats 1000000 in
set_option maxRecDepth 100000 in
theorem take_end {w0 w : World} {g cap : Nat} {A : Option Addr} {B : List UInt8} (h : At w0 w g A cap B []) :
    Calls Tryd.prog 100 #[.pointer (some ⟨g, 0, none⟩)] w (GaveUp 14 g w) := by
  have HM := Lib.hid (fun m => more_is false (h.st.drewN m) (decide_eq_false (by simp)))
  clear h
  go_enter Tryd.func100, Tryd.ntmps100
  go_wp2_with fail
  refine (HM.out 0).mono ?_
  rintro e w1 ⟨rfl, m, rfl⟩
  go_wp2_with fail
  exact ⟨rfl, rfl, Kb.of_below (drewN_below w m)⟩

end Go.Proofs.YtiocgpfnbmlfaaaDoor.SC

/-! ## SB -/
namespace Go.Proofs.YtiocgpfnbmlfaaaDoor.SC
open Go Go.RowKit Go.Proofs.YtiocgpfnbmlfaaaDoor Go.Proofs.YtiocgpfnbmlfaaaDoor.PS1 Go.Proofs.YtiocgpfnbmlfaaaDoor.QD Go.Proofs.YtiocgpfnbmlfaaaDoorW.PrintWords Go.Proofs.YtiocgpfnbmlfaaaDoorW.PrintLast

/-! ### bytes -/
def blankN (c : Nat) : Bool := c == 0 || c == 9 || c == 10 || c == 12 || c == 13 || c == 32
def delimN (c : Nat) : Bool := c == 40 || c == 41 || c == 60 || c == 62 || c == 91 || c == 93 || c == 123 || c == 125 || c == 47 || c == 37
def regN (c : Nat) : Bool := !blankN c && !delimN c
def endN (c : Nat) : Bool := c == 10 || c == 12 || c == 13
def hexN (c : Nat) : Int := if 48 ≤ c ∧ c ≤ 57 then (c : Int) - 48 else if 97 ≤ c ∧ c ≤ 102 then (c : Int) - 97 + 10 else if 65 ≤ c ∧ c ≤ 70 then (c : Int) - 65 + 10 else -1
def blankB (c : UInt8) : Bool := blankN c.toNat
def regB (c : UInt8) : Bool := regN c.toNat
def endB (c : UInt8) : Bool := endN c.toNat
def hexI (c : UInt8) : Int := hexN c.toNat

theorem blank_fin : ∀ c : Fin 256, scan_blank.f (c.val : Int) = some (blankN c.val) := by decide +kernel
theorem reg_fin : ∀ c : Fin 256, scan_regular.f (c.val : Int) = some (regN c.val) := by decide +kernel
theorem hex_fin : ∀ c : Fin 256, scan_digit.f 5 (c.val : Int) = some (hexN c.val) := by decide +kernel
theorem end_fin : ∀ c : Fin 256, (endN c.val = false → strings_IndexByte.f ⟨#[10, 12, 13]⟩ (c.val : Int) = some (-1)) ∧ (endN c.val = true → ∃ z : Fin 3, strings_IndexByte.f ⟨#[10, 12, 13]⟩ (c.val : Int) = some (z.val : Int)) := by decide +kernel

theorem blank_is (c : UInt8) (b : Bool) (h : blankB c = b) (w : World) : Calls Tryd.prog 99 #[.int .u8 (c.toNat : Int)] w fun e w' => e = .returned (.bool b) ∧ ∃ m, w' = w.drewN m := by
  subst h
  refine (scan_blank.calls _ _ w (blank_fin ⟨c.toNat, c.toNat_lt⟩)).mono ?_
  rintro e w' ⟨he, hd⟩
  exact ⟨he, hd.out⟩
theorem reg_is (c : UInt8) (b : Bool) (h : regB c = b) (w : World) : Calls Tryd.prog 105 #[.int .u8 (c.toNat : Int)] w fun e w' => e = .returned (.bool b) ∧ ∃ m, w' = w.drewN m := by
  subst h
  refine (scan_regular.calls _ _ w (reg_fin ⟨c.toNat, c.toNat_lt⟩)).mono ?_
  rintro e w' ⟨he, hd⟩
  exact ⟨he, hd.out⟩
theorem hex_is (c : UInt8) (d : Int) (h : hexI c = d) (w : World) : Calls Tryd.prog 118 #[.int .u8 (c.toNat : Int)] w fun e w' => e = .returned (.int .i64 d) ∧ ∃ m, w' = w.drewN m := by
  subst h
  refine (scan_digit.calls 5 _ _ w (hex_fin ⟨c.toNat, c.toNat_lt⟩)).mono ?_
  rintro e w' ⟨he, hd⟩
  exact ⟨he, hd.out⟩
theorem end_no (c : UInt8) (h : endB c = false) (w : World) : Calls Tryd.prog 90 #[.string ⟨#[10, 12, 13]⟩, .int .u8 (c.toNat : Int)] w fun e w' => e = .returned (.int .i64 (-1)) ∧ ∃ m, w' = w.drewN m := by
  refine (strings_IndexByte.calls _ _ _ w ((end_fin ⟨c.toNat, c.toNat_lt⟩).1 h)).mono ?_
  rintro e w' ⟨he, hd⟩
  exact ⟨he, hd.out⟩
theorem end_yes (c : UInt8) (h : endB c = true) : ∃ z : Int, 0 ≤ z ∧ ∀ w, Calls Tryd.prog 90 #[.string ⟨#[10, 12, 13]⟩, .int .u8 (c.toNat : Int)] w fun e w' => e = .returned (.int .i64 z) ∧ ∃ m, w' = w.drewN m := by
  obtain ⟨z, hz⟩ := (end_fin ⟨c.toNat, c.toNat_lt⟩).2 h
  refine ⟨(z.val : Int), by omega, fun w => ?_⟩
  refine (strings_IndexByte.calls _ _ _ w hz).mono ?_
  rintro e w' ⟨he, hd⟩
  exact ⟨he, hd.out⟩

/-- a contract that only draws, as a region that draws wants it -/
theorem quiet_at {f : FuncId} {args : Array Value} {v : Value} {w : World} {k : Nat} (h : Calls Tryd.prog f args (w.drewN k) fun e w' => e = .returned v ∧ ∃ m, w' = (w.drewN k).drewN m) :
    Calls Tryd.prog f args (w.drewN k) fun e w'' => e = .returned v ∧ ∃ m, w'' = w.drewN m :=
  h.mono fun _ _ ⟨he, m, hm⟩ => ⟨he, k + m, by rw [hm, World.drewN_drewN]⟩

section
variable {w0 w w' : World} {g cap : Nat} {A : Option Addr} {B l t : List UInt8} {c : UInt8}
theorem more_cons (h : At w0 w g A cap B (c :: t)) : Calls Tryd.prog 76 #[.pointer (some ⟨g, 0, none⟩)] w fun e w' => e = .returned (.bool true) ∧ ∃ m, w' = w.drewN m :=
  more_is true h.st (decide_eq_true (by have := h.len; simp only [List.length_cons] at this ⊢; omega))
theorem more_nil (h : At w0 w g A cap B []) : Calls Tryd.prog 76 #[.pointer (some ⟨g, 0, none⟩)] w fun e w' => e = .returned (.bool false) ∧ ∃ m, w' = w.drewN m :=
  more_is false h.st (decide_eq_false (by simp))
theorem Kb.drewN {b : Nat} {w2 : World} (h : Kb g b w w2) (hb : b ≤ w2.heap.size) (m : Nat) : Kb g b w (w2.drewN m) := h.belows (drewN_below w2 m) hb
end

theorem end_blankN : ∀ c : Fin 256, endN c.val = true → blankN c.val = true := by decide +kernel
theorem end_blank (c : UInt8) (h : endB c = true) : blankB c = true := end_blankN ⟨c.toNat, c.toNat_lt⟩ h

/-! ### skip -/
/-- blanks and comments are passed; in a comment? -/
def skipL : Bool → List UInt8 → List UInt8
  | _, [] => []
  | true, c :: t => skipL (!endB c) t
  | false, c :: t => if blankB c = true then skipL false t else if c = 37 then skipL true t else c :: t
def SkipQ (w0 w : World) (g : Nat) (A : Option Addr) (cap : Nat) (B l : List UInt8) (e : Ending) (w' : World) : Prop := e = .returned (.tuple #[]) ∧ At w0 w' g A cap B l ∧ Kb g w.heap.size w w'

set_option maxHeartbeats 2000000 in
set_option maxRecDepth 100000 in
theorem skip_any {w0 w : World} {g cap : Nat} {A : Option Addr} {B l : List UInt8} (h : At w0 w g A cap B l) :
    Calls Tryd.prog 75 #[.pointer (some ⟨g, 0, none⟩)] w (SkipQ w0 w g A cap B (skipL false l)) := by
  have H := Lib.hid h
  have HK := Lib.hid (Kb.refl g w.heap.size w)
  clear h
  go_enter Tryd.func75, Tryd.ntmps75
  go_wp2_with fail
  go_loopg [] l.length (fun gk wx => ∃ s : List UInt8, s.length ≤ gk ∧ Hid (skipL false s = skipL false l) ∧ Hid (At w0 wx g A cap B s) ∧ Hid (Kb g w.heap.size w wx))
  case atStart => exact ⟨l, Nat.le_refl _, rfl, H, HK⟩
  case round =>
    clear H HK
    obtain ⟨s, hs, HS, H, HK⟩ := hrel
    cases s with
    | nil =>
      go_wp2_with fail
      refine (more_nil H.out).mono ?_
      rintro e w1 ⟨rfl, m, rfl⟩
      go_wp2_with fail
      go_end0
      exact ⟨rfl, by rw [← HS.out]; exact H.out.drewN m, HK.out.drewN HK.out.size m⟩
    | cons c t =>
      go_wp2_with fail
      refine (more_cons H.out).mono ?_
      rintro e w1 ⟨rfl, m, hm⟩
      replace HK := Lib.hid (show Kb g w.heap.size w w1 by rw [hm]; exact HK.out.drewN HK.out.size m)
      replace H := Lib.hid (show At w0 w1 g A cap B (c :: t) by rw [hm]; exact H.out.drewN m)
      clear hm
      obtain ⟨n, p, ad, rfl, hn, hlt, hsm, hp1, c0, c1, f0, f1, hx, hne⟩ := H.out.head
      have HP := Lib.hid hp1
      have g1 : (0 : Int) ≤ (p : Int) := by omega
      have g2 : (p : Int) < (n : Int) := by omega
      have g3 : (n : Int) ≤ 140737488351232 := by omega
      have HL := Lib.hid hs
      clear hn hp1 hs hlt hsm
      go_wp2_with fail
      go_quiet (fail)
      by_cases hb : blankB c = true
      · have HT := Lib.hid (show skipL false t = skipL false l by rw [← HS.out, skipL, if_pos hb])
        go_wp2_with fail
        refine (blank_is c true hb _).mono ?_
        rintro e w2 ⟨rfl, m2, hm2⟩
        have H2 := Lib.hid (show At w0 w2 g (some ad) cap B (c :: t) by rw [hm2]; exact (H.out.drewN _).drewN m2)
        have HK2 := Lib.hid (show Kb g w.heap.size w w2 by rw [hm2]; exact (HK.out.drewN HK.out.size _).drewN (HK.out.drewN HK.out.size _).size m2)
        clear hm2 c0 c1 f0 f1 hx H HK hb
        obtain ⟨⟨c0, c1⟩, f0, f1⟩ := H2.out.st.blk.facts
        have hpp : B.length - (c :: t).length = p := by have := HP.out; have := H2.out.len; simp only [List.length_cons] at this ⊢; omega
        rw [hpp] at c1
        clear hpp
        go_wp2_with fail
        go_roundg t.length
        case measure => have := HL.out; simp only [List.length_cons] at this; omega
        case rel => exact ⟨t, Nat.le_refl _, HT, H2.out.set _ (by rw [HP.out]; push_cast; rfl), HK2.out.trans (Kb.set _ _ _ _ _)⟩
      · have hb' : blankB c = false := by simpa using hb
        by_cases h37 : c = 37
        · have HT := Lib.hid (show skipL true (c :: t) = skipL false l by rw [← HS.out, skipL, skipL, if_neg hb, if_pos h37, h37]; rfl)
          have H37 := Lib.hid h37
          clear h37
          go_wp2_with fail
          refine (blank_is c false hb' _).mono ?_
          rintro e w2 ⟨rfl, m2, hm2⟩
          have H2 := Lib.hid (show At w0 w2 g (some ad) cap B (c :: t) by rw [hm2]; exact (H.out.drewN _).drewN m2)
          have HK2 := Lib.hid (show Kb g w.heap.size w w2 by rw [hm2]; exact (HK.out.drewN HK.out.size _).drewN (HK.out.drewN HK.out.size _).size m2)
          clear hm2 c0 c1 f0 f1 hx H HK hb hb' HP hne g1 g2
          have hd : ((c.toNat : Int) == 37) = true := by rw [H37.out]; rfl
          go_wp2_with fail
          clear hd
          go_loopg [] (c :: t).length (fun gk wx => ∃ s : List UInt8, s.length ≤ gk ∧ Hid (s = c :: t ∨ s.length ≤ t.length) ∧ Hid (skipL true s = skipL false l) ∧ Hid (At w0 wx g (some ad) cap B s) ∧ Hid (Kb g w.heap.size w wx))
          case atStart => exact ⟨c :: t, Nat.le_refl _, .inl rfl, HT, H2, HK2⟩
          case round =>
            clear H2 HK2 HT HS
            obtain ⟨s, hs, HC, HS, H, HK⟩ := hrel
            cases s with
            | nil =>
              go_wp2_with fail
              go_quiet ((go_at_call 76; exact quiet_at (more_nil (H.out.drewN _))))
              go_wp2_with fail
              go_roundg 0
              case measure => have := HL.out; simp only [List.length_cons] at this; omega
              case rel => exact ⟨[], Nat.le_refl _, HS.out, H.out.drewN _, HK.out.drewN HK.out.size _⟩
            | cons d t2 =>
              obtain ⟨n, p, ad', e', hn, hlt, hsm, hp1, c0, c1, f0, f1, hx, hne⟩ := H.out.head
              cases e'
              have HP := Lib.hid hp1
              have g1 : (0 : Int) ≤ (p : Int) := by omega
              have g2 : (p : Int) < (n : Int) := by omega
              have g3 : (n : Int) ≤ 140737488351232 := by omega
              have HL2 := Lib.hid hs
              clear hn hp1 hs hlt hsm
              cases hb : endB d with
              | true =>
                obtain ⟨z, hz, hE⟩ := end_yes d hb
                have HE := Lib.hid hE
                have HB := Lib.hid hb
                clear hE hb
                go_wp2_with fail
                go_quiet ((first | (go_at_call 76; exact quiet_at (more_cons (H.out.drewN _))) | (go_at_call 90; exact quiet_at (HE.out _))))
                go_wp2_with fail
                have hlen : (d :: t2).length ≤ t.length := by
                  rcases HC.out with e | e
                  · injection e with e1 e2
                    have := HB.out
                    rw [e1, H37.out] at this
                    cases this
                  · exact e
                have HLL := Lib.hid hlen
                clear hlen
                go_roundg (d :: t2).length
                case measure => have := HL.out; have := HLL.out; simp only [List.length_cons] at *; omega
                case rel =>
                  refine ⟨d :: t2, Nat.le_refl _, ?_, H.out.drewN _, HK.out.drewN HK.out.size _⟩
                  have h1 := HS.out
                  rw [skipL, HB.out] at h1
                  show skipL false (d :: t2) = skipL false l
                  rw [skipL, if_pos (end_blank d HB.out), ← h1]
                  rfl
              | false =>
                have HE := Lib.hid (end_no d hb)
                have HB := Lib.hid hb
                clear hb
                go_wp2_with fail
                go_quiet ((first | (go_at_call 76; exact quiet_at (more_cons (H.out.drewN _))) | (go_at_call 90; exact quiet_at (HE.out _))))
                go_wp2_with fail
                go_roundg t2.length
                case measure => have := HL2.out; simp only [List.length_cons] at this; omega
                case rel =>
                  refine ⟨t2, Nat.le_refl _, ?_, ?_, (H.out.drewN _).set _ (by rw [HP.out]; push_cast; rfl), (HK.out.drewN HK.out.size _).trans (Kb.set _ _ _ _ _)⟩
                  · rcases HC.out with e | e
                    · injection e with e1 e2
                      exact .inr (by rw [e2]; exact Nat.le_refl _)
                    · exact .inr (by simp only [List.length_cons] at e; omega)
                  · have h1 := HS.out
                    rw [skipL, HB.out] at h1
                    exact h1
        · have hd : ((c.toNat : Int) == 37) = false := beq_eq_false_iff_ne.2 (fun e => h37 (UInt8.toNat_inj.1 (by show c.toNat = 37; omega)))
          have HT := Lib.hid (show c :: t = skipL false l by rw [← HS.out, skipL, if_neg hb, if_neg h37])
          go_wp2_with fail
          refine (blank_is c false hb' _).mono ?_
          rintro e w2 ⟨rfl, m2, hm2⟩
          have H2 := Lib.hid (show At w0 w2 g (some ad) cap B (c :: t) by rw [hm2]; exact (H.out.drewN _).drewN m2)
          have HK2 := Lib.hid (show Kb g w.heap.size w w2 by rw [hm2]; exact (HK.out.drewN HK.out.size _).drewN (HK.out.drewN HK.out.size _).size m2)
          clear hm2 c0 c1 f0 f1 hx H HK hb hb' h37 hne g1 g2
          go_wp2_with fail
          refine bodyPost_ret (results_none rfl _ _ _) rfl ?_
          exact ⟨rfl, by rw [← HT.out]; exact H2.out, HK2.out⟩

end Go.Proofs.YtiocgpfnbmlfaaaDoor.SC

/-! ## SC -/
namespace Go.Proofs.YtiocgpfnbmlfaaaDoor.SC
open Go Go.RowKit Go.Proofs.YtiocgpfnbmlfaaaDoor Go.Proofs.YtiocgpfnbmlfaaaDoor.PS1 Go.Proofs.YtiocgpfnbmlfaaaDoor.QD Go.Proofs.YtiocgpfnbmlfaaaDoorW.PrintWords Go.Proofs.YtiocgpfnbmlfaaaDoorW.PrintLast

/-! ### word -/
def WordQ (w0 w : World) (g : Nat) (A : Option Addr) (cap : Nat) (B x l : List UInt8) (e : Ending) (w' : World) : Prop := e = .returned (.string (S x)) ∧ At w0 w' g A cap B l ∧ Kb g w.heap.size w w'

theorem mid_bytes {B l s x : List UInt8} (hl : l <:+ B) (hx : l = x ++ s) : ((bI B).take ((B.length - s.length : Nat) : Int).toNat).drop ((B.length - l.length : Nat) : Int).toNat = bI x := by
  obtain ⟨a, ha⟩ := hl
  subst hx
  have h1 : B.length - s.length = (a ++ x).length := by rw [← ha]; simp; omega
  have h2 : B.length - (x ++ s).length = a.length := by rw [← ha]; simp
  rw [Int.toNat_natCast, Int.toNat_natCast, h1, h2, ← ha, ← List.append_assoc]
  unfold bI
  rw [List.map_append, List.take_left' (by simp), List.map_append, List.drop_left' (by simp)]

theorem infoU8 : (Tryd.prog.info? 5).map (fun i => (i.zero, i.size, i.bytes)) = some (some (.int .u8 0), 1, 1) := by kernel_rfl
/-- the bytes from one place to another, as a string -/
theorem cut_str {w : World} {A : Option Addr} {cap n : Nat} {B l s x : List UInt8} (hrow : (Kd.int .u8).C w A B.length (bI B)) (hcap : B.length ≤ cap) (hn : B.length = n) (hl : l <:+ B) (hx : l = x ++ s) (a b : Nat) (ha : B.length - l.length = a) (hb : B.length - s.length = b) :
    ∃ A' k c', (∀ W : World, (Instr.slice 32 (.slice A n cap) (some (.int .i64 (a : Int))) (some (.int .i64 (b : Int))) none).run Tryd.prog W = .ok (.slice A' k c') W) ∧
      ∀ m, (convert 32 9 (.slice A' k c')).run Tryd.prog (w.drewN m) = .ok (.string (S x)) (w.drewN m) := by
  obtain ⟨i0, hi, _, hsz, _⟩ := info_parts infoU8
  have hll : l.length ≤ B.length := hl.length_le
  have hsl : s.length ≤ l.length := by rw [hx]; simp
  obtain ⟨A', hcut, hA, hC⟩ := print_mid_of (P := Tryd.prog) (Value.int .u8) 0 32 5 .i64 .i64 Tryd.underlying32 hi hsz A cap (bI B) (a : Int) (b : Int) (by omega) (by omega) (by rw [bI_len]; omega) (by rw [bI_len]; exact hcap)
  have hmid := mid_bytes hl hx
  rw [hb, ha] at hmid
  rw [hmid] at hcut hA
  rw [bI_len B, hn] at hcut
  refine ⟨A', _, _, hcut, fun m => ?_⟩
  have hr : (Kd.int .u8).C w A (bI B).length (bI B) := by rw [bI_len]; exact hrow
  have h1 := Kd.C_of_reads (h1 := fun _ => rfl) (hA _ (Kd.reads_of_C hr))
  have h2 := Kd.C_drewN h1 m
  have h3 := Kd.C_string (P := Tryd.prog) (A := A') (c := cap - (a : Int).toNat) Tryd.underlying32 Tryd.underlying5 Tryd.underlying9 h2
  rw [bI_str] at h3
  exact h3

set_option maxHeartbeats 2000000 in
set_option maxRecDepth 100000 in
theorem word_any {w0 w : World} {g cap : Nat} {A : Option Addr} {B l : List UInt8} (h : At w0 w g A cap B l) :
    Calls Tryd.prog 80 #[.pointer (some ⟨g, 0, none⟩)] w (WordQ w0 w g A cap B (l.takeWhile regB) (l.dropWhile regB)) := by
  have H := Lib.hid h
  have HK := Lib.hid (Kb.refl g w.heap.size w)
  have HS0 := Lib.hid h.suf
  obtain ⟨⟨c0, c1⟩, f0, f1⟩ := h.st.blk.facts
  clear h
  obtain ⟨p0, hp0⟩ : ∃ p0, B.length - l.length = p0 := ⟨_, rfl⟩
  have HP0 := Lib.hid hp0
  rw [hp0] at c1
  clear hp0
  go_enter Tryd.func80, Tryd.ntmps80
  go_wp2_with fail
  clear c0 c1 f0 f1
  go_loopg [] l.length (fun gk wx => ∃ s x : List UInt8, s.length ≤ gk ∧ Hid (l = x ++ s ∧ x.all regB = true) ∧ Hid (At w0 wx g A cap B s) ∧ Hid (Kb g w.heap.size w wx))
  case atStart => exact ⟨l, [], Nat.le_refl _, ⟨rfl, rfl⟩, H, HK⟩
  case round =>
    clear H HK
    obtain ⟨s, x, hs, HX, H, HK⟩ := hrel
    have fin : ∀ (wx : World) (s x : List UInt8), l = x ++ s → x.all regB = true → (∀ c t, s = c :: t → regB c = false) → l.takeWhile regB = x ∧ l.dropWhile regB = s := by
      intro wx s x e1 e2 e3
      subst e1
      have hz : s.takeWhile regB = [] ∧ s.dropWhile regB = s := by
        cases s with
        | nil => exact ⟨rfl, rfl⟩
        | cons c t => simp [e3 c t rfl]
      rw [List.takeWhile_append_of_pos (fun y hy => List.all_eq_true.1 e2 y hy), List.dropWhile_append_of_pos (fun y hy => List.all_eq_true.1 e2 y hy), hz.1, hz.2, List.append_nil]
      exact ⟨rfl, rfl⟩
    cases s with
    | nil =>
      have HF := Lib.hid (fin wr [] x HX.out.1 HX.out.2 (fun c t e => by cases e))
      obtain ⟨⟨c0, c1⟩, f0, f1⟩ := H.out.st.blk.facts
      obtain ⟨b1, hb1⟩ : ∃ b1, B.length - ([] : List UInt8).length = b1 := ⟨_, rfl⟩
      rw [hb1] at c1
      obtain ⟨A', k, c', hcut, hcv⟩ := cut_str (H.out.row_at) H.out.capl rfl HS0.out HX.out.1 p0 b1 HP0.out hb1
      clear fin hb1
      go_wp2_with fail
      go_quiet ((go_at_call 76; exact quiet_at (more_nil (H.out.drewN _))))
      go_wp2_with fail
      go_quiet (fail)
      go_wp2_with fail
      go_ret
      exact ⟨by rw [HF.out.1]; rfl, by rw [HF.out.2]; exact (H.out.drewN _).drewN _, (HK.out.drewN HK.out.size _).drewN (HK.out.drewN HK.out.size _).size _⟩
    | cons c t =>
      obtain ⟨n, p, ad, rfl, hn, hlt, hsm, hp1, c0, c1, f0, f1, hx, hne⟩ := H.out.head
      have HP := Lib.hid hp1
      have g1 : (0 : Int) ≤ (p : Int) := by omega
      have g2 : (p : Int) < (n : Int) := by omega
      have g3 : (n : Int) ≤ 140737488351232 := by omega
      have HL := Lib.hid hs
      cases hr : regB c with
      | true =>
        have HR := Lib.hid hr
        clear hn hp1 hs hlt hsm fin hr
        go_wp2_with fail
        go_quiet ((first | (go_at_call 76; exact quiet_at (more_cons (H.out.drewN _))) | (go_at_call 105; exact quiet_at (reg_is c true HR.out _))))
        go_wp2_with fail
        go_roundg t.length
        case measure => have := HL.out; simp only [List.length_cons] at this; omega
        case rel =>
          refine ⟨t, x ++ [c], Nat.le_refl _, ⟨?_, ?_⟩, (H.out.drewN _).set _ (by rw [HP.out]; push_cast; rfl), (HK.out.drewN HK.out.size _).trans (Kb.set _ _ _ _ _)⟩
          · rw [HX.out.1]; simp
          · rw [List.all_append, HX.out.2]; simp [HR.out]
      | false =>
        have HF := Lib.hid (fin wr (c :: t) x HX.out.1 HX.out.2 (fun c' t' e => by injection e with e1 e2; rw [← e1]; exact hr))
        have HR := Lib.hid hr
        obtain ⟨A', k, c', hcut, hcv⟩ := cut_str (H.out.row_at) H.out.capl hn HS0.out HX.out.1 p0 p HP0.out (by have := H.out.len; simp only [List.length_cons] at this ⊢; omega)
        clear hn hp1 hs hlt hsm fin hr
        go_wp2_with fail
        go_quiet ((first | (go_at_call 76; exact quiet_at (more_cons (H.out.drewN _))) | (go_at_call 105; exact quiet_at (reg_is c false HR.out _))))
        go_wp2_with fail
        go_quiet (fail)
        go_wp2_with fail
        go_ret
        exact ⟨by rw [HF.out.1]; rfl, by rw [HF.out.2]; exact (H.out.drewN _).drewN _, (HK.out.drewN HK.out.size _).drewN (HK.out.drewN HK.out.size _).size _⟩

/-! ### name, text -/
def NameQ (k : Int) (s : ByteArray) (w : World) (e : Ending) (w' : World) : Prop := e = .returned (.agg #[.int .i64 k, .int .i64 0, .string s]) ∧ Below w.heap.size w w'
def GaveUpB (er : Int) (w : World) (e : Ending) (w' : World) : Prop := e = .panicked [{ v := .iface 28 (.int .i64 er), recovered := false }] ∧ Below w.heap.size w w'

set_option maxHeartbeats 2000000 in
set_option maxRecDepth 100000 in
theorem name_ok (k : Int) (s : ByteArray) (w : World) (hs : s.size ≤ 127) : Calls Tryd.prog 81 #[.int .i64 k, .string s] w (NameQ k s w) := by
  have hsz : ¬ ((127 : Int) < (s.size : Int)) := by omega
  clear hs
  go_enter Tryd.func81, Tryd.ntmps81
  go_wp2_with fail
  refine bodyPost_ret (v := .agg #[.int .i64 k, .int .i64 0, .string s]) (by simp [results, Tryd.results81, go_sem]) rfl ⟨rfl, ?_⟩
  exact (Below.refl _ _).alloc (Nat.le_refl _) _

set_option maxHeartbeats 2000000 in
set_option maxRecDepth 100000 in
theorem name_long (k : Int) (s : ByteArray) (w : World) (hs : 127 < s.size) : Calls Tryd.prog 81 #[.int .i64 k, .string s] w (GaveUpB 9 w) := by
  have hsz : (127 : Int) < (s.size : Int) := by omega
  clear hs
  go_enter Tryd.func81, Tryd.ntmps81
  go_wp2_with fail
  exact ⟨rfl, rfl, (Below.refl _ _).alloc (Nat.le_refl _) _⟩

set_option maxHeartbeats 2000000 in
set_option maxRecDepth 100000 in
theorem text_ok (A : Option Addr) (k c : Nat) (o : List UInt8) (w : World) (hr : (Kd.int .u8).C w A k (bI o)) (hs : k ≤ 65535) : Calls Tryd.prog 103 #[.slice A k c] w (NameQ 6 (S o) w) := by
  have hsz : ¬ ((65535 : Int) < (k : Int)) := by omega
  have hcv := Kd.C_string (P := Tryd.prog) (A := A) (c := c) Tryd.underlying32 Tryd.underlying5 Tryd.underlying9 (Kd.C_alloc hr (.cells #[.int .i64 0, .int .i64 0, .string ⟨#[]⟩] 27))
  rw [bI_str] at hcv
  clear hs hr
  go_enter Tryd.func103, Tryd.ntmps103
  go_wp2_with fail
  refine bodyPost_ret (v := .agg #[.int .i64 6, .int .i64 0, .string (S o)]) (by simp [results, Tryd.results103, go_sem]) rfl ⟨rfl, ?_⟩
  exact (Below.refl _ _).alloc (Nat.le_refl _) _

set_option maxHeartbeats 2000000 in
set_option maxRecDepth 100000 in
theorem text_long (A : Option Addr) (k c : Nat) (w : World) (hs : 65535 < k) : Calls Tryd.prog 103 #[.slice A k c] w (GaveUpB 9 w) := by
  have hsz : (65535 : Int) < (k : Int) := by omega
  clear hs
  go_enter Tryd.func103, Tryd.ntmps103
  go_wp2_with fail
  exact ⟨rfl, rfl, (Below.refl _ _).alloc (Nat.le_refl _) _⟩

end Go.Proofs.YtiocgpfnbmlfaaaDoor.SC

/-! ## SD -/
namespace Go.Proofs.YtiocgpfnbmlfaaaDoor.SC
open Go Go.RowKit Go.Proofs.YtiocgpfnbmlfaaaDoor Go.Proofs.YtiocgpfnbmlfaaaDoor.PS1 Go.Proofs.YtiocgpfnbmlfaaaDoor.QD Go.Proofs.YtiocgpfnbmlfaaaDoorW.PrintWords Go.Proofs.YtiocgpfnbmlfaaaDoorW.PrintLast

def dropLF : List UInt8 → List UInt8
  | [] => []
  | c :: t => if c = 10 then t else c :: t
def NextLF (w0 w : World) (g : Nat) (A : Option Addr) (cap : Nat) (B l : List UInt8) (e : Ending) (w' : World) : Prop := (∃ b, e = .returned (.bool b)) ∧ At w0 w' g A cap B l ∧ Kb g w.heap.size w w'
theorem next_lf {w0 w : World} {g cap : Nat} {A : Option Addr} {B l : List UInt8} (h : At w0 w g A cap B l) :
    Calls Tryd.prog 102 #[.pointer (some ⟨g, 0, none⟩), .int .u8 10] w (NextLF w0 w g A cap B (dropLF l)) := by
  cases l with
  | nil => exact (next_end h 10).mono fun e w' ⟨h1, h2, h3⟩ => ⟨⟨_, h1⟩, h2, h3⟩
  | cons c t =>
    by_cases hc : c = 10
    · rw [dropLF, if_pos hc]
      exact (next_yes h 10 (by rw [hc]; rfl)).mono fun e w' ⟨h1, h2, h3⟩ => ⟨⟨_, h1⟩, h2, h3⟩
    · rw [dropLF, if_neg hc]
      exact (next_other h 10 (beq_eq_false_iff_ne.2 (fun e => hc (UInt8.toNat_inj.1 (by show c.toNat = 10; omega))))).mono fun e w' ⟨h1, h2, h3⟩ => ⟨⟨_, h1⟩, h2, h3⟩

/-- bytes of the call's own -/
def Own (w : World) (b : Nat) (v : Value) (xs : List UInt8) : Prop := Kd.R (Kd.int .u8) 5 w b (fun _ => True) v (bI xs)
theorem Own.snoc {w : World} {b : Nat} {v : Value} {xs : List UInt8} {z : Int} (h : Kd.R (Kd.int .u8) 5 w b (fun _ => True) v (bI xs ++ [z])) (c : UInt8) (hz : z = (c.toNat : Int)) : Own w b v (xs ++ [c]) := by
  subst hz
  unfold Own bI at *
  simpa using h
theorem Own.step {w w' : World} {b : Nat} {v : Value} {xs : List UInt8} (h : Own w b v xs) (hb : Below w.heap.size w w') : Own w' b v xs := Kd.R_below h hb
theorem Own.kept {w w' : World} {g b : Nat} {v : Value} {xs : List UInt8} (h : Own w b v xs) (hk : Kb g w.heap.size w w') (hg : g < b) : Own w' b v xs := by
  refine Kd.R_mono (Kd.R_step (Kd.R_bound h) (fun k hk1 hk2 => ?_)) (fun _ _ => trivial)
  exact hk.block k hk2 (by have := hk1.2.1; omega)

/-! ### escape -/
def isOct (c : UInt8) : Bool := decide (48 ≤ c.toNat) && decide (c.toNat ≤ 55)
/-- up to k digits more of a number -/
def octL : Nat → Nat → List UInt8 → List UInt8 × List UInt8
  | 0, n, l => ([UInt8.ofNat n], l)
  | _ + 1, n, [] => ([UInt8.ofNat n], [])
  | k + 1, n, d :: t => if isOct d = true then octL k (8 * n + (d.toNat - 48)) t else ([UInt8.ofNat n], d :: t)
/-- the bytes that stand for it, and the rest -/
def escL (c : UInt8) (l : List UInt8) : List UInt8 × List UInt8 :=
  if c = 110 then ([10], l) else if c = 114 then ([13], l) else if c = 116 then ([9], l) else if c = 98 then ([8], l) else if c = 102 then ([12], l) else if c = 10 then ([], l) else if c = 13 then ([], dropLF l)
  else if isOct c = true then octL 2 (c.toNat - 48) l else ([c], l)
def EscQ (w0 w : World) (g : Nat) (A : Option Addr) (cap : Nat) (B : List UInt8) (b : Nat) (xs l : List UInt8) (e : Ending) (w' : World) : Prop :=
  ∃ v', e = .returned v' ∧ Own w' b v' xs ∧ At w0 w' g A cap B l ∧ Kb g b w w'

set_option maxHeartbeats 2000000 in
set_option maxRecDepth 100000 in
theorem esc_110 {w0 w : World} {g cap b : Nat} {A : Option Addr} {B l xs : List UInt8} {v : Value} (h : At w0 w g A cap B l) (ho : Own w b v xs) (hg : g < b) (hb : b ≤ w.heap.size) (hx : xs.length ≤ 140737488351232) :
    Calls Tryd.prog 101 #[.pointer (some ⟨g, 0, none⟩), v, .int .u8 110] w (EscQ w0 w g A cap B b (xs ++ [10]) l) := by
  have H := Lib.hid h
  have HO := Lib.hid ho
  have HG := Lib.hid hg
  have HB := Lib.hid hb
  have HL := Lib.hid hx
  clear h ho hg hb hx
  go_enter Tryd.func101, Tryd.ntmps101
  go_wp2_with (at_builtin; refine Kd.R_append (Kd.int .u8) (w0 := w) b rfl (.tmp 12) (.tmp 13) 32 5 (.int .u8 0) 1 rfl Tryd.underlying32 infoU8 rfl (by decide) (by omega) v (bI xs) (10) [.int .u8 (10)] (fun _ => True) (fun _ => False) rfl rfl ?aP (fun _ hk => hk.elim) ?aF HO.out (Below.refl _ _) ?aS ?aL ?_; (case aP => exact rfl); (case aF => exact (fun _ _ => trivial)); (case aS => exact HB.out); (case aL => rw [bI_len]; have := HL.out; omega); intro v1 w1 ho hb hg hat)
  have HO1 := Lib.hid ho
  have HB1 := Lib.hid hb
  clear ho hb hg hat
  go_wp2_with fail
  go_ret
  exact ⟨_, rfl, Own.snoc HO1.out 10 rfl, H.out.step HB1.out HG.out, Kb.of_below HB1.out⟩

set_option maxHeartbeats 2000000 in
set_option maxRecDepth 100000 in
theorem esc_114 {w0 w : World} {g cap b : Nat} {A : Option Addr} {B l xs : List UInt8} {v : Value} (h : At w0 w g A cap B l) (ho : Own w b v xs) (hg : g < b) (hb : b ≤ w.heap.size) (hx : xs.length ≤ 140737488351232) :
    Calls Tryd.prog 101 #[.pointer (some ⟨g, 0, none⟩), v, .int .u8 114] w (EscQ w0 w g A cap B b (xs ++ [13]) l) := by
  have H := Lib.hid h
  have HO := Lib.hid ho
  have HG := Lib.hid hg
  have HB := Lib.hid hb
  have HL := Lib.hid hx
  clear h ho hg hb hx
  go_enter Tryd.func101, Tryd.ntmps101
  go_wp2_with (at_builtin; refine Kd.R_append (Kd.int .u8) (w0 := w) b rfl (.tmp 17) (.tmp 18) 32 5 (.int .u8 0) 1 rfl Tryd.underlying32 infoU8 rfl (by decide) (by omega) v (bI xs) (13) [.int .u8 (13)] (fun _ => True) (fun _ => False) rfl rfl ?aP (fun _ hk => hk.elim) ?aF HO.out (Below.refl _ _) ?aS ?aL ?_; (case aP => exact rfl); (case aF => exact (fun _ _ => trivial)); (case aS => exact HB.out); (case aL => rw [bI_len]; have := HL.out; omega); intro v1 w1 ho hb hg hat)
  have HO1 := Lib.hid ho
  have HB1 := Lib.hid hb
  clear ho hb hg hat
  go_wp2_with fail
  go_ret
  exact ⟨_, rfl, Own.snoc HO1.out 13 rfl, H.out.step HB1.out HG.out, Kb.of_below HB1.out⟩

set_option maxHeartbeats 2000000 in
set_option maxRecDepth 100000 in
theorem esc_116 {w0 w : World} {g cap b : Nat} {A : Option Addr} {B l xs : List UInt8} {v : Value} (h : At w0 w g A cap B l) (ho : Own w b v xs) (hg : g < b) (hb : b ≤ w.heap.size) (hx : xs.length ≤ 140737488351232) :
    Calls Tryd.prog 101 #[.pointer (some ⟨g, 0, none⟩), v, .int .u8 116] w (EscQ w0 w g A cap B b (xs ++ [9]) l) := by
  have H := Lib.hid h
  have HO := Lib.hid ho
  have HG := Lib.hid hg
  have HB := Lib.hid hb
  have HL := Lib.hid hx
  clear h ho hg hb hx
  go_enter Tryd.func101, Tryd.ntmps101
  go_wp2_with (at_builtin; refine Kd.R_append (Kd.int .u8) (w0 := w) b rfl (.tmp 22) (.tmp 23) 32 5 (.int .u8 0) 1 rfl Tryd.underlying32 infoU8 rfl (by decide) (by omega) v (bI xs) (9) [.int .u8 (9)] (fun _ => True) (fun _ => False) rfl rfl ?aP (fun _ hk => hk.elim) ?aF HO.out (Below.refl _ _) ?aS ?aL ?_; (case aP => exact rfl); (case aF => exact (fun _ _ => trivial)); (case aS => exact HB.out); (case aL => rw [bI_len]; have := HL.out; omega); intro v1 w1 ho hb hg hat)
  have HO1 := Lib.hid ho
  have HB1 := Lib.hid hb
  clear ho hb hg hat
  go_wp2_with fail
  go_ret
  exact ⟨_, rfl, Own.snoc HO1.out 9 rfl, H.out.step HB1.out HG.out, Kb.of_below HB1.out⟩

set_option maxHeartbeats 2000000 in
set_option maxRecDepth 100000 in
theorem esc_98 {w0 w : World} {g cap b : Nat} {A : Option Addr} {B l xs : List UInt8} {v : Value} (h : At w0 w g A cap B l) (ho : Own w b v xs) (hg : g < b) (hb : b ≤ w.heap.size) (hx : xs.length ≤ 140737488351232) :
    Calls Tryd.prog 101 #[.pointer (some ⟨g, 0, none⟩), v, .int .u8 98] w (EscQ w0 w g A cap B b (xs ++ [8]) l) := by
  have H := Lib.hid h
  have HO := Lib.hid ho
  have HG := Lib.hid hg
  have HB := Lib.hid hb
  have HL := Lib.hid hx
  clear h ho hg hb hx
  go_enter Tryd.func101, Tryd.ntmps101
  go_wp2_with (at_builtin; refine Kd.R_append (Kd.int .u8) (w0 := w) b rfl (.tmp 27) (.tmp 28) 32 5 (.int .u8 0) 1 rfl Tryd.underlying32 infoU8 rfl (by decide) (by omega) v (bI xs) (8) [.int .u8 (8)] (fun _ => True) (fun _ => False) rfl rfl ?aP (fun _ hk => hk.elim) ?aF HO.out (Below.refl _ _) ?aS ?aL ?_; (case aP => exact rfl); (case aF => exact (fun _ _ => trivial)); (case aS => exact HB.out); (case aL => rw [bI_len]; have := HL.out; omega); intro v1 w1 ho hb hg hat)
  have HO1 := Lib.hid ho
  have HB1 := Lib.hid hb
  clear ho hb hg hat
  go_wp2_with fail
  go_ret
  exact ⟨_, rfl, Own.snoc HO1.out 8 rfl, H.out.step HB1.out HG.out, Kb.of_below HB1.out⟩

set_option maxHeartbeats 2000000 in
set_option maxRecDepth 100000 in
theorem esc_102 {w0 w : World} {g cap b : Nat} {A : Option Addr} {B l xs : List UInt8} {v : Value} (h : At w0 w g A cap B l) (ho : Own w b v xs) (hg : g < b) (hb : b ≤ w.heap.size) (hx : xs.length ≤ 140737488351232) :
    Calls Tryd.prog 101 #[.pointer (some ⟨g, 0, none⟩), v, .int .u8 102] w (EscQ w0 w g A cap B b (xs ++ [12]) l) := by
  have H := Lib.hid h
  have HO := Lib.hid ho
  have HG := Lib.hid hg
  have HB := Lib.hid hb
  have HL := Lib.hid hx
  clear h ho hg hb hx
  go_enter Tryd.func101, Tryd.ntmps101
  go_wp2_with (at_builtin; refine Kd.R_append (Kd.int .u8) (w0 := w) b rfl (.tmp 32) (.tmp 33) 32 5 (.int .u8 0) 1 rfl Tryd.underlying32 infoU8 rfl (by decide) (by omega) v (bI xs) (12) [.int .u8 (12)] (fun _ => True) (fun _ => False) rfl rfl ?aP (fun _ hk => hk.elim) ?aF HO.out (Below.refl _ _) ?aS ?aL ?_; (case aP => exact rfl); (case aF => exact (fun _ _ => trivial)); (case aS => exact HB.out); (case aL => rw [bI_len]; have := HL.out; omega); intro v1 w1 ho hb hg hat)
  have HO1 := Lib.hid ho
  have HB1 := Lib.hid hb
  clear ho hb hg hat
  go_wp2_with fail
  go_ret
  exact ⟨_, rfl, Own.snoc HO1.out 12 rfl, H.out.step HB1.out HG.out, Kb.of_below HB1.out⟩

set_option maxHeartbeats 2000000 in
set_option maxRecDepth 100000 in
theorem esc_10 {w0 w : World} {g cap b : Nat} {A : Option Addr} {B l xs : List UInt8} {v : Value} (h : At w0 w g A cap B l) (ho : Own w b v xs) (hg : g < b) (hb : b ≤ w.heap.size) (hx : xs.length ≤ 140737488351232) :
    Calls Tryd.prog 101 #[.pointer (some ⟨g, 0, none⟩), v, .int .u8 10] w (EscQ w0 w g A cap B b xs l) := by
  have H := Lib.hid h
  have HO := Lib.hid ho
  have HG := Lib.hid hg
  have HB := Lib.hid hb
  have HL := Lib.hid hx
  clear h ho hg hb hx
  clear HB HL
  go_enter Tryd.func101, Tryd.ntmps101
  go_wp2_with fail
  go_ret
  exact ⟨_, rfl, HO.out, H.out, Kb.refl _ _ _⟩

set_option maxHeartbeats 2000000 in
set_option maxRecDepth 100000 in
theorem esc_13 {w0 w : World} {g cap b : Nat} {A : Option Addr} {B l xs : List UInt8} {v : Value} (h : At w0 w g A cap B l) (ho : Own w b v xs) (hg : g < b) (hb : b ≤ w.heap.size) (hx : xs.length ≤ 140737488351232) :
    Calls Tryd.prog 101 #[.pointer (some ⟨g, 0, none⟩), v, .int .u8 13] w (EscQ w0 w g A cap B b xs (dropLF l)) := by
  have H := Lib.hid h
  have HO := Lib.hid ho
  have HG := Lib.hid hg
  have HB := Lib.hid hb
  have HL := Lib.hid hx
  clear h ho hg hb hx
  clear HL
  have HN := Lib.hid (next_lf H.out)
  go_enter Tryd.func101, Tryd.ntmps101
  go_wp2_with fail
  refine HN.out.mono ?_
  rintro e w1 ⟨⟨bb, rfl⟩, hA, hK⟩
  have HA := Lib.hid hA
  have HK := Lib.hid hK
  clear hA hK HN
  go_wp2_with fail
  go_ret
  exact ⟨_, rfl, HO.out.kept HK.out HG.out, HA.out, HK.out.mono HB.out⟩

set_option maxHeartbeats 2000000 in
set_option maxRecDepth 100000 in
theorem esc_self {w0 w : World} {g cap b : Nat} {A : Option Addr} {B l xs : List UInt8} {v : Value} (h : At w0 w g A cap B l) (ho : Own w b v xs) (hg : g < b) (hb : b ≤ w.heap.size) (hx : xs.length ≤ 140737488351232) (c : UInt8) (n1 : ((c.toNat : Int) == 110) = false) (n2 : ((c.toNat : Int) == 114) = false) (n3 : ((c.toNat : Int) == 116) = false) (n4 : ((c.toNat : Int) == 98) = false) (n5 : ((c.toNat : Int) == 102) = false) (n6 : ((c.toNat : Int) == 10) = false) (n7 : ((c.toNat : Int) == 13) = false) (hc : isOct c = false) :
    Calls Tryd.prog 101 #[.pointer (some ⟨g, 0, none⟩), v, .int .u8 (c.toNat : Int)] w (EscQ w0 w g A cap B b (xs ++ [c]) l) := by
  have H := Lib.hid h
  have HO := Lib.hid ho
  have HG := Lib.hid hg
  have HB := Lib.hid hb
  have HL := Lib.hid hx
  clear h ho hg hb hx
  have hway : (decide ((c.toNat : Int) < 48) = true) ∨ (decide ((c.toNat : Int) < 48) = false ∧ decide ((55 : Int) < (c.toNat : Int)) = true) := by
    unfold isOct at hc
    by_cases h1 : 48 ≤ c.toNat
    · by_cases h2 : c.toNat ≤ 55
      · simp [h1, h2] at hc
      · exact .inr ⟨decide_eq_false (by omega), decide_eq_true (by omega)⟩
    · exact .inl (decide_eq_true (by omega))
  clear hc
  rcases hway with k1 | ⟨k1, k2⟩
  all_goals
    go_enter Tryd.func101, Tryd.ntmps101
    go_wp2_with (at_builtin; refine Kd.R_append (Kd.int .u8) (w0 := w) b rfl (.tmp 49) (.tmp 51) 32 5 (.int .u8 0) 1 rfl Tryd.underlying32 infoU8 rfl (by decide) (by omega) v (bI xs) ((c.toNat : Int)) [.int .u8 ((c.toNat : Int))] (fun _ => True) (fun _ => False) rfl rfl ?aP (fun _ hk => hk.elim) ?aF HO.out (Below.refl _ _) ?aS ?aL ?_; (case aP => exact rfl); (case aF => exact (fun _ _ => trivial)); (case aS => exact HB.out); (case aL => rw [bI_len]; have := HL.out; omega); intro v1 w1 ho hb hg hat)
    have HO1 := Lib.hid ho
    have HB1 := Lib.hid hb
    clear ho hb hg hat
    go_wp2_with fail
    go_ret
    exact ⟨_, rfl, Own.snoc HO1.out c rfl, H.out.step HB1.out HG.out, Kb.of_below HB1.out⟩

set_option maxHeartbeats 2000000 in
set_option maxRecDepth 100000 in
theorem esc_oct {w0 w : World} {g cap b : Nat} {A : Option Addr} {B l xs : List UInt8} {v : Value} (h : At w0 w g A cap B l) (ho : Own w b v xs) (hg : g < b) (hb : b ≤ w.heap.size) (hx : xs.length ≤ 140737488351232) (c : UInt8) (n1 : ((c.toNat : Int) == 110) = false) (n2 : ((c.toNat : Int) == 114) = false) (n3 : ((c.toNat : Int) == 116) = false) (n4 : ((c.toNat : Int) == 98) = false) (n5 : ((c.toNat : Int) == 102) = false) (n6 : ((c.toNat : Int) == 10) = false) (n7 : ((c.toNat : Int) == 13) = false) (hc : isOct c = true) :
    Calls Tryd.prog 101 #[.pointer (some ⟨g, 0, none⟩), v, .int .u8 (c.toNat : Int)] w (EscQ w0 w g A cap B b (xs ++ (octL 2 (c.toNat - 48) l).1) (octL 2 (c.toNat - 48) l).2) := by
  have H := Lib.hid h
  have HO := Lib.hid ho
  have HG := Lib.hid hg
  have HB := Lib.hid hb
  have HL := Lib.hid hx
  clear h ho hg hb hx
  have hco : 48 ≤ c.toNat ∧ c.toNat ≤ 55 := by
    unfold isOct at hc
    simpa using hc
  have k1 : decide ((c.toNat : Int) < 48) = false := decide_eq_false (by omega)
  have k2 : decide ((55 : Int) < (c.toNat : Int)) = false := decide_eq_false (by omega)
  obtain ⟨N0, hN0⟩ : ∃ N0, c.toNat - 48 = N0 := ⟨_, rfl⟩
  have k3 : ((c.toNat : Int) - 48) % 256 = (N0 : Int) := by omega
  have hN1 : N0 ≤ 7 := by omega
  rw [hN0]
  clear hc hco hN0
  go_enter Tryd.func101, Tryd.ntmps101
  go_upto_block 1 with fail
  clear k1 k2 k3 n1 n2 n3 n4 n5 n6 n7
  go_cut [7] (fun v7 wx => (∃ (N : Nat) (s : List UInt8), v7 = .int .i64 (N : Int) ∧ Hid (octL 2 N0 l = ([UInt8.ofNat N], s)) ∧ Hid (At w0 wx g A cap B s)) ∧ Hid (Kb g w.heap.size w wx))
  case first => as_aux_lemma =>
    have HK := Lib.hid (Kb.refl g w.heap.size w)
    go_wp2_with fail
    go_loopg [7, 8] 2 (fun gk v7 v8 wx => ∃ (k N : Nat) (s : List UInt8), k + gk = 2 ∧ v7 = .int .i64 (N : Int) ∧ v8 = .int .i64 (k : Int) ∧ N < 8 ^ (k + 1) ∧ Hid (octL 2 N0 l = octL gk N s) ∧ Hid (At w0 wx g A cap B s) ∧ Hid (Kb g w.heap.size w wx))
    case atStart => exact ⟨0, N0, l, rfl, rfl, rfl, by omega, rfl, H, HK⟩
    case round =>
      clear H HK HO HL HB hN1
      obtain ⟨k, N, s, hkg, rfl, rfl, hN, HS, H, HK⟩ := hrel
      have hN3 : N ≤ 511 := by
        have : 8 ^ (k + 1) ≤ 8 ^ 3 := Nat.pow_le_pow_right (by omega) (by omega)
        omega
      have HN := Lib.hid hN
      clear hN
      cases gk with
      | zero =>
        have hd : decide ((k : Int) < 2) = false := decide_eq_false (by omega)
        have hd' : decide (k < 2) = false := decide_eq_false (by omega)
        clear hkg
        go_wp2_with fail
        go_quiet (fail)
        go_wp2_with fail
        go_meet
        exact ⟨⟨N, s, rfl, HS.out, H.out.drewN _⟩, HK.out.drewN HK.out.size _⟩
      | succ q =>
        have hd : decide ((k : Int) < 2) = true := decide_eq_true (by omega)
        have hd' : decide (k < 2) = true := decide_eq_true (by omega)
        have HKG := Lib.hid hkg
        have hk1 : (k : Int) ≤ 1 := by omega
        clear hkg
        cases s with
        | nil =>
          go_wp2_with fail
          go_quiet ((go_at_call 76; exact quiet_at (more_nil (H.out.drewN _))))
          go_wp2_with fail
          go_meet
          exact ⟨⟨N, [], rfl, HS.out, H.out.drewN _⟩, HK.out.drewN HK.out.size _⟩
        | cons d t =>
          obtain ⟨n, p, ad, rfl, hn, hlt, hsm, hp1, c0, c1, f0, f1, hx, hne⟩ := H.out.head
          have HP := Lib.hid hp1
          have g1 : (0 : Int) ≤ (p : Int) := by omega
          have g2 : (p : Int) < (n : Int) := by omega
          have g3 : (n : Int) ≤ 140737488351232 := by omega
          clear hn hp1 hlt hsm
          by_cases e1 : 48 ≤ d.toNat
          · have d1 : decide ((48 : Int) ≤ (d.toNat : Int)) = true := decide_eq_true (by omega)
            by_cases e2 : d.toNat ≤ 55
            · have d2 : decide ((d.toNat : Int) ≤ 55) = true := decide_eq_true (by omega)
              have HD := Lib.hid (And.intro e1 e2)
              clear e1 e2
              go_wp2_with fail
              go_quiet ((go_at_call 76; exact quiet_at (more_cons (H.out.drewN _))))
              go_wp2_with fail
              refine (take_yes (H.out.drewN _)).mono ?_
              rintro e w1 ⟨rfl, hA, hK⟩
              have HA := Lib.hid hA
              have HK2 := Lib.hid ((HK.out.drewN HK.out.size _).then_ (HK.out.drewN HK.out.size _).size hK)
              have hdb := HD.out
              have hs1 : (((d.toNat : Int)) - 48) % 256 = ((d.toNat - 48 : Nat) : Int) := by omega
              clear hA hK c0 c1 f0 f1 hx d1 d2 hd hd'
              obtain ⟨x, hx⟩ : ∃ x, d.toNat - 48 = x := ⟨_, rfl⟩
              rw [hx] at hs1
              have HX := Lib.hid hx
              have hx7 : x ≤ 7 := by omega
              clear hx hdb
              go_wp2_with fail
              go_roundg q
              case measure => omega
              case rel =>
                have hkq := HKG.out
                refine ⟨k + 1, 8 * N + x, t, by omega, by push_cast; rfl, by go_num, ?_, ?_, HA.out, HK2.out⟩
                · have h1 := HN.out
                  have h2 : 8 ^ (k + 1 + 1) = 8 ^ (k + 1) * 8 := Nat.pow_succ ..
                  omega
                · show octL 2 N0 l = octL q (8 * N + x) t
                  rw [HS.out, octL, if_pos (by unfold isOct; rw [decide_eq_true HD.out.1, decide_eq_true HD.out.2]; rfl), HX.out]
            · have d2 : decide ((d.toNat : Int) ≤ 55) = false := decide_eq_false (by omega)
              have HD := Lib.hid (show isOct d = false by unfold isOct; rw [decide_eq_false e2, Bool.and_false])
              clear e1 e2
              go_wp2_with fail
              go_quiet ((go_at_call 76; exact quiet_at (more_cons (H.out.drewN _))))
              go_wp2_with fail
              go_meet
              exact ⟨⟨N, d :: t, rfl, by show octL 2 N0 l = _; rw [HS.out, octL, if_neg (by rw [HD.out]; exact Bool.false_ne_true)], H.out.drewN _⟩, HK.out.drewN HK.out.size _⟩
          · have d1 : decide ((48 : Int) ≤ (d.toNat : Int)) = false := decide_eq_false (by omega)
            have HD := Lib.hid (show isOct d = false by unfold isOct; rw [decide_eq_false e1, Bool.false_and])
            clear e1
            go_wp2_with fail
            go_quiet ((go_at_call 76; exact quiet_at (more_cons (H.out.drewN _))))
            go_wp2_with fail
            go_meet
            exact ⟨⟨N, d :: t, rfl, by show octL 2 N0 l = _; rw [HS.out, octL, if_neg (by rw [HD.out]; exact Bool.false_ne_true)], H.out.drewN _⟩, HK.out.drewN HK.out.size _⟩
  obtain ⟨⟨N, s, rfl, HS, HA⟩, HK⟩ := hcut
  have HO2 := HO.out.kept HK.out HG.out
  replace HO := Lib.hid HO2
  have HBW := HB
  replace HB := Lib.hid (Nat.le_trans HB.out HK.out.size)
  clear HO2 H
  go_wp2_with (at_builtin; refine Kd.R_append (Kd.int .u8) (w0 := wc) b rfl (.tmp 97) (.tmp 100) 32 5 (.int .u8 0) 1 rfl Tryd.underlying32 infoU8 rfl (by decide) (by omega) v (bI xs) ((N : Int) % 256) [.int .u8 ((N : Int) % 256)] (fun _ => True) (fun _ => False) rfl rfl ?aP (fun _ hk => hk.elim) ?aF HO.out (Below.refl _ _) ?aS ?aL ?_; (case aP => exact rfl); (case aF => exact (fun _ _ => trivial)); (case aS => exact HB.out); (case aL => rw [bI_len]; have := HL.out; omega); intro v1 w1 ho hb hg hat)
  have HO1 := Lib.hid ho
  have HB1 := Lib.hid hb
  clear ho hb hg hat
  go_wp2_with fail
  go_ret
  rw [HS.out]
  exact ⟨_, rfl, Own.snoc HO1.out (UInt8.ofNat N) (by rw [UInt8.toNat_ofNat']; omega), HA.out.step HB1.out HG.out, (HK.out.mono HBW.out).belows HB1.out (Nat.le_refl _)⟩

end Go.Proofs.YtiocgpfnbmlfaaaDoor.SC

/-! ## SE -/
namespace Go.Proofs.YtiocgpfnbmlfaaaDoor.SC
open Go Go.RowKit Go.Proofs.YtiocgpfnbmlfaaaDoor Go.Proofs.YtiocgpfnbmlfaaaDoor.PS1 Go.Proofs.YtiocgpfnbmlfaaaDoor.QD Go.Proofs.YtiocgpfnbmlfaaaDoorW.PrintWords Go.Proofs.YtiocgpfnbmlfaaaDoorW.PrintLast

theorem ne_of (c : UInt8) (k : Nat) (hk : k < 256) (h : ¬ c = UInt8.ofNat k) : ((c.toNat : Int) == (k : Int)) = false := by
  refine beq_eq_false_iff_ne.2 (fun e => h (UInt8.toNat_inj.1 ?_))
  rw [UInt8.toNat_ofNat']
  omega
theorem esc_any {w0 w : World} {g cap b : Nat} {A : Option Addr} {B l xs : List UInt8} {v : Value} (h : At w0 w g A cap B l) (ho : Own w b v xs) (hg : g < b) (hb : b ≤ w.heap.size) (hx : xs.length ≤ 140737488351232) (c : UInt8) :
    Calls Tryd.prog 101 #[.pointer (some ⟨g, 0, none⟩), v, .int .u8 (c.toNat : Int)] w (EscQ w0 w g A cap B b (xs ++ (escL c l).1) (escL c l).2) := by
  unfold escL
  by_cases h1 : c = 110
  · rw [if_pos h1, h1]; exact esc_110 h ho hg hb hx
  by_cases h2 : c = 114
  · rw [if_neg h1, if_pos h2, h2]; exact esc_114 h ho hg hb hx
  by_cases h3 : c = 116
  · rw [if_neg h1, if_neg h2, if_pos h3, h3]; exact esc_116 h ho hg hb hx
  by_cases h4 : c = 98
  · rw [if_neg h1, if_neg h2, if_neg h3, if_pos h4, h4]; exact esc_98 h ho hg hb hx
  by_cases h5 : c = 102
  · rw [if_neg h1, if_neg h2, if_neg h3, if_neg h4, if_pos h5, h5]; exact esc_102 h ho hg hb hx
  by_cases h6 : c = 10
  · rw [if_neg h1, if_neg h2, if_neg h3, if_neg h4, if_neg h5, if_pos h6, h6]
    have := esc_10 h ho hg hb hx
    simpa using this
  by_cases h7 : c = 13
  · rw [if_neg h1, if_neg h2, if_neg h3, if_neg h4, if_neg h5, if_neg h6, if_pos h7, h7]
    have := esc_13 h ho hg hb hx
    simpa using this
  rw [if_neg h1, if_neg h2, if_neg h3, if_neg h4, if_neg h5, if_neg h6, if_neg h7]
  have n1 := ne_of c 110 (by omega) h1
  have n2 := ne_of c 114 (by omega) h2
  have n3 := ne_of c 116 (by omega) h3
  have n4 := ne_of c 98 (by omega) h4
  have n5 := ne_of c 102 (by omega) h5
  have n6 := ne_of c 10 (by omega) h6
  have n7 := ne_of c 13 (by omega) h7
  cases hc : isOct c with
  | true => rw [if_pos rfl]; exact esc_oct h ho hg hb hx c n1 n2 n3 n4 n5 n6 n7 hc
  | false => rw [if_neg Bool.false_ne_true]; exact esc_self h ho hg hb hx c n1 n2 n3 n4 n5 n6 n7 hc

theorem dropLF_len (l : List UInt8) : (dropLF l).length ≤ l.length := by
  cases l with
  | nil => exact Nat.le_refl _
  | cons c t => rw [dropLF]; split <;> simp
theorem oct_len : ∀ (k n : Nat) (l : List UInt8), (octL k n l).1.length = 1 ∧ (octL k n l).2.length ≤ l.length
  | 0, n, l => by simp [octL]
  | k + 1, n, [] => by simp [octL]
  | k + 1, n, d :: t => by
    rw [octL]
    split
    · have := oct_len k (8 * n + (d.toNat - 48)) t
      simp only [List.length_cons]; omega
    · simp
theorem esc_len (c : UInt8) (l : List UInt8) : (escL c l).1.length ≤ 1 ∧ (escL c l).2.length ≤ l.length := by
  have h1 := dropLF_len l
  have h2 := oct_len 2 (c.toNat - 48) l
  unfold escL
  repeat' split
  all_goals first | (simp; done) | (simp; omega) | omega

/-- a string in round brackets, d of them open: what it holds, and what stands behind -/
def rnd (d : Nat) (l : List UInt8) : Option (List UInt8 × List UInt8) :=
  match l with
  | [] => none
  | c :: t =>
    if c = 41 ∧ d = 1 then some ([], t)
    else if c = 92 then
      match t with
      | [] => none
      | e :: u => (rnd d (escL e u).2).map fun p => ((escL e u).1 ++ p.1, p.2)
    else if c = 13 then (rnd d (dropLF t)).map fun p => (10 :: p.1, p.2)
    else (rnd (if c = 40 then d + 1 else if c = 41 then d - 1 else d) t).map fun p => (c :: p.1, p.2)
  termination_by l.length
  decreasing_by
    · have := (esc_len e u).2; simp only [List.length_cons]; omega
    · have := dropLF_len t; simp only [List.length_cons]; omega
    · simp

theorem rnd_nil (d : Nat) : rnd d [] = none := by rw [rnd.eq_def]
theorem rnd_close (t : List UInt8) : rnd 1 (41 :: t) = some ([], t) := by rw [rnd.eq_def]; exact if_pos ⟨rfl, rfl⟩
theorem not41 (c : UInt8) (d : Nat) (h : c ≠ 41) : ¬ (c = 41 ∧ d = 1) := fun e => h e.1
theorem rnd_esc0 (d : Nat) : rnd d [92] = none := by rw [rnd.eq_def]; exact (if_neg (not41 _ _ (by decide))).trans (if_pos rfl)
theorem rnd_esc (d : Nat) (e : UInt8) (u : List UInt8) : rnd d (92 :: e :: u) = (rnd d (escL e u).2).map fun p => ((escL e u).1 ++ p.1, p.2) := by rw [rnd.eq_def]; exact (if_neg (not41 _ _ (by decide))).trans (if_pos rfl)
theorem rnd_cr (d : Nat) (t : List UInt8) : rnd d (13 :: t) = (rnd d (dropLF t)).map fun p => ([10] ++ p.1, p.2) := by rw [rnd.eq_def]; exact ((if_neg (not41 _ _ (by decide))).trans (if_neg (by decide))).trans (if_pos rfl)
theorem rnd_put (d : Nat) (c : UInt8) (t : List UInt8) (h1 : ¬ (c = 41 ∧ d = 1)) (h2 : c ≠ 92) (h3 : c ≠ 13) : rnd d (c :: t) = (rnd (if c = 40 then d + 1 else if c = 41 then d - 1 else d) t).map fun p => ([c] ++ p.1, p.2) := by rw [rnd.eq_def]; exact ((if_neg h1).trans (if_neg h2)).trans (if_neg h3)
theorem rnd_next {R : Option (List UInt8 × List UInt8)} {d d' : Nat} {s s' xs ys : List UInt8} (h : R = (rnd d s).map fun p => (xs ++ p.1, p.2)) (e : rnd d s = (rnd d' s').map fun p => (ys ++ p.1, p.2)) : R = (rnd d' s').map fun p => ((xs ++ ys) ++ p.1, p.2) := by
  rw [h, e]
  cases rnd d' s' <;> simp

/-- what a string comes to -/
def StrQ (r : Option (List UInt8 × List UInt8)) (w0 w : World) (g : Nat) (A : Option Addr) (cap : Nat) (B : List UInt8) (e : Ending) (w' : World) : Prop :=
  match r with
  | none => GaveUp 14 g w e w'
  | some (o, s) => if 65535 < o.length then GaveUp 9 g w e w' else e = .returned (.agg #[.int .i64 6, .int .i64 0, .string (S o)]) ∧ At w0 w' g A cap B s ∧ Kb g w.heap.size w w'

theorem StrQ.none_ {r : Option (List UInt8 × List UInt8)} {w0 w w' : World} {g cap : Nat} {A : Option Addr} {B : List UInt8} {e : Ending} (hr : r = none) (h : GaveUp 14 g w e w') : StrQ r w0 w g A cap B e w' := by subst hr; exact h
theorem StrQ.long {r : Option (List UInt8 × List UInt8)} {w0 w w' : World} {g cap : Nat} {A : Option Addr} {B o s : List UInt8} {e : Ending} (hr : r = some (o, s)) (hl : 65535 < o.length) (h : GaveUp 9 g w e w') : StrQ r w0 w g A cap B e w' := by
  subst hr; unfold StrQ; simp only [if_pos hl]; exact h
theorem StrQ.ok {r : Option (List UInt8 × List UInt8)} {w0 w w' : World} {g cap : Nat} {A : Option Addr} {B o s : List UInt8} {e : Ending} (hr : r = some (o, s)) (hl : ¬ 65535 < o.length) (h : e = .returned (.agg #[.int .i64 6, .int .i64 0, .string (S o)])) (ha : At w0 w' g A cap B s ∧ Kb g w.heap.size w w') : StrQ r w0 w g A cap B e w' := by
  subst hr; unfold StrQ; simp only [if_neg hl]; exact ⟨h, ha⟩

/-- what the loop of a string in brackets keeps: own bytes, the result's block, the reader -/
structure Lp (w0 w wx : World) (g : Nat) (A : Option Addr) (cap : Nat) (B s xs : List UInt8) (v : Value) : Prop where
  own : Own wx (w.heap.size + 1) v xs
  at_ : At w0 wx g A cap B s
  blk : TokBlk w.heap.size wx
  kb : Kb g w.heap.size w wx
  gl : g < w.heap.size
theorem Lp.size {w0 w wx : World} {g cap : Nat} {A : Option Addr} {B s xs : List UInt8} {v : Value} (h : Lp w0 w wx g A cap B s xs v) : w.heap.size + 1 ≤ wx.heap.size := by have := h.blk.lt; omega
/-- a step that leaves the bytes alone -/
theorem Lp.read {w0 w wx wy : World} {g cap : Nat} {A : Option Addr} {B s s' xs : List UInt8} {v : Value} (h : Lp w0 w wx g A cap B s xs v) (ha : At w0 wy g A cap B s') (hk : Kb g wx.heap.size wx wy) : Lp w0 w wy g A cap B s' xs v :=
  ⟨h.own.kept hk (by have := h.gl; omega), ha, (hk.block _ h.blk.lt (by have := h.gl; omega)).trans h.blk, h.kb.then_ (by have := h.size; omega) hk, h.gl⟩
/-- a byte more -/
theorem Lp.put {w0 w wx wy : World} {g cap : Nat} {A : Option Addr} {B s xs : List UInt8} {v v' : Value} {z : Int} (h : Lp w0 w wx g A cap B s xs v) (c : UInt8) (ho : Kd.R (Kd.int .u8) 5 wy (w.heap.size + 1) (fun _ => True) v' (bI xs ++ [z])) (hz : z = (c.toNat : Int)) (hb : Below (w.heap.size + 1) wx wy) : Lp w0 w wy g A cap B s (xs ++ [c]) v' :=
  ⟨Own.snoc ho c hz, h.at_.step hb (by have := h.gl; omega), (hb.block _ (by omega)).trans h.blk, h.kb.belows hb (by omega), h.gl⟩
theorem Lp.esc {w0 w wx wy : World} {g cap : Nat} {A : Option Addr} {B s s' xs ys : List UInt8} {v v' : Value} (h : Lp w0 w wx g A cap B s xs v) (ho : Own wy (w.heap.size + 1) v' ys) (ha : At w0 wy g A cap B s') (hk : Kb g (w.heap.size + 1) wx wy) : Lp w0 w wy g A cap B s' ys v' :=
  ⟨ho, ha, (hk.block _ (by omega) (by have := h.gl; omega)).trans h.blk, h.kb.trans (hk.mono (by omega)), h.gl⟩
theorem Lp.out {w0 w wx : World} {g cap : Nat} {A : Option Addr} {B s xs : List UInt8} {v u0 u1 u2 : Value} (h : Lp w0 w wx g A cap B s xs v) :
    At w0 (((wx.setCell ⟨w.heap.size, 0, none⟩ u0).setCell ⟨w.heap.size, 1, none⟩ u1).setCell ⟨w.heap.size, 2, none⟩ u2) g A cap B s ∧ Kb g w.heap.size w (((wx.setCell ⟨w.heap.size, 0, none⟩ u0).setCell ⟨w.heap.size, 1, none⟩ u1).setCell ⟨w.heap.size, 2, none⟩ u2) := by
  have hb : Below w.heap.size wx (((wx.setCell ⟨w.heap.size, 0, none⟩ u0).setCell ⟨w.heap.size, 1, none⟩ u1).setCell ⟨w.heap.size, 2, none⟩ u2) :=
    (((Below.refl w.heap.size wx).setCell (p := ⟨w.heap.size, 0, none⟩) (Nat.le_refl _) u0).setCell (p := ⟨w.heap.size, 1, none⟩) (Nat.le_refl _) u1).setCell (p := ⟨w.heap.size, 2, none⟩) (Nat.le_refl _) u2
  exact ⟨h.at_.step hb h.gl, h.kb.belows hb (Nat.le_refl _)⟩
theorem Lp.start {w0 w : World} {g cap : Nat} {A : Option Addr} {B s : List UInt8} (h : At w0 w g A cap B s) : Lp w0 w (w.alloc (.cells #[.int .i64 0, .int .i64 0, .string ⟨#[]⟩] 27)) g A cap B s [] (.slice none 0 0) :=
  ⟨Kd.R_nil _ _ _ _ _, h.step ((Below.refl _ _).alloc (Nat.le_refl _) _) h.lt, TokBlk.new w, Kb.of_below ((Below.refl _ _).alloc (Nat.le_refl _) _), h.lt⟩

set_option maxHeartbeats 4000000 in
set_option maxRecDepth 100000 in
theorem round_any {w0 w : World} {g cap : Nat} {A : Option Addr} {B l : List UInt8} (h : At w0 w g A cap B l) :
    Calls Tryd.prog 77 #[.pointer (some ⟨g, 0, none⟩)] w (StrQ (rnd 1 l) w0 w g A cap B) := by
  have HP := Lib.hid (Lp.start h)
  have HBL := Lib.hid (show l.length ≤ 140737488351232 from Nat.le_trans h.len h.small)
  clear h
  go_enter Tryd.func77, Tryd.ntmps77
  go_wp2_with fail
  go_loopg [3, 4] l.length (fun gk v3 v4 wx => ∃ (d : Nat) (s xs : List UInt8) (v : Value), v = v3 ∧ 1 ≤ d ∧ s.length ≤ gk ∧ d + s.length ≤ l.length + 1 ∧ xs.length + s.length ≤ l.length ∧ v4 = .int .i64 (d : Int) ∧ Hid (rnd 1 l = (rnd d s).map fun p => (xs ++ p.1, p.2)) ∧ Hid (Lp w0 w wx g A cap B s xs v))
  case atStart => exact ⟨1, l, [], _, rfl, Nat.le_refl _, Nat.le_refl _, by omega, by simp, rfl, by cases rnd 1 l <;> rfl, HP⟩
  case round =>
    clear HP
    obtain ⟨d, s, xs, v, rfl, hd, hs, hds, hxs, rfl, HS, HP⟩ := hrel
    have HD := Lib.hid (And.intro hd hds)
    have HL := Lib.hid hs
    have HX := Lib.hid hxs
    have hd0 : (1 : Int) ≤ (d : Int) := by omega
    have hd1 : (d : Int) ≤ 140737488351233 := by have := HBL.out; omega
    clear hs hds hxs
    cases s with
    | nil =>
      have HR := Lib.hid (show rnd 1 l = none by rw [HS.out, rnd_nil]; rfl)
      go_wp2_with fail
      refine (take_end HP.out.at_).mono ?_
      rintro e w1 ⟨rfl, hk⟩
      have HK := Lib.hid (HP.out.kb.then_ (by have := HP.out.size; omega) hk)
      clear hk
      go_wp2_with fail
      exact ⟨rfl, StrQ.none_ HR.out ⟨rfl, HK.out⟩⟩
    | cons c t =>
      go_wp2_with fail
      refine (take_yes HP.out.at_).mono ?_
      rintro e w1 ⟨rfl, hA, hK⟩
      replace HP := Lib.hid (HP.out.read hA hK)
      clear hA hK
      by_cases h41 : c = 41
      · have HC := Lib.hid h41
        by_cases hd2 : d = 1
        · have HD2 := Lib.hid hd2
          have HR := Lib.hid (show rnd 1 l = some (xs, t) by rw [HS.out, HC.out, HD2.out, rnd_close]; simp)
          obtain ⟨AA, cc, rfl, hcl, hrow⟩ := Kd.R_reads HP.out.own
          rw [bI_len] at hrow
          have HROW := Lib.hid hrow
          have n0 : ((c.toNat : Int) == 40) = false := ne_of c 40 (by omega) (by rw [h41]; decide)
          have n1 : ((c.toNat : Int) == 41) = true := by rw [h41]; rfl
          have n2 : ((d : Int) - 1 == 0) = true := by rw [hd2]; rfl
          obtain ⟨⟨c0, c1, c2⟩, f0, f1, f2⟩ := HP.out.blk.facts
          have hlt := HP.out.blk.lt
          clear h41 hd2 hcl hrow
          by_cases hlong : 65535 < xs.length
          · have HLG := Lib.hid hlong
            go_wp2_with fail
            rw [bI_len]
            refine (text_long AA xs.length cc _ HLG.out).mono ?_
            rintro e w2 ⟨rfl, hb⟩
            have HK := Lib.hid (HP.out.kb.belows hb (by have := HP.out.size; omega))
            clear hb
            go_wp2_with fail
            exact ⟨rfl, StrQ.long HR.out HLG.out ⟨rfl, HK.out⟩⟩
          · have HLG := Lib.hid hlong
            go_wp2_with fail
            rw [bI_len]
            refine (text_ok AA xs.length cc xs _ HROW.out (by have := HLG.out; omega)).mono ?_
            rintro e w2 ⟨rfl, hb⟩
            have HP2 := Lib.hid (HP.out.read (HP.out.at_.step hb HP.out.at_.lt) (Kb.of_below hb))
            clear hb c0 c1 c2 f0 f1 f2 hlt hlong
            obtain ⟨⟨c0, c1, c2⟩, f0, f1, f2⟩ := HP2.out.blk.facts
            have hlt := HP2.out.blk.lt
            go_wp2_with fail
            refine bodyPost_ret (v := .agg #[.int .i64 6, .int .i64 0, .string (S xs)]) (by simp [results, Tryd.results77, go_sem, c0, c1, c2]) rfl ?_
            exact StrQ.ok HR.out HLG.out rfl HP2.out.out
        · have HS2 := Lib.hid (rnd_next HS.out (rnd_put d c t (fun e => hd2 e.2) (by rw [h41]; decide) (by rw [h41]; decide)))
          have n0 : ((c.toNat : Int) == 40) = false := ne_of c 40 (by omega) (by rw [h41]; decide)
          have n1 : ((c.toNat : Int) == 41) = true := by rw [h41]; rfl
          have n2 : ((d : Int) - 1 == 0) = false := beq_eq_false_iff_ne.2 (by omega)
          have HD2 := Lib.hid (show (if c = 40 then d + 1 else if c = 41 then d - 1 else d) = d - 1 by rw [h41]; rfl)
          have HD3 := Lib.hid (show 2 ≤ d by omega)
          have HRL := Lib.hid (Nat.le_refl t.length)
          replace HS2 := Lib.hid (show rnd 1 l = (rnd (d - 1) t).map fun p => ((xs ++ [c]) ++ p.1, p.2) by rw [← HD2.out]; exact HS2.out)
          clear h41 hd2
          have HC := HC
          go_wp2_with (at_builtin; refine Kd.R_append (Kd.int .u8) (w0 := w1) (w.heap.size + 1) rfl (.tmp 32) (.tmp 34) 32 5 (.int .u8 0) 1 rfl Tryd.underlying32 infoU8 rfl (by decide) (by omega) v (bI xs) ((c.toNat : Int)) [.int .u8 ((c.toNat : Int))] (fun _ => True) (fun _ => False) rfl rfl ?aP (fun _ hk => hk.elim) ?aF HP.out.own (Below.refl _ _) ?aS ?aL ?_; (case aP => exact rfl); (case aF => exact (fun _ _ => trivial)); (case aS => exact HP.out.size); (case aL => rw [bI_len]; have := HX.out; have := HBL.out; omega); intro v1 w2 ho hb hg hat)
          have HP2 := Lib.hid (HP.out.put c ho rfl hb)
          clear ho hb hg hat
          go_wp2_with fail
          go_roundg (t).length
          case measure => have := HL.out; have := HRL.out; simp only [List.length_cons] at *; omega
          case rel =>
            have e1 := HD.out
            have e2 := HL.out
            have e3 := HX.out
            have e4 := HRL.out
            simp only [List.length_cons] at e1 e2 e3
            refine ⟨(d - 1), t, xs ++ [c], _, rfl, by have := HD3.out; omega, Nat.le_refl _, by omega, by simp only [List.length_append, List.length_cons, List.length_nil]; omega, by have := HD3.out; rw [show ((d - 1 : Nat) : Int) = (d : Int) - 1 from by omega], HS2.out, HP2.out⟩
      · by_cases h92 : c = 92
        · have HC := Lib.hid h92
          have n0 : ((c.toNat : Int) == 40) = false := ne_of c 40 (by omega) (by rw [h92]; decide)
          have n1 : ((c.toNat : Int) == 41) = false := ne_of c 41 (by omega) (by rw [h92]; decide)
          have n3 : ((c.toNat : Int) == 92) = true := by rw [h92]; rfl
          clear h41 h92
          cases t with
          | nil =>
            have HR := Lib.hid (show rnd 1 l = none by rw [HS.out, HC.out, rnd_esc0]; rfl)
            go_wp2_with fail
            refine (take_end HP.out.at_).mono ?_
            rintro e w2 ⟨rfl, hk⟩
            have HK := Lib.hid (HP.out.kb.then_ (by have := HP.out.size; omega) hk)
            clear hk
            go_wp2_with fail
            exact ⟨rfl, StrQ.none_ HR.out ⟨rfl, HK.out⟩⟩
          | cons e u =>
            have HS2 := Lib.hid (rnd_next HS.out (by rw [HC.out]; exact rnd_esc d e u))
            have HEL := Lib.hid (esc_len e u)
            go_wp2_with fail
            refine (take_yes HP.out.at_).mono ?_
            rintro ee w2 ⟨rfl, hA, hK⟩
            have HP2 := Lib.hid (HP.out.read hA hK)
            clear hA hK
            go_wp2_with fail
            refine (esc_any HP2.out.at_ HP2.out.own (by have := HP2.out.gl; omega) HP2.out.size (by have := HX.out; have := HBL.out; omega) e).mono ?_
            rintro ee w3 ⟨v3, rfl, ho, ha, hk⟩
            have HP3 := Lib.hid (HP2.out.esc ho ha hk)
            clear ho ha hk
            go_wp2_with fail
            go_roundg (escL e u).2.length
            case measure => have := HL.out; have := HEL.out; simp only [List.length_cons] at *; omega
            case rel =>
              have e1 := HD.out
              have e2 := HL.out
              have e3 := HX.out
              have e4 := HEL.out
              simp only [List.length_cons] at e1 e2 e3
              exact ⟨d, (escL e u).2, xs ++ (escL e u).1, _, rfl, by omega, Nat.le_refl _, by omega, by simp only [List.length_append]; omega, rfl, HS2.out, HP3.out⟩
        · by_cases h13 : c = 13
          · have HC := Lib.hid h13
            have n0 : ((c.toNat : Int) == 40) = false := ne_of c 40 (by omega) (by rw [h13]; decide)
            have n1 : ((c.toNat : Int) == 41) = false := ne_of c 41 (by omega) (by rw [h13]; decide)
            have n3 : ((c.toNat : Int) == 92) = false := ne_of c 92 (by omega) (by rw [h13]; decide)
            have n4 : ((c.toNat : Int) == 13) = true := by rw [h13]; rfl
            have n2 : ((d : Int) == 0) = false := beq_eq_false_iff_ne.2 (by omega)
            have HS2 := Lib.hid (rnd_next HS.out (by rw [HC.out]; exact rnd_cr d t))
            have HRL := Lib.hid (dropLF_len t)
            clear h41 h92 h13
            go_wp2_with fail
            refine (next_lf HP.out.at_).mono ?_
            rintro e w2 ⟨⟨bb, rfl⟩, hA, hK⟩
            replace HP := Lib.hid (HP.out.read hA hK)
            clear hA hK
            go_wp2_with (at_builtin; refine Kd.R_append (Kd.int .u8) (w0 := w2) (w.heap.size + 1) rfl (.tmp 32) (.tmp 34) 32 5 (.int .u8 0) 1 rfl Tryd.underlying32 infoU8 rfl (by decide) (by omega) v (bI xs) (10) [.int .u8 (10)] (fun _ => True) (fun _ => False) rfl rfl ?aP (fun _ hk => hk.elim) ?aF HP.out.own (Below.refl _ _) ?aS ?aL ?_; (case aP => exact rfl); (case aF => exact (fun _ _ => trivial)); (case aS => exact HP.out.size); (case aL => rw [bI_len]; have := HX.out; have := HBL.out; omega); intro v1 w3 ho hb hg hat)
            have HP2 := Lib.hid (HP.out.put 10 ho rfl hb)
            clear ho hb hg hat
            go_wp2_with fail
            go_roundg (dropLF t).length
            case measure => have := HL.out; have := HRL.out; simp only [List.length_cons] at *; omega
            case rel =>
              have e1 := HD.out
              have e2 := HL.out
              have e3 := HX.out
              have e4 := HRL.out
              simp only [List.length_cons] at e1 e2 e3
              refine ⟨d, dropLF t, xs ++ [10], _, rfl, by skip; omega, Nat.le_refl _, by omega, by simp only [List.length_append, List.length_cons, List.length_nil]; omega, rfl, HS2.out, HP2.out⟩
          · by_cases h40 : c = 40
            · have HC := Lib.hid h40
              have n0 : ((c.toNat : Int) == 40) = true := by rw [h40]; rfl
              have n2 : ((d : Int) + 1 == 0) = false := beq_eq_false_iff_ne.2 (by omega)
              have HS2 := Lib.hid (rnd_next HS.out (show rnd d (c :: t) = (rnd (d + 1) t).map _ from (rnd_put d c t (not41 _ _ h41) h92 h13).trans (by rw [if_pos h40])))
              have HRL := Lib.hid (Nat.le_refl t.length)
              clear h41 h92 h13 h40
              go_wp2_with (at_builtin; refine Kd.R_append (Kd.int .u8) (w0 := w1) (w.heap.size + 1) rfl (.tmp 32) (.tmp 34) 32 5 (.int .u8 0) 1 rfl Tryd.underlying32 infoU8 rfl (by decide) (by omega) v (bI xs) ((c.toNat : Int)) [.int .u8 ((c.toNat : Int))] (fun _ => True) (fun _ => False) rfl rfl ?aP (fun _ hk => hk.elim) ?aF HP.out.own (Below.refl _ _) ?aS ?aL ?_; (case aP => exact rfl); (case aF => exact (fun _ _ => trivial)); (case aS => exact HP.out.size); (case aL => rw [bI_len]; have := HX.out; have := HBL.out; omega); intro v1 w2 ho hb hg hat)
              have HP2 := Lib.hid (HP.out.put c ho rfl hb)
              clear ho hb hg hat
              go_wp2_with fail
              go_roundg (t).length
              case measure => have := HL.out; have := HRL.out; simp only [List.length_cons] at *; omega
              case rel =>
                have e1 := HD.out
                have e2 := HL.out
                have e3 := HX.out
                have e4 := HRL.out
                simp only [List.length_cons] at e1 e2 e3
                refine ⟨(d + 1), t, xs ++ [c], _, rfl, by skip; omega, Nat.le_refl _, by omega, by simp only [List.length_append, List.length_cons, List.length_nil]; omega, by push_cast; rfl, HS2.out, HP2.out⟩
            · have n0 := ne_of c 40 (by omega) h40
              have n1 := ne_of c 41 (by omega) h41
              have n3 := ne_of c 92 (by omega) h92
              have n4 := ne_of c 13 (by omega) h13
              have n2 : ((d : Int) == 0) = false := beq_eq_false_iff_ne.2 (by omega)
              have HS2 := Lib.hid (rnd_next HS.out (show rnd d (c :: t) = (rnd d t).map _ from (rnd_put d c t (not41 _ _ h41) h92 h13).trans (by rw [if_neg h40, if_neg h41])))
              have HRL := Lib.hid (Nat.le_refl t.length)
              clear h41 h92 h13 h40
              go_wp2_with (at_builtin; refine Kd.R_append (Kd.int .u8) (w0 := w1) (w.heap.size + 1) rfl (.tmp 32) (.tmp 34) 32 5 (.int .u8 0) 1 rfl Tryd.underlying32 infoU8 rfl (by decide) (by omega) v (bI xs) ((c.toNat : Int)) [.int .u8 ((c.toNat : Int))] (fun _ => True) (fun _ => False) rfl rfl ?aP (fun _ hk => hk.elim) ?aF HP.out.own (Below.refl _ _) ?aS ?aL ?_; (case aP => exact rfl); (case aF => exact (fun _ _ => trivial)); (case aS => exact HP.out.size); (case aL => rw [bI_len]; have := HX.out; have := HBL.out; omega); intro v1 w2 ho hb hg hat)
              have HP2 := Lib.hid (HP.out.put c ho rfl hb)
              clear ho hb hg hat
              go_wp2_with fail
              go_roundg (t).length
              case measure => have := HL.out; have := HRL.out; simp only [List.length_cons] at *; omega
              case rel =>
                have e1 := HD.out
                have e2 := HL.out
                have e3 := HX.out
                have e4 := HRL.out
                simp only [List.length_cons] at e1 e2 e3
                refine ⟨d, t, xs ++ [c], _, rfl, by skip; omega, Nat.le_refl _, by omega, by simp only [List.length_append, List.length_cons, List.length_nil]; omega, rfl, HS2.out, HP2.out⟩

end Go.Proofs.YtiocgpfnbmlfaaaDoor.SC

/-! ## SF -/
namespace Go.Proofs.YtiocgpfnbmlfaaaDoor.SC
open Go Go.RowKit Go.Proofs.YtiocgpfnbmlfaaaDoor Go.Proofs.YtiocgpfnbmlfaaaDoor.PS1 Go.Proofs.YtiocgpfnbmlfaaaDoor.QD Go.Proofs.YtiocgpfnbmlfaaaDoorW.PrintWords Go.Proofs.YtiocgpfnbmlfaaaDoorW.PrintLast

/-- a string in pointed brackets, half a byte open or none: what it holds, and what stands behind -/
def hx : Option Nat → List UInt8 → Option (List UInt8 × List UInt8)
  | _, [] => none
  | o, c :: t =>
    if blankB c = true then hx o t
    else if c = 62 then some (match o with | none => [] | some v => [UInt8.ofNat (16 * v)], t)
    else if hexI c < 0 then none
    else match o with
      | none => hx (some (hexI c).toNat) t
      | some v => (hx none t).map fun p => ([UInt8.ofNat (16 * v + (hexI c).toNat)] ++ p.1, p.2)
theorem hex_rangeN : ∀ c : Fin 256, -1 ≤ hexN c.val ∧ hexN c.val ≤ 15 := by decide +kernel
theorem hex_range (c : UInt8) : -1 ≤ hexI c ∧ hexI c ≤ 15 := hex_rangeN ⟨c.toNat, c.toNat_lt⟩
theorem or_fin : ∀ v d : Fin 16, bits BinOp.or IntKind.i64 ((v.val : Int) * 16) (d.val : Int) = ((16 * v.val + d.val : Nat) : Int) := by decide +kernel
def Odd (o : Option Nat) (z : Int) : Prop := (o = none ∧ z = -1) ∨ ∃ v : Nat, v ≤ 15 ∧ o = some v ∧ z = (v : Int)
theorem hx_next {R : Option (List UInt8 × List UInt8)} {o o' : Option Nat} {s s' xs ys : List UInt8} (h : R = (hx o s).map fun p => (xs ++ p.1, p.2)) (e : hx o s = (hx o' s').map fun p => (ys ++ p.1, p.2)) : R = (hx o' s').map fun p => ((xs ++ ys) ++ p.1, p.2) := by
  rw [h, e]
  cases hx o' s' <;> simp
theorem hx_same {R : Option (List UInt8 × List UInt8)} {o o' : Option Nat} {s s' xs : List UInt8} (h : R = (hx o s).map fun p => (xs ++ p.1, p.2)) (e : hx o s = hx o' s') : R = (hx o' s').map fun p => (xs ++ p.1, p.2) := by rw [h, e]
theorem hx_blank (o : Option Nat) (c : UInt8) (t : List UInt8) (h : blankB c = true) : hx o (c :: t) = hx o t := by rw [hx.eq_def]; exact if_pos h
theorem hx_end (o : Option Nat) (t : List UInt8) : hx o (62 :: t) = some (match o with | none => [] | some v => [UInt8.ofNat (16 * v)], t) := by rw [hx.eq_def]; exact (if_neg (by decide)).trans (if_pos rfl)
theorem hx_nil (o : Option Nat) : hx o [] = none := by rw [hx]
theorem hx_bad (o : Option Nat) (c : UInt8) (t : List UInt8) (h : ¬ blankB c = true) (h2 : c ≠ 62) (h3 : hexI c < 0) : hx o (c :: t) = none := by rw [hx.eq_def]; exact ((if_neg h).trans (if_neg h2)).trans (if_pos h3)
theorem hx_half (c : UInt8) (t : List UInt8) (h : ¬ blankB c = true) (h2 : c ≠ 62) (h3 : ¬ hexI c < 0) : hx none (c :: t) = hx (some (hexI c).toNat) t := by rw [hx.eq_def]; exact ((if_neg h).trans (if_neg h2)).trans (if_neg h3)
theorem hx_full (v : Nat) (c : UInt8) (t : List UInt8) (h : ¬ blankB c = true) (h2 : c ≠ 62) (h3 : ¬ hexI c < 0) : hx (some v) (c :: t) = (hx none t).map fun p => ([UInt8.ofNat (16 * v + (hexI c).toNat)] ++ p.1, p.2) := by rw [hx.eq_def]; exact ((if_neg h).trans (if_neg h2)).trans (if_neg h3)

set_option maxHeartbeats 4000000 in
set_option maxRecDepth 100000 in
theorem hex_any {w0 w : World} {g cap : Nat} {A : Option Addr} {B l : List UInt8} (h : At w0 w g A cap B l) :
    Calls Tryd.prog 104 #[.pointer (some ⟨g, 0, none⟩)] w (StrQ (hx none l) w0 w g A cap B) := by
  have HP := Lib.hid (Lp.start h)
  have HBL := Lib.hid (show l.length ≤ 140737488351232 from Nat.le_trans h.len h.small)
  clear h
  go_enter Tryd.func104, Tryd.ntmps104
  go_wp2_with fail
  go_loopg [3, 4] l.length (fun gk v3 v4 wx => ∃ (z : Int) (o : Option Nat) (s xs : List UInt8) (v : Value), v = v3 ∧ s.length ≤ gk ∧ xs.length + s.length ≤ l.length ∧ v4 = .int .i64 z ∧ Hid (Odd o z) ∧ Hid (hx none l = (hx o s).map fun p => (xs ++ p.1, p.2)) ∧ Hid (Lp w0 w wx g A cap B s xs v))
  case atStart => exact ⟨-1, none, l, [], _, rfl, Nat.le_refl _, by simp, rfl, .inl ⟨rfl, rfl⟩, by cases hx none l <;> rfl, HP⟩
  case round =>
    clear HP
    obtain ⟨z, o, s, xs, v, rfl, hs, hxs, rfl, HO, HS, HP⟩ := hrel
    have HL := Lib.hid hs
    have HX := Lib.hid hxs
    clear hs hxs
    cases s with
    | nil =>
      have HR := Lib.hid (show hx none l = none by rw [HS.out, hx_nil]; rfl)
      go_wp2_with fail
      refine (take_end HP.out.at_).mono ?_
      rintro e w1 ⟨rfl, hk⟩
      have HK := Lib.hid (HP.out.kb.then_ (by have := HP.out.size; omega) hk)
      clear hk
      go_wp2_with fail
      exact ⟨rfl, StrQ.none_ HR.out ⟨rfl, HK.out⟩⟩
    | cons c t =>
      go_wp2_with fail
      refine (take_yes HP.out.at_).mono ?_
      rintro e w1 ⟨rfl, hA, hK⟩
      replace HP := Lib.hid (HP.out.read hA hK)
      clear hA hK
      by_cases hb : blankB c = true
      · have HS2 := Lib.hid (hx_same HS.out (hx_blank o c t hb))
        have HB := Lib.hid hb
        clear hb
        go_wp2_with fail
        refine (blank_is c true HB.out _).mono ?_
        rintro e w2 ⟨rfl, m, rfl⟩
        replace HP := Lib.hid (HP.out.read (HP.out.at_.drewN m) (Kb.of_below (drewN_below _ m)))
        go_wp2_with fail
        go_roundg t.length
        case measure => have := HL.out; simp only [List.length_cons] at *; omega
        case rel =>
          have e2 := HX.out
          simp only [List.length_cons] at e2
          exact ⟨z, o, t, xs, _, rfl, Nat.le_refl _, by omega, rfl, HO.out, HS2.out, HP.out⟩
      · have HB := Lib.hid hb
        go_wp2_with fail
        refine (blank_is c false (by simpa using HB.out) _).mono ?_
        rintro e w2 ⟨rfl, m, rfl⟩
        replace HP := Lib.hid (HP.out.read (HP.out.at_.drewN m) (Kb.of_below (drewN_below _ m)))
        by_cases h62 : c = 62
        · have HC := Lib.hid h62
          have n1 : ((c.toNat : Int) == 62) = true := by rw [h62]; rfl
          clear h62 hb
          rcases HO.out with ⟨ho, hz⟩ | ⟨vv, hv, ho, hz⟩
          · have HR := Lib.hid (show hx none l = some (xs, t) by rw [HS.out, HC.out, hx_end, ho]; simp)
            subst hz
            clear ho
            obtain ⟨AA, cc, rfl, hcl, hrow⟩ := Kd.R_reads HP.out.own
            rw [bI_len] at hrow
            have HROW := Lib.hid hrow
            obtain ⟨⟨c0, c1, c2⟩, f0, f1, f2⟩ := HP.out.blk.facts
            have hlt := HP.out.blk.lt
            clear hcl hrow
            by_cases hlong : 65535 < (xs).length
            · have HLG := Lib.hid hlong
              go_wp2_with fail
              rw [bI_len]
              refine (text_long AA (xs).length cc _ HLG.out).mono ?_
              rintro e w3 ⟨rfl, hb⟩
              have HK := Lib.hid (HP.out.kb.belows hb (by have := HP.out.size; omega))
              clear hb
              go_wp2_with fail
              exact ⟨rfl, StrQ.long HR.out HLG.out ⟨rfl, HK.out⟩⟩
            · have HLG := Lib.hid hlong
              go_wp2_with fail
              rw [bI_len]
              refine (text_ok AA (xs).length cc (xs) _ HROW.out (by have := HLG.out; omega)).mono ?_
              rintro e w3 ⟨rfl, hb⟩
              have HP2 := Lib.hid (HP.out.read (HP.out.at_.step hb HP.out.at_.lt) (Kb.of_below hb))
              clear hb c0 c1 c2 f0 f1 f2 hlt hlong
              obtain ⟨⟨c0, c1, c2⟩, f0, f1, f2⟩ := HP2.out.blk.facts
              have hlt := HP2.out.blk.lt
              go_wp2_with fail
              refine bodyPost_ret (v := .agg #[.int .i64 6, .int .i64 0, .string (S (xs))]) (by simp [results, Tryd.results104, go_sem, c0, c1, c2]) rfl ?_
              exact StrQ.ok HR.out HLG.out rfl HP2.out.out
          · have HR := Lib.hid (show hx none l = some (xs ++ [UInt8.ofNat (16 * vv)], t) by rw [HS.out, HC.out, hx_end, ho]; rfl)
            subst hz
            clear ho
            have hv0 : (0 : Int) ≤ (vv : Int) := by omega
            have hv1 : (vv : Int) ≤ 15 := by omega
            have HV := Lib.hid hv
            go_wp2_with (at_builtin; refine Kd.R_append (Kd.int .u8) (w0 := w1.drewN m) (w.heap.size + 1) rfl (.tmp 33) (.tmp 37) 32 5 (.int .u8 0) 1 rfl Tryd.underlying32 infoU8 rfl (by decide) (by omega) v (bI xs) ((vv : Int) * 16) [.int .u8 ((vv : Int) * 16)] (fun _ => True) (fun _ => False) rfl rfl ?aP (fun _ hk => hk.elim) ?aF HP.out.own (Below.refl _ _) ?aS ?aL ?_; (case aP => exact rfl); (case aF => exact (fun _ _ => trivial)); (case aS => exact HP.out.size); (case aL => rw [bI_len]; have := HX.out; have := HBL.out; omega); intro v1 w3 ho hb hg hat)
            replace HP := Lib.hid (HP.out.put (UInt8.ofNat (16 * vv)) ho (by have := HV.out; rw [UInt8.toNat_ofNat']; omega) hb)
            clear ho hb hg hat
            rename_i v_
            obtain ⟨AA, cc, rfl, hcl, hrow⟩ := Kd.R_reads HP.out.own
            rw [bI_len] at hrow
            have HROW := Lib.hid hrow
            obtain ⟨⟨c0, c1, c2⟩, f0, f1, f2⟩ := HP.out.blk.facts
            have hlt := HP.out.blk.lt
            clear hcl hrow
            by_cases hlong : 65535 < (xs ++ [UInt8.ofNat (16 * vv)]).length
            · have HLG := Lib.hid hlong
              go_wp2_with fail
              rw [bI_len]
              refine (text_long AA (xs ++ [UInt8.ofNat (16 * vv)]).length cc _ HLG.out).mono ?_
              rintro e w4 ⟨rfl, hb⟩
              have HK := Lib.hid (HP.out.kb.belows hb (by have := HP.out.size; omega))
              clear hb
              go_wp2_with fail
              exact ⟨rfl, StrQ.long HR.out HLG.out ⟨rfl, HK.out⟩⟩
            · have HLG := Lib.hid hlong
              go_wp2_with fail
              rw [bI_len]
              refine (text_ok AA (xs ++ [UInt8.ofNat (16 * vv)]).length cc (xs ++ [UInt8.ofNat (16 * vv)]) _ HROW.out (by have := HLG.out; omega)).mono ?_
              rintro e w4 ⟨rfl, hb⟩
              have HP2 := Lib.hid (HP.out.read (HP.out.at_.step hb HP.out.at_.lt) (Kb.of_below hb))
              clear hb c0 c1 c2 f0 f1 f2 hlt hlong
              obtain ⟨⟨c0, c1, c2⟩, f0, f1, f2⟩ := HP2.out.blk.facts
              have hlt := HP2.out.blk.lt
              go_wp2_with fail
              refine bodyPost_ret (v := .agg #[.int .i64 6, .int .i64 0, .string (S (xs ++ [UInt8.ofNat (16 * vv)]))]) (by simp [results, Tryd.results104, go_sem, c0, c1, c2]) rfl ?_
              exact StrQ.ok HR.out HLG.out rfl HP2.out.out
        · obtain ⟨r1, r2⟩ := hex_range c
          by_cases hneg : hexI c < 0
          · have HR := Lib.hid (show hx none l = none by rw [HS.out, hx_bad o c t hb h62 hneg]; rfl)
            have n1 := ne_of c 62 (by omega) h62
            obtain ⟨dd, hdd⟩ : ∃ dd, hexI c = dd := ⟨_, rfl⟩
            have hd1 : dd < 0 := by omega
            have HD := Lib.hid hdd
            clear h62 hb r1 r2 hneg hdd
            go_wp2_with fail
            refine (hex_is c dd HD.out _).mono ?_
            rintro e w3 ⟨rfl, m2, rfl⟩
            have HK := Lib.hid (HP.out.kb.belows (drewN_below _ m2) (by have := HP.out.size; omega))
            go_wp2_with fail
            exact ⟨rfl, StrQ.none_ HR.out ⟨rfl, by rw [← World.drewN_drewN]; exact HK.out⟩⟩
          · obtain ⟨dd, hdd⟩ : ∃ dd : Nat, hexI c = (dd : Int) := ⟨(hexI c).toNat, by omega⟩
            have hdt : (hexI c).toNat = dd := by omega
            have n1 := ne_of c 62 (by omega) h62
            have hd0 : (0 : Int) ≤ (dd : Int) := by omega
            have hd1 : (dd : Int) ≤ 15 := by omega
            have HD := Lib.hid hdd
            rcases HO.out with ⟨ho, hz⟩ | ⟨vv, hv, ho, hz⟩
            · have HS2 := Lib.hid (hx_same HS.out (show hx o (c :: t) = hx (some dd) t from by rw [ho, hx_half c t hb h62 hneg, hdt]))
              subst hz
              clear ho h62 hb r1 r2 hneg hdd hdt
              go_wp2_with fail
              refine (hex_is c (dd : Int) HD.out _).mono ?_
              rintro e w3 ⟨rfl, m2, rfl⟩
              replace HP := Lib.hid (show Lp w0 w (w1.drewN (m + m2)) g A cap B t xs v by rw [← World.drewN_drewN]; exact HP.out.read (HP.out.at_.drewN m2) (Kb.of_below (drewN_below _ m2)))
              go_wp2_with fail
              go_roundg t.length
              case measure => have := HL.out; simp only [List.length_cons] at *; omega
              case rel =>
                have e2 := HX.out
                simp only [List.length_cons] at e2
                exact ⟨(dd : Int), some dd, t, xs, _, rfl, Nat.le_refl _, by omega, rfl, .inr ⟨dd, by omega, rfl, rfl⟩, HS2.out, HP.out⟩
            · have HS2 := Lib.hid (hx_next HS.out (by rw [ho]; exact hx_full vv c t hb h62 hneg))
              rw [hdt] at HS2
              subst hz
              have hv0 : (0 : Int) ≤ (vv : Int) := by omega
              have hv1 : (vv : Int) ≤ 15 := by omega
              have HV := Lib.hid (And.intro hv (show dd ≤ 15 by omega))
              obtain ⟨x, hx⟩ : ∃ x, 16 * vv + dd = x := ⟨_, rfl⟩
              have hor : bits BinOp.or IntKind.i64 ((vv : Int) * 16) (dd : Int) = (x : Int) := by
                rw [← hx]
                exact or_fin ⟨vv, by omega⟩ ⟨dd, by omega⟩
              have hx0 : (0 : Int) ≤ (x : Int) := by omega
              have hx1 : (x : Int) ≤ 255 := by omega
              have HXX := Lib.hid hx
              clear ho h62 hb r1 r2 hneg hdd hdt hv hx
              go_wp2_with fail
              refine (hex_is c (dd : Int) HD.out _).mono ?_
              rintro e w3 ⟨rfl, m2, rfl⟩
              replace HP := Lib.hid (show Lp w0 w (w1.drewN (m + m2)) g A cap B t xs v by rw [← World.drewN_drewN]; exact HP.out.read (HP.out.at_.drewN m2) (Kb.of_below (drewN_below _ m2)))
              go_wp2_with (at_builtin; refine Kd.R_append (Kd.int .u8) (w0 := w1.drewN (m + m2)) (w.heap.size + 1) rfl (.tmp 15) (.tmp 21) 32 5 (.int .u8 0) 1 rfl Tryd.underlying32 infoU8 rfl (by decide) (by omega) v (bI xs) ((x : Int)) [.int .u8 ((x : Int))] (fun _ => True) (fun _ => False) rfl rfl ?aP (fun _ hk => hk.elim) ?aF HP.out.own (Below.refl _ _) ?aS ?aL ?_; (case aP => exact rfl); (case aF => exact (fun _ _ => trivial)); (case aS => exact HP.out.size); (case aL => rw [bI_len]; have := HX.out; have := HBL.out; omega); intro v1 w4 ho hb hg hat)
              have HP2 := Lib.hid (HP.out.put (UInt8.ofNat (16 * vv + dd)) ho (by have := HV.out; have := HXX.out; rw [UInt8.toNat_ofNat']; omega) hb)
              clear ho hb hg hat
              go_wp2_with fail
              go_roundg t.length
              case measure => have := HL.out; simp only [List.length_cons] at *; omega
              case rel =>
                have e2 := HX.out
                simp only [List.length_cons] at e2
                exact ⟨-1, none, t, xs ++ [UInt8.ofNat (16 * vv + dd)], _, rfl, Nat.le_refl _, by simp only [List.length_append, List.length_cons, List.length_nil]; omega, rfl, .inl ⟨rfl, rfl⟩, HS2.out, HP2.out⟩

end Go.Proofs.YtiocgpfnbmlfaaaDoor.SC

/-! ## SG -/
namespace Go.Proofs.YtiocgpfnbmlfaaaDoor.SC
open Go Go.RowKit Go.Proofs.YtiocgpfnbmlfaaaDoor Go.Proofs.YtiocgpfnbmlfaaaDoor.PS1 Go.Proofs.YtiocgpfnbmlfaaaDoor.QD Go.Proofs.YtiocgpfnbmlfaaaDoorW.PrintWords Go.Proofs.YtiocgpfnbmlfaaaDoorW.PrintLast

/-- an error, or kind, number, text, and what stands behind -/
abbrev TkR := Sum Int (Int × Int × List UInt8 × List UInt8)
def TkQ (r : TkR) (w0 w : World) (g : Nat) (A : Option Addr) (cap : Nat) (B : List UInt8) (e : Ending) (w' : World) : Prop :=
  match r with
  | .inl er => GaveUp er g w e w'
  | .inr (k, n, x, s) => e = .returned (.agg #[.int .i64 k, .int .i64 n, .string (S x)]) ∧ At w0 w' g A cap B s ∧ Kb g w.heap.size w w'
theorem TkQ.err {r : TkR} {er : Int} {w0 w w' : World} {g cap : Nat} {A : Option Addr} {B : List UInt8} {e : Ending} (hr : r = .inl er) (h : GaveUp er g w e w') : TkQ r w0 w g A cap B e w' := by subst hr; exact h
theorem TkQ.ok {r : TkR} {k n : Int} {x s : List UInt8} {w0 w w' : World} {g cap : Nat} {A : Option Addr} {B : List UInt8} {e : Ending} (hr : r = .inr (k, n, x, s)) (h : e = .returned (.agg #[.int .i64 k, .int .i64 n, .string (S x)])) (ha : At w0 w' g A cap B s ∧ Kb g w.heap.size w w') : TkQ r w0 w g A cap B e w' := by subst hr; exact ⟨h, ha⟩
def strL (r : Option (List UInt8 × List UInt8)) : TkR :=
  match r with
  | none => .inl 14
  | some (o, s) => if 65535 < o.length then .inl 9 else .inr (6, 0, o, s)
def nameL (k : Int) (x s : List UInt8) : TkR := if 127 < x.length then .inl 9 else .inr (k, 0, x, s)
theorem StrQ.tk {r : Option (List UInt8 × List UInt8)} {w0 w w' : World} {g cap : Nat} {A : Option Addr} {B : List UInt8} {e : Ending} (h : StrQ r w0 w g A cap B e w') : TkQ (strL r) w0 w g A cap B e w' := by
  unfold StrQ at h
  unfold strL
  match r, h with
  | none, h => exact h
  | some (o, s), h =>
    simp only at h ⊢
    by_cases hl : 65535 < o.length
    · rw [if_pos hl] at h ⊢; exact h
    · rw [if_neg hl] at h ⊢; exact h

theorem strQ_cases {r : Option (List UInt8 × List UInt8)} {w0 w w' : World} {g cap : Nat} {A : Option Addr} {B : List UInt8} {e : Ending} (h : StrQ r w0 w g A cap B e w') :
    (strL r = .inl 14 ∧ e = .panicked [{ v := .iface 28 (.int .i64 14), recovered := false }] ∧ Kb g w.heap.size w w') ∨ (strL r = .inl 9 ∧ e = .panicked [{ v := .iface 28 (.int .i64 9), recovered := false }] ∧ Kb g w.heap.size w w') ∨
    (∃ o s, strL r = .inr (6, 0, o, s) ∧ e = .returned (.agg #[.int .i64 6, .int .i64 0, .string (S o)]) ∧ At w0 w' g A cap B s ∧ Kb g w.heap.size w w') := by
  unfold StrQ at h
  unfold strL
  match r, h with
  | none, h => exact .inl ⟨rfl, h.1, h.2⟩
  | some (o, s), h =>
    simp only at h ⊢
    by_cases hl : 65535 < o.length
    · rw [if_pos hl] at h ⊢; exact .inr (.inl ⟨rfl, h.1, h.2⟩)
    · rw [if_neg hl] at h ⊢; exact .inr (.inr ⟨o, s, rfl, h⟩)

/-- the result's block and the reader -/
structure Tp (w0 w wx : World) (g : Nat) (A : Option Addr) (cap : Nat) (B s : List UInt8) : Prop where
  at_ : At w0 wx g A cap B s
  blk : TokBlk w.heap.size wx
  kb : Kb g w.heap.size w wx
  gl : g < w.heap.size
section
variable {w0 w wx wy : World} {g cap : Nat} {A : Option Addr} {B s s' : List UInt8}
theorem Tp.size (h : Tp w0 w wx g A cap B s) : w.heap.size ≤ wx.heap.size := by have := h.blk.lt; omega
theorem Tp.read (h : Tp w0 w wx g A cap B s) (ha : At w0 wy g A cap B s') (hk : Kb g wx.heap.size wx wy) : Tp w0 w wy g A cap B s' :=
  ⟨ha, (hk.block _ h.blk.lt (by have := h.gl; omega)).trans h.blk, h.kb.then_ h.size hk, h.gl⟩
theorem Tp.below (h : Tp w0 w wx g A cap B s) (hb : Below wx.heap.size wx wy) : Tp w0 w wy g A cap B s := h.read (h.at_.step hb h.at_.lt) (Kb.of_below hb)
theorem Tp.out {u0 u1 u2 : Value} (h : Tp w0 w wx g A cap B s) :
    At w0 (((wx.setCell ⟨w.heap.size, 0, none⟩ u0).setCell ⟨w.heap.size, 1, none⟩ u1).setCell ⟨w.heap.size, 2, none⟩ u2) g A cap B s ∧ Kb g w.heap.size w (((wx.setCell ⟨w.heap.size, 0, none⟩ u0).setCell ⟨w.heap.size, 1, none⟩ u1).setCell ⟨w.heap.size, 2, none⟩ u2) := by
  have hb : Below w.heap.size wx (((wx.setCell ⟨w.heap.size, 0, none⟩ u0).setCell ⟨w.heap.size, 1, none⟩ u1).setCell ⟨w.heap.size, 2, none⟩ u2) :=
    (((Below.refl w.heap.size wx).setCell (p := ⟨w.heap.size, 0, none⟩) (Nat.le_refl _) u0).setCell (p := ⟨w.heap.size, 1, none⟩) (Nat.le_refl _) u1).setCell (p := ⟨w.heap.size, 2, none⟩) (Nat.le_refl _) u2
  exact ⟨h.at_.step hb h.gl, h.kb.belows hb (Nat.le_refl _)⟩
theorem Tp.outA {u0 u1 u2 : Value} (h : Tp w0 w wx g A cap B s) (o : Obj) :
    At w0 ((((wx.setCell ⟨w.heap.size, 0, none⟩ u0).setCell ⟨w.heap.size, 1, none⟩ u1).setCell ⟨w.heap.size, 2, none⟩ u2).alloc o) g A cap B s ∧ Kb g w.heap.size w ((((wx.setCell ⟨w.heap.size, 0, none⟩ u0).setCell ⟨w.heap.size, 1, none⟩ u1).setCell ⟨w.heap.size, 2, none⟩ u2).alloc o) := by
  obtain ⟨h1, h2⟩ := h.out (u0 := u0) (u1 := u1) (u2 := u2)
  exact ⟨h1.step ((Below.refl _ _).alloc (Nat.le_refl _) o) h1.lt, h2.belows ((Below.refl _ _).alloc (Nat.le_refl _) o) h2.size⟩
theorem Tp.start (h : At w0 w g A cap B s) : Tp w0 w (w.alloc (.cells #[.int .i64 0, .int .i64 0, .string ⟨#[]⟩] 27)) g A cap B s :=
  ⟨h.step ((Below.refl _ _).alloc (Nat.le_refl _) _) h.lt, TokBlk.new w, Kb.of_below ((Below.refl _ _).alloc (Nat.le_refl _) _), h.lt⟩
theorem Tp.gave {er : Int} {e : Ending} (h : Tp w0 w wx g A cap B s) (hg : GaveUp er g wx e wy) : GaveUp er g w e wy := ⟨hg.1, h.kb.then_ h.size hg.2⟩
theorem Tp.gaveB {er : Int} {e : Ending} (h : Tp w0 w wx g A cap B s) (hg : GaveUpB er wx e wy) : GaveUp er g w e wy := ⟨hg.1, h.kb.belows hg.2 h.size⟩
end

/-- bytes just made, as a string -/
theorem str_fresh (W : World) (l : List UInt8) (hl : l.length ≤ 1000) : (convert 32 9 (.slice (some ⟨W.heap.size, 0, none⟩) l.length l.length)).run Tryd.prog (W.alloc (.cells ((bI l).map (Value.int .u8)).toArray 5)) = .ok (.string (S l)) (W.alloc (.cells ((bI l).map (Value.int .u8)).toArray 5)) := by
  have h := string_of_reads (P := Tryd.prog) (w := W.alloc (.cells ((bI l).map (Value.int .u8)).toArray 5)) (A := some ⟨W.heap.size, 0, none⟩) (n := l.length) (c := l.length) (xs := bI l) Tryd.underlying32 Tryd.underlying5 Tryd.underlying9 ?_
  · rw [bI_str] at h; exact h
  · refine ⟨bI_len l, by omega, fun _ => ⟨_, rfl, fun j hj => ?_⟩⟩
    have hb := heap_alloc_new W (.cells ((bI l).map (Value.int .u8)).toArray 5)
    have ha : (⟨W.heap.size, 0, none⟩ : Addr).add j = ⟨W.heap.size, 0 + j, none⟩ := by
      simp [Addr.add]
      intro h; exact h.symm
    rw [ha, Lib.cell_of_heap hb, Nat.zero_add]
    have hj' : j < (bI l).length := by rw [bI_len]; exact hj
    simp [List.getD, hj']

/-! ### slash -/
def slashL (l : List UInt8) : TkR :=
  match l with
  | [] => nameL 4 [] []
  | c :: t => if c = 47 then nameL 5 (t.takeWhile regB) (t.dropWhile regB) else nameL 4 ((c :: t).takeWhile regB) ((c :: t).dropWhile regB)

set_option maxHeartbeats 4000000 in
set_option maxRecDepth 100000 in
theorem slash_any {w0 w : World} {g cap : Nat} {A : Option Addr} {B l : List UInt8} (h : At w0 w g A cap B l) :
    Calls Tryd.prog 79 #[.pointer (some ⟨g, 0, none⟩)] w (TkQ (slashL l) w0 w g A cap B) := by
  have HP := Lib.hid (Tp.start h)
  clear h
  cases l with
  | nil =>
    go_enter Tryd.func79, Tryd.ntmps79
    go_wp2_with fail
    refine (next_end HP.out.at_ 47).mono ?_
    rintro e w1 ⟨rfl, hA, hK⟩
    replace HP := Lib.hid (HP.out.read hA hK)
    clear hA hK
    go_wp2_with fail
    refine (word_any HP.out.at_).mono ?_
    rintro e w2 ⟨rfl, hA, hK⟩
    replace HP := Lib.hid (HP.out.read hA hK)
    clear hA hK
    go_wp2_with fail
    refine (name_ok 4 (S []) _ (by rw [S_size]; simp)).mono ?_
    rintro e w3 ⟨rfl, hb⟩
    have HP2 := Lib.hid (HP.out.below hb)
    clear hb
    obtain ⟨⟨c0, c1, c2⟩, f0, f1, f2⟩ := HP2.out.blk.facts
    have hlt := HP2.out.blk.lt
    go_wp2_with fail
    refine bodyPost_ret (v := .agg #[.int .i64 4, .int .i64 0, .string (S [])]) (by simp [results, Tryd.results79, go_sem, c0, c1, c2]) rfl ?_
    exact TkQ.ok rfl rfl HP2.out.out
  | cons c t =>
    by_cases h47 : c = 47
    · have HC := Lib.hid h47
      clear h47
      go_enter Tryd.func79, Tryd.ntmps79
      go_wp2_with fail
      refine (next_yes HP.out.at_ 47 (by rw [HC.out]; rfl)).mono ?_
      rintro e w1 ⟨rfl, hA, hK⟩
      replace HP := Lib.hid (HP.out.read hA hK)
      clear hA hK
      go_wp2_with fail
      refine (word_any HP.out.at_).mono ?_
      rintro e w2 ⟨rfl, hA, hK⟩
      replace HP := Lib.hid (HP.out.read hA hK)
      clear hA hK
      by_cases hlong : 127 < (t.takeWhile regB).length
      · have HLG := Lib.hid hlong
        have HR := Lib.hid (show slashL (c :: t) = .inl 9 by rw [slashL, if_pos HC.out]; unfold nameL; rw [if_pos hlong])
        clear hlong
        go_wp2_with fail
        refine (name_long 5 (S (t.takeWhile regB)) _ (by rw [S_size]; exact HLG.out)).mono ?_
        rintro e w3 ⟨rfl, hb⟩
        have HK := Lib.hid (HP.out.kb.belows hb HP.out.size)
        clear hb
        go_wp2_with fail
        exact ⟨rfl, TkQ.err HR.out ⟨rfl, HK.out⟩⟩
      · have HLG := Lib.hid hlong
        have HR := Lib.hid (show slashL (c :: t) = .inr (5, 0, t.takeWhile regB, t.dropWhile regB) by rw [slashL, if_pos HC.out]; unfold nameL; rw [if_neg hlong])
        clear hlong
        go_wp2_with fail
        refine (name_ok 5 (S (t.takeWhile regB)) _ (by rw [S_size]; have := HLG.out; omega)).mono ?_
        rintro e w3 ⟨rfl, hb⟩
        have HP2 := Lib.hid (HP.out.below hb)
        clear hb
        obtain ⟨⟨c0, c1, c2⟩, f0, f1, f2⟩ := HP2.out.blk.facts
        have hlt := HP2.out.blk.lt
        go_wp2_with fail
        refine bodyPost_ret (v := .agg #[.int .i64 5, .int .i64 0, .string (S (t.takeWhile regB))]) (by simp [results, Tryd.results79, go_sem, c0, c1, c2]) rfl ?_
        exact TkQ.ok HR.out rfl HP2.out.out
    · have HC := Lib.hid h47
      clear h47
      go_enter Tryd.func79, Tryd.ntmps79
      go_wp2_with fail
      refine (next_other HP.out.at_ 47 (ne_of c 47 (by omega) HC.out)).mono ?_
      rintro e w1 ⟨rfl, hA, hK⟩
      replace HP := Lib.hid (HP.out.read hA hK)
      clear hA hK
      go_wp2_with fail
      refine (word_any HP.out.at_).mono ?_
      rintro e w2 ⟨rfl, hA, hK⟩
      replace HP := Lib.hid (HP.out.read hA hK)
      clear hA hK
      by_cases hlong : 127 < ((c :: t).takeWhile regB).length
      · have HLG := Lib.hid hlong
        have HR := Lib.hid (show slashL (c :: t) = .inl 9 by rw [slashL, if_neg HC.out]; unfold nameL; rw [if_pos hlong])
        clear hlong
        go_wp2_with fail
        refine (name_long 4 (S ((c :: t).takeWhile regB)) _ (by rw [S_size]; exact HLG.out)).mono ?_
        rintro e w3 ⟨rfl, hb⟩
        have HK := Lib.hid (HP.out.kb.belows hb HP.out.size)
        clear hb
        go_wp2_with fail
        exact ⟨rfl, TkQ.err HR.out ⟨rfl, HK.out⟩⟩
      · have HLG := Lib.hid hlong
        have HR := Lib.hid (show slashL (c :: t) = .inr (4, 0, (c :: t).takeWhile regB, (c :: t).dropWhile regB) by rw [slashL, if_neg HC.out]; unfold nameL; rw [if_neg hlong])
        clear hlong
        go_wp2_with fail
        refine (name_ok 4 (S ((c :: t).takeWhile regB)) _ (by rw [S_size]; have := HLG.out; omega)).mono ?_
        rintro e w3 ⟨rfl, hb⟩
        have HP2 := Lib.hid (HP.out.below hb)
        clear hb
        obtain ⟨⟨c0, c1, c2⟩, f0, f1, f2⟩ := HP2.out.blk.facts
        have hlt := HP2.out.blk.lt
        go_wp2_with fail
        refine bodyPost_ret (v := .agg #[.int .i64 4, .int .i64 0, .string (S ((c :: t).takeWhile regB))]) (by simp [results, Tryd.results79, go_sem, c0, c1, c2]) rfl ?_
        exact TkQ.ok HR.out rfl HP2.out.out

/-! ### angle -/
def angleL (c : UInt8) (l : List UInt8) : TkR :=
  match l with
  | [] => if c = 60 then strL (hx none []) else .inl 14
  | d :: t => if d = c then .inr (3, 0, [c, c], t) else if c = 60 then strL (hx none (d :: t)) else .inl 14

set_option maxHeartbeats 4000000 in
set_option maxRecDepth 100000 in
theorem angle_60 {w0 w : World} {g cap : Nat} {A : Option Addr} {B l : List UInt8} (h : At w0 w g A cap B l) :
    Calls Tryd.prog 78 #[.pointer (some ⟨g, 0, none⟩), .int .u8 60] w (TkQ (angleL 60 l) w0 w g A cap B) := by
  have HP := Lib.hid (Tp.start h)
  clear h
  cases l with
  | nil =>
    have HR := Lib.hid (show angleL 60 [] = strL (hx none []) from rfl)
    go_enter Tryd.func78, Tryd.ntmps78
    go_wp2_with fail
    refine (next_end HP.out.at_ 60).mono ?_
    rintro e w1 ⟨rfl, hA, hK⟩
    replace HP := Lib.hid (HP.out.read hA hK)
    clear hA hK
    go_wp2_with fail
    refine (hex_any HP.out.at_).mono ?_
    rintro e w2 hq
    rcases strQ_cases hq with ⟨hr, rfl, hk⟩ | ⟨hr, rfl, hk⟩ | ⟨o, s, hr, rfl, ha, hk⟩
    · have HK := Lib.hid (HP.out.kb.then_ HP.out.size hk)
      have HRR := Lib.hid (HR.out.trans hr)
      clear hr hk hq
      go_wp2_with fail
      exact ⟨rfl, TkQ.err HRR.out ⟨rfl, HK.out⟩⟩
    · have HK := Lib.hid (HP.out.kb.then_ HP.out.size hk)
      have HRR := Lib.hid (HR.out.trans hr)
      clear hr hk hq
      go_wp2_with fail
      exact ⟨rfl, TkQ.err HRR.out ⟨rfl, HK.out⟩⟩
    · have HP2 := Lib.hid (HP.out.read ha hk)
      have HRR := Lib.hid (HR.out.trans hr)
      clear hr ha hk hq
      obtain ⟨⟨c0, c1, c2⟩, f0, f1, f2⟩ := HP2.out.blk.facts
      have hlt := HP2.out.blk.lt
      go_wp2_with fail
      refine bodyPost_ret (v := .agg #[.int .i64 6, .int .i64 0, .string (S o)]) (by simp [results, Tryd.results78, go_sem, c0, c1, c2]) rfl ?_
      exact TkQ.ok HRR.out rfl HP2.out.out
  | cons d t =>
    by_cases hd : d = 60
    · have HC := Lib.hid hd
      have HR := Lib.hid (show angleL 60 (d :: t) = .inr (3, 0, [60, 60], t) by rw [angleL, if_pos hd])
      clear hd
      have hcv : ∀ W : World, (convert 32 9 (.slice (some ⟨W.heap.size, 0, none⟩) 2 2)).run Tryd.prog (W.alloc (.cells #[.int .u8 60, .int .u8 60] 5)) = .ok (.string (S [60, 60])) (W.alloc (.cells #[.int .u8 60, .int .u8 60] 5)) := fun W => str_fresh W [60, 60] (by decide)
      go_enter Tryd.func78, Tryd.ntmps78
      go_wp2_with fail
      refine (next_yes HP.out.at_ 60 (by rw [HC.out]; rfl)).mono ?_
      rintro e w1 ⟨rfl, hA, hK⟩
      replace HP := Lib.hid (HP.out.read hA hK)
      clear hA hK
      obtain ⟨⟨c0, c1, c2⟩, f0, f1, f2⟩ := HP.out.blk.facts
      have hlt := HP.out.blk.lt
      go_wp2_with fail
      refine bodyPost_ret (v := .agg #[.int .i64 3, .int .i64 0, .string (S [60, 60])]) (by simp [results, Tryd.results78, go_sem, c0, c1, c2, hlt]) rfl ?_
      exact TkQ.ok HR.out rfl (HP.out.outA _)
    · have HC := Lib.hid hd
      have HR := Lib.hid (show angleL 60 (d :: t) = strL (hx none (d :: t)) by rw [angleL, if_neg hd]; rfl)
      clear hd
      go_enter Tryd.func78, Tryd.ntmps78
      go_wp2_with fail
      refine (next_other HP.out.at_ 60 (ne_of d 60 (by omega) HC.out)).mono ?_
      rintro e w1 ⟨rfl, hA, hK⟩
      replace HP := Lib.hid (HP.out.read hA hK)
      clear hA hK
      go_wp2_with fail
      refine (hex_any HP.out.at_).mono ?_
      rintro e w2 hq
      rcases strQ_cases hq with ⟨hr, rfl, hk⟩ | ⟨hr, rfl, hk⟩ | ⟨o, s, hr, rfl, ha, hk⟩
      · have HK := Lib.hid (HP.out.kb.then_ HP.out.size hk)
        have HRR := Lib.hid (HR.out.trans hr)
        clear hr hk hq
        go_wp2_with fail
        exact ⟨rfl, TkQ.err HRR.out ⟨rfl, HK.out⟩⟩
      · have HK := Lib.hid (HP.out.kb.then_ HP.out.size hk)
        have HRR := Lib.hid (HR.out.trans hr)
        clear hr hk hq
        go_wp2_with fail
        exact ⟨rfl, TkQ.err HRR.out ⟨rfl, HK.out⟩⟩
      · have HP2 := Lib.hid (HP.out.read ha hk)
        have HRR := Lib.hid (HR.out.trans hr)
        clear hr ha hk hq
        obtain ⟨⟨c0, c1, c2⟩, f0, f1, f2⟩ := HP2.out.blk.facts
        have hlt := HP2.out.blk.lt
        go_wp2_with fail
        refine bodyPost_ret (v := .agg #[.int .i64 6, .int .i64 0, .string (S o)]) (by simp [results, Tryd.results78, go_sem, c0, c1, c2]) rfl ?_
        exact TkQ.ok HRR.out rfl HP2.out.out
set_option maxHeartbeats 4000000 in
set_option maxRecDepth 100000 in
theorem angle_62 {w0 w : World} {g cap : Nat} {A : Option Addr} {B l : List UInt8} (h : At w0 w g A cap B l) :
    Calls Tryd.prog 78 #[.pointer (some ⟨g, 0, none⟩), .int .u8 62] w (TkQ (angleL 62 l) w0 w g A cap B) := by
  have HP := Lib.hid (Tp.start h)
  clear h
  cases l with
  | nil =>
    have HR := Lib.hid (show angleL 62 [] = .inl 14 from rfl)
    go_enter Tryd.func78, Tryd.ntmps78
    go_wp2_with fail
    refine (next_end HP.out.at_ 62).mono ?_
    rintro e w1 ⟨rfl, hA, hK⟩
    replace HP := Lib.hid (HP.out.read hA hK)
    clear hA hK
    go_wp2_with fail
    exact ⟨rfl, TkQ.err HR.out ⟨rfl, HP.out.kb⟩⟩
  | cons d t =>
    by_cases hd : d = 62
    · have HC := Lib.hid hd
      have HR := Lib.hid (show angleL 62 (d :: t) = .inr (3, 0, [62, 62], t) by rw [angleL, if_pos hd])
      clear hd
      have hcv : ∀ W : World, (convert 32 9 (.slice (some ⟨W.heap.size, 0, none⟩) 2 2)).run Tryd.prog (W.alloc (.cells #[.int .u8 62, .int .u8 62] 5)) = .ok (.string (S [62, 62])) (W.alloc (.cells #[.int .u8 62, .int .u8 62] 5)) := fun W => str_fresh W [62, 62] (by decide)
      go_enter Tryd.func78, Tryd.ntmps78
      go_wp2_with fail
      refine (next_yes HP.out.at_ 62 (by rw [HC.out]; rfl)).mono ?_
      rintro e w1 ⟨rfl, hA, hK⟩
      replace HP := Lib.hid (HP.out.read hA hK)
      clear hA hK
      obtain ⟨⟨c0, c1, c2⟩, f0, f1, f2⟩ := HP.out.blk.facts
      have hlt := HP.out.blk.lt
      go_wp2_with fail
      refine bodyPost_ret (v := .agg #[.int .i64 3, .int .i64 0, .string (S [62, 62])]) (by simp [results, Tryd.results78, go_sem, c0, c1, c2, hlt]) rfl ?_
      exact TkQ.ok HR.out rfl (HP.out.outA _)
    · have HC := Lib.hid hd
      have HR := Lib.hid (show angleL 62 (d :: t) = .inl 14 by rw [angleL, if_neg hd]; rfl)
      clear hd
      go_enter Tryd.func78, Tryd.ntmps78
      go_wp2_with fail
      refine (next_other HP.out.at_ 62 (ne_of d 62 (by omega) HC.out)).mono ?_
      rintro e w1 ⟨rfl, hA, hK⟩
      replace HP := Lib.hid (HP.out.read hA hK)
      clear hA hK
      go_wp2_with fail
      exact ⟨rfl, TkQ.err HR.out ⟨rfl, HP.out.kb⟩⟩

end Go.Proofs.YtiocgpfnbmlfaaaDoor.SC
