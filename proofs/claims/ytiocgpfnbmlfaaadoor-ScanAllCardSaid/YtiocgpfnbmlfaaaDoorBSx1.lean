/- Own texts of this claim, one behind the other (wip/prune.py). -/
import Derived.Test.YtiocgpfnbmlfaaaDoorBSx0
import Derived.Test.YtiocgpfnbmlfaaaDoorProg
import Derived.Below
import Derived.Deep.Draws
import Derived.Deep.AppendLies
import Derived.Maps.AppendAt
import Derived.OwnWalk
import Derived.Laws.BytesArg
import Derived.Laws.MakeOwn
import Derived.Laws.OwnMore
import Derived.Deep.OwnRows
import Derived.Tactics
import Derived.Lib.ConvBytes
import Derived.Laws.Slices
import Derived.WalkKit
import Derived.KernelRfl
import Derived.RowKit3
import Derived.Deep.LoopGhost
import Derived.Deep.QuietTactic
import Derived.BigQuiet
import Derived.WideLaws
import Derived.Deep.DeepCutAuto
import Derived.Deep.CutBlock
import Derived.Deep.RegionHeld3
import Derived.Laws.Rows
import Derived.Lib.AppendStr
import Derived.ArgAppend
import Derived.Laws.IdiomCopy
import Derived.OrdersHeld
import Derived.Laws.BitsLemmas
import Derived.RowKit
import Derived.Test.YtiocgpfnbmlfaaaDoorWWords
import Derived.Test.YtiocgpfnbmlfaaaDoorWLast
import Derived.Test.YtiocgpfnbmlfaaaDoorWEqStruct
import Derived.Test.YtiocgpfnbmlfaaaDoorWRepsOne
import Derived.Test.YtiocgpfnbmlfaaaDoorWGuard
import Derived.Deep.RegionWith

/-! ## GN -/
namespace Go.Proofs.YtiocgpfnbmlfaaaDoor.QD
open Go Go.RowKit Go.Proofs.YtiocgpfnbmlfaaaDoor Go.Proofs.YtiocgpfnbmlfaaaDoorW.PrintWords

/-- what is left of a world below a mark: the result's block, and what was there when the call began -/
def Kept (w wn : World) : Prop := TokBlk w.heap.size wn ∧ Below w.heap.size w wn
theorem Kept.step {w wn wm : World} (h : Kept w wn) (hb : Below wn.heap.size wn wm) : Kept w wm :=
  ⟨h.1.below hb h.1.lt, h.2.trans (hb.mono h.2.size)⟩
theorem Kept.first {w wn : World} {o : Obj} (h : TokBlk w.heap.size (w.alloc o)) (hb : Below (w.alloc o).heap.size (w.alloc o) wn) : Kept w wn :=
  ⟨h.below hb (by simp), below_alloc0 hb⟩
theorem setCell_size (w : World) (a : Addr) (v : Value) : (w.setCell a v).heap.size = w.heap.size := by simp [World.setCell]
/-- the last store, the result's three cells -/
theorem Kept.done {w wn : World} {v0 v1 v2 : Value} {a0 a1 a2 : Addr} (h : Kept w wn) (h0 : a0.block = w.heap.size) (h1 : a1.block = w.heap.size) (h2 : a2.block = w.heap.size) :
    Below w.heap.size w (((wn.setCell a0 v0).setCell a1 v1).setCell a2 v2) :=
  ((h.2.setCell (by omega) _).setCell (by omega) _).setCell (by omega) _

set_option maxHeartbeats 4000000 in
set_option maxRecDepth 100000 in
theorem tok_radix (s : ByteArray) (w : World) (hs : s.size ≤ 64) (kr nr er : Int) (okr : Bool) (hR : ∀ w, Calls Tryd.prog 38 #[.string s] w (RQ kr nr okr er w)) (hok : okr = true)  :
    Calls Tryd.prog 17 #[.string s] w (RQ kr nr true er w) := by
  have HR := Lib.hid hR
  have HT := Lib.hid (TokBlk.new w)
  have hsz : ¬ ((64 : Int) < (s.size : Int)) := by omega
  clear hR
  subst hok
  go_enter Tryd.func17, Tryd.ntmps17
  go_wp2_with fail
  refine (HR.out _).mono ?_
  rintro e w1 ⟨rfl, hb⟩
  have K := Lib.hid (Kept.first HT.out hb)
  clear hb HT
  obtain ⟨⟨c0, c1, c2⟩, f0, f1, f2⟩ := K.out.1.facts
  have hlt := K.out.1.lt
  go_wp2_with fail
  refine bodyPost_ret (v := .tuple #[.agg #[.int .i64 kr, .int .i64 nr, .string ⟨#[]⟩], .bool true, .int .i64 er]) (by simp [results, Tryd.results17, go_sem, c0, c1, c2, hlt]) rfl ⟨rfl, ?_⟩
  exact (K.out.done rfl rfl rfl).alloc (by simp only [setCell_size]; omega) _

set_option maxHeartbeats 4000000 in
set_option maxRecDepth 100000 in
theorem tok_whole (s : ByteArray) (w : World) (hs : s.size ≤ 64) (kr nr er : Int) (okr : Bool) (nw : Int) (okw : Bool) (hR : ∀ w, Calls Tryd.prog 38 #[.string s] w (RQ kr nr okr er w)) (hW : ∀ w, Calls Tryd.prog 39 #[.string s] w fun e w' => e = .returned (.tuple #[.int .i64 nw, .bool okw]) ∧ Below w.heap.size w w') (hokr : okr = false) (hokw : okw = true)  :
    Calls Tryd.prog 17 #[.string s] w (RQ 1 nw true 0 w) := by
  have HR := Lib.hid hR
  have HW := Lib.hid hW
  have HT := Lib.hid (TokBlk.new w)
  have hsz : ¬ ((64 : Int) < (s.size : Int)) := by omega
  clear hR hW
  subst hokr hokw
  go_enter Tryd.func17, Tryd.ntmps17
  go_wp2_with fail
  refine (HR.out _).mono ?_
  rintro e w1 ⟨rfl, hb⟩
  have K := Lib.hid (Kept.first HT.out hb)
  clear hb HT
  go_wp2_with fail
  refine (HW.out _).mono ?_
  rintro e w2 ⟨rfl, hb⟩
  replace K := Lib.hid (K.out.step (below_alloc0 hb))
  clear hb
  obtain ⟨⟨c0, c1, c2⟩, f0, f1, f2⟩ := K.out.1.facts
  have hlt := K.out.1.lt
  go_wp2_with fail
  refine bodyPost_ret (v := .tuple #[.agg #[.int .i64 1, .int .i64 nw, .string ⟨#[]⟩], .bool true, .int .i64 0]) (by simp [results, Tryd.results17, go_sem, c0, c1, c2]) rfl ⟨rfl, ?_⟩
  exact K.out.done rfl rfl rfl

set_option maxHeartbeats 4000000 in
set_option maxRecDepth 100000 in
theorem tok_badexp (s : ByteArray) (w : World) (hs : s.size ≤ 64) (kr nr er : Int) (okr : Bool) (nw : Int) (okw : Bool) (m : Bool) (r : ByteArray) (ix : Int) (q : ByteArray) (np : Int) (okp : Bool) (hR : ∀ w, Calls Tryd.prog 38 #[.string s] w (RQ kr nr okr er w)) (hW : ∀ w, Calls Tryd.prog 39 #[.string s] w fun e w' => e = .returned (.tuple #[.int .i64 nw, .bool okw]) ∧ Below w.heap.size w w') (hS : ∀ w, Calls Tryd.prog 32 #[.string s] w fun e w' => e = .returned (.tuple #[.bool m, .string r]) ∧ Below w.heap.size w w') (hI : ∀ w, Calls Tryd.prog 40 #[.string r, .string ⟨#[101, 69]⟩] w fun e w' => e = .returned (.int .i64 ix) ∧ Below w.heap.size w w') (hP : ∀ w, Calls Tryd.prog 41 #[.string q] w fun e w' => e = .returned (.tuple #[.int .i64 np, .bool okp]) ∧ Below w.heap.size w w') (hokr : okr = false) (hokw : okw = false) (i : Nat) (hix : ix = (i : Int)) (hil : i < r.size) (hrs : r.size ≤ 64) (hq : r.extract (i + 1) r.size = q) (hokp : okp = false)  :
    Calls Tryd.prog 17 #[.string s] w (RQ 0 0 false 0 w) := by
  have HR := Lib.hid hR
  have HW := Lib.hid hW
  have HS := Lib.hid hS
  have HI := Lib.hid hI
  have HP := Lib.hid hP
  have HT := Lib.hid (TokBlk.new w)
  have hsz : ¬ ((64 : Int) < (s.size : Int)) := by omega
  clear hR hW hS hI hP
  subst hokr hokw hix
  have d1 : (0 : Int) ≤ (i : Int) := by omega
  have d2 : (0 : Int) ≤ (i : Int) + 1 := by omega
  have d3 : (i : Int) + 1 ≤ (r.size : Int) := by omega
  have d4 : (i : Int) ≤ (r.size : Int) := by omega
  subst hokp
  go_enter Tryd.func17, Tryd.ntmps17
  go_wp2_with fail
  refine (HR.out _).mono ?_
  rintro e w1 ⟨rfl, hb⟩
  have K := Lib.hid (Kept.first HT.out hb)
  clear hb HT
  go_wp2_with fail
  refine (HW.out _).mono ?_
  rintro e w2 ⟨rfl, hb⟩
  replace K := Lib.hid (K.out.step (below_alloc0 hb))
  clear hb
  go_wp2_with fail
  refine (HS.out _).mono ?_
  rintro e w3 ⟨rfl, hb⟩
  replace K := Lib.hid (K.out.step hb)
  clear hb
  go_wp2_with fail
  refine (HI.out _).mono ?_
  rintro e w4 ⟨rfl, hb⟩
  replace K := Lib.hid (K.out.step hb)
  clear hb
  go_wp2_with fail
  refine (HP.out _).mono ?_
  rintro e w5 ⟨rfl, hb⟩
  replace K := Lib.hid (K.out.step hb)
  clear hb
  obtain ⟨⟨c0, c1, c2⟩, f0, f1, f2⟩ := K.out.1.facts
  have hlt := K.out.1.lt
  go_wp2_with fail
  refine bodyPost_ret (v := .tuple #[.agg #[.int .i64 0, .int .i64 0, .string ⟨#[]⟩], .bool false, .int .i64 0]) (by simp [results, Tryd.results17, go_sem, c0, c1, c2]) rfl ⟨rfl, ?_⟩
  exact K.out.done rfl rfl rfl

set_option maxHeartbeats 4000000 in
set_option maxRecDepth 100000 in
theorem tok_badmant_e (s : ByteArray) (w : World) (hs : s.size ≤ 64) (kr nr er : Int) (okr : Bool) (nw : Int) (okw : Bool) (m : Bool) (r : ByteArray) (ix : Int) (q : ByteArray) (np : Int) (okp : Bool) (r2 ma mb : ByteArray) (mp okm : Bool) (hR : ∀ w, Calls Tryd.prog 38 #[.string s] w (RQ kr nr okr er w)) (hW : ∀ w, Calls Tryd.prog 39 #[.string s] w fun e w' => e = .returned (.tuple #[.int .i64 nw, .bool okw]) ∧ Below w.heap.size w w') (hS : ∀ w, Calls Tryd.prog 32 #[.string s] w fun e w' => e = .returned (.tuple #[.bool m, .string r]) ∧ Below w.heap.size w w') (hI : ∀ w, Calls Tryd.prog 40 #[.string r, .string ⟨#[101, 69]⟩] w fun e w' => e = .returned (.int .i64 ix) ∧ Below w.heap.size w w') (hP : ∀ w, Calls Tryd.prog 41 #[.string q] w fun e w' => e = .returned (.tuple #[.int .i64 np, .bool okp]) ∧ Below w.heap.size w w') (hM : ∀ w, Calls Tryd.prog 33 #[.string r2] w fun e w' => e = .returned (.tuple #[.string ma, .string mb, .bool mp, .bool okm]) ∧ Below w.heap.size w w') (hokr : okr = false) (hokw : okw = false) (i : Nat) (hix : ix = (i : Int)) (hil : i < r.size) (hrs : r.size ≤ 64) (hq : r.extract (i + 1) r.size = q) (hokp : okp = true) (hr2 : r.extract 0 i = r2) (hokm : okm = false)  :
    Calls Tryd.prog 17 #[.string s] w (RQ 0 0 false 0 w) := by
  have HR := Lib.hid hR
  have HW := Lib.hid hW
  have HS := Lib.hid hS
  have HI := Lib.hid hI
  have HP := Lib.hid hP
  have HM := Lib.hid hM
  have HT := Lib.hid (TokBlk.new w)
  have hsz : ¬ ((64 : Int) < (s.size : Int)) := by omega
  clear hR hW hS hI hP hM
  subst hokr hokw hix
  have d1 : (0 : Int) ≤ (i : Int) := by omega
  have d2 : (0 : Int) ≤ (i : Int) + 1 := by omega
  have d3 : (i : Int) + 1 ≤ (r.size : Int) := by omega
  have d4 : (i : Int) ≤ (r.size : Int) := by omega
  subst hokp hokm
  go_enter Tryd.func17, Tryd.ntmps17
  go_wp2_with fail
  refine (HR.out _).mono ?_
  rintro e w1 ⟨rfl, hb⟩
  have K := Lib.hid (Kept.first HT.out hb)
  clear hb HT
  go_wp2_with fail
  refine (HW.out _).mono ?_
  rintro e w2 ⟨rfl, hb⟩
  replace K := Lib.hid (K.out.step (below_alloc0 hb))
  clear hb
  go_wp2_with fail
  refine (HS.out _).mono ?_
  rintro e w3 ⟨rfl, hb⟩
  replace K := Lib.hid (K.out.step hb)
  clear hb
  go_wp2_with fail
  refine (HI.out _).mono ?_
  rintro e w4 ⟨rfl, hb⟩
  replace K := Lib.hid (K.out.step hb)
  clear hb
  go_wp2_with fail
  refine (HP.out _).mono ?_
  rintro e w5 ⟨rfl, hb⟩
  replace K := Lib.hid (K.out.step hb)
  clear hb
  go_wp2_with fail
  refine (HM.out _).mono ?_
  rintro e w6 ⟨rfl, hb⟩
  replace K := Lib.hid (K.out.step hb)
  clear hb
  obtain ⟨⟨c0, c1, c2⟩, f0, f1, f2⟩ := K.out.1.facts
  have hlt := K.out.1.lt
  go_wp2_with fail
  refine bodyPost_ret (v := .tuple #[.agg #[.int .i64 0, .int .i64 0, .string ⟨#[]⟩], .bool false, .int .i64 0]) (by simp [results, Tryd.results17, go_sem, c0, c1, c2]) rfl ⟨rfl, ?_⟩
  exact K.out.done rfl rfl rfl

set_option maxHeartbeats 4000000 in
set_option maxRecDepth 100000 in
theorem tok_big_e (s : ByteArray) (w : World) (hs : s.size ≤ 64) (kr nr er : Int) (okr : Bool) (nw : Int) (okw : Bool) (m : Bool) (r : ByteArray) (ix : Int) (q : ByteArray) (np : Int) (okp : Bool) (r2 ma mb : ByteArray) (mp okm : Bool) (x y : ByteArray) (nv : Int) (okv : Bool) (hR : ∀ w, Calls Tryd.prog 38 #[.string s] w (RQ kr nr okr er w)) (hW : ∀ w, Calls Tryd.prog 39 #[.string s] w fun e w' => e = .returned (.tuple #[.int .i64 nw, .bool okw]) ∧ Below w.heap.size w w') (hS : ∀ w, Calls Tryd.prog 32 #[.string s] w fun e w' => e = .returned (.tuple #[.bool m, .string r]) ∧ Below w.heap.size w w') (hI : ∀ w, Calls Tryd.prog 40 #[.string r, .string ⟨#[101, 69]⟩] w fun e w' => e = .returned (.int .i64 ix) ∧ Below w.heap.size w w') (hP : ∀ w, Calls Tryd.prog 41 #[.string q] w fun e w' => e = .returned (.tuple #[.int .i64 np, .bool okp]) ∧ Below w.heap.size w w') (hM : ∀ w, Calls Tryd.prog 33 #[.string r2] w fun e w' => e = .returned (.tuple #[.string ma, .string mb, .bool mp, .bool okm]) ∧ Below w.heap.size w w') (hH : ∀ w, Calls Tryd.prog 42 #[.string ma, .string mb, .int .i64 np] w (ShQ x y w)) (hV : ∀ w, Calls Tryd.prog 34 #[.bool m, .string x, .string y] w fun e w' => e = .returned (.tuple #[.int .i64 nv, .bool okv]) ∧ Below w.heap.size w w') (hokr : okr = false) (hokw : okw = false) (i : Nat) (hix : ix = (i : Int)) (hil : i < r.size) (hrs : r.size ≤ 64) (hq : r.extract (i + 1) r.size = q) (hokp : okp = true) (hr2 : r.extract 0 i = r2) (hokm : okm = true) (hokv : okv = false)  :
    Calls Tryd.prog 17 #[.string s] w (RQ 0 0 true 9 w) := by
  have HR := Lib.hid hR
  have HW := Lib.hid hW
  have HS := Lib.hid hS
  have HI := Lib.hid hI
  have HP := Lib.hid hP
  have HM := Lib.hid hM
  have HH := Lib.hid hH
  have HV := Lib.hid hV
  have HT := Lib.hid (TokBlk.new w)
  have hsz : ¬ ((64 : Int) < (s.size : Int)) := by omega
  clear hR hW hS hI hP hM hH hV
  subst hokr hokw hix
  have d1 : (0 : Int) ≤ (i : Int) := by omega
  have d2 : (0 : Int) ≤ (i : Int) + 1 := by omega
  have d3 : (i : Int) + 1 ≤ (r.size : Int) := by omega
  have d4 : (i : Int) ≤ (r.size : Int) := by omega
  subst hokp hokm hokv
  go_enter Tryd.func17, Tryd.ntmps17
  go_wp2_with fail
  refine (HR.out _).mono ?_
  rintro e w1 ⟨rfl, hb⟩
  have K := Lib.hid (Kept.first HT.out hb)
  clear hb HT
  go_wp2_with fail
  refine (HW.out _).mono ?_
  rintro e w2 ⟨rfl, hb⟩
  replace K := Lib.hid (K.out.step (below_alloc0 hb))
  clear hb
  go_wp2_with fail
  refine (HS.out _).mono ?_
  rintro e w3 ⟨rfl, hb⟩
  replace K := Lib.hid (K.out.step hb)
  clear hb
  go_wp2_with fail
  refine (HI.out _).mono ?_
  rintro e w4 ⟨rfl, hb⟩
  replace K := Lib.hid (K.out.step hb)
  clear hb
  go_wp2_with fail
  refine (HP.out _).mono ?_
  rintro e w5 ⟨rfl, hb⟩
  replace K := Lib.hid (K.out.step hb)
  clear hb
  go_wp2_with fail
  refine (HM.out _).mono ?_
  rintro e w6 ⟨rfl, hb⟩
  replace K := Lib.hid (K.out.step hb)
  clear hb
  go_wp2_with fail
  refine (HH.out _).mono ?_
  rintro e w7 ⟨rfl, hb⟩
  replace K := Lib.hid (K.out.step hb)
  clear hb
  go_wp2_with fail
  refine (HV.out _).mono ?_
  rintro e w8 ⟨rfl, hb⟩
  replace K := Lib.hid (K.out.step hb)
  clear hb
  obtain ⟨⟨c0, c1, c2⟩, f0, f1, f2⟩ := K.out.1.facts
  have hlt := K.out.1.lt
  go_wp2_with fail
  refine bodyPost_ret (v := .tuple #[.agg #[.int .i64 0, .int .i64 0, .string ⟨#[]⟩], .bool true, .int .i64 9]) (by simp [results, Tryd.results17, go_sem, c0, c1, c2]) rfl ⟨rfl, ?_⟩
  exact K.out.done rfl rfl rfl

set_option maxHeartbeats 4000000 in
set_option maxRecDepth 100000 in
theorem tok_real_e (s : ByteArray) (w : World) (hs : s.size ≤ 64) (kr nr er : Int) (okr : Bool) (nw : Int) (okw : Bool) (m : Bool) (r : ByteArray) (ix : Int) (q : ByteArray) (np : Int) (okp : Bool) (r2 ma mb : ByteArray) (mp okm : Bool) (x y : ByteArray) (nv : Int) (okv : Bool) (hR : ∀ w, Calls Tryd.prog 38 #[.string s] w (RQ kr nr okr er w)) (hW : ∀ w, Calls Tryd.prog 39 #[.string s] w fun e w' => e = .returned (.tuple #[.int .i64 nw, .bool okw]) ∧ Below w.heap.size w w') (hS : ∀ w, Calls Tryd.prog 32 #[.string s] w fun e w' => e = .returned (.tuple #[.bool m, .string r]) ∧ Below w.heap.size w w') (hI : ∀ w, Calls Tryd.prog 40 #[.string r, .string ⟨#[101, 69]⟩] w fun e w' => e = .returned (.int .i64 ix) ∧ Below w.heap.size w w') (hP : ∀ w, Calls Tryd.prog 41 #[.string q] w fun e w' => e = .returned (.tuple #[.int .i64 np, .bool okp]) ∧ Below w.heap.size w w') (hM : ∀ w, Calls Tryd.prog 33 #[.string r2] w fun e w' => e = .returned (.tuple #[.string ma, .string mb, .bool mp, .bool okm]) ∧ Below w.heap.size w w') (hH : ∀ w, Calls Tryd.prog 42 #[.string ma, .string mb, .int .i64 np] w (ShQ x y w)) (hV : ∀ w, Calls Tryd.prog 34 #[.bool m, .string x, .string y] w fun e w' => e = .returned (.tuple #[.int .i64 nv, .bool okv]) ∧ Below w.heap.size w w') (hokr : okr = false) (hokw : okw = false) (i : Nat) (hix : ix = (i : Int)) (hil : i < r.size) (hrs : r.size ≤ 64) (hq : r.extract (i + 1) r.size = q) (hokp : okp = true) (hr2 : r.extract 0 i = r2) (hokm : okm = true) (hokv : okv = true)  :
    Calls Tryd.prog 17 #[.string s] w (RQ 2 nv true 0 w) := by
  have HR := Lib.hid hR
  have HW := Lib.hid hW
  have HS := Lib.hid hS
  have HI := Lib.hid hI
  have HP := Lib.hid hP
  have HM := Lib.hid hM
  have HH := Lib.hid hH
  have HV := Lib.hid hV
  have HT := Lib.hid (TokBlk.new w)
  have hsz : ¬ ((64 : Int) < (s.size : Int)) := by omega
  clear hR hW hS hI hP hM hH hV
  subst hokr hokw hix
  have d1 : (0 : Int) ≤ (i : Int) := by omega
  have d2 : (0 : Int) ≤ (i : Int) + 1 := by omega
  have d3 : (i : Int) + 1 ≤ (r.size : Int) := by omega
  have d4 : (i : Int) ≤ (r.size : Int) := by omega
  subst hokp hokm hokv
  go_enter Tryd.func17, Tryd.ntmps17
  go_wp2_with fail
  refine (HR.out _).mono ?_
  rintro e w1 ⟨rfl, hb⟩
  have K := Lib.hid (Kept.first HT.out hb)
  clear hb HT
  go_wp2_with fail
  refine (HW.out _).mono ?_
  rintro e w2 ⟨rfl, hb⟩
  replace K := Lib.hid (K.out.step (below_alloc0 hb))
  clear hb
  go_wp2_with fail
  refine (HS.out _).mono ?_
  rintro e w3 ⟨rfl, hb⟩
  replace K := Lib.hid (K.out.step hb)
  clear hb
  go_wp2_with fail
  refine (HI.out _).mono ?_
  rintro e w4 ⟨rfl, hb⟩
  replace K := Lib.hid (K.out.step hb)
  clear hb
  go_wp2_with fail
  refine (HP.out _).mono ?_
  rintro e w5 ⟨rfl, hb⟩
  replace K := Lib.hid (K.out.step hb)
  clear hb
  go_wp2_with fail
  refine (HM.out _).mono ?_
  rintro e w6 ⟨rfl, hb⟩
  replace K := Lib.hid (K.out.step hb)
  clear hb
  go_wp2_with fail
  refine (HH.out _).mono ?_
  rintro e w7 ⟨rfl, hb⟩
  replace K := Lib.hid (K.out.step hb)
  clear hb
  go_wp2_with fail
  refine (HV.out _).mono ?_
  rintro e w8 ⟨rfl, hb⟩
  replace K := Lib.hid (K.out.step hb)
  clear hb
  obtain ⟨⟨c0, c1, c2⟩, f0, f1, f2⟩ := K.out.1.facts
  have hlt := K.out.1.lt
  go_wp2_with fail
  refine bodyPost_ret (v := .tuple #[.agg #[.int .i64 2, .int .i64 nv, .string ⟨#[]⟩], .bool true, .int .i64 0]) (by simp [results, Tryd.results17, go_sem, c0, c1, c2]) rfl ⟨rfl, ?_⟩
  exact K.out.done rfl rfl rfl

set_option maxHeartbeats 4000000 in
set_option maxRecDepth 100000 in
theorem tok_badmant (s : ByteArray) (w : World) (hs : s.size ≤ 64) (kr nr er : Int) (okr : Bool) (nw : Int) (okw : Bool) (m : Bool) (r : ByteArray) (ix : Int) (r2 ma mb : ByteArray) (mp okm : Bool) (hR : ∀ w, Calls Tryd.prog 38 #[.string s] w (RQ kr nr okr er w)) (hW : ∀ w, Calls Tryd.prog 39 #[.string s] w fun e w' => e = .returned (.tuple #[.int .i64 nw, .bool okw]) ∧ Below w.heap.size w w') (hS : ∀ w, Calls Tryd.prog 32 #[.string s] w fun e w' => e = .returned (.tuple #[.bool m, .string r]) ∧ Below w.heap.size w w') (hI : ∀ w, Calls Tryd.prog 40 #[.string r, .string ⟨#[101, 69]⟩] w fun e w' => e = .returned (.int .i64 ix) ∧ Below w.heap.size w w') (hM : ∀ w, Calls Tryd.prog 33 #[.string r2] w fun e w' => e = .returned (.tuple #[.string ma, .string mb, .bool mp, .bool okm]) ∧ Below w.heap.size w w') (hokr : okr = false) (hokw : okw = false) (hix : ix < 0) (hokm : okm = false) (hr2 : r = r2)  :
    Calls Tryd.prog 17 #[.string s] w (RQ 0 0 false 0 w) := by
  have HR := Lib.hid hR
  have HW := Lib.hid hW
  have HS := Lib.hid hS
  have HI := Lib.hid hI
  have HM := Lib.hid hM
  have HT := Lib.hid (TokBlk.new w)
  have hsz : ¬ ((64 : Int) < (s.size : Int)) := by omega
  clear hR hW hS hI hM
  subst hokr hokw
  have d1 : ¬ ((0 : Int) ≤ ix) := by omega
  subst hokm hr2
  go_enter Tryd.func17, Tryd.ntmps17
  go_wp2_with fail
  refine (HR.out _).mono ?_
  rintro e w1 ⟨rfl, hb⟩
  have K := Lib.hid (Kept.first HT.out hb)
  clear hb HT
  go_wp2_with fail
  refine (HW.out _).mono ?_
  rintro e w2 ⟨rfl, hb⟩
  replace K := Lib.hid (K.out.step (below_alloc0 hb))
  clear hb
  go_wp2_with fail
  refine (HS.out _).mono ?_
  rintro e w3 ⟨rfl, hb⟩
  replace K := Lib.hid (K.out.step hb)
  clear hb
  go_wp2_with fail
  refine (HI.out _).mono ?_
  rintro e w4 ⟨rfl, hb⟩
  replace K := Lib.hid (K.out.step hb)
  clear hb
  go_wp2_with fail
  refine (HM.out _).mono ?_
  rintro e w5 ⟨rfl, hb⟩
  replace K := Lib.hid (K.out.step hb)
  clear hb
  obtain ⟨⟨c0, c1, c2⟩, f0, f1, f2⟩ := K.out.1.facts
  have hlt := K.out.1.lt
  go_wp2_with fail
  refine bodyPost_ret (v := .tuple #[.agg #[.int .i64 0, .int .i64 0, .string ⟨#[]⟩], .bool false, .int .i64 0]) (by simp [results, Tryd.results17, go_sem, c0, c1, c2]) rfl ⟨rfl, ?_⟩
  exact K.out.done rfl rfl rfl

set_option maxHeartbeats 4000000 in
set_option maxRecDepth 100000 in
theorem tok_big (s : ByteArray) (w : World) (hs : s.size ≤ 64) (kr nr er : Int) (okr : Bool) (nw : Int) (okw : Bool) (m : Bool) (r : ByteArray) (ix : Int) (r2 ma mb : ByteArray) (mp okm : Bool) (x y : ByteArray) (nv : Int) (okv : Bool) (hR : ∀ w, Calls Tryd.prog 38 #[.string s] w (RQ kr nr okr er w)) (hW : ∀ w, Calls Tryd.prog 39 #[.string s] w fun e w' => e = .returned (.tuple #[.int .i64 nw, .bool okw]) ∧ Below w.heap.size w w') (hS : ∀ w, Calls Tryd.prog 32 #[.string s] w fun e w' => e = .returned (.tuple #[.bool m, .string r]) ∧ Below w.heap.size w w') (hI : ∀ w, Calls Tryd.prog 40 #[.string r, .string ⟨#[101, 69]⟩] w fun e w' => e = .returned (.int .i64 ix) ∧ Below w.heap.size w w') (hM : ∀ w, Calls Tryd.prog 33 #[.string r2] w fun e w' => e = .returned (.tuple #[.string ma, .string mb, .bool mp, .bool okm]) ∧ Below w.heap.size w w') (hH : ∀ w, Calls Tryd.prog 42 #[.string ma, .string mb, .int .i64 0] w (ShQ x y w)) (hV : ∀ w, Calls Tryd.prog 34 #[.bool m, .string x, .string y] w fun e w' => e = .returned (.tuple #[.int .i64 nv, .bool okv]) ∧ Below w.heap.size w w') (hokr : okr = false) (hokw : okw = false) (hix : ix < 0) (hokm : okm = true) (hokv : okv = false) (hr2 : r = r2)  :
    Calls Tryd.prog 17 #[.string s] w (RQ 0 0 true 9 w) := by
  have HR := Lib.hid hR
  have HW := Lib.hid hW
  have HS := Lib.hid hS
  have HI := Lib.hid hI
  have HM := Lib.hid hM
  have HH := Lib.hid hH
  have HV := Lib.hid hV
  have HT := Lib.hid (TokBlk.new w)
  have hsz : ¬ ((64 : Int) < (s.size : Int)) := by omega
  clear hR hW hS hI hM hH hV
  subst hokr hokw
  have d1 : ¬ ((0 : Int) ≤ ix) := by omega
  subst hokm hokv hr2
  go_enter Tryd.func17, Tryd.ntmps17
  go_wp2_with fail
  refine (HR.out _).mono ?_
  rintro e w1 ⟨rfl, hb⟩
  have K := Lib.hid (Kept.first HT.out hb)
  clear hb HT
  go_wp2_with fail
  refine (HW.out _).mono ?_
  rintro e w2 ⟨rfl, hb⟩
  replace K := Lib.hid (K.out.step (below_alloc0 hb))
  clear hb
  go_wp2_with fail
  refine (HS.out _).mono ?_
  rintro e w3 ⟨rfl, hb⟩
  replace K := Lib.hid (K.out.step hb)
  clear hb
  go_wp2_with fail
  refine (HI.out _).mono ?_
  rintro e w4 ⟨rfl, hb⟩
  replace K := Lib.hid (K.out.step hb)
  clear hb
  go_wp2_with fail
  refine (HM.out _).mono ?_
  rintro e w5 ⟨rfl, hb⟩
  replace K := Lib.hid (K.out.step hb)
  clear hb
  go_wp2_with fail
  refine (HH.out _).mono ?_
  rintro e w6 ⟨rfl, hb⟩
  replace K := Lib.hid (K.out.step hb)
  clear hb
  go_wp2_with fail
  refine (HV.out _).mono ?_
  rintro e w7 ⟨rfl, hb⟩
  replace K := Lib.hid (K.out.step hb)
  clear hb
  obtain ⟨⟨c0, c1, c2⟩, f0, f1, f2⟩ := K.out.1.facts
  have hlt := K.out.1.lt
  go_wp2_with fail
  refine bodyPost_ret (v := .tuple #[.agg #[.int .i64 0, .int .i64 0, .string ⟨#[]⟩], .bool true, .int .i64 9]) (by simp [results, Tryd.results17, go_sem, c0, c1, c2]) rfl ⟨rfl, ?_⟩
  exact K.out.done rfl rfl rfl

set_option maxHeartbeats 4000000 in
set_option maxRecDepth 100000 in
theorem tok_real (s : ByteArray) (w : World) (hs : s.size ≤ 64) (kr nr er : Int) (okr : Bool) (nw : Int) (okw : Bool) (m : Bool) (r : ByteArray) (ix : Int) (r2 ma mb : ByteArray) (mp okm : Bool) (x y : ByteArray) (nv : Int) (okv : Bool) (hR : ∀ w, Calls Tryd.prog 38 #[.string s] w (RQ kr nr okr er w)) (hW : ∀ w, Calls Tryd.prog 39 #[.string s] w fun e w' => e = .returned (.tuple #[.int .i64 nw, .bool okw]) ∧ Below w.heap.size w w') (hS : ∀ w, Calls Tryd.prog 32 #[.string s] w fun e w' => e = .returned (.tuple #[.bool m, .string r]) ∧ Below w.heap.size w w') (hI : ∀ w, Calls Tryd.prog 40 #[.string r, .string ⟨#[101, 69]⟩] w fun e w' => e = .returned (.int .i64 ix) ∧ Below w.heap.size w w') (hM : ∀ w, Calls Tryd.prog 33 #[.string r2] w fun e w' => e = .returned (.tuple #[.string ma, .string mb, .bool mp, .bool okm]) ∧ Below w.heap.size w w') (hH : ∀ w, Calls Tryd.prog 42 #[.string ma, .string mb, .int .i64 0] w (ShQ x y w)) (hV : ∀ w, Calls Tryd.prog 34 #[.bool m, .string x, .string y] w fun e w' => e = .returned (.tuple #[.int .i64 nv, .bool okv]) ∧ Below w.heap.size w w') (hokr : okr = false) (hokw : okw = false) (hix : ix < 0) (hokm : okm = true) (hokv : okv = true) (hr2 : r = r2)  :
    Calls Tryd.prog 17 #[.string s] w (RQ 2 nv true 0 w) := by
  have HR := Lib.hid hR
  have HW := Lib.hid hW
  have HS := Lib.hid hS
  have HI := Lib.hid hI
  have HM := Lib.hid hM
  have HH := Lib.hid hH
  have HV := Lib.hid hV
  have HT := Lib.hid (TokBlk.new w)
  have hsz : ¬ ((64 : Int) < (s.size : Int)) := by omega
  clear hR hW hS hI hM hH hV
  subst hokr hokw
  have d1 : ¬ ((0 : Int) ≤ ix) := by omega
  subst hokm hokv hr2
  go_enter Tryd.func17, Tryd.ntmps17
  go_wp2_with fail
  refine (HR.out _).mono ?_
  rintro e w1 ⟨rfl, hb⟩
  have K := Lib.hid (Kept.first HT.out hb)
  clear hb HT
  go_wp2_with fail
  refine (HW.out _).mono ?_
  rintro e w2 ⟨rfl, hb⟩
  replace K := Lib.hid (K.out.step (below_alloc0 hb))
  clear hb
  go_wp2_with fail
  refine (HS.out _).mono ?_
  rintro e w3 ⟨rfl, hb⟩
  replace K := Lib.hid (K.out.step hb)
  clear hb
  go_wp2_with fail
  refine (HI.out _).mono ?_
  rintro e w4 ⟨rfl, hb⟩
  replace K := Lib.hid (K.out.step hb)
  clear hb
  go_wp2_with fail
  refine (HM.out _).mono ?_
  rintro e w5 ⟨rfl, hb⟩
  replace K := Lib.hid (K.out.step hb)
  clear hb
  go_wp2_with fail
  refine (HH.out _).mono ?_
  rintro e w6 ⟨rfl, hb⟩
  replace K := Lib.hid (K.out.step hb)
  clear hb
  go_wp2_with fail
  refine (HV.out _).mono ?_
  rintro e w7 ⟨rfl, hb⟩
  replace K := Lib.hid (K.out.step hb)
  clear hb
  obtain ⟨⟨c0, c1, c2⟩, f0, f1, f2⟩ := K.out.1.facts
  have hlt := K.out.1.lt
  go_wp2_with fail
  refine bodyPost_ret (v := .tuple #[.agg #[.int .i64 2, .int .i64 nv, .string ⟨#[]⟩], .bool true, .int .i64 0]) (by simp [results, Tryd.results17, go_sem, c0, c1, c2]) rfl ⟨rfl, ?_⟩
  exact K.out.done rfl rfl rfl

set_option maxHeartbeats 4000000 in
set_option maxRecDepth 100000 in
theorem tok_long (s : ByteArray) (w : World) (hs : 64 < s.size) :
    Calls Tryd.prog 17 #[.string s] w (RQ 0 0 false 0 w) := by
  have hT := TokBlk.new w
  have hlt := hT.lt
  obtain ⟨⟨c0, c1, c2⟩, f0, f1, f2⟩ := hT.facts
  have hsz : (64 : Int) < (s.size : Int) := by omega
  clear hT
  go_enter Tryd.func17, Tryd.ntmps17
  go_wp2_with fail
  refine bodyPost_ret (v := .tuple #[.agg #[.int .i64 0, .int .i64 0, .string ⟨#[]⟩], .bool false, .int .i64 0]) (by simp [results, Tryd.results17, go_sem, c0, c1, c2]) rfl ⟨rfl, ?_⟩
  exact (Below.refl _ _).alloc (Nat.le_refl _) _

end Go.Proofs.YtiocgpfnbmlfaaaDoor.QD

/-! ## GO -/
namespace Go.Proofs.YtiocgpfnbmlfaaaDoor.QD
open Go Go.RowKit Go.Proofs.YtiocgpfnbmlfaaaDoor Go.Proofs.YtiocgpfnbmlfaaaDoorW.PrintWords

/-- ahead of an e, what it raises by, is that well formed -/
def expL (r : List UInt8) : List UInt8 × Int × Bool :=
  if Lib.indexAny r [101, 69] < 0 then (r, 0, true)
  else (r.take (Lib.indexAny r [101, 69]).toNat, (powL (r.drop ((Lib.indexAny r [101, 69]).toNat + 1))).1, (powL (r.drop ((Lib.indexAny r [101, 69]).toNat + 1))).2)
/-- the mantissa's answer -/
def realL (m : Bool) (r : List UInt8) (k : Int) : Int × Int × Bool × Int :=
  if (mantL r).2.2.2 = true then
    (if (valueL m (shiftL (mantL r).1 (mantL r).2.1 k).1 (shiftL (mantL r).1 (mantL r).2.1 k).2).2 = true then (2, (valueL m (shiftL (mantL r).1 (mantL r).2.1 k).1 (shiftL (mantL r).1 (mantL r).2.1 k).2).1, true, 0) else (0, 0, true, 9))
  else (0, 0, false, 0)
/-- kind, number, is it one, error -/
def tokL (l : List UInt8) : Int × Int × Bool × Int :=
  if 64 < l.length then (0, 0, false, 0)
  else if (radixL l).2.2.1 = true then ((radixL l).1, (radixL l).2.1, true, (radixL l).2.2.2)
  else if (wholeL l).2 = true then (1, (wholeL l).1, true, 0)
  else if (expL (sgnL l).2).2.2 = true then realL (sgnL l).1 (expL (sgnL l).2).1 (expL (sgnL l).2).2.1
  else (0, 0, false, 0)

theorem indexAny_lt (chars : List UInt8) : ∀ l : List UInt8, Lib.indexAny l chars < l.length
  | [] => by show (-1 : Int) < 0; omega
  | b :: l => by
    have ih := indexAny_lt chars l
    have hg := Lib.indexAny_ge chars l
    simp only [List.length_cons]
    unfold Lib.indexAny
    split
    · omega
    · split
      · omega
      · omega

theorem powL_bound (l : List UInt8) : -1000 < (powL l).1 ∧ (powL l).1 < 1000 := by
  unfold powL
  split
  · simp
  · rename_i h
    have h3 : (sgnL l).2.length ≤ 3 := by
      rcases Nat.lt_or_ge 3 (sgnL l).2.length with hh | hh
      · exact absurd (by simp [hh]) h
      · exact hh
    have hd : (sgnL l).2.all isDig = true := by
      cases hh : (sgnL l).2.all isDig with
      | true => rfl
      | false => exact absurd (by simp [hh]) h
    have hv := valD_lt10 _ hd
    have hp : 10 ^ (sgnL l).2.length ≤ 10 ^ 3 := Nat.pow_le_pow_right (by omega) h3
    simp only
    split <;> omega

theorem mant_all (l : List UInt8) (h : (mantL l).2.2.2 = true) : (mantL l).1.all isDig = true ∧ (mantL l).2.1.all isDig = true := by
  unfold mantL at *
  simp only [Bool.and_eq_true] at h
  exact h.1
theorem mant_len (l : List UInt8) : (mantL l).1.length ≤ l.length ∧ (mantL l).2.1.length ≤ l.length := cut1_len 46 l

theorem mantR_f (l : List UInt8) (hs : l.length ≤ 1000000) : PR.dec_mantissa.f (S l) = some (S (mantL l).1, S (mantL l).2.1, (mantL l).2.2.1, (mantL l).2.2.2) := by
  have hc := cut1_len 46 l
  have h0 : strings_Cut.f (S l) ⟨#[46]⟩ = some (S (cut1 46 l).1, S (cut1 46 l).2.1, (cut1 46 l).2.2) := by
    unfold strings_Cut.f
    rw [if_pos ⟨by decide, by rw [S_size]; omega⟩, S_data]
    rfl
  unfold PR.dec_mantissa.f mantL
  rw [h0]
  simp only [Option.bind_some]
  rw [plain_f _ (by rw [S_size]; omega), plain_f _ (by rw [S_size]; omega)]
  simp only [Option.bind_some, S_data, S_size]
  rw [show wrap64 (((cut1 46 l).1.length : Int) + ((cut1 46 l).2.1.length : Int)) = ((cut1 46 l).1.length : Int) + ((cut1 46 l).2.1.length : Int) from w64 _ (by omega) (by omega)]
  cases (cut1 46 l).1.all isDig <;> cases (cut1 46 l).2.1.all isDig <;> simp
  omega

theorem shift_len (a b : List UInt8) (k : Int) : (shiftL a b k).2.length ≤ k.natAbs + a.length + b.length := by
  unfold shiftL
  have := bOf_len (a ++ b) ((a.length : Int) + k)
  rw [List.length_append] at this
  simp only
  omega

theorem tok_any (l : List UInt8) (w : World) : Calls Tryd.prog 17 #[.string (S l)] w (RQ (tokL l).1 (tokL l).2.1 (tokL l).2.2.1 (tokL l).2.2.2 w) := by
  by_cases hlong : 64 < l.length
  · rw [show tokL l = (0, 0, false, 0) from by unfold tokL; rw [if_pos hlong]]
    exact tok_long (S l) w (by rw [S_size]; exact hlong)
  have hs : (S l).size ≤ 64 := by rw [S_size]; omega
  have hR : ∀ w, Calls Tryd.prog 38 #[.string (S l)] w (RQ (radixL l).1 (radixL l).2.1 (radixL l).2.2.1 (radixL l).2.2.2 w) := fun w => radix_any (S l) w (by omega) _ _ _ _ (by rw [S_data])
  have hW : ∀ w, Calls Tryd.prog 39 #[.string (S l)] w fun e w' => e = .returned (.tuple #[.int .i64 (wholeL l).1, .bool (wholeL l).2]) ∧ Below w.heap.size w w' := fun w =>
    dec_whole.calls (S l) _ _ w (by unfold dec_whole.f; rw [if_pos (by omega), S_data])
  have hS : ∀ w, Calls Tryd.prog 32 #[.string (S l)] w fun e w' => e = .returned (.tuple #[.bool (sgnL l).1, .string (S (sgnL l).2)]) ∧ Below w.heap.size w w' := fun w => by
    have := signed_any (S l) w
    rw [S_data] at this
    exact this
  have hrl := sgnL_len l
  have htok : tokL l = if (radixL l).2.2.1 = true then ((radixL l).1, (radixL l).2.1, true, (radixL l).2.2.2)
      else if (wholeL l).2 = true then (1, (wholeL l).1, true, 0)
      else if (expL (sgnL l).2).2.2 = true then realL (sgnL l).1 (expL (sgnL l).2).1 (expL (sgnL l).2).2.1 else (0, 0, false, 0) := by
    unfold tokL; rw [if_neg hlong]
  rw [htok]
  generalize (radixL l).1 = kr at *
  generalize (radixL l).2.1 = nr at *
  generalize (radixL l).2.2.2 = er at *
  cases hokr : (radixL l).2.2.1 with
  | true =>
    rw [hokr] at hR
    exact tok_radix (S l) w hs kr nr er true hR rfl
  | false =>
  rw [hokr] at hR
  rw [if_neg Bool.false_ne_true]
  generalize (wholeL l).1 = nw at *
  cases hokw : (wholeL l).2 with
  | true =>
    rw [hokw] at hW
    exact tok_whole (S l) w hs kr nr er false nw true hR hW rfl rfl
  | false =>
  rw [hokw] at hW
  rw [if_neg Bool.false_ne_true]
  generalize (sgnL l).1 = m at *
  generalize (sgnL l).2 = r at *
  have hI : ∀ w, Calls Tryd.prog 40 #[.string (S r), .string ⟨#[101, 69]⟩] w fun e w' => e = .returned (.int .i64 (Lib.indexAny r [101, 69])) ∧ Below w.heap.size w w' := fun w =>
    strings_IndexAny.calls (S r) _ _ w (by unfold strings_IndexAny.f; rw [if_pos ⟨rfl, by rw [S_size]; omega⟩, S_data])
  have hilt := indexAny_lt [101, 69] r
  have hige := Lib.indexAny_ge [101, 69] r
  have hM : ∀ (r2 : List UInt8), r2.length ≤ 64 → ∀ w, Calls Tryd.prog 33 #[.string (S r2)] w fun e w' => e = .returned (.tuple #[.string (S (mantL r2).1), .string (S (mantL r2).2.1), .bool (mantL r2).2.2.1, .bool (mantL r2).2.2.2]) ∧ Below w.heap.size w w' := fun r2 h2 w =>
    PR.dec_mantissa.calls (S r2) _ _ _ _ w (mantR_f r2 (by omega))
  have hV : ∀ (r2 : List UInt8) (k : Int), r2.length ≤ 64 → -1000 < k → k < 1000 → (mantL r2).2.2.2 = true → ∀ w, Calls Tryd.prog 34 #[.bool m, .string (S (shiftL (mantL r2).1 (mantL r2).2.1 k).1), .string (S (shiftL (mantL r2).1 (mantL r2).2.1 k).2)] w fun e w' =>
      e = .returned (.tuple #[.int .i64 (valueL m (shiftL (mantL r2).1 (mantL r2).2.1 k).1 (shiftL (mantL r2).1 (mantL r2).2.1 k).2).1, .bool (valueL m (shiftL (mantL r2).1 (mantL r2).2.1 k).1 (shiftL (mantL r2).1 (mantL r2).2.1 k).2).2]) ∧ Below w.heap.size w w' := fun r2 k h2 hk1 hk2 hok w => by
    obtain ⟨h3, h4⟩ := mant_all r2 hok
    obtain ⟨h5, h6⟩ := mant_len r2
    have h7 := shift_len (mantL r2).1 (mantL r2).2.1 k
    have hD : ((mantL r2).1 ++ (mantL r2).2.1).all isDig = true := by rw [List.all_append, h3, h4]; rfl
    refine dec_value.calls m _ _ _ _ w ?_
    unfold dec_value.f
    rw [S_data, S_data, if_pos ⟨aOf_all _ _ hD, bOf_all _ _ hD, by rw [S_size]; omega⟩]
  have hH : ∀ (r2 : List UInt8) (k : Int), r2.length ≤ 64 → -1000 < k → k < 1000 → ∀ w, Calls Tryd.prog 42 #[.string (S (mantL r2).1), .string (S (mantL r2).2.1), .int .i64 k] w (ShQ (S (shiftL (mantL r2).1 (mantL r2).2.1 k).1) (S (shiftL (mantL r2).1 (mantL r2).2.1 k).2) w) := fun r2 k h2 hk1 hk2 w => by
    obtain ⟨h5, h6⟩ := mant_len r2
    exact shift_any _ _ k w (by omega) (by omega) (by omega) (by omega)
  unfold expL
  generalize hix : Lib.indexAny r [101, 69] = ix at *
  by_cases hneg : ix < 0
  · rw [if_pos hneg, if_pos rfl]
    have hrr : r.length ≤ 64 := by omega
    have hMr := hM r hrr
    have hHr := hH r 0 hrr (by omega) (by omega)
    have hVr := hV r 0 hrr (by omega) (by omega)
    unfold realL
    cases hokm : (mantL r).2.2.2 with
    | false =>
      rw [hokm] at hMr
      exact tok_badmant (S l) w hs kr nr er false nw false m (S r) ix (S r) _ _ _ false hR hW hS hI hMr rfl rfl hneg rfl rfl
    | true =>
      rw [hokm] at hMr
      have hVr := hVr hokm
      rw [if_pos rfl]
      generalize valueL m (shiftL (mantL r).1 (mantL r).2.1 0).1 (shiftL (mantL r).1 (mantL r).2.1 0).2 = v at *
      obtain ⟨nv, okv⟩ := v
      cases okv with
      | false => exact tok_big (S l) w hs kr nr er false nw false m (S r) ix (S r) _ _ _ true _ _ nv false hR hW hS hI hMr hHr hVr rfl rfl hneg rfl rfl rfl
      | true => exact tok_real (S l) w hs kr nr er false nw false m (S r) ix (S r) _ _ _ true _ _ nv true hR hW hS hI hMr hHr hVr rfl rfl hneg rfl rfl rfl
  · rw [if_neg hneg]
    obtain ⟨i, hi⟩ : ∃ i : Nat, ix = (i : Int) := ⟨ix.toNat, by omega⟩
    have hi' : ix.toNat = i := by omega
    rw [hi']
    have hq : (S r).extract (i + 1) (S r).size = S (r.drop (i + 1)) := S_from r (i + 1)
    have hr2 : (S r).extract 0 i = S (r.take i) := S_to r i
    have hil : i < (S r).size := by rw [S_size]; omega
    have hrs : (S r).size ≤ 64 := by rw [S_size]; omega
    have hP : ∀ w, Calls Tryd.prog 41 #[.string (S (r.drop (i + 1)))] w fun e w' => e = .returned (.tuple #[.int .i64 (powL (r.drop (i + 1))).1, .bool (powL (r.drop (i + 1))).2]) ∧ Below w.heap.size w w' := fun w =>
      dec_power.calls (S (r.drop (i + 1))) _ _ w (by unfold dec_power.f; rw [if_pos (by rw [S_size, List.length_drop]; omega), S_data])
    obtain ⟨hk1, hk2⟩ := powL_bound (r.drop (i + 1))
    have hrr : (r.take i).length ≤ 64 := by rw [List.length_take]; omega
    have hMr := hM (r.take i) hrr
    generalize (powL (r.drop (i + 1))).1 = np at *
    have hHr := hH (r.take i) np hrr hk1 hk2
    have hVr := hV (r.take i) np hrr hk1 hk2
    cases hokp : (powL (r.drop (i + 1))).2 with
    | false =>
      rw [hokp] at hP
      exact tok_badexp (S l) w hs kr nr er false nw false m (S r) ix (S (r.drop (i + 1))) np false hR hW hS hI hP rfl rfl i hi hil hrs hq rfl
    | true =>
      rw [hokp] at hP
      rw [if_pos rfl]
      unfold realL
      cases hokm : (mantL (r.take i)).2.2.2 with
      | false =>
        rw [hokm] at hMr
        exact tok_badmant_e (S l) w hs kr nr er false nw false m (S r) ix (S (r.drop (i + 1))) np true (S (r.take i)) _ _ _ false hR hW hS hI hP hMr rfl rfl i hi hil hrs hq rfl hr2 rfl
      | true =>
        rw [hokm] at hMr
        have hVr := hVr hokm
        rw [if_pos rfl]
        generalize valueL m (shiftL (mantL (r.take i)).1 (mantL (r.take i)).2.1 np).1 (shiftL (mantL (r.take i)).1 (mantL (r.take i)).2.1 np).2 = v at *
        obtain ⟨nv, okv⟩ := v
        cases okv with
        | false => exact tok_big_e (S l) w hs kr nr er false nw false m (S r) ix (S (r.drop (i + 1))) np true (S (r.take i)) _ _ _ true _ _ nv false hR hW hS hI hP hMr hHr hVr rfl rfl i hi hil hrs hq rfl hr2 rfl rfl
        | true => exact tok_real_e (S l) w hs kr nr er false nw false m (S r) ix (S (r.drop (i + 1))) np true (S (r.take i)) _ _ _ true _ _ nv true hR hW hS hI hP hMr hHr hVr rfl rfl i hi hil hrs hq rfl hr2 rfl rfl

end Go.Proofs.YtiocgpfnbmlfaaaDoor.QD
namespace Go.Proofs.YtiocgpfnbmlfaaaDoor
open Go Go.RowKit Go.Proofs.YtiocgpfnbmlfaaaDoorW.PrintWords

def dec_Token.f (a0 : ByteArray) : Option (Int × Int × ByteArray × Bool × Int) :=
  some ((QD.tokL a0.data.toList).1, (QD.tokL a0.data.toList).2.1, ⟨#[]⟩, (QD.tokL a0.data.toList).2.2.1, (QD.tokL a0.data.toList).2.2.2)
theorem dec_Token.calls (a0 : ByteArray) (r1 r2 : Int) (r3 : ByteArray) (r4 : Bool) (r5 : Int) (w : World) (h : dec_Token.f a0 = some (r1, r2, r3, r4, r5)) :
    Calls Tryd.prog 17 #[.string a0] w fun e w' => e = .returned (.tuple #[.agg #[.int .i64 r1, .int .i64 r2, .string r3], .bool r4, .int .i64 r5]) ∧ Below w.heap.size w w' := by
  unfold dec_Token.f at h
  simp only [Option.some.injEq, Prod.mk.injEq] at h
  obtain ⟨rfl, rfl, rfl, rfl, rfl⟩ := h
  have := QD.tok_any a0.data.toList w
  rw [← QD.S_of] at this
  exact this

end Go.Proofs.YtiocgpfnbmlfaaaDoor

/-! ## PEx0 -/
namespace Go.Proofs.YtiocgpfnbmlfaaaDoor.PE
open Go.RowKit Go.Proofs.YtiocgpfnbmlfaaaDoorW.PrintWords Go.Proofs.YtiocgpfnbmlfaaaDoorW.PrintLast Go.Proofs.YtiocgpfnbmlfaaaDoorW.PrintMore
attribute [local go_sem] max2_int min2_int max_two min_two max_three min_three max_four min_four   -- for this text's walks alone
set_option linter.unusedVariables false
set_option linter.unusedSimpArgs false



def errW : Option Int → Value
 | none => .nilIface
 | some c => .iface 0 (.int .i64 c)
theorem errW_none : errW none = .nilIface := rfl
theorem errW_some (c : Int) : errW (some c) = .iface 0 (.int .i64 c) := rfl

-- the values' own types

end Go.Proofs.YtiocgpfnbmlfaaaDoor.PE

/-! ## PEx1 -/
namespace Go.Proofs.YtiocgpfnbmlfaaaDoor.PE
open Go.RowKit Go.Proofs.YtiocgpfnbmlfaaaDoorW.PrintWords Go.Proofs.YtiocgpfnbmlfaaaDoorW.PrintLast Go.Proofs.YtiocgpfnbmlfaaaDoorW.PrintMore
attribute [local go_sem] max2_int min2_int max_two min_two max_three min_three max_four min_four   -- for this text's walks alone
set_option linter.unusedVariables false
set_option linter.unusedSimpArgs false

/-! ### mezzotintref01_Digits: function 43 -/
def mezzotintref01_Digits.l0 : Nat → ByteArray → Int → Option (Int)
 | 0, _, _ => none
 | k + 1, x0, x3 => if x3 < (x0.size : Int) then (if 0 ≤ x3 then (if (bt x0 x3) ≥ 48 then (if (bt x0 x3) ≤ 57 then (mezzotintref01_Digits.l0 k x0 (wrap64 (x3 + 1))) else (some x3)) else (some x3)) else (none)) else (some x3)
def mezzotintref01_Digits.f (k : Nat) (a0 : ByteArray) : Option (Int) := mezzotintref01_Digits.l0 k a0 0
set_option maxHeartbeats 8000000 in
set_option maxRecDepth 100000 in
theorem mezzotintref01_Digits.calls (k : Nat) (a0 : ByteArray) (r : Int) (w : World) (h : mezzotintref01_Digits.f k a0 = some r) :
  Calls Tryd.prog 43 #[.string a0] w fun e w' => e = .returned (.int .i64 r) ∧ Drawn0 w w' := by
 have H : (mezzotintref01_Digits.l0 k a0 0) = some r := h
 clear h
 have H' := Aside0.mk H
 clear H
 go_enter Tryd.func43, Tryd.ntmps43
 go_wp2
 go_loopg [3] k (fun kq v3 w' => ∃ (x3_1 : Int), v3 = .int .i64 x3_1 ∧ Aside0 (mezzotintref01_Digits.l0 kq a0 x3_1 = some r) ∧ Aside0 (kq ≤ k) ∧ Drawn0 w w')
 case atStart => exact ⟨(0), (by first | rfl | (simp; done) | (simp [*]; done)), H', ⟨Nat.le_refl _⟩, by repeat (first | exact Drawn0.refl _ | apply Drawn0.step)⟩
 case round =>
  clear H'
  obtain ⟨x3_1, rfl, HA, HK1, ⟨m1, rfl⟩⟩ := hrel
  cases gk with
  | zero => exact absurd HA.out (by simp [mezzotintref01_Digits.l0])
  | succ k1 =>
   have H := HA.out
   clear HA
   simp only [mezzotintref01_Digits.l0] at H
   by_cases c2 : x3_1 < (a0.size : Int)
   ·rw [if_pos c2] at H
    have c2b0 : decide (x3_1 < (a0.size : Int)) = true := decide_eq_true c2
    clear c2
    by_cases c3 : 0 ≤ x3_1
    ·rw [if_pos c3] at H
     have c3b0 : decide (0 ≤ x3_1) = true := decide_eq_true c3
     clear c3
     by_cases c5 : (bt a0 x3_1) ≥ 48
     ·rw [if_pos c5] at H
      have c5b0 : decide (48 ≤ (bt a0 x3_1)) = true := decide_eq_true c5
      clear c5
      by_cases c7 : (bt a0 x3_1) ≤ 57
      ·rw [if_pos c7] at H
       have c7b0 : decide ((bt a0 x3_1) ≤ 57) = true := decide_eq_true c7
       clear c7
       have H' := Aside0.mk H
       clear H
       have p4 : 0 ≤ (x3_1 : Int) := of_decide_eq_true (by first | (with_reducible assumption) | assumption)
       have q4 : x3_1 < (a0.size : Int) := of_decide_eq_true (by first | (with_reducible assumption) | assumption)
       have hx4 := bt_at a0 x3_1
       replace p4 := eq_true p4
       replace q4 := eq_true q4
       have p6 : 0 ≤ (x3_1 : Int) := of_decide_eq_true (by first | (with_reducible assumption) | assumption)
       have q6 : x3_1 < (a0.size : Int) := of_decide_eq_true (by first | (with_reducible assumption) | assumption)
       have hx6 := bt_at a0 x3_1
       replace p6 := eq_true p6
       replace q6 := eq_true q6
       go_wp2
       go_roundg k1
       case measure => have := HK1.out; omega
       case rel => exact ⟨(wrap64 (x3_1 + 1)), (by first | rfl | (simp; done) | (simp [*]; done)), H', ⟨by have := HK1.out; omega⟩, by repeat (first | exact Drawn0.refl _ | apply Drawn0.step)⟩
      ·rw [if_neg c7] at H
       have c7b0 : decide ((bt a0 x3_1) ≤ 57) = false := decide_eq_false c7
       clear c7
       obtain rfl := Option.some.inj H
       have p4 : 0 ≤ (x3_1 : Int) := of_decide_eq_true (by first | (with_reducible assumption) | assumption)
       have q4 : x3_1 < (a0.size : Int) := of_decide_eq_true (by first | (with_reducible assumption) | assumption)
       have hx4 := bt_at a0 x3_1
       replace p4 := eq_true p4
       replace q4 := eq_true q4
       have p6 : 0 ≤ (x3_1 : Int) := of_decide_eq_true (by first | (with_reducible assumption) | assumption)
       have q6 : x3_1 < (a0.size : Int) := of_decide_eq_true (by first | (with_reducible assumption) | assumption)
       have hx6 := bt_at a0 x3_1
       replace p6 := eq_true p6
       replace q6 := eq_true q6
       go_wp2
       go_ret
       exact ⟨by first | rfl | (simp; done) | (simp [*]; done), by repeat (first | exact Drawn0.refl _ | apply Drawn0.step)⟩
     ·rw [if_neg c5] at H
      have c5b0 : decide (48 ≤ (bt a0 x3_1)) = false := decide_eq_false c5
      clear c5
      obtain rfl := Option.some.inj H
      have p4 : 0 ≤ (x3_1 : Int) := of_decide_eq_true (by first | (with_reducible assumption) | assumption)
      have q4 : x3_1 < (a0.size : Int) := of_decide_eq_true (by first | (with_reducible assumption) | assumption)
      have hx4 := bt_at a0 x3_1
      replace p4 := eq_true p4
      replace q4 := eq_true q4
      go_wp2
      go_ret
      exact ⟨by first | rfl | (simp; done) | (simp [*]; done), by repeat (first | exact Drawn0.refl _ | apply Drawn0.step)⟩
    ·rw [if_neg c3] at H
     exact absurd H (by simp)
   ·rw [if_neg c2] at H
    have c2b0 : decide (x3_1 < (a0.size : Int)) = false := decide_eq_false c2
    clear c2
    obtain rfl := Option.some.inj H
    go_wp2
    go_ret
    exact ⟨by first | rfl | (simp; done) | (simp [*]; done), by repeat (first | exact Drawn0.refl _ | apply Drawn0.step)⟩

/-! ### mezzotintref01_Hex: function 44 -/
mutual
def mezzotintref01_Hex.j0 : Nat → Int → Bool → Option (Int)
 | 0, _, _ => none
 | k + 1, x0, x8 => if x8 = true then (some ((x0 - 48) % 256)) else (if x0 ≥ 97 then (mezzotintref01_Hex.j1 k x0 (decide (x0 ≤ 122))) else (mezzotintref01_Hex.j1 k x0 false))
def mezzotintref01_Hex.j1 : Nat → Int → Bool → Option (Int)
 | 0, _, _ => none
 | k + 1, x0, x17 => if x17 = true then (some (((x0 - 97) % 256) + 10)) else (if x0 ≥ 65 then (if x0 ≤ 90 then (some (((x0 - 65) % 256) + 10)) else (some 99)) else (some 99))
end
def mezzotintref01_Hex.f (k : Nat) (a0 : Int) : Option (Int) := if a0 ≥ 48 then (mezzotintref01_Hex.j0 k a0 (decide (a0 ≤ 57))) else (mezzotintref01_Hex.j0 k a0 false)
theorem mezzotintref01_Hex.mono_l : ∀ k, (∀ y0 y1, LeO (mezzotintref01_Hex.j0 k y0 y1) (mezzotintref01_Hex.j0 (k + 1) y0 y1)) ∧ (∀ y0 y1, LeO (mezzotintref01_Hex.j1 k y0 y1) (mezzotintref01_Hex.j1 (k + 1) y0 y1))
 | 0 => ⟨fun _ _ r h => by simp [mezzotintref01_Hex.j0] at h, fun _ _ r h => by simp [mezzotintref01_Hex.j1] at h⟩
 | k + 1 => by
  obtain ⟨ih0, ih1⟩ := mezzotintref01_Hex.mono_l k
  refine ⟨?_, ?_⟩
  ·intro y0 y1
   unfold mezzotintref01_Hex.j0
   repeat' first
   | (with_reducible exact ih0 _ _)
   | (with_reducible exact ih1 _ _)
   | (with_reducible exact LeO.refl _)
   | (with_reducible exact LeO.none _)
   | (with_reducible refine LeO.ite ?_ ?_)
   | (with_reducible refine LeO.bind ?_ (fun _ => ?_))
   | exact ih0 _ _
   | exact ih1 _ _
   | exact LeO.none _
   | refine LeO.ite ?_ ?_
   | refine LeO.bind ?_ (fun _ => ?_)
  ·intro y0 y1
   unfold mezzotintref01_Hex.j1
   repeat' first
   | (with_reducible exact ih0 _ _)
   | (with_reducible exact ih1 _ _)
   | (with_reducible exact LeO.refl _)
   | (with_reducible exact LeO.none _)
   | (with_reducible refine LeO.ite ?_ ?_)
   | (with_reducible refine LeO.bind ?_ (fun _ => ?_))
   | exact ih0 _ _
   | exact ih1 _ _
   | exact LeO.none _
   | refine LeO.ite ?_ ?_
   | refine LeO.bind ?_ (fun _ => ?_)
theorem mezzotintref01_Hex.mono : ∀ a0 k, LeO (mezzotintref01_Hex.f k a0) (mezzotintref01_Hex.f (k + 1) a0) := by
 intro a0 k
 obtain ⟨ih0, ih1⟩ := mezzotintref01_Hex.mono_l k
 unfold mezzotintref01_Hex.f
 repeat' first
   | (with_reducible exact ih0 _ _)
   | (with_reducible exact ih1 _ _)
   | (with_reducible exact LeO.refl _)
   | (with_reducible exact LeO.none _)
   | (with_reducible refine LeO.ite ?_ ?_)
   | (with_reducible refine LeO.bind ?_ (fun _ => ?_))
   | exact ih0 _ _
   | exact ih1 _ _
   | exact LeO.none _
   | refine LeO.ite ?_ ?_
   | refine LeO.bind ?_ (fun _ => ?_)
set_option maxHeartbeats 8000000 in
set_option maxRecDepth 100000 in
theorem mezzotintref01_Hex.calls (k : Nat) (a0 : Int) (r : Int) (w : World) (h : mezzotintref01_Hex.f k a0 = some r) :
  Calls Tryd.prog 44 #[.int .u8 a0] w fun e w' => e = .returned (.int .i64 r) ∧ Drawn0 w w' := by
 have H : (if a0 ≥ 48 then (mezzotintref01_Hex.j0 k a0 (decide (a0 ≤ 57))) else (mezzotintref01_Hex.j0 k a0 false)) = some r := h
 clear h
 have HC2 := Aside0.mk H
 clear H
 go_enter Tryd.func44, Tryd.ntmps44
 go_upto_region 1 with (fail)
 go_cut [8] (fun v8 wc => ∃ (kq : Nat) (x8_1 : Bool), v8 = .bool x8_1 ∧ Aside0 (mezzotintref01_Hex.j0 kq a0 x8_1 = some r) ∧ Aside0 (kq ≤ k) ∧ Drawn0 w wc)
 case first =>
  have H := HC2.out
  clear HC2
  by_cases c3 : a0 ≥ 48
  ·rw [if_pos c3] at H
   have c3b0 : decide (48 ≤ a0) = true := decide_eq_true c3
   clear c3
   (first | rw [c3b0] | (simp only [i64_w, i32_w]; rw [c3b0]) | skip)
   have H' := Aside0.mk H
   clear H
   go_wp2
   go_meet
   case rel => exact ⟨_, (decide (a0 ≤ 57)), (by first | rfl | (simp; done) | (simp [*]; done)), H', ⟨by first | omega | exact Nat.le_refl _⟩, by repeat (first | exact Drawn0.refl _ | apply Drawn0.step)⟩
  ·rw [if_neg c3] at H
   have c3b0 : decide (48 ≤ a0) = false := decide_eq_false c3
   clear c3
   (first | rw [c3b0] | (simp only [i64_w, i32_w]; rw [c3b0]) | skip)
   have H' := Aside0.mk H
   clear H
   go_wp2
   go_meet
   case rel => exact ⟨_, (false), (by first | rfl | (simp; done) | (simp [*]; done)), H', ⟨by first | omega | exact Nat.le_refl _⟩, by repeat (first | exact Drawn0.refl _ | apply Drawn0.step)⟩
 case rest =>
  clear HC2
  try clear p2
  try clear c3
  try clear c3b0
  obtain ⟨kq, x8_1, rfl, HA, HJ1, ⟨mc1, rfl⟩⟩ := hcut
  cases kq with
  | zero => exact absurd HA.out (by simp [mezzotintref01_Hex.j0])
  | succ kj1 =>
   have H := HA.out
   clear HA
   simp only [mezzotintref01_Hex.j0] at H
   by_cases c4 : x8_1 = true
   ·subst c4
    have H1 : (some ((a0 - 48) % 256)) = some r := by rw [if_pos rfl] at H; exact H
    clear H
    have H := H1
    clear H1
    obtain rfl := Option.some.inj H
    go_wp2
    go_ret
    exact ⟨by first | rfl | (simp; done) | (simp [*]; done), by repeat (first | exact Drawn0.refl _ | apply Drawn0.step)⟩
   ·replace c4 := Bool.eq_false_iff.mpr c4
    subst c4
    have H1 : (if a0 ≥ 97 then (mezzotintref01_Hex.j1 kj1 a0 (decide (a0 ≤ 122))) else (mezzotintref01_Hex.j1 kj1 a0 false)) = some r := by rw [if_neg (show ¬ (false = true) by decide)] at H; exact H
    clear H
    have H := H1
    clear H1
    have HC5 := Aside0.mk H
    clear H
    go_upto_region 3 with (fail)
    go_cut [17] (fun v17 wc => ∃ (kq : Nat) (x17_4 : Bool), v17 = .bool x17_4 ∧ Aside0 (mezzotintref01_Hex.j1 kq a0 x17_4 = some r) ∧ Aside0 (kq ≤ kj1) ∧ Drawn0 w wc)
    case first =>
     have H := HC5.out
     clear HC5
     by_cases c6 : a0 ≥ 97
     ·rw [if_pos c6] at H
      have c6b0 : decide (97 ≤ a0) = true := decide_eq_true c6
      clear c6
      (first | rw [c6b0] | (simp only [i64_w, i32_w]; rw [c6b0]) | skip)
      have H' := Aside0.mk H
      clear H
      go_wp2
      go_meet
      case rel => exact ⟨_, (decide (a0 ≤ 122)), (by first | rfl | (simp; done) | (simp [*]; done)), H', ⟨by have := HJ1.out; first | omega | exact Nat.le_refl _⟩, by repeat (first | exact Drawn0.refl _ | apply Drawn0.step)⟩
     ·rw [if_neg c6] at H
      have c6b0 : decide (97 ≤ a0) = false := decide_eq_false c6
      clear c6
      (first | rw [c6b0] | (simp only [i64_w, i32_w]; rw [c6b0]) | skip)
      have H' := Aside0.mk H
      clear H
      go_wp2
      go_meet
      case rel => exact ⟨_, (false), (by first | rfl | (simp; done) | (simp [*]; done)), H', ⟨by have := HJ1.out; first | omega | exact Nat.le_refl _⟩, by repeat (first | exact Drawn0.refl _ | apply Drawn0.step)⟩
    case rest =>
     clear HC5
     try clear c1
     try clear p2
     try clear c3
     try clear c3b0
     try clear c4
     try clear c6
     try clear c6b0
     try clear p2
     obtain ⟨kq, x17_4, rfl, HA, HJ4, ⟨mc4, rfl⟩⟩ := hcut
     cases kq with
     | zero => exact absurd HA.out (by simp [mezzotintref01_Hex.j1])
     | succ kj4 =>
      have H := HA.out
      clear HA
      simp only [mezzotintref01_Hex.j1] at H
      by_cases c7 : x17_4 = true
      ·subst c7
       have H1 : (some (((a0 - 97) % 256) + 10)) = some r := by rw [if_pos rfl] at H; exact H
       clear H
       have H := H1
       clear H1
       obtain rfl := Option.some.inj H
       go_wp2
       go_ret
       exact ⟨by first | rfl | (simp; done) | (simp [*]; done), by repeat (first | exact Drawn0.refl _ | apply Drawn0.step)⟩
      ·replace c7 := Bool.eq_false_iff.mpr c7
       subst c7
       have H1 : (if a0 ≥ 65 then (if a0 ≤ 90 then (some (((a0 - 65) % 256) + 10)) else (some 99)) else (some 99)) = some r := by rw [if_neg (show ¬ (false = true) by decide)] at H; exact H
       clear H
       have H := H1
       clear H1
       by_cases c8 : a0 ≥ 65
       ·rw [if_pos c8] at H
        have c8b0 : decide (65 ≤ a0) = true := decide_eq_true c8
        clear c8
        by_cases c9 : a0 ≤ 90
        ·rw [if_pos c9] at H
         have c9b0 : decide (a0 ≤ 90) = true := decide_eq_true c9
         clear c9
         obtain rfl := Option.some.inj H
         go_wp2
         go_ret
         exact ⟨by first | rfl | (simp; done) | (simp [*]; done), by repeat (first | exact Drawn0.refl _ | apply Drawn0.step)⟩
        ·rw [if_neg c9] at H
         have c9b0 : decide (a0 ≤ 90) = false := decide_eq_false c9
         clear c9
         obtain rfl := Option.some.inj H
         go_wp2
         go_ret
         exact ⟨by first | rfl | (simp; done) | (simp [*]; done), by repeat (first | exact Drawn0.refl _ | apply Drawn0.step)⟩
       ·rw [if_neg c8] at H
        have c8b0 : decide (65 ≤ a0) = false := decide_eq_false c8
        clear c8
        obtain rfl := Option.some.inj H
        go_wp2
        go_ret
        exact ⟨by first | rfl | (simp; done) | (simp [*]; done), by repeat (first | exact Drawn0.refl _ | apply Drawn0.step)⟩

end Go.Proofs.YtiocgpfnbmlfaaaDoor.PE

/-! ## GTa -/
namespace Go.Proofs.YtiocgpfnbmlfaaaDoor.QE
open Go Go.RowKit Go.Proofs.YtiocgpfnbmlfaaaDoor Go.Proofs.YtiocgpfnbmlfaaaDoor.PE Go.Proofs.YtiocgpfnbmlfaaaDoor.QD Go.Proofs.YtiocgpfnbmlfaaaDoorW.PrintWords Go.Proofs.YtiocgpfnbmlfaaaDoorW.PrintLast

theorem Digits_l0 (suf : List UInt8) : ∀ pre : List UInt8, pre.length + suf.length < 1000000000000 →
    Ev (fun r => mezzotintref01_Digits.l0 r (S (pre ++ suf)) (pre.length : Int)) ((pre.length + (suf.takeWhile isDig).length : Nat) : Int) := by
  induction suf with
  | nil =>
    intro pre _
    refine Ev.step (f := fun _ => some ((pre.length : Nat) : Int)) (fun r => ?_) (Ev.now _)
    simp only [mezzotintref01_Digits.l0, List.append_nil, S_size]
    rw [if_neg (by omega)]
  | cons c suf ih =>
    intro pre hb
    simp only [List.length_cons] at hb
    have hbt := S_bt pre suf c
    have hsz : ((pre.length : Nat) : Int) < ((S (pre ++ c :: suf)).size : Int) := by rw [S_size]; simp; omega
    by_cases hc : isDig c = true
    · have hd := (isDig_iff c).1 hc
      have := ih (pre ++ [c]) (by simp; omega)
      rw [show (pre ++ [c]) ++ suf = pre ++ c :: suf from by simp, show ((pre ++ [c]).length : Int) = (pre.length : Int) + 1 from by simp] at this
      rw [show pre.length + ((c :: suf).takeWhile isDig).length = (pre ++ [c]).length + (suf.takeWhile isDig).length from by rw [List.takeWhile_cons, if_pos hc]; simp; omega]
      refine Ev.step (fun r => ?_) this
      simp only [mezzotintref01_Digits.l0]
      rw [if_pos hsz, if_pos (by omega), hbt, if_pos (by omega), if_pos (by omega), w64 _ (by omega) (by omega)]
    · have hd : ¬ (48 ≤ c.toNat ∧ c.toNat ≤ 57) := fun h => hc ((isDig_iff c).2 h)
      refine Ev.step (f := fun _ => some ((pre.length : Nat) : Int)) (fun r => ?_) ?_
      · simp only [mezzotintref01_Digits.l0]
        rw [if_pos hsz, if_pos (by omega), hbt]
        by_cases h1 : 48 ≤ c.toNat
        · rw [if_pos (by omega), if_neg (by omega)]
        · rw [if_neg (by omega)]
      · rw [List.takeWhile_cons, if_neg hc]
        exact Ev.now _

theorem Digits_ev (l : List UInt8) (h : l.length < 1000000000000) : Ev (fun r => mezzotintref01_Digits.f r (S l)) (((l.takeWhile isDig).length : Nat) : Int) := by
  have := Digits_l0 l [] (by simpa using h)
  simpa [mezzotintref01_Digits.f] using this

theorem Digits_any (s : ByteArray) (n : Nat) (hs : s.size < 1000000000000) (hn : (s.data.toList.takeWhile isDig).length = n) (w : World) :
    Calls Tryd.prog 43 #[.string s] w fun e w' => e = .returned (.int .i64 (n : Nat)) ∧ Drawn0 w w' := by
  subst hn
  obtain ⟨k, hk⟩ := (Digits_ev s.data.toList (by rw [← Lib.size_eq]; exact hs)).rounds
  rw [← S_of] at hk
  exact mezzotintref01_Digits.calls k s _ w hk

theorem drawn_drewN {w w' : World} (h : Drawn0 w w') : ∃ n, w' = w.drewN n := by
  obtain ⟨n, h⟩ := h
  exact ⟨n, h⟩

/-- how a text begins: s is the text, r what is behind its sign -/
def SignIs (s r : ByteArray) (m : Bool) : Prop :=
  (s.size = 0 ∧ r = s ∧ m = false) ∨ (∃ (h : 0 < s.size), (s[0]'h) = 45 ∧ s.extract 1 s.size = r ∧ m = true) ∨ (∃ (h : 0 < s.size), (s[0]'h) = 43 ∧ s.extract 1 s.size = r ∧ m = false) ∨
  (∃ (h : 0 < s.size) (x : UInt8), (s[0]'h) = x ∧ ((x.toNat : Int) == 45) = false ∧ ((x.toNat : Int) == 43) = false ∧ r = s ∧ m = false)

set_option maxHeartbeats 4000000 in
set_option maxRecDepth 100000 in
theorem plain_none (s r a q : ByteArray) (m : Bool) (n : Nat) (hS : SignIs s r m) (hs : s.size ≤ 100000000) (hr : r.size ≤ 100000000) (hn : (r.data.toList.takeWhile isDig).length = n) (hle : n ≤ r.size)
    (ha : r.extract 0 n = a) (hq : r.extract n r.size = q) (h0 : q.size = 0) (w : World) (ok : Bool) (hok : decide (0 < a.size) = ok) :
    Calls Tryd.prog 35 #[.string s] w fun e w' => e = .returned (.tuple #[.bool m, .string a, .int .i64 (n : Nat), .bool false, .bool ok]) ∧ Drawn0 w w' := by
  have HD := Lib.hid (fun w => Digits_any r n (by omega) hn w)
  have c0 : (0 : Int) ≤ (n : Int) := by omega
  have c1 : (n : Int) ≤ (r.size : Int) := by omega
  have z1 : q.size + n = r.size := by rw [← hq]; simp; omega
  have c2 : ((q.size : Int) = 0) = True := eq_true (by omega)
  clear hn
  rcases hS with ⟨hz, hrs, rfl⟩ | ⟨hz, hc, hx, rfl⟩ | ⟨hz, hc, hx, rfl⟩ | ⟨hz, x, hc, hc1, hc2, hrs, rfl⟩
  · subst hrs
    go_enter Tryd.func35, Tryd.ntmps35
    go_wp2_with (first | (go_at_call_of 43 (Value.string r); refine (HD.out _).mono ?_; rintro e w' ⟨rfl, hd⟩; obtain ⟨nd, rfl⟩ := drawn_drewN hd))
    refine bodyPost_ret (results_list (rs := [.tmp 2, .tmp 3, .tmp 4, .tmp 5, .tmp 6]) rfl (by simp) (.tmp (.tmp (.tmp (.tmp (.tmp .nil)))))) rfl ?_
    exact ⟨rfl, _, by first | rfl | (simp only [World.drewN_drewN]; done) | (simp only [World.drewN_drewN]; rfl)⟩
  · have z0 : r.size + 1 = s.size := by rw [← hx]; simp; omega
    go_enter Tryd.func35, Tryd.ntmps35
    go_wp2_with (first | (go_at_call_of 43 (Value.string r); refine (HD.out _).mono ?_; rintro e w' ⟨rfl, hd⟩; obtain ⟨nd, rfl⟩ := drawn_drewN hd))
    refine bodyPost_ret (results_list (rs := [.tmp 2, .tmp 3, .tmp 4, .tmp 5, .tmp 6]) rfl (by simp) (.tmp (.tmp (.tmp (.tmp (.tmp .nil)))))) rfl ?_
    exact ⟨rfl, _, by first | rfl | (simp only [World.drewN_drewN]; done) | (simp only [World.drewN_drewN]; rfl)⟩
  · have z0 : r.size + 1 = s.size := by rw [← hx]; simp; omega
    go_enter Tryd.func35, Tryd.ntmps35
    go_wp2_with (first | (go_at_call_of 43 (Value.string r); refine (HD.out _).mono ?_; rintro e w' ⟨rfl, hd⟩; obtain ⟨nd, rfl⟩ := drawn_drewN hd))
    refine bodyPost_ret (results_list (rs := [.tmp 2, .tmp 3, .tmp 4, .tmp 5, .tmp 6]) rfl (by simp) (.tmp (.tmp (.tmp (.tmp (.tmp .nil)))))) rfl ?_
    exact ⟨rfl, _, by first | rfl | (simp only [World.drewN_drewN]; done) | (simp only [World.drewN_drewN]; rfl)⟩
  · subst hrs
    go_enter Tryd.func35, Tryd.ntmps35
    go_wp2_with (first | (go_at_call_of 43 (Value.string r); refine (HD.out _).mono ?_; rintro e w' ⟨rfl, hd⟩; obtain ⟨nd, rfl⟩ := drawn_drewN hd))
    refine bodyPost_ret (results_list (rs := [.tmp 2, .tmp 3, .tmp 4, .tmp 5, .tmp 6]) rfl (by simp) (.tmp (.tmp (.tmp (.tmp (.tmp .nil)))))) rfl ?_
    exact ⟨rfl, _, by first | rfl | (simp only [World.drewN_drewN]; done) | (simp only [World.drewN_drewN]; rfl)⟩

set_option maxHeartbeats 4000000 in
set_option maxRecDepth 100000 in
theorem plain_other (s r a q : ByteArray) (m : Bool) (n : Nat) (hS : SignIs s r m) (hs : s.size ≤ 100000000) (hr : r.size ≤ 100000000) (hn : (r.data.toList.takeWhile isDig).length = n) (hle : n ≤ r.size)
    (ha : r.extract 0 n = a) (hq : r.extract n r.size = q) (h0 : 0 < q.size) (y : UInt8) (hy : (q[0]'h0) = y) (hy2 : ((y.toNat : Int) == 46) = false) (w : World) (ok : Bool) (hok : false = ok) :
    Calls Tryd.prog 35 #[.string s] w fun e w' => e = .returned (.tuple #[.bool m, .string a, .int .i64 (n : Nat), .bool false, .bool ok]) ∧ Drawn0 w w' := by
  have HD := Lib.hid (fun w => Digits_any r n (by omega) hn w)
  have c0 : (0 : Int) ≤ (n : Int) := by omega
  have c1 : (n : Int) ≤ (r.size : Int) := by omega
  have z1 : q.size + n = r.size := by rw [← hq]; simp; omega
  subst hok
  have c2 : ((q.size : Int) == 0) = false := beq_eq_false_iff_ne.2 (by omega)
  have c3 : ((0 : Int) < (q.size : Int)) = True := eq_true (by omega)
  clear hn
  rcases hS with ⟨hz, hrs, rfl⟩ | ⟨hz, hc, hx, rfl⟩ | ⟨hz, hc, hx, rfl⟩ | ⟨hz, x, hc, hc1, hc2, hrs, rfl⟩
  · subst hrs
    exact absurd h0 (by omega)
  · have z0 : r.size + 1 = s.size := by rw [← hx]; simp; omega
    go_enter Tryd.func35, Tryd.ntmps35
    go_wp2_with (first | (go_at_call_of 43 (Value.string r); refine (HD.out _).mono ?_; rintro e w' ⟨rfl, hd⟩; obtain ⟨nd, rfl⟩ := drawn_drewN hd))
    refine bodyPost_ret (results_list (rs := [.tmp 2, .tmp 3, .tmp 4, .tmp 5, .tmp 6]) rfl (by simp) (.tmp (.tmp (.tmp (.tmp (.tmp .nil)))))) rfl ?_
    exact ⟨rfl, _, by first | rfl | (simp only [World.drewN_drewN]; done) | (simp only [World.drewN_drewN]; rfl)⟩
  · have z0 : r.size + 1 = s.size := by rw [← hx]; simp; omega
    go_enter Tryd.func35, Tryd.ntmps35
    go_wp2_with (first | (go_at_call_of 43 (Value.string r); refine (HD.out _).mono ?_; rintro e w' ⟨rfl, hd⟩; obtain ⟨nd, rfl⟩ := drawn_drewN hd))
    refine bodyPost_ret (results_list (rs := [.tmp 2, .tmp 3, .tmp 4, .tmp 5, .tmp 6]) rfl (by simp) (.tmp (.tmp (.tmp (.tmp (.tmp .nil)))))) rfl ?_
    exact ⟨rfl, _, by first | rfl | (simp only [World.drewN_drewN]; done) | (simp only [World.drewN_drewN]; rfl)⟩
  · subst hrs
    go_enter Tryd.func35, Tryd.ntmps35
    go_wp2_with (first | (go_at_call_of 43 (Value.string r); refine (HD.out _).mono ?_; rintro e w' ⟨rfl, hd⟩; obtain ⟨nd, rfl⟩ := drawn_drewN hd))
    refine bodyPost_ret (results_list (rs := [.tmp 2, .tmp 3, .tmp 4, .tmp 5, .tmp 6]) rfl (by simp) (.tmp (.tmp (.tmp (.tmp (.tmp .nil)))))) rfl ?_
    exact ⟨rfl, _, by first | rfl | (simp only [World.drewN_drewN]; done) | (simp only [World.drewN_drewN]; rfl)⟩

end Go.Proofs.YtiocgpfnbmlfaaaDoor.QE

/-! ## GTb -/
namespace Go.Proofs.YtiocgpfnbmlfaaaDoor.QE
open Go Go.RowKit Go.Proofs.YtiocgpfnbmlfaaaDoor Go.Proofs.YtiocgpfnbmlfaaaDoor.PE Go.Proofs.YtiocgpfnbmlfaaaDoor.QD Go.Proofs.YtiocgpfnbmlfaaaDoorW.PrintWords Go.Proofs.YtiocgpfnbmlfaaaDoorW.PrintLast

set_option maxHeartbeats 4000000 in
set_option maxRecDepth 100000 in
theorem plain_point (s r a q : ByteArray) (m : Bool) (n : Nat) (hS : SignIs s r m) (hs : s.size ≤ 100000000) (hr : r.size ≤ 100000000) (hn : (r.data.toList.takeWhile isDig).length = n) (hle : n ≤ r.size)
    (ha : r.extract 0 n = a) (hq : r.extract n r.size = q) (h0 : 0 < q.size) (hy : (q[0]'h0) = 46) (t b z : ByteArray) (ht : q.extract 1 q.size = t) (n2 : Nat) (hts : t.size ≤ 100000000) (hn2 : (t.data.toList.takeWhile isDig).length = n2) (hle2 : n2 ≤ t.size) (hab : a.size ≤ 100000000) (hbb : b.size ≤ 100000000) (hb : t.extract 0 n2 = b) (hzz : t.extract n2 t.size = z) (d : ByteArray) (hd0 : a ++ b = d) (hz0 : z.size = 0) (w : World) (ok : Bool) (hok : decide (0 < d.size) = ok) :
    Calls Tryd.prog 35 #[.string s] w fun e w' => e = .returned (.tuple #[.bool m, .string d, .int .i64 (n : Nat), .bool true, .bool ok]) ∧ Drawn0 w w' := by
  have HD := Lib.hid (fun w => Digits_any r n (by omega) hn w)
  have c0 : (0 : Int) ≤ (n : Int) := by omega
  have c1 : (n : Int) ≤ (r.size : Int) := by omega
  have z1 : q.size + n = r.size := by rw [← hq]; simp; omega
  have c2 : ((q.size : Int) == 0) = false := beq_eq_false_iff_ne.2 (by omega)
  have c3 : ((0 : Int) < (q.size : Int)) = True := eq_true (by omega)
  have c4 : ((1 : Int) ≤ (q.size : Int)) = True := eq_true (by omega)
  have HE := Lib.hid (fun w => Digits_any t n2 (by omega) hn2 w)
  have c5 : (0 : Int) ≤ (n2 : Int) := by omega
  have c6 : (n2 : Int) ≤ (t.size : Int) := by omega
  have z3 : t.size + 1 = q.size := by rw [← ht]; simp; omega
  have z5 : z.size + n2 = t.size := by rw [← hzz]; simp; omega
  have c7 : a.size + b.size ≤ 9223372036854775807 := by omega
  clear hn2
  have c8 : ((z.size : Int) = 0) = True := eq_true (by omega)
  clear hn
  rcases hS with ⟨hz, hrs, rfl⟩ | ⟨hz, hc, hx, rfl⟩ | ⟨hz, hc, hx, rfl⟩ | ⟨hz, x, hc, hc1, hc2, hrs, rfl⟩
  · subst hrs
    exact absurd h0 (by omega)
  · have z0 : r.size + 1 = s.size := by rw [← hx]; simp; omega
    go_enter Tryd.func35, Tryd.ntmps35
    go_wp2_with (first | (go_at_call_of 43 (Value.string r); refine (HD.out _).mono ?_; rintro e w' ⟨rfl, hd⟩; obtain ⟨nd, rfl⟩ := drawn_drewN hd) | (go_at_call_of 43 (Value.string t); refine (HE.out _).mono ?_; rintro e w' ⟨rfl, hd⟩; obtain ⟨nd, rfl⟩ := drawn_drewN hd))
    refine bodyPost_ret (results_list (rs := [.tmp 2, .tmp 3, .tmp 4, .tmp 5, .tmp 6]) rfl (by simp) (.tmp (.tmp (.tmp (.tmp (.tmp .nil)))))) rfl ?_
    exact ⟨rfl, _, by first | rfl | (simp only [World.drewN_drewN]; done) | (simp only [World.drewN_drewN]; rfl)⟩
  · have z0 : r.size + 1 = s.size := by rw [← hx]; simp; omega
    go_enter Tryd.func35, Tryd.ntmps35
    go_wp2_with (first | (go_at_call_of 43 (Value.string r); refine (HD.out _).mono ?_; rintro e w' ⟨rfl, hd⟩; obtain ⟨nd, rfl⟩ := drawn_drewN hd) | (go_at_call_of 43 (Value.string t); refine (HE.out _).mono ?_; rintro e w' ⟨rfl, hd⟩; obtain ⟨nd, rfl⟩ := drawn_drewN hd))
    refine bodyPost_ret (results_list (rs := [.tmp 2, .tmp 3, .tmp 4, .tmp 5, .tmp 6]) rfl (by simp) (.tmp (.tmp (.tmp (.tmp (.tmp .nil)))))) rfl ?_
    exact ⟨rfl, _, by first | rfl | (simp only [World.drewN_drewN]; done) | (simp only [World.drewN_drewN]; rfl)⟩
  · subst hrs
    go_enter Tryd.func35, Tryd.ntmps35
    go_wp2_with (first | (go_at_call_of 43 (Value.string r); refine (HD.out _).mono ?_; rintro e w' ⟨rfl, hd⟩; obtain ⟨nd, rfl⟩ := drawn_drewN hd) | (go_at_call_of 43 (Value.string t); refine (HE.out _).mono ?_; rintro e w' ⟨rfl, hd⟩; obtain ⟨nd, rfl⟩ := drawn_drewN hd))
    refine bodyPost_ret (results_list (rs := [.tmp 2, .tmp 3, .tmp 4, .tmp 5, .tmp 6]) rfl (by simp) (.tmp (.tmp (.tmp (.tmp (.tmp .nil)))))) rfl ?_
    exact ⟨rfl, _, by first | rfl | (simp only [World.drewN_drewN]; done) | (simp only [World.drewN_drewN]; rfl)⟩

set_option maxHeartbeats 4000000 in
set_option maxRecDepth 100000 in
theorem plain_more (s r a q : ByteArray) (m : Bool) (n : Nat) (hS : SignIs s r m) (hs : s.size ≤ 100000000) (hr : r.size ≤ 100000000) (hn : (r.data.toList.takeWhile isDig).length = n) (hle : n ≤ r.size)
    (ha : r.extract 0 n = a) (hq : r.extract n r.size = q) (h0 : 0 < q.size) (hy : (q[0]'h0) = 46) (t b z : ByteArray) (ht : q.extract 1 q.size = t) (n2 : Nat) (hts : t.size ≤ 100000000) (hn2 : (t.data.toList.takeWhile isDig).length = n2) (hle2 : n2 ≤ t.size) (hab : a.size ≤ 100000000) (hbb : b.size ≤ 100000000) (hb : t.extract 0 n2 = b) (hzz : t.extract n2 t.size = z) (d : ByteArray) (hd0 : a ++ b = d) (hz0 : 0 < z.size) (w : World) (ok : Bool) (hok : false = ok) :
    Calls Tryd.prog 35 #[.string s] w fun e w' => e = .returned (.tuple #[.bool m, .string d, .int .i64 (n : Nat), .bool true, .bool ok]) ∧ Drawn0 w w' := by
  have HD := Lib.hid (fun w => Digits_any r n (by omega) hn w)
  have c0 : (0 : Int) ≤ (n : Int) := by omega
  have c1 : (n : Int) ≤ (r.size : Int) := by omega
  have z1 : q.size + n = r.size := by rw [← hq]; simp; omega
  subst hok
  have c2 : ((q.size : Int) == 0) = false := beq_eq_false_iff_ne.2 (by omega)
  have c3 : ((0 : Int) < (q.size : Int)) = True := eq_true (by omega)
  have c4 : ((1 : Int) ≤ (q.size : Int)) = True := eq_true (by omega)
  have HE := Lib.hid (fun w => Digits_any t n2 (by omega) hn2 w)
  have c5 : (0 : Int) ≤ (n2 : Int) := by omega
  have c6 : (n2 : Int) ≤ (t.size : Int) := by omega
  have z3 : t.size + 1 = q.size := by rw [← ht]; simp; omega
  have z5 : z.size + n2 = t.size := by rw [← hzz]; simp; omega
  have c7 : a.size + b.size ≤ 9223372036854775807 := by omega
  clear hn2
  have c8 : ((z.size : Int) == 0) = false := beq_eq_false_iff_ne.2 (by omega)
  clear hn
  rcases hS with ⟨hz, hrs, rfl⟩ | ⟨hz, hc, hx, rfl⟩ | ⟨hz, hc, hx, rfl⟩ | ⟨hz, x, hc, hc1, hc2, hrs, rfl⟩
  · subst hrs
    exact absurd h0 (by omega)
  · have z0 : r.size + 1 = s.size := by rw [← hx]; simp; omega
    go_enter Tryd.func35, Tryd.ntmps35
    go_wp2_with (first | (go_at_call_of 43 (Value.string r); refine (HD.out _).mono ?_; rintro e w' ⟨rfl, hd⟩; obtain ⟨nd, rfl⟩ := drawn_drewN hd) | (go_at_call_of 43 (Value.string t); refine (HE.out _).mono ?_; rintro e w' ⟨rfl, hd⟩; obtain ⟨nd, rfl⟩ := drawn_drewN hd))
    refine bodyPost_ret (results_list (rs := [.tmp 2, .tmp 3, .tmp 4, .tmp 5, .tmp 6]) rfl (by simp) (.tmp (.tmp (.tmp (.tmp (.tmp .nil)))))) rfl ?_
    exact ⟨rfl, _, by first | rfl | (simp only [World.drewN_drewN]; done) | (simp only [World.drewN_drewN]; rfl)⟩
  · have z0 : r.size + 1 = s.size := by rw [← hx]; simp; omega
    go_enter Tryd.func35, Tryd.ntmps35
    go_wp2_with (first | (go_at_call_of 43 (Value.string r); refine (HD.out _).mono ?_; rintro e w' ⟨rfl, hd⟩; obtain ⟨nd, rfl⟩ := drawn_drewN hd) | (go_at_call_of 43 (Value.string t); refine (HE.out _).mono ?_; rintro e w' ⟨rfl, hd⟩; obtain ⟨nd, rfl⟩ := drawn_drewN hd))
    refine bodyPost_ret (results_list (rs := [.tmp 2, .tmp 3, .tmp 4, .tmp 5, .tmp 6]) rfl (by simp) (.tmp (.tmp (.tmp (.tmp (.tmp .nil)))))) rfl ?_
    exact ⟨rfl, _, by first | rfl | (simp only [World.drewN_drewN]; done) | (simp only [World.drewN_drewN]; rfl)⟩
  · subst hrs
    go_enter Tryd.func35, Tryd.ntmps35
    go_wp2_with (first | (go_at_call_of 43 (Value.string r); refine (HD.out _).mono ?_; rintro e w' ⟨rfl, hd⟩; obtain ⟨nd, rfl⟩ := drawn_drewN hd) | (go_at_call_of 43 (Value.string t); refine (HE.out _).mono ?_; rintro e w' ⟨rfl, hd⟩; obtain ⟨nd, rfl⟩ := drawn_drewN hd))
    refine bodyPost_ret (results_list (rs := [.tmp 2, .tmp 3, .tmp 4, .tmp 5, .tmp 6]) rfl (by simp) (.tmp (.tmp (.tmp (.tmp (.tmp .nil)))))) rfl ?_
    exact ⟨rfl, _, by first | rfl | (simp only [World.drewN_drewN]; done) | (simp only [World.drewN_drewN]; rfl)⟩

end Go.Proofs.YtiocgpfnbmlfaaaDoor.QE

/-! ## GTc -/
namespace Go.Proofs.YtiocgpfnbmlfaaaDoor.QE
open Go Go.RowKit Go.Proofs.YtiocgpfnbmlfaaaDoor Go.Proofs.YtiocgpfnbmlfaaaDoor.PE Go.Proofs.YtiocgpfnbmlfaaaDoor.QD Go.Proofs.YtiocgpfnbmlfaaaDoorW.PrintWords Go.Proofs.YtiocgpfnbmlfaaaDoorW.PrintLast

theorem signIs (l : List UInt8) : SignIs (S l) (S (sgnL l).2) (sgnL l).1 := by
  match l with
  | [] => exact Or.inl ⟨rfl, rfl, rfl⟩
  | c :: t =>
    have hsz : 0 < (S (c :: t)).size := by rw [S_size]; simp
    have hx : (S (c :: t)).extract 1 (S (c :: t)).size = S t := by rw [S_from]; rfl
    have h0 : (S (c :: t))[0]'hsz = c := rfl
    by_cases h45 : c = 45
    · subst h45
      exact Or.inr (Or.inl ⟨hsz, h0, hx, rfl⟩)
    · by_cases h43 : c = 43
      · subst h43
        exact Or.inr (Or.inr (Or.inl ⟨hsz, h0, hx, rfl⟩))
      · have hs : sgnL (c :: t) = (false, c :: t) := by simp [sgnL, h45, h43]
        rw [hs]
        refine Or.inr (Or.inr (Or.inr ⟨hsz, c, h0, beq_eq_false_iff_ne.2 (fun h => h45 (UInt8.toNat_inj.1 (by show c.toNat = 45; omega))), beq_eq_false_iff_ne.2 (fun h => h43 (UInt8.toNat_inj.1 (by show c.toNat = 43; omega))), rfl, rfl⟩))

theorem split_at (r : List UInt8) : r.drop (r.takeWhile isDig).length = r.dropWhile isDig ∧ r.take (r.takeWhile isDig).length = r.takeWhile isDig ∧ r.length = (r.takeWhile isDig).length + (r.dropWhile isDig).length := by
  have hr := (List.takeWhile_append_dropWhile (p := isDig) (l := r)).symm
  refine ⟨?_, ?_, ?_⟩
  · conv => lhs; rw [hr]
    rw [List.drop_left' (by rw [← hr])]
  · conv => lhs; rw [hr]
    rw [List.take_left' (by rw [← hr])]
  · rw [← List.length_append, ← hr]

theorem plain_any (l : List UInt8) (hl : l.length ≤ 100000000) (w : World) :
    Calls Tryd.prog 35 #[.string (S l)] w fun e w' =>
      e = .returned (.tuple #[.bool (sgnL l).1, .string (S (plainL (sgnL l).2).1), .int .i64 ((plainL (sgnL l).2).2.1 : Nat), .bool (plainL (sgnL l).2).2.2.1, .bool (plainL (sgnL l).2).2.2.2]) ∧ Drawn0 w w' := by
  have hS := signIs l
  have hle := sgnL_len l
  generalize (sgnL l).1 = m at *
  generalize (sgnL l).2 = r at *
  obtain ⟨h1, h2, h3⟩ := split_at r
  have hA : (S r).extract 0 (r.takeWhile isDig).length = S (r.takeWhile isDig) := by rw [S_to, h2]
  have hQ : (S r).extract (r.takeWhile isDig).length (S r).size = S (r.dropWhile isDig) := by rw [S_from, h1]
  have hn : ((S r).data.toList.takeWhile isDig).length = (r.takeWhile isDig).length := by rw [S_data]
  have hs : (S l).size ≤ 100000000 := by rw [S_size]; exact hl
  have hr : (S r).size ≤ 100000000 := by rw [S_size]; omega
  have hle' : (r.takeWhile isDig).length ≤ (S r).size := by rw [S_size]; omega
  unfold plainL
  generalize hq : r.dropWhile isDig = q at *
  match q, hq with
  | [], _ =>
    simp only [ptL]
    exact plain_none (S l) (S r) _ (S []) m _ hS hs hr hn hle' hA hQ rfl w _ (by rw [S_size]; simp)
  | c :: t, hq =>
    have hq0 : 0 < (S (c :: t)).size := by rw [S_size]; simp
    by_cases h46 : c = 46
    · subst h46
      obtain ⟨g1, g2, g3⟩ := split_at t
      have htl : t.length ≤ 100000000 := by simp only [List.length_cons] at h3; omega
      simp only [ptL, if_true]
      have ht : (S (46 :: t)).extract 1 (S (46 :: t)).size = S t := by rw [S_from]; rfl
      have hB : (S t).extract 0 (t.takeWhile isDig).length = S (t.takeWhile isDig) := by rw [S_to, g2]
      have hZ : (S t).extract (t.takeWhile isDig).length (S t).size = S (t.dropWhile isDig) := by rw [S_from, g1]
      have hn2 : ((S t).data.toList.takeWhile isDig).length = (t.takeWhile isDig).length := by rw [S_data]
      by_cases hz : t.dropWhile isDig = []
      · exact plain_point (S l) (S r) _ (S (46 :: t)) m _ hS hs hr hn hle' hA hQ hq0 rfl (S t) _ _ ht _ (by rw [S_size]; exact htl) hn2 (by rw [S_size]; omega) (by rw [S_size]; omega) (by rw [S_size]; omega) hB hZ _ (S_append _ _)
          (by rw [S_size, hz]; rfl) w _ (by rw [S_size, hz]; simp)
      · exact plain_more (S l) (S r) _ (S (46 :: t)) m _ hS hs hr hn hle' hA hQ hq0 rfl (S t) _ _ ht _ (by rw [S_size]; exact htl) hn2 (by rw [S_size]; omega) (by rw [S_size]; omega) (by rw [S_size]; omega) hB hZ _ (S_append _ _)
          (by rw [S_size]; exact List.length_pos_iff.2 hz) w _ (by simp [hz])
    · simp only [ptL, if_neg h46]
      exact plain_other (S l) (S r) _ (S (c :: t)) m _ hS hs hr hn hle' hA hQ hq0 c rfl (beq_eq_false_iff_ne.2 (fun h => h46 (UInt8.toNat_inj.1 (by show c.toNat = 46; omega)))) w _ (by simp)

end Go.Proofs.YtiocgpfnbmlfaaaDoor.QE
namespace Go.Proofs.YtiocgpfnbmlfaaaDoor
open Go Go.RowKit Go.Proofs.YtiocgpfnbmlfaaaDoorW.PrintWords

def mezzotintref01_plain.f (a0 : ByteArray) : Option (Bool × ByteArray × Int × Bool × Bool) :=
  if a0.size ≤ 100000000 then some ((sgnL a0.data.toList).1, QD.S (QD.plainL (sgnL a0.data.toList).2).1, ((QD.plainL (sgnL a0.data.toList).2).2.1 : Nat), (QD.plainL (sgnL a0.data.toList).2).2.2.1, (QD.plainL (sgnL a0.data.toList).2).2.2.2) else none

theorem mezzotintref01_plain.calls (a0 : ByteArray) (r1 : Bool) (r2 : ByteArray) (r3 : Int) (r4 r5 : Bool) (w : World) (h : mezzotintref01_plain.f a0 = some (r1, r2, r3, r4, r5)) :
    Calls Tryd.prog 35 #[.string a0] w fun e w' => e = .returned (.tuple #[.bool r1, .string r2, .int .i64 r3, .bool r4, .bool r5]) ∧ Drawn0 w w' := by
  unfold mezzotintref01_plain.f at h
  split at h
  · rename_i hs
    simp only [Option.some.injEq, Prod.mk.injEq] at h
    obtain ⟨rfl, rfl, rfl, rfl, rfl⟩ := h
    have := QE.plain_any a0.data.toList (by rw [← Lib.size_eq]; exact hs) w
    rw [← QD.S_of] at this
    exact this
  · cases h

end Go.Proofs.YtiocgpfnbmlfaaaDoor

/-! ## PTx0 -/
namespace Go.Proofs.YtiocgpfnbmlfaaaDoor.PT
open Go.RowKit Go.Proofs.YtiocgpfnbmlfaaaDoorW.PrintWords Go.Proofs.YtiocgpfnbmlfaaaDoorW.PrintLast Go.Proofs.YtiocgpfnbmlfaaaDoorW.PrintMore
attribute [local go_sem] max2_int min2_int max_two min_two max_three min_three max_four min_four   -- for this text's walks alone
set_option linter.unusedVariables false
set_option linter.unusedSimpArgs false



def errW : Option Int → Value
 | none => .nilIface
 | some c => .iface 0 (.int .i64 c)
theorem errW_none : errW none = .nilIface := rfl
theorem errW_some (c : Int) : errW (some c) = .iface 0 (.int .i64 c) := rfl

theorem info3 : (Tryd.prog.info? 3).map (fun i => (i.zero, i.size, i.bytes)) = some (some (.int .i64 0), 1, 8) := by kernel_rfl
-- the values' own types

end Go.Proofs.YtiocgpfnbmlfaaaDoor.PT

/-! ## PTx1 -/
namespace Go.Proofs.YtiocgpfnbmlfaaaDoor.PT
open Go.RowKit Go.Proofs.YtiocgpfnbmlfaaaDoorW.PrintWords Go.Proofs.YtiocgpfnbmlfaaaDoorW.PrintLast Go.Proofs.YtiocgpfnbmlfaaaDoorW.PrintMore
attribute [local go_sem] max2_int min2_int max_two min_two max_three min_three max_four min_four   -- for this text's walks alone
set_option linter.unusedVariables false
set_option linter.unusedSimpArgs false

-- given: function 35 (mezzotintref01_plain)

/-! ### mezzotintref01_Fits: function 64 -/
def mezzotintref01_Fits.f (a0 : Int) : Option (Bool) := if a0 ≥ (-2147483648) then (some (decide (a0 ≤ 2147483647))) else (some false)
set_option maxHeartbeats 8000000 in
set_option maxRecDepth 100000 in
theorem mezzotintref01_Fits.calls (a0 : Int) (r : Bool) (w : World) (h : mezzotintref01_Fits.f a0 = some r) :
  Calls Tryd.prog 64 #[.int .i64 a0] w fun e w' => e = .returned (.bool r) ∧ Drawn0 w w' := by
 have H : (if a0 ≥ (-2147483648) then (some (decide (a0 ≤ 2147483647))) else (some false)) = some r := h
 clear h
 by_cases c2 : a0 ≥ (-2147483648)
 ·rw [if_pos c2] at H
  have c2b0 : decide ((-2147483648) ≤ a0) = true := decide_eq_true c2
  clear c2
  obtain rfl := Option.some.inj H
  go_enter Tryd.func64, Tryd.ntmps64
  go_wp2
  go_ret
  exact ⟨by first | rfl | (simp; done) | (simp [*]; done), by repeat (first | exact Drawn0.refl _ | apply Drawn0.step)⟩
 ·rw [if_neg c2] at H
  have c2b0 : decide ((-2147483648) ≤ a0) = false := decide_eq_false c2
  clear c2
  obtain rfl := Option.some.inj H
  go_enter Tryd.func64, Tryd.ntmps64
  go_wp2
  go_ret
  exact ⟨by first | rfl | (simp; done) | (simp [*]; done), by repeat (first | exact Drawn0.refl _ | apply Drawn0.step)⟩

/-! ### mezzotintref01_Small: function 71 -/
def mezzotintref01_Small.f (a0 : Int) : Option (Bool) := (mezzotintref01_Fits.f a0).bind fun t101 => (some t101)
set_option maxHeartbeats 8000000 in
set_option maxRecDepth 100000 in
theorem mezzotintref01_Small.calls (a0 : Int) (r : Bool) (w : World) (h : mezzotintref01_Small.f a0 = some r) :
  Calls Tryd.prog 71 #[.int .i64 a0] w fun e w' => e = .returned (.bool r) ∧ Drawn0 w w' := by
 have H : ((mezzotintref01_Fits.f a0).bind fun t101 => (some t101)) = some r := h
 clear h
 replace H := Option.bind_eq_some_iff.mp H
 obtain ⟨t101, A20, H⟩ := H
 replace H : (some t101) = some r := H
 have A2 := Aside0.mk A20
 clear A20
 obtain rfl := Option.some.inj H
 go_enter Tryd.func71, Tryd.ntmps71
 go_wp2_with (first | ((with_reducible refine gate_callee (f := 64) rfl ?_); refine goesL_ (some 4) rfl rfl Tryd.func64 (by kernel_rfl) rfl #[.int .i64 a0] rfl (by (try simp only [List.map_toArray, List.map_cons, List.map_nil]); first | done | rfl | (simp only [List.length_drop, List.length_take]; rfl)) ?_; (with_reducible refine (mezzotintref01_Fits.calls a0 t101 _ A2.out).mono ?_); rintro e w' ⟨rfl, ⟨nd, rfl⟩⟩; refine ⟨_, rfl, ?_⟩))
 go_ret
 exact ⟨by first | rfl | (simp; done) | (simp [*]; done), by repeat (first | exact Drawn0.refl _ | apply Drawn0.step)⟩

/-! ### mezzotintref01_whole: function 45 -/
mutual
def mezzotintref01_whole.j0 : Nat → Bool → ByteArray → Bool → Option (Int × Bool)
 | 0, _, _, _ => none
 | k + 1, x4, x5, x23 => if x23 = true then (some (0, false)) else (mezzotintref01_whole.l0 k x4 x5 0 0)
def mezzotintref01_whole.l0 : Nat → Bool → ByteArray → Int → Int → Option (Int × Bool)
 | 0, _, _, _, _ => none
 | k + 1, x4, x5, x9, x10 => if x10 < (x5.size : Int) then (if 0 ≤ x10 then (if (wrap64 ((wrap64 (x9 * 10)) + (((bt x5 x10) - 48) % 256))) > 4294967296 then (some (0, false)) else (mezzotintref01_whole.l0 k x4 x5 (wrap64 ((wrap64 (x9 * 10)) + (((bt x5 x10) - 48) % 256))) (wrap64 (x10 + 1)))) else (none)) else (if x4 = true then ((mezzotintref01_Small.f (wrap64 (-x9))).bind fun t107 => (some (wrap64 (-x9), t107))) else ((mezzotintref01_Small.f x9).bind fun t108 => (some (x9, t108))))
end
def mezzotintref01_whole.f (k : Nat) (a0 : ByteArray) : Option (Int × Bool) := (mezzotintref01_plain.f a0).bind fun bt102 => (if bt102.2.2.2.2 = true then (mezzotintref01_whole.j0 k bt102.1 bt102.2.1 bt102.2.2.2.1) else (mezzotintref01_whole.j0 k bt102.1 bt102.2.1 true))
set_option maxHeartbeats 8000000 in
set_option maxRecDepth 100000 in
theorem mezzotintref01_whole.calls (k : Nat) (a0 : ByteArray) (r1 : Int) (r2 : Bool) (w : World) (h : mezzotintref01_whole.f k a0 = some (r1, r2)) :
  Calls Tryd.prog 45 #[.string a0] w fun e w' => e = .returned (.tuple #[.int .i64 r1, .bool r2]) ∧ Drawn0 w w' := by
 have H : ((mezzotintref01_plain.f a0).bind fun bt102 => (if bt102.2.2.2.2 = true then (mezzotintref01_whole.j0 k bt102.1 bt102.2.1 bt102.2.2.2.1) else (mezzotintref01_whole.j0 k bt102.1 bt102.2.1 true))) = some (r1, r2) := h
 clear h
 replace H := Option.bind_eq_some_iff.mp H
 obtain ⟨⟨t102, t103, t104, t105, t106⟩, A20, H⟩ := H
 replace H : (if t106 = true then (mezzotintref01_whole.j0 k t102 t103 t105) else (mezzotintref01_whole.j0 k t102 t103 true)) = some (r1, r2) := H
 have A2 := Aside0.mk A20
 clear A20
 have HC3 := Aside0.mk H
 clear H
 go_enter Tryd.func45, Tryd.ntmps45
 go_upto_region 2 with (first | ((with_reducible refine gate_callee (f := 35) rfl ?_); refine goesL_ (some 13) rfl rfl Tryd.func35 (by kernel_rfl) rfl #[.string a0] rfl (by (try simp only [List.map_toArray, List.map_cons, List.map_nil]); first | done | rfl | (simp only [List.length_drop, List.length_take]; rfl)) ?_; (with_reducible refine (mezzotintref01_plain.calls a0 t102 t103 t104 t105 t106 _ A2.out).mono ?_); rintro e w' ⟨rfl, ⟨nd, rfl⟩⟩; refine ⟨_, rfl, ?_⟩))
 (try simp only [Act.put, List.setIfInBounds_toArray, List.set_cons_zero, List.set_cons_succ])
 go_cut [23] (fun v23 wc => ∃ (kq : Nat) (x23_2 : Bool), v23 = .bool x23_2 ∧ Aside0 (mezzotintref01_whole.j0 kq t102 t103 x23_2 = some (r1, r2)) ∧ Aside0 (kq ≤ k) ∧ Drawn0 w wc)
 case first =>
  have H := HC3.out
  clear HC3
  by_cases c4 : t106 = true
  ·subst c4
   have H1 : (mezzotintref01_whole.j0 k t102 t103 t105) = some (r1, r2) := by rw [if_pos rfl] at H; exact H
   clear H
   have H := H1
   clear H1
   have H' := Aside0.mk H
   clear H
   go_wp2
   go_meet
   case rel => exact ⟨_, (t105), (by first | rfl | (simp; done) | (simp [*]; done)), H', ⟨by first | omega | exact Nat.le_refl _⟩, by repeat (first | exact Drawn0.refl _ | apply Drawn0.step)⟩
  ·replace c4 := Bool.eq_false_iff.mpr c4
   subst c4
   have H1 : (mezzotintref01_whole.j0 k t102 t103 true) = some (r1, r2) := by rw [if_neg (show ¬ (false = true) by decide)] at H; exact H
   clear H
   have H := H1
   clear H1
   have H' := Aside0.mk H
   clear H
   go_wp2
   go_meet
   case rel => exact ⟨_, (true), (by first | rfl | (simp; done) | (simp [*]; done)), H', ⟨by first | omega | exact Nat.le_refl _⟩, by repeat (first | exact Drawn0.refl _ | apply Drawn0.step)⟩
 case rest =>
  clear HC3
  try clear p2
  try clear c3
  try clear c4
  obtain ⟨kq, x23_2, rfl, HA, HJ2, ⟨mc2, rfl⟩⟩ := hcut
  cases kq with
  | zero => exact absurd HA.out (by simp [mezzotintref01_whole.j0])
  | succ kj2 =>
   have H := HA.out
   clear HA
   simp only [mezzotintref01_whole.j0] at H
   by_cases c5 : x23_2 = true
   ·subst c5
    have H1 : (some (0, false)) = some (r1, r2) := by rw [if_pos rfl] at H; exact H
    clear H
    have H := H1
    clear H1
    simp only [Option.some.injEq, Prod.mk.injEq] at H
    obtain ⟨rfl, rfl⟩ := H
    go_wp2
    go_ret2
    exact ⟨by first | rfl | (simp; done) | (simp [*]; done), by repeat (first | exact Drawn0.refl _ | apply Drawn0.step)⟩
   ·replace c5 := Bool.eq_false_iff.mpr c5
    subst c5
    have H1 : (mezzotintref01_whole.l0 kj2 t102 t103 0 0) = some (r1, r2) := by rw [if_neg (show ¬ (false = true) by decide)] at H; exact H
    clear H
    have H := H1
    clear H1
    have H' := Aside0.mk H
    clear H
    go_wp2
    go_loopg [9, 10] kj2 (fun kq v9 v10 w' => ∃ (x9_2 : Int) (x10_2 : Int), v9 = .int .i64 x9_2 ∧ v10 = .int .i64 x10_2 ∧ Aside0 (mezzotintref01_whole.l0 kq t102 t103 x9_2 x10_2 = some (r1, r2)) ∧ Aside0 (kq ≤ kj2) ∧ Drawn0 w w')
    case atStart => exact ⟨(0), (0), (by first | rfl | (simp; done) | (simp [*]; done)), (by first | rfl | (simp; done) | (simp [*]; done)), H', ⟨Nat.le_refl _⟩, by repeat (first | exact Drawn0.refl _ | apply Drawn0.step)⟩
    case round =>
     clear H'
     try clear c2
     try clear p2
     try clear c3
     try clear c4
     try clear c5
     try clear p2
     obtain ⟨x9_2, x10_2, rfl, rfl, HA, HK2, ⟨m2, rfl⟩⟩ := hrel
     cases gk with
     | zero => exact absurd HA.out (by simp [mezzotintref01_whole.l0])
     | succ k2 =>
      have H := HA.out
      clear HA
      simp only [mezzotintref01_whole.l0] at H
      by_cases c6 : x10_2 < (t103.size : Int)
      ·rw [if_pos c6] at H
       have c6b0 : decide (x10_2 < (t103.size : Int)) = true := decide_eq_true c6
       clear c6
       by_cases c7 : 0 ≤ x10_2
       ·rw [if_pos c7] at H
        have c7b0 : decide (0 ≤ x10_2) = true := decide_eq_true c7
        clear c7
        by_cases c9 : (wrap64 ((wrap64 (x9_2 * 10)) + (((bt t103 x10_2) - 48) % 256))) > 4294967296
        ·rw [if_pos c9] at H
         have c9b0 : decide (4294967296 < (wrap64 ((wrap64 (x9_2 * 10)) + (((bt t103 x10_2) - 48) % 256)))) = true := decide_eq_true c9
         clear c9
         simp only [Option.some.injEq, Prod.mk.injEq] at H
         obtain ⟨rfl, rfl⟩ := H
         have p8 : 0 ≤ (x10_2 : Int) := of_decide_eq_true (by first | (with_reducible assumption) | assumption)
         have q8 : x10_2 < (t103.size : Int) := of_decide_eq_true (by first | (with_reducible assumption) | assumption)
         have hx8 := bt_at t103 x10_2
         replace p8 := eq_true p8
         replace q8 := eq_true q8
         go_wp2
         go_ret2
         exact ⟨by first | rfl | (simp; done) | (simp [*]; done), by repeat (first | exact Drawn0.refl _ | apply Drawn0.step)⟩
        ·rw [if_neg c9] at H
         have c9b0 : decide (4294967296 < (wrap64 ((wrap64 (x9_2 * 10)) + (((bt t103 x10_2) - 48) % 256)))) = false := decide_eq_false c9
         clear c9
         have H' := Aside0.mk H
         clear H
         have p8 : 0 ≤ (x10_2 : Int) := of_decide_eq_true (by first | (with_reducible assumption) | assumption)
         have q8 : x10_2 < (t103.size : Int) := of_decide_eq_true (by first | (with_reducible assumption) | assumption)
         have hx8 := bt_at t103 x10_2
         replace p8 := eq_true p8
         replace q8 := eq_true q8
         go_wp2
         go_roundg k2
         case measure => have := HJ2.out; have := HK2.out; omega
         case rel => exact ⟨(wrap64 ((wrap64 (x9_2 * 10)) + (((bt t103 x10_2) - 48) % 256))), (wrap64 (x10_2 + 1)), (by first | rfl | (simp; done) | (simp [*]; done)), (by first | rfl | (simp; done) | (simp [*]; done)), H', ⟨by have := HJ2.out; have := HK2.out; omega⟩, by repeat (first | exact Drawn0.refl _ | apply Drawn0.step)⟩
       ·rw [if_neg c7] at H
        exact absurd H (by simp)
      ·rw [if_neg c6] at H
       have c6b0 : decide (x10_2 < (t103.size : Int)) = false := decide_eq_false c6
       clear c6
       by_cases c10 : t102 = true
       ·subst c10
        have H1 : ((mezzotintref01_Small.f (wrap64 (-x9_2))).bind fun t107 => (some (wrap64 (-x9_2), t107))) = some (r1, r2) := by rw [if_pos rfl] at H; exact H
        clear H
        have H := H1
        clear H1
        replace H := Option.bind_eq_some_iff.mp H
        obtain ⟨t107, A110, H⟩ := H
        replace H : (some (wrap64 (-x9_2), t107)) = some (r1, r2) := H
        have A11 := Aside0.mk A110
        clear A110
        simp only [Option.some.injEq, Prod.mk.injEq] at H
        obtain ⟨rfl, rfl⟩ := H
        go_wp2_with (first | ((with_reducible refine gate_callee (f := 71) rfl ?_); refine goesL_ (some 45) rfl rfl Tryd.func71 (by kernel_rfl) rfl #[.int .i64 (wrap64 (-x9_2))] rfl (by (try simp only [List.map_toArray, List.map_cons, List.map_nil]); first | done | rfl | (simp only [List.length_drop, List.length_take]; rfl)) ?_; (with_reducible refine (mezzotintref01_Small.calls (wrap64 (-x9_2)) t107 _ A11.out).mono ?_); rintro e w' ⟨rfl, ⟨nd, rfl⟩⟩; refine ⟨_, rfl, ?_⟩))
        go_ret2
        exact ⟨by first | rfl | (simp; done) | (simp [*]; done), by repeat (first | exact Drawn0.refl _ | apply Drawn0.step)⟩
       ·replace c10 := Bool.eq_false_iff.mpr c10
        subst c10
        have H1 : ((mezzotintref01_Small.f x9_2).bind fun t108 => (some (x9_2, t108))) = some (r1, r2) := by rw [if_neg (show ¬ (false = true) by decide)] at H; exact H
        clear H
        have H := H1
        clear H1
        replace H := Option.bind_eq_some_iff.mp H
        obtain ⟨t108, A120, H⟩ := H
        replace H : (some (x9_2, t108)) = some (r1, r2) := H
        have A12 := Aside0.mk A120
        clear A120
        simp only [Option.some.injEq, Prod.mk.injEq] at H
        obtain ⟨rfl, rfl⟩ := H
        go_wp2_with (first | ((with_reducible refine gate_callee (f := 71) rfl ?_); refine goesL_ (some 45) rfl rfl Tryd.func71 (by kernel_rfl) rfl #[.int .i64 x9_2] rfl (by (try simp only [List.map_toArray, List.map_cons, List.map_nil]); first | done | rfl | (simp only [List.length_drop, List.length_take]; rfl)) ?_; (with_reducible refine (mezzotintref01_Small.calls x9_2 t108 _ A12.out).mono ?_); rintro e w' ⟨rfl, ⟨nd, rfl⟩⟩; refine ⟨_, rfl, ?_⟩))
        go_ret2
        exact ⟨by first | rfl | (simp; done) | (simp [*]; done), by repeat (first | exact Drawn0.refl _ | apply Drawn0.step)⟩

/-! ### mezzotintref01_scaled: function 36 -/
mutual
def mezzotintref01_scaled.l0 : Nat → ByteArray → Int → Int → Int → Option (Int × Bool)
 | 0, _, _, _, _ => none
 | k + 1, x0, x1, x6, x7 => if x7 < x1 then (if x7 < (x0.size : Int) then (if 0 ≤ x7 then (if (wrap64 ((wrap64 (x6 * 10)) + (((bt x0 x7) - 48) % 256))) > 99999 then (some (0, false)) else (mezzotintref01_scaled.l0 k x0 x1 (wrap64 ((wrap64 (x6 * 10)) + (((bt x0 x7) - 48) % 256))) (wrap64 (x7 + 1)))) else (none)) else (if (wrap64 ((wrap64 (x6 * 10)) + 0)) > 99999 then (some (0, false)) else (mezzotintref01_scaled.l0 k x0 x1 (wrap64 ((wrap64 (x6 * 10)) + 0)) (wrap64 (x7 + 1))))) else (mezzotintref01_scaled.l1 k x0 x1 x6 ([] : List Int) x1)
def mezzotintref01_scaled.l1 : Nat → ByteArray → Int → Int → List Int → Int → Option (Int × Bool)
 | 0, _, _, _, _, _ => none
 | k + 1, x0, x1, x6, x9, x10 => if x10 < 0 then (if x9.length < 17592186044416 then (mezzotintref01_scaled.l1 k x0 x1 x6 (x9 ++ [0]) (wrap64 (x10 + 1))) else (none)) else (mezzotintref01_scaled.l2 k x0 x1 x6 x9 0)
def mezzotintref01_scaled.l2 : Nat → ByteArray → Int → Int → List Int → Int → Option (Int × Bool)
 | 0, _, _, _, _, _ => none
 | k + 1, x0, x1, x6, x9, x11 => if x11 < (x0.size : Int) then (if x11 ≥ x1 then (if 0 ≤ x11 then (if x9.length < 17592186044416 then (mezzotintref01_scaled.l2 k x0 x1 x6 (x9 ++ [((bt x0 x11) - 48) % 256]) (wrap64 (x11 + 1))) else (none)) else (none)) else (mezzotintref01_scaled.l2 k x0 x1 x6 x9 (wrap64 (x11 + 1)))) else (mezzotintref01_scaled.l3 k x6 x9 0 0)
def mezzotintref01_scaled.l3 : Nat → Int → List Int → Int → Int → Option (Int × Bool)
 | 0, _, _, _, _ => none
 | k + 1, x6, x9, x12, x13 => if x13 < 17 then (mezzotintref01_scaled.l4 k x6 x9 x12 x13 0 (wrap64 ((x9.length : Int) - 1))) else (some (wrap64 ((wrap64 (x6 * 65536)) + (wrap64 (Int.tdiv (wrap64 (x12 + 1)) 2))), true))
def mezzotintref01_scaled.l4 : Nat → Int → List Int → Int → Int → Int → Int → Option (Int × Bool)
 | 0, _, _, _, _, _, _ => none
 | k + 1, x6, x9, x12, x13, x14, x15 => if x15 ≥ 0 then (if 0 ≤ x15 then (if x15 < (x9.length : Int) then (mezzotintref01_scaled.l4 k x6 (x9.set (x15 : Int).toNat (Int.tmod (wrap64 ((wrap64 ((rd x9 x15) * 2)) + x14)) 10)) x12 x13 (wrap64 (Int.tdiv (wrap64 ((wrap64 ((rd x9 x15) * 2)) + x14)) 10)) (wrap64 (x15 - 1))) else (none)) else (none)) else (mezzotintref01_scaled.l3 k x6 x9 (wrap64 ((wrap64 (x12 * 2)) + x14)) (wrap64 (x13 + 1)))
end
def mezzotintref01_scaled.f (k : Nat) (a0 : ByteArray) (a1 : Int) : Option (Int × Bool) := mezzotintref01_scaled.l0 k a0 a1 0 0
set_option maxHeartbeats 8000000 in
set_option maxRecDepth 100000 in
theorem mezzotintref01_scaled.calls (k : Nat) (a0 : ByteArray) (a1 : Int) (r1 : Int) (r2 : Bool) (w : World) (h : mezzotintref01_scaled.f k a0 a1 = some (r1, r2)) :
  Calls Tryd.prog 36 #[.string a0, .int .i64 a1] w fun e w' => e = .returned (.tuple #[.int .i64 r1, .bool r2]) ∧ Below w.heap.size w w' := by
 have HB := Aside0.mk (Below.refl w.heap.size w)
 have H : (mezzotintref01_scaled.l0 k a0 a1 0 0) = some (r1, r2) := h
 clear h
 have H' := Aside0.mk H
 clear H
 go_enter Tryd.func36, Tryd.ntmps36
 go_wp2
 go_loopg [6, 7] k (fun kq v6 v7 w' => ∃ (x6_1 : Int) (x7_1 : Int), v6 = .int .i64 x6_1 ∧ v7 = .int .i64 x7_1 ∧ Aside0 (mezzotintref01_scaled.l0 kq a0 a1 x6_1 x7_1 = some (r1, r2)) ∧ Aside0 (kq ≤ k) ∧ Aside0 (Below w.heap.size w w'))
 case atStart => exact ⟨(0), (0), (by first | rfl | (simp; done) | (simp [*]; done)), (by first | rfl | (simp; done) | (simp [*]; done)), H', ⟨Nat.le_refl _⟩, ⟨by repeat (first | (with_reducible first | exact HB.out | apply below_alloc | apply pw_below_drewN | apply below_drew1) | exact HB.out)⟩⟩
 case round =>
  clear H'
  try clear p2
  obtain ⟨x6_1, x7_1, rfl, rfl, HA, HK1, HB⟩ := hrel
  cases gk with
  | zero => exact absurd HA.out (by simp [mezzotintref01_scaled.l0])
  | succ k1 =>
   have H := HA.out
   clear HA
   simp only [mezzotintref01_scaled.l0] at H
   by_cases c3 : x7_1 < a1
   ·rw [if_pos c3] at H
    have c3b0 : decide (x7_1 < a1) = true := decide_eq_true c3
    clear c3
    by_cases c4 : x7_1 < (a0.size : Int)
    ·rw [if_pos c4] at H
     have c4b0 : decide (x7_1 < (a0.size : Int)) = true := decide_eq_true c4
     clear c4
     by_cases c5 : 0 ≤ x7_1
     ·rw [if_pos c5] at H
      have c5b0 : decide (0 ≤ x7_1) = true := decide_eq_true c5
      clear c5
      by_cases c7 : (wrap64 ((wrap64 (x6_1 * 10)) + (((bt a0 x7_1) - 48) % 256))) > 99999
      ·rw [if_pos c7] at H
       have c7b0 : decide (99999 < (wrap64 ((wrap64 (x6_1 * 10)) + (((bt a0 x7_1) - 48) % 256)))) = true := decide_eq_true c7
       clear c7
       simp only [Option.some.injEq, Prod.mk.injEq] at H
       obtain ⟨rfl, rfl⟩ := H
       have p6 : 0 ≤ (x7_1 : Int) := of_decide_eq_true (by first | (with_reducible assumption) | assumption)
       have q6 : x7_1 < (a0.size : Int) := of_decide_eq_true (by first | (with_reducible assumption) | assumption)
       have hx6 := bt_at a0 x7_1
       replace p6 := eq_true p6
       replace q6 := eq_true q6
       go_wp2
       go_ret2
       exact ⟨by first | rfl | (simp [errW_none, errW_some] <;> rfl) | (simp [*, errW_none, errW_some] <;> rfl), by repeat (first | (with_reducible first | exact HB.out | apply below_alloc | apply pw_below_drewN | apply below_drew1) | exact HB.out)⟩
      ·rw [if_neg c7] at H
       have c7b0 : decide (99999 < (wrap64 ((wrap64 (x6_1 * 10)) + (((bt a0 x7_1) - 48) % 256)))) = false := decide_eq_false c7
       clear c7
       have H' := Aside0.mk H
       clear H
       have p6 : 0 ≤ (x7_1 : Int) := of_decide_eq_true (by first | (with_reducible assumption) | assumption)
       have q6 : x7_1 < (a0.size : Int) := of_decide_eq_true (by first | (with_reducible assumption) | assumption)
       have hx6 := bt_at a0 x7_1
       replace p6 := eq_true p6
       replace q6 := eq_true q6
       go_wp2
       go_roundg k1
       case measure => have := HK1.out; omega
       case rel => exact ⟨(wrap64 ((wrap64 (x6_1 * 10)) + (((bt a0 x7_1) - 48) % 256))), (wrap64 (x7_1 + 1)), (by first | rfl | (simp; done) | (simp [*]; done)), (by first | rfl | (simp; done) | (simp [*]; done)), H', ⟨by have := HK1.out; omega⟩, ⟨by repeat (first | (with_reducible first | exact HB.out | apply below_alloc | apply pw_below_drewN | apply below_drew1) | exact HB.out)⟩⟩
     ·rw [if_neg c5] at H
      exact absurd H (by simp)
    ·rw [if_neg c4] at H
     have c4b0 : decide (x7_1 < (a0.size : Int)) = false := decide_eq_false c4
     clear c4
     by_cases c8 : (wrap64 ((wrap64 (x6_1 * 10)) + 0)) > 99999
     ·rw [if_pos c8] at H
      have c8b0 : decide (99999 < (wrap64 ((wrap64 (x6_1 * 10)) + 0))) = true := decide_eq_true c8
      simp only [Int.add_zero] at c8b0
      clear c8
      simp only [Option.some.injEq, Prod.mk.injEq] at H
      obtain ⟨rfl, rfl⟩ := H
      go_wp2
      go_ret2
      exact ⟨by first | rfl | (simp [errW_none, errW_some] <;> rfl) | (simp [*, errW_none, errW_some] <;> rfl), by repeat (first | (with_reducible first | exact HB.out | apply below_alloc | apply pw_below_drewN | apply below_drew1) | exact HB.out)⟩
     ·rw [if_neg c8] at H
      have c8b0 : decide (99999 < (wrap64 ((wrap64 (x6_1 * 10)) + 0))) = false := decide_eq_false c8
      simp only [Int.add_zero] at c8b0
      clear c8
      have H' := Aside0.mk H
      clear H
      go_wp2
      go_roundg k1
      case measure => have := HK1.out; omega
      case rel => exact ⟨(wrap64 ((wrap64 (x6_1 * 10)) + 0)), (wrap64 (x7_1 + 1)), (by first | rfl | (simp; done) | (simp [*]; done)), (by first | rfl | (simp; done) | (simp [*]; done)), H', ⟨by have := HK1.out; omega⟩, ⟨by repeat (first | (with_reducible first | exact HB.out | apply below_alloc | apply pw_below_drewN | apply below_drew1) | exact HB.out)⟩⟩
   ·rw [if_neg c3] at H
    have c3b0 : decide (x7_1 < a1) = false := decide_eq_false c3
    clear c3
    have H' := Aside0.mk H
    clear H
    go_wp2
    go_loopg [9, 10] k1 (fun kq v9 v10 w' => ∃ (x9_2 : List Int) (x10_2 : Int), v10 = .int .i64 x10_2 ∧ Aside0 (mezzotintref01_scaled.l1 kq a0 a1 x6_1 x9_2 x10_2 = some (r1, r2)) ∧ Aside0 (kq ≤ k1) ∧ Aside0 (Kd.R (Kd.int .i64) 3 w' w.heap.size (fun _ => True) v9 x9_2) ∧ Aside0 (Below w.heap.size w w'))
    case atStart => exact ⟨(([] : List Int)), (a1), (by first | rfl | (simp; done) | (simp [*]; done)), H', ⟨Nat.le_refl _⟩, ⟨by first | exact Kd.R_nil _ _ _ _ _ | exact Kd.N_nil _ _ _ _ _ | exact Kd.V_nil _ _ _ _ _ | exact Kd.Q_nil _ _ _ _ _ | exact Kd.S_nil _ _ _ _ _⟩, ⟨by repeat (first | (with_reducible first | exact HB.out | apply below_alloc | apply pw_below_drewN | apply below_drew1) | exact HB.out)⟩⟩
    case round =>
     clear H'
     try clear p2
     try clear c3
     try clear c3b0
     try clear c4
     try clear c4b0
     try clear c5
     try clear c5b0
     try clear p6
     try clear q6
     try clear hx6
     try clear c7
     try clear c7b0
     try clear c8
     try clear c8b0
     try clear p2
     try clear p6
     try clear q6
     obtain ⟨x9_2, x10_2, rfl, HA, HK2, HO_9, HB⟩ := hrel
     cases gk with
     | zero => exact absurd HA.out (by simp [mezzotintref01_scaled.l1])
     | succ k2 =>
      have H := HA.out
      clear HA
      simp only [mezzotintref01_scaled.l1] at H
      by_cases c9 : x10_2 < 0
      ·rw [if_pos c9] at H
       have c9b0 : decide (x10_2 < 0) = true := decide_eq_true c9
       clear c9
       by_cases c10 : x9_2.length < 17592186044416
       ·rw [if_pos c10] at H
        have LMc10 := Aside0.mk c10
        clear c10
        obtain ⟨y109, hy109⟩ : ∃ y_ : List Int, y_ = (x9_2 ++ [0]) := ⟨_, rfl⟩
        replace H : (mezzotintref01_scaled.l1 k2 a0 a1 x6_1 y109 (wrap64 (x10_2 + 1))) = some (r1, r2) := by first | (rw [hy109]; with_reducible exact H) | (have H2_ := (Option.bind_some _ _).symm.trans H; rw [hy109]; with_reducible exact H2_) | (have H2_ := (Option.bind_some _ _).symm.trans H; with_reducible exact H2_) | with_reducible exact H | (rw [hy109]; exact H) | exact H
        have Ny109 := Aside0.mk hy109
        clear hy109
        have H' := Aside0.mk H
        clear H
        go_wp2_with (first | ((with_reducible refine gate_builtin (b := .append) (xs := #[.tmp 42, .tmp 43]) rfl ?_); at_builtin; refine Kd.R_append (Kd.int .i64) (w0 := w) w.heap.size rfl (.tmp 42) (.tmp 43) 86 3 (.int .i64 0) 8 rfl Tryd.underlying86 info3 rfl (by decide) (by omega) u9 x9_2 0 [.int .i64 0] (fun _ => True) (fun _ => False) rfl rfl ?aP (fun _ hk => hk.elim) ?aF ?aO ?aB ?aS ?aL ?_; (case aP => exact rfl); (case aB => exact (by repeat (first | (with_reducible first | exact HB.out | apply below_alloc | apply pw_below_drewN | apply below_drew1) | exact HB.out))); (case aF => exact (fun _ _ => trivial)); (case aO => exact (by (with_reducible repeat (first | apply Kd.R_alloc | apply Kd.R_drewN | apply Kd.R_drew)); exact HO_9.out)); (case aS => exact (below_size (by repeat (first | (with_reducible first | exact HB.out | apply below_alloc | apply pw_below_drewN | apply below_drew1) | exact HB.out)))); (case aL => have := LMc10.out; omega); intro v110 w11 ho hb hg hat; rw [← Ny109.out] at ho; have n0_ := Aside0.mk (hb); have n1_ := Aside0.mk (ho); clear HB; clear HO_9; have HB := n0_; have HO111 := n1_; clear n0_ n1_; clear ho hb hg hat))
        go_roundg k2
        case measure => have := HK1.out; have := HK2.out; omega
        case rel => exact ⟨(y109), (wrap64 (x10_2 + 1)), (by first | rfl | (simp; done) | (simp [*]; done)), H', ⟨by have := HK1.out; have := HK2.out; omega⟩, ⟨by (with_reducible repeat (first | apply Kd.R_alloc | apply Kd.R_drewN | apply Kd.R_drew)); exact HO111.out⟩, ⟨by repeat (first | (with_reducible first | exact HB.out | apply below_alloc | apply pw_below_drewN | apply below_drew1) | exact HB.out)⟩⟩
       ·rw [if_neg c10] at H
        exact absurd H (by simp)
      ·rw [if_neg c9] at H
       have c9b0 : decide (x10_2 < 0) = false := decide_eq_false c9
       clear c9
       have H' := Aside0.mk H
       clear H
       go_wp2
       go_loopg [9, 11] k2 (fun kq v9 v11 w' => ∃ (x9_3 : List Int) (x11_3 : Int), v11 = .int .i64 x11_3 ∧ Aside0 (mezzotintref01_scaled.l2 kq a0 a1 x6_1 x9_3 x11_3 = some (r1, r2)) ∧ Aside0 (kq ≤ k2) ∧ Aside0 (Kd.R (Kd.int .i64) 3 w' w.heap.size (fun _ => True) v9 x9_3) ∧ Aside0 (Below w.heap.size w w'))
       case atStart => exact ⟨(x9_2), (0), (by first | rfl | (simp; done) | (simp [*]; done)), H', ⟨Nat.le_refl _⟩, ⟨by (with_reducible repeat (first | apply Kd.R_alloc | apply Kd.R_drewN | apply Kd.R_drew)); exact HO_9.out⟩, ⟨by repeat (first | (with_reducible first | exact HB.out | apply below_alloc | apply pw_below_drewN | apply below_drew1) | exact HB.out)⟩⟩
       case round =>
        clear H'
        try clear c1
        try clear p2
        try clear c3
        try clear c3b0
        try clear c4
        try clear c4b0
        try clear c5
        try clear c5b0
        try clear p6
        try clear q6
        try clear hx6
        try clear c7
        try clear c7b0
        try clear c8
        try clear c8b0
        try clear c9
        try clear c9b0
        try clear c10
        try clear p2
        try clear p6
        try clear q6
        obtain ⟨x9_3, x11_3, rfl, HA, HK3, HO_9, HB⟩ := hrel
        cases gk with
        | zero => exact absurd HA.out (by simp [mezzotintref01_scaled.l2])
        | succ k3 =>
         have H := HA.out
         clear HA
         simp only [mezzotintref01_scaled.l2] at H
         by_cases c12 : x11_3 < (a0.size : Int)
         ·rw [if_pos c12] at H
          have c12b0 : decide (x11_3 < (a0.size : Int)) = true := decide_eq_true c12
          clear c12
          by_cases c13 : x11_3 ≥ a1
          ·rw [if_pos c13] at H
           have c13b0 : decide (a1 ≤ x11_3) = true := decide_eq_true c13
           clear c13
           by_cases c14 : 0 ≤ x11_3
           ·rw [if_pos c14] at H
            have c14b0 : decide (0 ≤ x11_3) = true := decide_eq_true c14
            clear c14
            by_cases c16 : x9_3.length < 17592186044416
            ·rw [if_pos c16] at H
             have LMc16 := Aside0.mk c16
             clear c16
             obtain ⟨y112, hy112⟩ : ∃ y_ : List Int, y_ = (x9_3 ++ [((bt a0 x11_3) - 48) % 256]) := ⟨_, rfl⟩
             replace H : (mezzotintref01_scaled.l2 k3 a0 a1 x6_1 y112 (wrap64 (x11_3 + 1))) = some (r1, r2) := by first | (rw [hy112]; with_reducible exact H) | (have H2_ := (Option.bind_some _ _).symm.trans H; rw [hy112]; with_reducible exact H2_) | (have H2_ := (Option.bind_some _ _).symm.trans H; with_reducible exact H2_) | with_reducible exact H | (rw [hy112]; exact H) | exact H
             have Ny112 := Aside0.mk hy112
             clear hy112
             have H' := Aside0.mk H
             clear H
             have p15 : 0 ≤ (x11_3 : Int) := of_decide_eq_true (by first | (with_reducible assumption) | assumption)
             have q15 : x11_3 < (a0.size : Int) := of_decide_eq_true (by first | (with_reducible assumption) | assumption)
             have hx15 := bt_at a0 x11_3
             replace p15 := eq_true p15
             replace q15 := eq_true q15
             go_wp2_with (first | ((with_reducible refine gate_builtin (b := .append) (xs := #[.tmp 54, .tmp 60]) rfl ?_); at_builtin; refine Kd.R_append (Kd.int .i64) (w0 := w) w.heap.size rfl (.tmp 54) (.tmp 60) 86 3 (.int .i64 0) 8 rfl Tryd.underlying86 info3 rfl (by decide) (by omega) u9 x9_3 (((bt a0 x11_3) - 48) % 256) [.int .i64 (((bt a0 x11_3) - 48) % 256)] (fun _ => True) (fun _ => False) rfl rfl ?aP (fun _ hk => hk.elim) ?aF ?aO ?aB ?aS ?aL ?_; (case aP => exact rfl); (case aB => exact (by repeat (first | (with_reducible first | exact HB.out | apply below_alloc | apply pw_below_drewN | apply below_drew1) | exact HB.out))); (case aF => exact (fun _ _ => trivial)); (case aO => exact (by (with_reducible repeat (first | apply Kd.R_alloc | apply Kd.R_drewN | apply Kd.R_drew)); exact HO_9.out)); (case aS => exact (below_size (by repeat (first | (with_reducible first | exact HB.out | apply below_alloc | apply pw_below_drewN | apply below_drew1) | exact HB.out)))); (case aL => have := LMc16.out; omega); intro v113 w17 ho hb hg hat; rw [← Ny112.out] at ho; have n0_ := Aside0.mk (hb); have n1_ := Aside0.mk (ho); clear HB; clear HO_9; have HB := n0_; have HO114 := n1_; clear n0_ n1_; clear ho hb hg hat))
             go_roundg k3
             case measure => have := HK1.out; have := HK2.out; have := HK3.out; omega
             case rel => exact ⟨(y112), (wrap64 (x11_3 + 1)), (by first | rfl | (simp; done) | (simp [*]; done)), H', ⟨by have := HK1.out; have := HK2.out; have := HK3.out; omega⟩, ⟨by (with_reducible repeat (first | apply Kd.R_alloc | apply Kd.R_drewN | apply Kd.R_drew)); exact HO114.out⟩, ⟨by repeat (first | (with_reducible first | exact HB.out | apply below_alloc | apply pw_below_drewN | apply below_drew1) | exact HB.out)⟩⟩
            ·rw [if_neg c16] at H
             exact absurd H (by simp)
           ·rw [if_neg c14] at H
            exact absurd H (by simp)
          ·rw [if_neg c13] at H
           have c13b0 : decide (a1 ≤ x11_3) = false := decide_eq_false c13
           clear c13
           have H' := Aside0.mk H
           clear H
           go_wp2
           go_roundg k3
           case measure => have := HK1.out; have := HK2.out; have := HK3.out; omega
           case rel => exact ⟨(x9_3), (wrap64 (x11_3 + 1)), (by first | rfl | (simp; done) | (simp [*]; done)), H', ⟨by have := HK1.out; have := HK2.out; have := HK3.out; omega⟩, ⟨by (with_reducible repeat (first | apply Kd.R_alloc | apply Kd.R_drewN | apply Kd.R_drew)); exact HO_9.out⟩, ⟨by repeat (first | (with_reducible first | exact HB.out | apply below_alloc | apply pw_below_drewN | apply below_drew1) | exact HB.out)⟩⟩
         ·rw [if_neg c12] at H
          have c12b0 : decide (x11_3 < (a0.size : Int)) = false := decide_eq_false c12
          clear c12
          have H' := Aside0.mk H
          clear H
          go_wp2
          go_loopg [12, 13] k3 (fun kq v12 v13 w' => ∃ (x9_4 : List Int) (x12_4 : Int) (x13_4 : Int), v12 = .int .i64 x12_4 ∧ v13 = .int .i64 x13_4 ∧ Aside0 (mezzotintref01_scaled.l3 kq x6_1 x9_4 x12_4 x13_4 = some (r1, r2)) ∧ Aside0 (kq ≤ k3) ∧ Aside0 (Kd.R (Kd.int .i64) 3 w' w.heap.size (fun _ => True) u9 x9_4) ∧ Aside0 (Below w.heap.size w w'))
          case atStart => exact ⟨(x9_3), (0), (0), (by first | rfl | (simp; done) | (simp [*]; done)), (by first | rfl | (simp; done) | (simp [*]; done)), H', ⟨Nat.le_refl _⟩, ⟨by (with_reducible repeat (first | apply Kd.R_alloc | apply Kd.R_drewN | apply Kd.R_drew)); exact HO_9.out⟩, ⟨by repeat (first | (with_reducible first | exact HB.out | apply below_alloc | apply pw_below_drewN | apply below_drew1) | exact HB.out)⟩⟩
          case round =>
           clear H'
           try clear c1
           try clear p1
           try clear q1
           try clear hx1
           try clear p2
           try clear c3
           try clear c3b0
           try clear c4
           try clear c4b0
           try clear c5
           try clear c5b0
           try clear p6
           try clear q6
           try clear hx6
           try clear c7
           try clear c7b0
           try clear c8
           try clear c8b0
           try clear c9
           try clear c9b0
           try clear c10
           try clear c12
           try clear c12b0
           try clear c13
           try clear c13b0
           try clear c14
           try clear c14b0
           try clear p15
           try clear q15
           try clear hx15
           try clear c16
           try clear p15
           try clear p2
           try clear p6
           try clear q15
           try clear q6
           obtain ⟨x9_4, x12_4, x13_4, rfl, rfl, HA, HK4, HO_9, HB⟩ := hrel
           cases gk with
           | zero => exact absurd HA.out (by simp [mezzotintref01_scaled.l3])
           | succ k4 =>
            have H := HA.out
            clear HA
            simp only [mezzotintref01_scaled.l3] at H
            by_cases c18 : x13_4 < 17
            ·rw [if_pos c18] at H
             have c18b0 : decide (x13_4 < 17) = true := decide_eq_true c18
             clear c18
             have H' := Aside0.mk H
             clear H
             obtain ⟨Ao19, co19, eo19⟩ := Kd.R_slice HO_9.out
             subst eo19
             go_wp2
             go_loopg [14, 15] k4 (fun kq v14 v15 w' => ∃ (x9_5 : List Int) (x14_5 : Int) (x15_5 : Int), v14 = .int .i64 x14_5 ∧ v15 = .int .i64 x15_5 ∧ Aside0 (mezzotintref01_scaled.l4 kq x6_1 x9_5 x12_4 x13_4 x14_5 x15_5 = some (r1, r2)) ∧ Aside0 (kq ≤ k4) ∧ Aside0 (Kd.R (Kd.int .i64) 3 w' w.heap.size (fun _ => True) (.slice Ao19 x9_4.length co19) x9_5) ∧ Aside0 (Below w.heap.size w w'))
             case atStart => exact ⟨(x9_4), (0), (wrap64 ((x9_4.length : Int) - 1)), (by first | rfl | (simp; done) | (simp [*]; done)), (by first | rfl | (simp; done) | (simp [*]; done)), H', ⟨Nat.le_refl _⟩, ⟨by (with_reducible repeat (first | apply Kd.R_alloc | apply Kd.R_drewN | apply Kd.R_drew)); exact HO_9.out⟩, ⟨by repeat (first | (with_reducible first | exact HB.out | apply below_alloc | apply pw_below_drewN | apply below_drew1) | exact HB.out)⟩⟩
             case round =>
              clear H'
              try clear c1
              try clear p1
              try clear q1
              try clear hx1
              try clear p2
              try clear c3
              try clear c3b0
              try clear c4
              try clear c4b0
              try clear c5
              try clear c5b0
              try clear p6
              try clear q6
              try clear hx6
              try clear c7
              try clear c7b0
              try clear c8
              try clear c8b0
              try clear c9
              try clear c9b0
              try clear c10
              try clear c12
              try clear c12b0
              try clear c13
              try clear c13b0
              try clear c14
              try clear c14b0
              try clear p15
              try clear q15
              try clear hx15
              try clear c16
              try clear c18
              try clear c18b0
              try clear p1
              try clear p15
              try clear p2
              try clear p6
              try clear q1
              try clear q15
              try clear q6
              obtain ⟨x9_5, x14_5, x15_5, rfl, rfl, HA, HK5, HO_9, HB⟩ := hrel
              have hl9_5 := (Kd.R_reads' HO_9.out).1
              rw [hl9_5] at HO_9
              (try simp only [hl9_5])
              cases gk with
              | zero => exact absurd HA.out (by simp [mezzotintref01_scaled.l4])
              | succ k5 =>
               have H := HA.out
               clear HA
               simp only [mezzotintref01_scaled.l4] at H
               by_cases c20 : x15_5 ≥ 0
               ·rw [if_pos c20] at H
                have c20b0 : decide (0 ≤ x15_5) = true := decide_eq_true c20
                clear c20
                by_cases c21 : 0 ≤ x15_5
                ·rw [if_pos c21] at H
                 have c21b0 : decide (0 ≤ x15_5) = true := decide_eq_true c21
                 clear c21
                 by_cases c22 : x15_5 < (x9_5.length : Int)
                 ·rw [if_pos c22] at H
                  have c22b0 : decide (x15_5 < (x9_5.length : Int)) = true := decide_eq_true c22
                  clear c22
                  obtain ⟨y116, hy116⟩ : ∃ y_ : List Int, y_ = (x9_5.set (x15_5 : Int).toNat (Int.tmod (wrap64 ((wrap64 ((rd x9_5 x15_5) * 2)) + x14_5)) 10)) := ⟨_, rfl⟩
                  replace H : (mezzotintref01_scaled.l4 k5 x6_1 y116 x12_4 x13_4 (wrap64 (Int.tdiv (wrap64 ((wrap64 ((rd x9_5 x15_5) * 2)) + x14_5)) 10)) (wrap64 (x15_5 - 1))) = some (r1, r2) := by first | (rw [hy116]; with_reducible exact H) | (have H2_ := (Option.bind_some _ _).symm.trans H; rw [hy116]; with_reducible exact H2_) | (have H2_ := (Option.bind_some _ _).symm.trans H; with_reducible exact H2_) | with_reducible exact H | (rw [hy116]; exact H) | exact H
                  have Ny116 := Aside0.mk hy116
                  clear hy116
                  have H' := Aside0.mk H
                  clear H
                  have p115 : 0 ≤ (x15_5 : Int) := of_decide_eq_true (by first | (with_reducible assumption) | assumption)
                  have q115 : x15_5 < (x9_5.length : Int) := of_decide_eq_true (by first | (with_reducible assumption) | assumption)
                  obtain ⟨ad115, e115, hx115_0⟩ := Kd.at_int (Kd.R_reads' HO_9.out).2.2 x15_5 p115 q115
                  cases e115
                  replace p115 := eq_true p115
                  replace q115 := eq_true q115
                  have p23 : 0 ≤ (x15_5 : Int) := of_decide_eq_true (by first | (with_reducible assumption) | assumption)
                  have q23 : (x15_5 : Int) < ((x9_5.length : Int) : Int) := of_decide_eq_true (by first | (with_reducible assumption) | assumption)
                  obtain ⟨go23, co23, eo23, gb23, gl23, cl23, HG23⟩ := Kd.R_form HO_9.out (by omega)
                  (first | cases eo23 | (injection eo23 with ea_ en_ ec_; (first | subst ea_ | (injection ea_ with ea_; subst ea_)); subst ec_; clear en_))
                  have GB23 := Aside0.mk gb23
                  have GG23 := Aside0.mk HG23
                  clear gb23 gl23 HG23
                  (first | simp only [add_plain] at hx115_0 | skip)
                  obtain ⟨hx23_0, hf23_0⟩ := Kd.R_celln 0 HO_9.out (x15_5 : Int) p23 q23
                  replace p23 := eq_true p23
                  replace q23 := eq_true q23
                  have HP24 := Kd.R_putg HO_9.out (x15_5 : Int) (Int.tmod (wrap64 ((wrap64 ((rd x9_5 x15_5) * 2)) + x14_5)) 10)
                  go_wp2_with (first | ((with_reducible refine gate_store (t := 3) (p := 86) rfl ?_); refine store_event (t := 3) (p := 86) (v := ?vo_w25) (w1 := (wr.setCell ⟨go23, (x15_5 : Int).toNat, none⟩ (.int .i64 (Int.tmod (wrap64 ((wrap64 ((rd x9_5 x15_5) * 2)) + x14_5)) 10)))) ?hg ?ho ?hn ?hr ?_; (case ho => rfl); (case hg => rfl); (case hn => rfl); (case hr => first | (go_simp; done) | (go_simp; rfl)); intro w25 hw; have hg : wr.grownBy w25 (some go23) := (by rw [hw]; exact HP24.2); have hp_ : Kd.R (Kd.int .i64) 3 w25 w.heap.size (fun _ => True) (.slice (some ⟨go23, 0, none⟩) x9_5.length co19) y116 := (by rw [hw, Ny116.out]; exact HP24.1); clear HP24; have n0_ := Aside0.mk (hp_); have n1_ := Aside0.mk ((by rw [hw]; exact below_set (HB.out) GB23.out : Below w.heap.size w w25)); clear HO_9; clear HB; have HO_9 := n0_; have HB := n1_; clear n0_ n1_; clear hg hw hp_))
                  (try simp only [← hl9_5])
                  go_roundg k5
                  case measure => have := HK1.out; have := HK2.out; have := HK3.out; have := HK4.out; have := HK5.out; omega
                  case rel => exact ⟨(y116), (wrap64 (Int.tdiv (wrap64 ((wrap64 ((rd x9_5 x15_5) * 2)) + x14_5)) 10)), (wrap64 (x15_5 - 1)), (by first | rfl | (simp; done) | (simp [*]; done)), (by first | rfl | (simp; done) | (simp [*]; done)), H', ⟨by have := HK1.out; have := HK2.out; have := HK3.out; have := HK4.out; have := HK5.out; omega⟩, ⟨by (try simp only [hl9_5]); (with_reducible repeat (first | apply Kd.R_alloc | apply Kd.R_drewN | apply Kd.R_drew)); exact HO_9.out⟩, ⟨by repeat (first | (with_reducible first | exact HB.out | apply below_alloc | apply pw_below_drewN | apply below_drew1) | exact HB.out)⟩⟩
                 ·rw [if_neg c22] at H
                  exact absurd H (by simp)
                ·rw [if_neg c21] at H
                 exact absurd H (by simp)
               ·rw [if_neg c20] at H
                have c20b0 : decide (0 ≤ x15_5) = false := decide_eq_false c20
                clear c20
                have H' := Aside0.mk H
                clear H
                go_wp2
                (try simp only [← hl9_5])
                go_roundg k5
                case measure => have := HK1.out; have := HK2.out; have := HK3.out; have := HK4.out; have := HK5.out; omega
                case rel => exact ⟨(x9_5), (wrap64 ((wrap64 (x12_4 * 2)) + x14_5)), (wrap64 (x13_4 + 1)), (by first | rfl | (simp; done) | (simp [*]; done)), (by first | rfl | (simp; done) | (simp [*]; done)), H', ⟨by have := HK1.out; have := HK2.out; have := HK3.out; have := HK4.out; have := HK5.out; omega⟩, ⟨by (try simp only [hl9_5]); (with_reducible repeat (first | apply Kd.R_alloc | apply Kd.R_drewN | apply Kd.R_drew)); exact HO_9.out⟩, ⟨by repeat (first | (with_reducible first | exact HB.out | apply below_alloc | apply pw_below_drewN | apply below_drew1) | exact HB.out)⟩⟩
            ·rw [if_neg c18] at H
             have c18b0 : decide (x13_4 < 17) = false := decide_eq_false c18
             clear c18
             simp only [Option.some.injEq, Prod.mk.injEq] at H
             obtain ⟨rfl, rfl⟩ := H
             go_wp2
             go_ret2
             exact ⟨by first | rfl | (simp [errW_none, errW_some] <;> rfl) | (simp [*, errW_none, errW_some] <;> rfl), by repeat (first | (with_reducible first | exact HB.out | apply below_alloc | apply pw_below_drewN | apply below_drew1) | exact HB.out)⟩

/-! ### mezzotintref01_signed: function 37 -/
def mezzotintref01_signed.f (a0 : Int) (a1 : Bool) : Option (Int × Bool) := if a1 = true then ((mezzotintref01_Fits.f (wrap64 (-a0))).bind fun t117 => (if t117 = true then (some (wrap64 (-a0), true)) else (some (0, false)))) else ((mezzotintref01_Fits.f a0).bind fun t118 => (if t118 = true then (some (a0, true)) else (some (0, false))))
set_option maxHeartbeats 8000000 in
set_option maxRecDepth 100000 in
theorem mezzotintref01_signed.calls (a0 : Int) (a1 : Bool) (r1 : Int) (r2 : Bool) (w : World) (h : mezzotintref01_signed.f a0 a1 = some (r1, r2)) :
  Calls Tryd.prog 37 #[.int .i64 a0, .bool a1] w fun e w' => e = .returned (.tuple #[.int .i64 r1, .bool r2]) ∧ Drawn0 w w' := by
 have H : (if a1 = true then ((mezzotintref01_Fits.f (wrap64 (-a0))).bind fun t117 => (if t117 = true then (some (wrap64 (-a0), true)) else (some (0, false)))) else ((mezzotintref01_Fits.f a0).bind fun t118 => (if t118 = true then (some (a0, true)) else (some (0, false))))) = some (r1, r2) := h
 clear h
 by_cases c3 : a1 = true
 ·subst c3
  have H1 : ((mezzotintref01_Fits.f (wrap64 (-a0))).bind fun t117 => (if t117 = true then (some (wrap64 (-a0), true)) else (some (0, false)))) = some (r1, r2) := by rw [if_pos rfl] at H; exact H
  clear H
  have H := H1
  clear H1
  replace H := Option.bind_eq_some_iff.mp H
  obtain ⟨t117, A40, H⟩ := H
  replace H : (if t117 = true then (some (wrap64 (-a0), true)) else (some (0, false))) = some (r1, r2) := H
  have A4 := Aside0.mk A40
  clear A40
  by_cases c5 : t117 = true
  ·subst c5
   have H1 : (some (wrap64 (-a0), true)) = some (r1, r2) := by rw [if_pos rfl] at H; exact H
   clear H
   have H := H1
   clear H1
   simp only [Option.some.injEq, Prod.mk.injEq] at H
   obtain ⟨rfl, rfl⟩ := H
   go_enter Tryd.func37, Tryd.ntmps37
   go_wp2_with (first | ((with_reducible refine gate_callee (f := 64) rfl ?_); refine goesL_ (some 10) rfl rfl Tryd.func64 (by kernel_rfl) rfl #[.int .i64 (wrap64 (-a0))] rfl (by (try simp only [List.map_toArray, List.map_cons, List.map_nil]); first | done | rfl | (simp only [List.length_drop, List.length_take]; rfl)) ?_; (with_reducible refine (mezzotintref01_Fits.calls (wrap64 (-a0)) true _ A4.out).mono ?_); rintro e w' ⟨rfl, ⟨nd, rfl⟩⟩; refine ⟨_, rfl, ?_⟩))
   go_ret2
   exact ⟨by first | rfl | (simp; done) | (simp [*]; done), by repeat (first | exact Drawn0.refl _ | apply Drawn0.step)⟩
  ·replace c5 := Bool.eq_false_iff.mpr c5
   subst c5
   have H1 : (some (0, false)) = some (r1, r2) := by rw [if_neg (show ¬ (false = true) by decide)] at H; exact H
   clear H
   have H := H1
   clear H1
   simp only [Option.some.injEq, Prod.mk.injEq] at H
   obtain ⟨rfl, rfl⟩ := H
   go_enter Tryd.func37, Tryd.ntmps37
   go_wp2_with (first | ((with_reducible refine gate_callee (f := 64) rfl ?_); refine goesL_ (some 10) rfl rfl Tryd.func64 (by kernel_rfl) rfl #[.int .i64 (wrap64 (-a0))] rfl (by (try simp only [List.map_toArray, List.map_cons, List.map_nil]); first | done | rfl | (simp only [List.length_drop, List.length_take]; rfl)) ?_; (with_reducible refine (mezzotintref01_Fits.calls (wrap64 (-a0)) false _ A4.out).mono ?_); rintro e w' ⟨rfl, ⟨nd, rfl⟩⟩; refine ⟨_, rfl, ?_⟩))
   go_ret2
   exact ⟨by first | rfl | (simp; done) | (simp [*]; done), by repeat (first | exact Drawn0.refl _ | apply Drawn0.step)⟩
 ·replace c3 := Bool.eq_false_iff.mpr c3
  subst c3
  have H1 : ((mezzotintref01_Fits.f a0).bind fun t118 => (if t118 = true then (some (a0, true)) else (some (0, false)))) = some (r1, r2) := by rw [if_neg (show ¬ (false = true) by decide)] at H; exact H
  clear H
  have H := H1
  clear H1
  replace H := Option.bind_eq_some_iff.mp H
  obtain ⟨t118, A60, H⟩ := H
  replace H : (if t118 = true then (some (a0, true)) else (some (0, false))) = some (r1, r2) := H
  have A6 := Aside0.mk A60
  clear A60
  by_cases c7 : t118 = true
  ·subst c7
   have H1 : (some (a0, true)) = some (r1, r2) := by rw [if_pos rfl] at H; exact H
   clear H
   have H := H1
   clear H1
   simp only [Option.some.injEq, Prod.mk.injEq] at H
   obtain ⟨rfl, rfl⟩ := H
   go_enter Tryd.func37, Tryd.ntmps37
   go_wp2_with (first | ((with_reducible refine gate_callee (f := 64) rfl ?_); refine goesL_ (some 10) rfl rfl Tryd.func64 (by kernel_rfl) rfl #[.int .i64 a0] rfl (by (try simp only [List.map_toArray, List.map_cons, List.map_nil]); first | done | rfl | (simp only [List.length_drop, List.length_take]; rfl)) ?_; (with_reducible refine (mezzotintref01_Fits.calls a0 true _ A6.out).mono ?_); rintro e w' ⟨rfl, ⟨nd, rfl⟩⟩; refine ⟨_, rfl, ?_⟩))
   go_ret2
   exact ⟨by first | rfl | (simp; done) | (simp [*]; done), by repeat (first | exact Drawn0.refl _ | apply Drawn0.step)⟩
  ·replace c7 := Bool.eq_false_iff.mpr c7
   subst c7
   have H1 : (some (0, false)) = some (r1, r2) := by rw [if_neg (show ¬ (false = true) by decide)] at H; exact H
   clear H
   have H := H1
   clear H1
   simp only [Option.some.injEq, Prod.mk.injEq] at H
   obtain ⟨rfl, rfl⟩ := H
   go_enter Tryd.func37, Tryd.ntmps37
   go_wp2_with (first | ((with_reducible refine gate_callee (f := 64) rfl ?_); refine goesL_ (some 10) rfl rfl Tryd.func64 (by kernel_rfl) rfl #[.int .i64 a0] rfl (by (try simp only [List.map_toArray, List.map_cons, List.map_nil]); first | done | rfl | (simp only [List.length_drop, List.length_take]; rfl)) ?_; (with_reducible refine (mezzotintref01_Fits.calls a0 false _ A6.out).mono ?_); rintro e w' ⟨rfl, ⟨nd, rfl⟩⟩; refine ⟨_, rfl, ?_⟩))
   go_ret2
   exact ⟨by first | rfl | (simp; done) | (simp [*]; done), by repeat (first | exact Drawn0.refl _ | apply Drawn0.step)⟩

end Go.Proofs.YtiocgpfnbmlfaaaDoor.PT

/-! ## QV -/
namespace Go.Proofs.YtiocgpfnbmlfaaaDoor.QD
open Go Go.RowKit Go.Proofs.YtiocgpfnbmlfaaaDoor Go.Proofs.YtiocgpfnbmlfaaaDoorW.PrintWords

theorem digs9 (b : List UInt8) (hb : b.all isDig = true) : ∀ d ∈ digsOf b, d ≤ 9 := by
  intro d hd
  unfold digsOf at hd
  obtain ⟨c, hc, rfl⟩ := List.mem_map.1 hd
  have := (isDig_iff c).1 (List.all_eq_true.1 hb c hc)
  omega
theorem digsOf_len (b : List UInt8) : (digsOf b).length = b.length := by simp [digsOf]
theorem digsOf_append (a b : List UInt8) : digsOf (a ++ b) = digsOf a ++ digsOf b := by simp [digsOf]
theorem digsOf_zeros (m : Nat) : digsOf (List.replicate m 48) = List.replicate m 0 := by simp [digsOf]

def valN : List Nat → Nat
  | [] => 0
  | d :: ds => d * 10 ^ ds.length + valN ds
theorem valN_lt : ∀ ds : List Nat, (∀ d ∈ ds, d ≤ 9) → valN ds < 10 ^ ds.length
  | [], _ => by simp [valN]
  | d :: ds, h => by
    have ih := valN_lt ds (fun x hx => h x (by simp [hx]))
    have hd := h d (by simp)
    simp only [valN, List.length_cons, Nat.pow_succ]
    have : d * 10 ^ ds.length ≤ 9 * 10 ^ ds.length := Nat.mul_le_mul_right _ hd
    omega
theorem valN_append (a b : List Nat) : valN (a ++ b) = valN a * 10 ^ b.length + valN b := by
  induction a with
  | nil => simp [valN]
  | cons d a ih =>
    simp only [List.cons_append, valN, List.length_append, ih, Nat.pow_add, Nat.add_mul, Nat.mul_assoc]
    omega
theorem valN_zeros (n : Nat) : valN (List.replicate n 0) = 0 := by
  induction n with
  | zero => rfl
  | succ n ih => simp [List.replicate_succ, valN, ih]

theorem digsOf_cons (c : UInt8) (l : List UInt8) : digsOf (c :: l) = (c.toNat - 48) :: digsOf l := rfl
theorem digB (d : Nat) (h : d ≤ 9) : (UInt8.ofNat (48 + d)).toNat = 48 + d := by
  rw [UInt8.toNat_ofNat']; omega

end Go.Proofs.YtiocgpfnbmlfaaaDoor.QD

/-! ## RS -/
namespace Go.Proofs.YtiocgpfnbmlfaaaDoor.QT
open Go Go.RowKit Go.Proofs.YtiocgpfnbmlfaaaDoor Go.Proofs.YtiocgpfnbmlfaaaDoor.PT Go.Proofs.YtiocgpfnbmlfaaaDoor.QD Go.Proofs.YtiocgpfnbmlfaaaDoorW.PrintWords Go.Proofs.YtiocgpfnbmlfaaaDoorW.PrintLast

theorem ref_plain_f (l : List UInt8) (h : l.length ≤ 100000000) :
    mezzotintref01_plain.f (S l) = some ((sgnL l).1, S (plainL (sgnL l).2).1, ((plainL (sgnL l).2).2.1 : Int), (plainL (sgnL l).2).2.2.1, (plainL (sgnL l).2).2.2.2) := by
  unfold mezzotintref01_plain.f
  rw [S_data, if_pos (by rw [S_size]; exact h)]

/-! ### scaled -/
def ints (l : List Nat) : List Int := l.map (fun (n : Nat) => (n : Int))
theorem ints_len (l : List Nat) : (ints l).length = l.length := by simp [ints]
theorem ints_rd (l : List Nat) (i : Nat) (h : i < l.length) : rd (ints l) (i : Int) = (l.getD i 0 : Nat) := by
  unfold rd ints
  rw [Int.toNat_natCast]
  simp [List.getD, h]
theorem ints_set (l : List Nat) (i v : Nat) : (ints l).set i (v : Int) = ints (l.set i v) := by simp [ints, List.map_set]
theorem ints_snoc (l : List Nat) (v : Nat) : ints l ++ [(v : Int)] = ints (l ++ [v]) := by simp [ints]

theorem l4_ev (V bits kk : Int) (ds : List Nat) (hd : ∀ d ∈ ds, d ≤ 9) (hlen : ds.length < 1000000000) (R : Int × Bool)
    (H : Ev (fun r => mezzotintref01_scaled.l3 r V (ints (dbl ds).2) (wrap64 (wrap64 (bits * 2) + ((dbl ds).1 : Nat))) (wrap64 (kk + 1))) R) :
    ∀ k, k ≤ ds.length → Ev (fun r => mezzotintref01_scaled.l4 r V (ints (mid ds k)) bits kk ((dbl (ds.drop k)).1 : Nat) ((k : Int) - 1)) R := by
  intro k
  induction k with
  | zero =>
    intro _
    refine Ev.step (fun r => ?_) H
    rw [mezzotintref01_scaled.l4, if_neg (by omega), mid_zero, List.drop_zero]
  | succ m ih =>
    intro hm
    obtain ⟨h1, h2, h3⟩ := mid_step ds m hm
    have hml := mid_len ds (m + 1) hm
    have ih' := ih (by omega)
    have hx : ds[m] ≤ 9 := hd _ (by simp)
    have hc := (dbl_le (ds.drop (m + 1)) (fun d hd' => hd d (List.mem_of_mem_drop hd'))).1
    refine Ev.step (fun r => ?_) ih'
    rw [show (((m + 1 : Nat) : Int) - 1) = (m : Int) from by omega]
    rw [mezzotintref01_scaled.l4, if_pos (by omega), if_pos (by omega), if_pos (by rw [ints_len, hml]; omega), ints_rd _ _ (by rw [hml]; omega), h1, h2, ← h3, Int.toNat_natCast]
    generalize ds[m] = x at *
    generalize (dbl (ds.drop (m + 1))).1 = c at *
    have hw : wrap64 (wrap64 ((x : Int) * 2) + (c : Int)) = ((2 * x + c : Nat) : Int) := by rw [w64 ((x : Int) * 2) (by omega) (by omega), w64 _ (by omega) (by omega)]; omega
    rw [hw, td _ _ (by omega), tm _ _ (by omega), w64 ((m : Int) - 1) (by omega) (by omega)]
    rw [show (((2 * x + c : Nat) : Int) % 10) = (((2 * x + c) % 10 : Nat) : Int) from by omega, ints_set, show (((2 * x + c : Nat) : Int) / 10) = (((2 * x + c) / 10 : Nat) : Int) from by omega, w64 _ (by omega) (by omega)]

theorem l3_ev (V : Nat) (hV : V ≤ 99999) (ds : List Nat) (hd : ∀ d ∈ ds, d ≤ 9) (hlen : ds.length < 1000000000) :
    ∀ j kk, kk + j = 17 → Ev (fun r => mezzotintref01_scaled.l3 r V (ints (iterD kk 0 ds).2) ((iterD kk 0 ds).1 : Nat) (kk : Int)) (((V * 65536 + ((iterD 17 0 ds).1 + 1) / 2 : Nat) : Int), true) := by
  intro j
  induction j with
  | zero =>
    intro kk hk
    obtain rfl : kk = 17 := by omega
    have hb := (iterD_ok 17 0 ds hd).2.2
    refine Ev.step (f := fun _ => some (((V * 65536 + ((iterD 17 0 ds).1 + 1) / 2 : Nat) : Int), true)) (fun r => ?_) (Ev.now _)
    rw [mezzotintref01_scaled.l3, if_neg (by omega)]
    generalize (iterD 17 0 ds).1 = B at *
    rw [w64 ((B : Int) + 1) (by omega) (by omega), td _ _ (by omega), w64 ((V : Int) * 65536) (by omega) (by omega), w64 (((B : Int) + 1) / 2) (by omega) (by omega), w64 _ (by omega) (by omega)]
    rw [show ((V : Int) * 65536 + ((B : Int) + 1) / 2) = ((V * 65536 + (B + 1) / 2 : Nat) : Int) from by omega]
  | succ j ih =>
    intro kk hk
    obtain ⟨hl, h9, hb⟩ := iterD_ok kk 0 ds hd
    have hp : (0 + 1) * 2 ^ kk ≤ 1 * 2 ^ 17 := Nat.mul_le_mul_left _ (Nat.pow_le_pow_right (by omega) (by omega))
    have hle := (dbl_le _ h9).1
    have ih' := ih (kk + 1) (by omega)
    rw [iterD_succ] at ih'
    have H := l4_ev (V : Int) ((iterD kk 0 ds).1 : Nat) (kk : Int) (iterD kk 0 ds).2 h9 (by rw [hl]; exact hlen) _ (by
      refine Ev.congr (fun r => ?_) ih'
      rw [w64 (((iterD kk 0 ds).1 : Int) * 2) (by omega) (by omega), w64 _ (by omega) (by omega), w64 _ (by omega) (by omega)]
      rw [show (((iterD kk 0 ds).1 : Int) * 2 + ((dbl (iterD kk 0 ds).2).1 : Int)) = ((2 * (iterD kk 0 ds).1 + (dbl (iterD kk 0 ds).2).1 : Nat) : Int) from by omega]
      rfl) _ (Nat.le_refl _)
    refine Ev.step (fun r => ?_) H
    rw [mezzotintref01_scaled.l3, if_pos (by omega), mid_all, ints_len, List.drop_length, w64 _ (by omega) (by omega)]
    rfl

theorem l2_ev (p : Int) (n : Nat) (hp : ∀ i : Nat, (i : Int) ≥ p ↔ n ≤ i) (V : Int) (D : List UInt8) (hD : D.all isDig = true) (hlen : D.length ≤ 1000000) (R0 : List Nat) (hR0 : R0.length ≤ 1000000) (R : Int × Bool)
    (H : Ev (fun r => mezzotintref01_scaled.l3 r V (ints (R0 ++ digsOf (D.drop n))) 0 0) R) :
    ∀ suf pre : List UInt8, pre ++ suf = D → Ev (fun r => mezzotintref01_scaled.l2 r (S D) p V (ints (R0 ++ digsOf (pre.drop n))) (pre.length : Int)) R := by
  intro suf
  induction suf with
  | nil =>
    intro pre h
    rw [List.append_nil] at h
    subst h
    refine Ev.step (fun r => ?_) H
    rw [mezzotintref01_scaled.l2, if_neg (by rw [S_size]; omega)]
  | cons c suf ih =>
    intro pre h
    have ih' := ih (pre ++ [c]) (by simpa using h)
    have hl : D.length = pre.length + (suf.length + 1) := by rw [← h]; simp
    have hbt := S_bt pre suf c
    rw [h] at hbt
    have hc := (isDig_iff c).1 (List.all_eq_true.1 hD c (by rw [← h]; simp))
    rw [show ((pre ++ [c]).length : Int) = (pre.length : Int) + 1 from by simp] at ih'
    refine Ev.step (fun r => ?_) ih'
    rw [mezzotintref01_scaled.l2, if_pos (by rw [S_size]; omega), w64 _ (by omega) (by omega)]
    by_cases hn : n ≤ pre.length
    · rw [if_pos ((hp _).2 hn), if_pos (by omega), if_pos (by rw [ints_len, List.length_append, digsOf_len, List.length_drop]; omega), hbt]
      rw [show (((c.toNat : Int) - 48) % 256) = ((c.toNat - 48 : Nat) : Int) from by omega, ints_snoc, List.drop_append_of_le_length hn, digsOf_append, List.append_assoc]
      rfl
    · rw [if_neg (fun h => hn ((hp _).1 h)), List.drop_eq_nil_of_le (by omega : pre.length ≤ n), List.drop_eq_nil_of_le (by simp; omega : (pre ++ [c]).length ≤ n)]

theorem l1_ev (m : Nat) (hm : m ≤ 1000000) (V : Int) (D : List UInt8) (R : Int × Bool)
    (H : Ev (fun r => mezzotintref01_scaled.l2 r (S D) (-(m : Int)) V (ints (List.replicate m 0)) 0) R) :
    ∀ j i, i + j = m → Ev (fun r => mezzotintref01_scaled.l1 r (S D) (-(m : Int)) V (ints (List.replicate i 0)) (-(m : Int) + i)) R := by
  intro j
  induction j with
  | zero =>
    intro i h
    obtain rfl : i = m := by omega
    refine Ev.step (fun r => ?_) H
    rw [mezzotintref01_scaled.l1, if_neg (by omega)]
  | succ j ih =>
    intro i h
    refine Ev.step (fun r => ?_) (ih (i + 1) (by omega))
    rw [mezzotintref01_scaled.l1, if_pos (by omega), if_pos (by rw [ints_len, List.length_replicate]; omega), w64 _ (by omega) (by omega)]
    rw [show ints (List.replicate i 0) ++ [(0 : Int)] = ints (List.replicate i 0 ++ [0]) from ints_snoc _ 0, ← List.replicate_succ', show (-(m : Int) + (i : Int) + 1) = -(m : Int) + ((i + 1 : Nat) : Int) from by omega]

theorem valD_mono (a b : List UInt8) : valD a ≤ valD (a ++ b) := by
  rw [valD_append]
  have : valD a * 1 ≤ valD a * 10 ^ b.length := Nat.mul_le_mul_left _ (Nat.pow_pos (by omega))
  omega

theorem l0_ev (p : Int) (n : Nat) (hn : n ≤ 1000000) (hp : ∀ i : Nat, (i : Int) < p ↔ i < n) (D : List UInt8) (hD : D.all isDig = true) (R : Int × Bool)
    (H : valD (aOf D n) ≤ 99999 → Ev (fun r => mezzotintref01_scaled.l1 r (S D) p (valD (aOf D n) : Nat) [] p) R) :
    ∀ j i, i + j = n → valD ((aOf D n).take i) ≤ 99999 →
      Ev (fun r => mezzotintref01_scaled.l0 r (S D) p (valD ((aOf D n).take i) : Nat) (i : Int)) (if 99999 < valD (aOf D n) then (0, false) else R) := by
  have hA := aOf_len D n
  have hAll := aOf_all D n hD
  intro j
  induction j with
  | zero =>
    intro i h hv
    obtain rfl : i = n := by omega
    rw [List.take_of_length_le (by omega)] at hv ⊢
    rw [if_neg (by omega)]
    refine Ev.step (fun r => ?_) (H hv)
    rw [mezzotintref01_scaled.l0, if_neg (fun h => by have := (hp _).1 h; omega)]
  | succ j ih =>
    intro i h hv
    have hi : i < (aOf D n).length := by omega
    have htk : (aOf D n).take (i + 1) = (aOf D n).take i ++ [(aOf D n)[i]] := by rw [List.take_succ_eq_append_getElem hi]
    have hval := valD_snoc ((aOf D n).take i) ((aOf D n)[i])
    rw [← htk] at hval
    have hc := (isDig_iff _).1 (List.all_eq_true.1 hAll _ (List.getElem_mem hi))
    have hmono : valD ((aOf D n).take (i + 1)) ≤ valD (aOf D n) := by
      have := valD_mono ((aOf D n).take (i + 1)) ((aOf D n).drop (i + 1))
      rwa [List.take_append_drop] at this
    -- the two ways in which the reference reads a digit
    have key : ∀ r : Nat, mezzotintref01_scaled.l0 (r + 1) (S D) p (valD ((aOf D n).take i) : Nat) (i : Int) =
        (if (valD ((aOf D n).take (i + 1)) : Int) > 99999 then some (0, false) else mezzotintref01_scaled.l0 r (S D) p (valD ((aOf D n).take (i + 1)) : Nat) (((i + 1 : Nat) : Int))) := by
      intro r
      rw [mezzotintref01_scaled.l0, if_pos ((hp _).2 (by omega)), w64 ((i : Int) + 1) (by omega) (by omega), show ((i : Int) + 1) = ((i + 1 : Nat) : Int) from by omega]
      by_cases hd : i < D.length
      · have hx : (aOf D n)[i] = D[i] := by simp [aOf, List.getElem_append_left hd]
        have hbt : bt (S D) (i : Int) = ((D[i]).toNat : Int) := by
          have := bt_nat (S D) i (by rw [S_size]; exact hd)
          rw [this]; simp [S]
        rw [hx] at hval hc
        rw [if_pos (by rw [S_size]; omega), if_pos (by omega), hbt, w64 ((valD ((aOf D n).take i) : Int) * 10) (by omega) (by omega), w64 _ (by omega) (by omega)]
        rw [show ((valD ((aOf D n).take i) : Int) * 10 + (((D[i]).toNat : Int) - 48) % 256) = (valD ((aOf D n).take (i + 1)) : Int) from by omega]
      · have hx : (aOf D n)[i] = 48 := by simp [aOf, List.getElem_append_right (by omega : D.length ≤ i)]
        rw [hx] at hval
        rw [if_neg (by rw [S_size]; omega), w64 ((valD ((aOf D n).take i) : Int) * 10) (by omega) (by omega), w64 _ (by omega) (by omega)]
        rw [show ((valD ((aOf D n).take i) : Int) * 10 + 0) = (valD ((aOf D n).take (i + 1)) : Int) from by rw [hval]; simp; omega]
    by_cases hv' : valD ((aOf D n).take (i + 1)) ≤ 99999
    · refine Ev.step (fun r => ?_) (ih (i + 1) (by omega) hv')
      rw [key, if_neg (by omega)]
    · rw [if_pos (by omega)]
      refine Ev.step (f := fun _ => some (0, false)) (fun r => ?_) (Ev.now _)
      rw [key, if_pos (by omega)]

theorem scaled_ev (D : List UInt8) (p : Int) (hD : D.all isDig = true) (hlen : D.length ≤ 1000000) (h1 : -1000000 ≤ p) (h2 : p ≤ 1000000) :
    Ev (fun r => mezzotintref01_scaled.f r (S D) p) (sclL (aOf D p.toNat) (bOf D p)) := by
  have hlt : ∀ i : Nat, (i : Int) < p ↔ i < p.toNat := fun i => by omega
  have hge : ∀ i : Nat, (i : Int) ≥ p ↔ p.toNat ≤ i := fun i => by omega
  have hall : (D.drop p.toNat).all isDig = true := by
    rw [List.all_eq_true] at *
    exact fun x hx => hD x (List.mem_of_mem_drop hx)
  have hz : ∀ d ∈ List.replicate (-p).toNat 0 ++ digsOf (D.drop p.toNat), d ≤ 9 := by
    intro d hd
    rcases List.mem_append.1 hd with h | h
    · rw [(List.mem_replicate.1 h).2]; omega
    · exact digs9 _ hall d h
  have hzl : (List.replicate (-p).toNat 0 ++ digsOf (D.drop p.toNat)).length < 1000000000 := by
    rw [List.length_append, List.length_replicate, digsOf_len, List.length_drop]; omega
  have hb : digsOf (bOf D p) = List.replicate (-p).toNat 0 ++ digsOf (D.drop p.toNat) := by rw [bOf, digsOf_append, digsOf_zeros]
  have key : ∀ (V : Int) (R : Int × Bool), Ev (fun r => mezzotintref01_scaled.l3 r V (ints (List.replicate (-p).toNat 0 ++ digsOf (D.drop p.toNat))) 0 0) R → Ev (fun r => mezzotintref01_scaled.l1 r (S D) p V [] p) R := by
    intro V R h3
    have h20 := l2_ev p p.toNat hge V D hD hlen (List.replicate (-p).toNat 0) (by simp; omega) R h3 D [] rfl
    rw [List.drop_nil, show digsOf [] = [] from rfl, List.append_nil, show (([] : List UInt8).length : Int) = 0 from rfl] at h20
    by_cases hp : p < 0
    · have hp' : p = -(((-p).toNat : Nat) : Int) := by omega
      have h1' := l1_ev (-p).toNat (by omega) V D R (by rw [← hp']; exact h20) (-p).toNat 0 (by omega)
      rw [← hp', List.replicate_zero, show ints [] = [] from rfl, show (p + ((0 : Nat) : Int)) = p from by omega] at h1'
      exact h1'
    · have h0 : (-p).toNat = 0 := by omega
      rw [h0, List.replicate_zero, show ints [] = [] from rfl] at h20
      refine Ev.step (fun r => ?_) h20
      rw [mezzotintref01_scaled.l1, if_neg hp]
  unfold sclL
  rw [hb]
  have H := l0_ev p p.toNat (by omega) hlt D hD (((valD (aOf D p.toNat) * 65536 + ((iterD 17 0 (List.replicate (-p).toNat 0 ++ digsOf (D.drop p.toNat))).1 + 1) / 2 : Nat) : Int), true)
    (fun hv => key _ _ (l3_ev (valD (aOf D p.toNat)) hv _ hz hzl 17 0 rfl)) p.toNat 0 (by omega) (by simp [valD])
  rw [List.take_zero, show ((valD [] : Nat) : Int) = 0 from rfl] at H
  exact H

/-! ### signed, whole -/
theorem rfits_f (n : Int) : mezzotintref01_Fits.f n = some (fitsB n) := by
  unfold mezzotintref01_Fits.f fitsB
  split
  · rename_i h; rw [decide_eq_true (show -2147483648 ≤ n from h)]; rfl
  · rename_i h; rw [decide_eq_false (show ¬ -2147483648 ≤ n from h)]; rfl
theorem rsmall_f (n : Int) : mezzotintref01_Small.f n = some (fitsB n) := by
  unfold mezzotintref01_Small.f
  rw [rfits_f]; rfl
theorem rsigned_f (n : Int) (m : Bool) (h1 : -1000000000000 < n) (h2 : n < 1000000000000) : mezzotintref01_signed.f n m = some (sgnR n m) := by
  unfold mezzotintref01_signed.f sgnR
  rw [rfits_f, rfits_f, w64 (-n) (by omega) (by omega)]
  cases m <;> simp only [Option.bind_some, if_true, Bool.false_eq_true, if_false] <;> split <;> simp_all

def wholeE (m : Bool) (D : List UInt8) : Int × Bool :=
  if 4294967296 < valD D then (0, false) else (if m then -(valD D : Int) else valD D, fitsB (if m then -(valD D : Int) else valD D))
def wholeR (l : List UInt8) : Int × Bool :=
  if (sgnL l).2 = [] ∨ (sgnL l).2.all isDig = false then (0, false) else wholeE (sgnL l).1 (sgnL l).2

theorem wl0_ev (m : Bool) (D : List UInt8) (hD : D.all isDig = true) (hlen : D.length ≤ 1000000) : ∀ suf pre : List UInt8, pre ++ suf = D → valD pre ≤ 4294967296 →
    Ev (fun r => mezzotintref01_whole.l0 r m (S D) (valD pre : Nat) (pre.length : Int)) (wholeE m D) := by
  intro suf
  induction suf with
  | nil =>
    intro pre h hv
    rw [List.append_nil] at h
    subst h
    refine Ev.step (f := fun _ => some (wholeE m pre)) (fun r => ?_) (Ev.now _)
    rw [mezzotintref01_whole.l0, if_neg (by rw [S_size]; omega), rsmall_f, rsmall_f, w64 _ (by omega) (by omega)]
    have hw : wholeE m pre = (if m then -(valD pre : Int) else valD pre, fitsB (if m then -(valD pre : Int) else valD pre)) := by unfold wholeE; exact if_neg (by omega)
    rw [hw]
    cases m <;> rfl
  | cons c suf ih =>
    intro pre h hv
    have hl : D.length = pre.length + (suf.length + 1) := by rw [← h]; simp
    have hbt := S_bt pre suf c
    rw [h] at hbt
    have hc := (isDig_iff c).1 (List.all_eq_true.1 hD c (by rw [← h]; simp))
    have hvs := valD_snoc pre c
    have hmono : valD (pre ++ [c]) ≤ valD D := by
      rw [← h, show pre ++ c :: suf = (pre ++ [c]) ++ suf from by simp]
      exact valD_mono _ _
    have key : ∀ r : Nat, mezzotintref01_whole.l0 (r + 1) m (S D) (valD pre : Nat) (pre.length : Int) =
        (if (valD (pre ++ [c]) : Int) > 4294967296 then some (0, false) else mezzotintref01_whole.l0 r m (S D) (valD (pre ++ [c]) : Nat) ((pre ++ [c]).length : Int)) := by
      intro r
      rw [mezzotintref01_whole.l0, if_pos (by rw [S_size]; omega), if_pos (by omega), hbt, w64 ((pre.length : Int) + 1) (by omega) (by omega), w64 ((valD pre : Int) * 10) (by omega) (by omega), w64 _ (by omega) (by omega)]
      rw [show ((valD pre : Int) * 10 + ((c.toNat : Int) - 48) % 256) = (valD (pre ++ [c]) : Int) from by rw [hvs]; omega, show ((pre.length : Int) + 1) = ((pre ++ [c]).length : Int) from by simp]
    by_cases hb : valD (pre ++ [c]) ≤ 4294967296
    · refine Ev.step (fun r => ?_) (ih (pre ++ [c]) (by simpa using h) hb)
      rw [key, if_neg (by omega)]
    · refine Ev.step (f := fun _ => some (wholeE m D)) (fun r => ?_) (Ev.now _)
      rw [key, if_pos (by omega)]
      unfold wholeE
      rw [if_pos (by omega)]

theorem plainL_whole (r : List UInt8) : ((plainL r).2.2.2 = true ∧ (plainL r).2.2.1 = false ↔ ¬ (r = [] ∨ r.all isDig = false)) ∧ (¬ (r = [] ∨ r.all isDig = false) → (plainL r).1 = r) := by
  have hr := (List.takeWhile_append_dropWhile (p := isDig) (l := r)).symm
  have hnil := dropW_nil r
  have hid := takeW_id r
  have h46 : r.all isDig = true → ¬ (ptL (r.dropWhile isDig)).1 = true := by
    intro h; rw [hnil.2 h]; simp [ptL]
  unfold plainL
  by_cases hall : r.all isDig = true
  · rw [if_neg (h46 hall), hid hall, hnil.2 hall]
    refine ⟨?_, fun _ => rfl⟩
    cases r <;> simp [hall]
  · have hd : ¬ r.dropWhile isDig = [] := fun h => hall (hnil.1 h)
    refine ⟨⟨fun h => ?_, fun h => absurd (Or.inr (by simpa using hall)) h⟩, fun h => absurd (Or.inr (by simpa using hall)) h⟩
    split at h
    · simp at h
    · simp [hd] at h

theorem whole_ev (l : List UInt8) (h : l.length ≤ 1000000) : Ev (fun r => mezzotintref01_whole.f r (S l)) (wholeR l) := by
  have hle := sgnL_len l
  obtain ⟨h1, h2⟩ := plainL_whole (sgnL l).2
  have hf : ∀ r, mezzotintref01_whole.f r (S l) = if (plainL (sgnL l).2).2.2.2 = true then mezzotintref01_whole.j0 r (sgnL l).1 (S (plainL (sgnL l).2).1) (plainL (sgnL l).2).2.2.1 else mezzotintref01_whole.j0 r (sgnL l).1 (S (plainL (sgnL l).2).1) true := by
    intro r
    unfold mezzotintref01_whole.f
    rw [ref_plain_f l (by omega)]
    rfl
  refine Ev.congr (fun r => hf r) ?_
  unfold wholeR
  generalize (sgnL l).1 = m at *
  generalize (sgnL l).2 = r at *
  by_cases hb : r = [] ∨ r.all isDig = false
  · rw [if_pos hb]
    have hn := fun hh => (h1.1 hh) hb
    refine Ev.step (f := fun _ => some (0, false)) (fun q => ?_) (Ev.now _)
    by_cases hok : (plainL r).2.2.2 = true
    · have hh : (plainL r).2.2.1 = true := by
        cases hx : (plainL r).2.2.1 with
        | true => rfl
        | false => exact absurd ⟨hok, hx⟩ hn
      rw [if_pos hok, hh, mezzotintref01_whole.j0, if_pos rfl]
    · rw [if_neg hok, mezzotintref01_whole.j0, if_pos rfl]
  · rw [if_neg hb]
    obtain ⟨g1, g2⟩ := h1.2 hb
    rw [g1, g2, h2 hb]
    have hall : r.all isDig = true := by
      cases hx : r.all isDig with
      | true => rfl
      | false => exact absurd (Or.inr hx) hb
    refine Ev.step (fun q => ?_) (wl0_ev m r hall (by omega) r [] rfl (by simp [valD]))
    rw [if_pos rfl, mezzotintref01_whole.j0, if_neg (by decide)]
    rfl

/-! ### the contracts -/
theorem whole_call (l : List UInt8) (h : l.length ≤ 1000000) (w : World) : Calls Tryd.prog 45 #[.string (S l)] w fun e w' => e = .returned (.tuple #[.int .i64 (wholeR l).1, .bool (wholeR l).2]) ∧ Below w.heap.size w w' := by
  obtain ⟨k, hk⟩ := (whole_ev l h).rounds
  refine (mezzotintref01_whole.calls k (S l) _ _ w hk).mono ?_
  rintro e w' ⟨he, hd⟩
  exact ⟨he, by first | exact hd.below | exact hd⟩
theorem scaled_call (D : List UInt8) (p : Int) (hD : D.all isDig = true) (hlen : D.length ≤ 1000000) (h1 : -1000000 ≤ p) (h2 : p ≤ 1000000) (w : World) :
    Calls Tryd.prog 36 #[.string (S D), .int .i64 p] w fun e w' => e = .returned (.tuple #[.int .i64 (sclL (aOf D p.toNat) (bOf D p)).1, .bool (sclL (aOf D p.toNat) (bOf D p)).2]) ∧ Below w.heap.size w w' := by
  obtain ⟨k, hk⟩ := (scaled_ev D p hD hlen h1 h2).rounds
  refine (mezzotintref01_scaled.calls k (S D) p _ _ w hk).mono ?_
  rintro e w' ⟨he, hd⟩
  exact ⟨he, by first | exact hd.below | exact hd⟩
theorem signed_call (n : Int) (m : Bool) (h1 : -1000000000000 < n) (h2 : n < 1000000000000) (w : World) :
    Calls Tryd.prog 37 #[.int .i64 n, .bool m] w fun e w' => e = .returned (.tuple #[.int .i64 (sgnR n m).1, .bool (sgnR n m).2]) ∧ Below w.heap.size w w' := by
  refine (mezzotintref01_signed.calls n m _ _ w (rsigned_f n m h1 h2)).mono ?_
  rintro e w' ⟨he, hd⟩
  exact ⟨he, by first | exact hd.below | exact hd⟩

end Go.Proofs.YtiocgpfnbmlfaaaDoor.QT

/-! ## RT -/
namespace Go.Proofs.YtiocgpfnbmlfaaaDoor.QT
open Go Go.RowKit Go.Proofs.YtiocgpfnbmlfaaaDoor Go.Proofs.YtiocgpfnbmlfaaaDoor.PT Go.Proofs.YtiocgpfnbmlfaaaDoor.QD Go.Proofs.YtiocgpfnbmlfaaaDoorW.PrintWords Go.Proofs.YtiocgpfnbmlfaaaDoorW.PrintLast

/-- no radix: a digits begin the text -/
def NoRad (s : ByteArray) (a : Nat) : Prop :=
  a < 1 ∨ 2 < a ∨ (1 ≤ a ∧ a ≤ 2 ∧ s.size ≤ a + 1) ∨ (∃ (_ : 1 ≤ a) (_ : a ≤ 2) (_ : a + 1 < s.size) (h : a < s.size), (((s[a]'h).toNat : Int) == 35) = false)
theorem NoRad.ways {s : ByteArray} {a : Nat} (h : NoRad s a) :
    (decide (1 ≤ (a : Int)) = false) ∨ (decide (1 ≤ (a : Int)) = true ∧ decide ((a : Int) ≤ 2) = false) ∨
    (decide (1 ≤ (a : Int)) = true ∧ decide ((a : Int) ≤ 2) = true ∧ decide ((a : Int) + 1 < (s.size : Int)) = false) ∨
    (∃ (h : a < s.size), decide (1 ≤ (a : Int)) = true ∧ decide ((a : Int) ≤ 2) = true ∧ decide ((a : Int) + 1 < (s.size : Int)) = true ∧ (((s[a]'h).toNat : Int) == 35) = false) := by
  rcases h with h | h | ⟨h1, h2, h3⟩ | ⟨h1, h2, h3, h, h4⟩
  · exact .inl (by simp; omega)
  · exact .inr (.inl ⟨by simp; omega, by simp; omega⟩)
  · exact .inr (.inr (.inl ⟨by simp; omega, by simp; omega, by simp; omega⟩))
  · exact .inr (.inr (.inr ⟨h, by simp; omega, by simp; omega, by simp; omega, h4⟩))

set_option maxHeartbeats 4000000 in
set_option maxRecDepth 100000 in
theorem rt_long (s : ByteArray) (w : World) (hs : 64 < s.size) :
    Calls Tryd.prog 18 #[.string s] w (RQ 0 0 false 0 w) := by
  have hT := TokBlk.new w
  have hlt := hT.lt
  obtain ⟨⟨c0, c1, c2⟩, f0, f1, f2⟩ := hT.facts
  have hsz : (64 : Int) < (s.size : Int) := by omega
  clear hT
  go_enter Tryd.func18, Tryd.ntmps18
  go_wp2_with fail
  refine bodyPost_ret (v := .tuple #[.agg #[.int .i64 0, .int .i64 0, .string ⟨#[]⟩], .bool false, .int .i64 0]) (by simp [results, Tryd.results18, go_sem, c0, c1, c2]) rfl ⟨rfl, ?_⟩
  exact (Below.refl _ _).alloc (Nat.le_refl _) _

set_option maxHeartbeats 4000000 in
set_option maxRecDepth 100000 in
theorem rt_whole (s : ByteArray) (w : World) (hs : s.size ≤ 64) (a : Nat) (ha : a ≤ 64) (hD : ∀ w, Calls Tryd.prog 43 #[.string s] w fun e w' => e = .returned (.int .i64 (a : Int)) ∧ Below w.heap.size w w') (hno : NoRad s a)
    (n : Int) (hW : ∀ w, Calls Tryd.prog 45 #[.string s] w fun e w' => e = .returned (.tuple #[.int .i64 n, .bool true]) ∧ Below w.heap.size w w') :
    Calls Tryd.prog 18 #[.string s] w (RQ 1 n true 0 w) := by
  have HD := Lib.hid hD
  have HW := Lib.hid hW
  have HN := Lib.hid hno
  have HT := Lib.hid (TokBlk.new w)
  have hsz : ¬ ((64 : Int) < (s.size : Int)) := by omega
  have ha0 : (0 : Int) ≤ (a : Int) := by omega
  have ha1 : (a : Int) ≤ 64 := by omega
  clear hD hW hno
  go_enter Tryd.func18, Tryd.ntmps18
  go_wp2_with fail
  refine (HD.out _).mono ?_
  rintro e w1 ⟨rfl, hb⟩
  have K := Lib.hid (Kept.first HT.out hb)
  clear hb HT
  go_upto_region 4 with fail
  go_cut [51] (fun b wx => b = .bool false ∧ Hid (Kept w wx))
  case first =>
    rcases HN.out.ways with h1 | ⟨h1, h2⟩ | ⟨h1, h2, h3⟩ | ⟨h, h1, h2, h3, h4⟩
    all_goals
      clear HN
      go_wp2_with fail
      go_meet
      exact ⟨rfl, K⟩
  case rest =>
    clear K HN
    obtain ⟨rfl, K⟩ := hcut
    go_wp2_with fail
    refine (HW.out _).mono ?_
    rintro e w2 ⟨rfl, hb⟩
    replace K := Lib.hid (K.out.step hb)
    clear hb
    obtain ⟨⟨c0, c1, c2⟩, f0, f1, f2⟩ := K.out.1.facts
    have hlt := K.out.1.lt
    go_wp2_with fail
    refine bodyPost_ret (v := .tuple #[.agg #[.int .i64 1, .int .i64 n, .string ⟨#[]⟩], .bool true, .int .i64 0]) (by simp [results, Tryd.results18, go_sem, c0, c1, c2]) rfl ⟨rfl, ?_⟩
    exact K.out.done rfl rfl rfl

end Go.Proofs.YtiocgpfnbmlfaaaDoor.QT

/-! ## RU -/
namespace Go.Proofs.YtiocgpfnbmlfaaaDoor.QT
open Go Go.RowKit Go.Proofs.YtiocgpfnbmlfaaaDoor Go.Proofs.YtiocgpfnbmlfaaaDoor.PT Go.Proofs.YtiocgpfnbmlfaaaDoor.QD Go.Proofs.YtiocgpfnbmlfaaaDoorW.PrintWords Go.Proofs.YtiocgpfnbmlfaaaDoorW.PrintLast

/-- an e stands at i, and nowhere ahead -/
def IsE (c : UInt8) : Bool := (c == 101) || (c == 69)
def FirstE (s : ByteArray) (i : Nat) : Prop := (∀ j (h : j < s.size), j < i → IsE (s[j]'h) = false) ∧ (∀ h : i < s.size, IsE (s[i]'h) = true) ∧ i ≤ s.size
theorem FirstE.no {s : ByteArray} {i j : Nat} (H : FirstE s i) (h : j < s.size) (hj : j < i) : (((s[j]'h).toNat : Int) == 101) = false ∧ (((s[j]'h).toNat : Int) == 69) = false := by
  have := H.1 j h hj
  unfold IsE at this
  simp only [Bool.or_eq_false_iff, beq_eq_false_iff_ne, ne_eq] at this
  refine ⟨beq_eq_false_iff_ne.2 fun e => this.1 (UInt8.toNat_inj.1 (by show (s[j]'h).toNat = 101; omega)), beq_eq_false_iff_ne.2 fun e => this.2 (UInt8.toNat_inj.1 (by show (s[j]'h).toNat = 69; omega))⟩
theorem FirstE.yes {s : ByteArray} {i : Nat} (H : FirstE s i) (h : i < s.size) : (s[i]'h) = 101 ∨ (s[i]'h) = 69 := by
  have := H.2.1 h
  unfold IsE at this
  simpa only [Bool.or_eq_true, beq_iff_eq] using this

/-- what comes of a mantissa: kind, number, is it one, error -/
def TailIs (fine fits fits2 : Bool) (v2 : Int) (r : Int × Int × Bool × Int) : Prop :=
  (fine = false ∧ r = (0, 0, false, 0)) ∨ (fine = true ∧ fits = false ∧ r = (0, 0, true, 9)) ∨ (fine = true ∧ fits = true ∧ fits2 = false ∧ r = (0, 0, true, 9)) ∨ (fine = true ∧ fits = true ∧ fits2 = true ∧ r = (2, v2, true, 0))

set_option maxHeartbeats 8000000 in
set_option maxRecDepth 100000 in
theorem rt_noexp (s : ByteArray) (w : World) (hs : s.size ≤ 64) (a : Nat) (ha : a ≤ 64) (hD : ∀ w, Calls Tryd.prog 43 #[.string s] w fun e w' => e = .returned (.int .i64 (a : Int)) ∧ Below w.heap.size w w') (hno : NoRad s a)
    (n : Int) (hW : ∀ w, Calls Tryd.prog 45 #[.string s] w fun e w' => e = .returned (.tuple #[.int .i64 n, .bool false]) ∧ Below w.heap.size w w')
    (i : Nat) (hE : FirstE s i) (x D : ByteArray) (hx : s.extract 0 i = x) (m has fine : Bool) (pt : Int) (hpt : 0 ≤ pt) (hpt2 : pt ≤ 64)
    (hP : ∀ w, Calls Tryd.prog 35 #[.string x] w fun e w' => e = .returned (.tuple #[.bool m, .string D, .int .i64 pt, .bool has, .bool fine]) ∧ Below w.heap.size w w')
    (v v2 : Int) (fits fits2 : Bool)
    (hS : ∀ w, Calls Tryd.prog 36 #[.string D, .int .i64 pt] w fun e w' => e = .returned (.tuple #[.int .i64 v, .bool fits]) ∧ Below w.heap.size w w')
    (hG : ∀ w, Calls Tryd.prog 37 #[.int .i64 v, .bool m] w fun e w' => e = .returned (.tuple #[.int .i64 v2, .bool fits2]) ∧ Below w.heap.size w w')
    (k0 n0 e0 : Int) (ok0 : Bool) (hT : TailIs fine fits fits2 v2 (k0, n0, ok0, e0)) (hi0 : i = s.size) :
    Calls Tryd.prog 18 #[.string s] w (RQ k0 n0 ok0 e0 w) := by
  have HD := Lib.hid hD
  have HW := Lib.hid hW
  have HP := Lib.hid hP
  have HS := Lib.hid hS
  have HG := Lib.hid hG
  have HN := Lib.hid hno
  have HE := Lib.hid hE
  have HR := Lib.hid hT
  have HX := Lib.hid hx
  have HT := Lib.hid (TokBlk.new w)
  have hsz : ¬ ((64 : Int) < (s.size : Int)) := by omega
  have ha0 : (0 : Int) ≤ (a : Int) := by omega
  have ha1 : (a : Int) ≤ 64 := by omega
  have hil := hE.2.2
  have hi := Lib.hid hi0
  clear hD hW hno hP hS hG hE hT hx hi0
  go_enter Tryd.func18, Tryd.ntmps18
  go_wp2_with fail
  refine (HD.out _).mono ?_
  rintro e w1 ⟨rfl, hb⟩
  have K := Lib.hid (Kept.first HT.out hb)
  clear hb HT
  go_upto_region 4 with fail
  go_cut [51] (fun b wx => b = .bool false ∧ Hid (Kept w wx))
  case first =>
    rcases HN.out.ways with h1 | ⟨h1, h2⟩ | ⟨h1, h2, h3⟩ | ⟨h, h1, h2, h3, h4⟩
    all_goals
      clear HN
      go_wp2_with fail
      go_meet
      exact ⟨rfl, K⟩
  clear K HN
  obtain ⟨rfl, K⟩ := hcut
  go_wp2_with fail
  refine (HW.out _).mono ?_
  rintro e w2 ⟨rfl, hb⟩
  replace K := Lib.hid (K.out.step hb)
  clear hb
  go_upto_block 2 with fail
  go_cut [14] (fun v wx => v = .int .i64 (i : Int) ∧ Hid (Kept w wx))
  case first =>
    go_wp2_with fail
    go_loop [14, 15] (fun v p => ∃ k : Nat, k ≤ i ∧ v = .int .i64 (s.size : Int) ∧ p = .int .i64 (k : Int)) (fun _ p => s.size - (intOf p).toNat)
    case atStart => exact ⟨0, Nat.zero_le _, rfl, rfl⟩
    case round =>
      obtain ⟨k, hk, rfl, rfl⟩ := hrel
      by_cases hlt : k < i
      · have hks : k < s.size := by omega
        have hki : (k : Int) < (s.size : Int) := by omega
        obtain ⟨g1, g2⟩ := HE.out.no hks hlt
        go_wp2_with fail
        go_round
        case rel => exact ⟨k + 1, by omega, rfl, by go_num⟩
        case measure => simp [intOf]; omega
      · obtain rfl : k = i := by omega
        clear hlt hk
        have hki : ¬ ((k : Int) < (s.size : Int)) := by have := hi.out; omega
        go_wp2_with fail
        go_meet
        exact ⟨by rw [hi.out], K⟩
  clear K
  obtain ⟨rfl, K⟩ := hcut
  have hi1 : ¬ ((i : Int) < (s.size : Int)) := by have := hi.out; omega
  have hi2 : (0 : Int) ≤ (i : Int) := by omega
  have hi3 : (i : Int) ≤ (s.size : Int) := by omega
  have hx := HX.out
  go_wp2_with fail
  refine (HP.out _).mono ?_
  rintro e w3 ⟨rfl, hb⟩
  replace K := Lib.hid (K.out.step hb)
  clear hb
  clear hx
  rcases HR.out with ⟨rfl, hr⟩ | ⟨rfl, rfl, hr⟩ | ⟨rfl, rfl, rfl, hr⟩ | ⟨rfl, rfl, rfl, hr⟩
  · cases hr
    clear HR
    obtain ⟨⟨c0, c1, c2⟩, f0, f1, f2⟩ := K.out.1.facts
    have hlt := K.out.1.lt
    go_wp2_with fail
    refine bodyPost_ret (v := .tuple #[.agg #[.int .i64 0, .int .i64 0, .string ⟨#[]⟩], .bool false, .int .i64 0]) (by simp [results, Tryd.results18, go_sem, c0, c1, c2]) rfl ⟨rfl, ?_⟩
    exact K.out.done rfl rfl rfl
  · cases hr
    clear HR
    go_wp2_with fail
    refine (HS.out _).mono ?_
    rintro e w4 ⟨rfl, hb⟩
    replace K := Lib.hid (K.out.step hb)
    clear hb
    obtain ⟨⟨c0, c1, c2⟩, f0, f1, f2⟩ := K.out.1.facts
    have hlt := K.out.1.lt
    go_wp2_with fail
    refine bodyPost_ret (v := .tuple #[.agg #[.int .i64 0, .int .i64 0, .string ⟨#[]⟩], .bool true, .int .i64 9]) (by simp [results, Tryd.results18, go_sem, c0, c1, c2]) rfl ⟨rfl, ?_⟩
    exact K.out.done rfl rfl rfl
  · cases hr
    clear HR
    go_wp2_with fail
    refine (HS.out _).mono ?_
    rintro e w4 ⟨rfl, hb⟩
    replace K := Lib.hid (K.out.step hb)
    clear hb
    go_wp2_with fail
    refine (HG.out _).mono ?_
    rintro e w5 ⟨rfl, hb⟩
    replace K := Lib.hid (K.out.step hb)
    clear hb
    obtain ⟨⟨c0, c1, c2⟩, f0, f1, f2⟩ := K.out.1.facts
    have hlt := K.out.1.lt
    go_wp2_with fail
    refine bodyPost_ret (v := .tuple #[.agg #[.int .i64 0, .int .i64 0, .string ⟨#[]⟩], .bool true, .int .i64 9]) (by simp [results, Tryd.results18, go_sem, c0, c1, c2]) rfl ⟨rfl, ?_⟩
    exact K.out.done rfl rfl rfl
  · cases hr
    clear HR
    go_wp2_with fail
    refine (HS.out _).mono ?_
    rintro e w4 ⟨rfl, hb⟩
    replace K := Lib.hid (K.out.step hb)
    clear hb
    go_wp2_with fail
    refine (HG.out _).mono ?_
    rintro e w5 ⟨rfl, hb⟩
    replace K := Lib.hid (K.out.step hb)
    clear hb
    obtain ⟨⟨c0, c1, c2⟩, f0, f1, f2⟩ := K.out.1.facts
    have hlt := K.out.1.lt
    go_wp2_with fail
    refine bodyPost_ret (v := .tuple #[.agg #[.int .i64 2, .int .i64 v2, .string ⟨#[]⟩], .bool true, .int .i64 0]) (by simp [results, Tryd.results18, go_sem, c0, c1, c2]) rfl ⟨rfl, ?_⟩
    exact K.out.done rfl rfl rfl

end Go.Proofs.YtiocgpfnbmlfaaaDoor.QT

/-! ## RV -/
namespace Go.Proofs.YtiocgpfnbmlfaaaDoor.QT
open Go Go.RowKit Go.Proofs.YtiocgpfnbmlfaaaDoor Go.Proofs.YtiocgpfnbmlfaaaDoor.PT Go.Proofs.YtiocgpfnbmlfaaaDoor.QD Go.Proofs.YtiocgpfnbmlfaaaDoorW.PrintWords Go.Proofs.YtiocgpfnbmlfaaaDoorW.PrintLast

/-- p begins with a sign or with none; q is the rest -/
def SignAt (p q : ByteArray) (m sg : Bool) : Prop :=
  (p.size = 0 ∧ q = p ∧ m = false ∧ sg = false) ∨ (∃ (h : 0 < p.size), (p[0]'h) = 45 ∧ p.extract 1 p.size = q ∧ m = true ∧ sg = true) ∨ (∃ (h : 0 < p.size), (p[0]'h) = 43 ∧ p.extract 1 p.size = q ∧ m = false ∧ sg = true) ∨
  (∃ (h : 0 < p.size) (x : UInt8), (p[0]'h) = x ∧ ((x.toNat : Int) == 45) = false ∧ ((x.toNat : Int) == 43) = false ∧ q = p ∧ m = false ∧ sg = false)
theorem num10 (V c : Nat) (hV : V ≤ 1000) (h1 : 48 ≤ c) (h2 : c ≤ 57) : wrap64 (wrap64 ((V : Int) * 10) + ((c : Int) - 48) % 256) = ((10 * V + (c - 48) : Nat) : Int) := by
  rw [w64 ((V : Int) * 10) (by omega) (by omega), w64 _ (by omega) (by omega)]; omega
theorem dig_at (q : ByteArray) (k : Nat) (h : k < q.size) (hq : q.data.toList.all isDig = true) : 48 ≤ (q[k]'h).toNat ∧ (q[k]'h).toNat ≤ 57 :=
  (isDig_iff _).1 (List.all_eq_true.1 hq _ (List.getElem_mem (l := q.data.toList) (n := k) (by rw [← Lib.size_eq]; exact h)))
theorem take_snoc' (q : ByteArray) (k : Nat) (h : k < q.size) : valD (q.data.toList.take (k + 1)) = 10 * valD (q.data.toList.take k) + ((q[k]'h).toNat - 48) := by
  have hl : k < q.data.toList.length := by rw [← Lib.size_eq]; exact h
  rw [List.take_succ_eq_append_getElem hl, valD_snoc]
  rfl

set_option maxHeartbeats 8000000 in
set_option maxRecDepth 100000 in
theorem rt_badexp (s : ByteArray) (w : World) (hs : s.size ≤ 64) (a : Nat) (ha : a ≤ 64) (hD : ∀ w, Calls Tryd.prog 43 #[.string s] w fun e w' => e = .returned (.int .i64 (a : Int)) ∧ Below w.heap.size w w') (hno : NoRad s a)
    (n : Int) (hW : ∀ w, Calls Tryd.prog 45 #[.string s] w fun e w' => e = .returned (.tuple #[.int .i64 n, .bool false]) ∧ Below w.heap.size w w')
    (i : Nat) (p q : ByteArray) (mp sg : Bool) (hi0 : i < s.size) (hp : s.extract (i + 1) s.size = p) (hpq : SignAt p q mp sg) (hE : FirstE s i) (dq : Int) (hQ : ∀ w, Calls Tryd.prog 43 #[.string q] w fun e w' => e = .returned (.int .i64 dq) ∧ Below w.heap.size w w') (hbad : q.size < 1 ∨ (1 ≤ q.size ∧ 3 < q.size) ∨ (1 ≤ q.size ∧ q.size ≤ 3 ∧ ¬ dq = (q.size : Int))) :
    Calls Tryd.prog 18 #[.string s] w (RQ 0 0 false 0 w) := by
  have HD := Lib.hid hD
  have HW := Lib.hid hW
  have HQ := Lib.hid hQ
  have HBA := Lib.hid hbad
  have HN := Lib.hid hno
  have HE := Lib.hid hE
  have HT := Lib.hid (TokBlk.new w)
  have hsz : ¬ ((64 : Int) < (s.size : Int)) := by omega
  have ha0 : (0 : Int) ≤ (a : Int) := by omega
  have ha1 : (a : Int) ≤ 64 := by omega
  have hil := hE.2.2
  have hi := Lib.hid hi0
  have HPP := Lib.hid hp
  have HSG := Lib.hid hpq
  clear hp hpq
  clear hD hW hno hQ hE hbad hi0
  go_enter Tryd.func18, Tryd.ntmps18
  go_wp2_with fail
  refine (HD.out _).mono ?_
  rintro e w1 ⟨rfl, hb⟩
  have K := Lib.hid (Kept.first HT.out hb)
  clear hb HT
  go_upto_region 4 with fail
  go_cut [51] (fun b wx => b = .bool false ∧ Hid (Kept w wx))
  case first => as_aux_lemma =>
    rcases HN.out.ways with h1 | ⟨h1, h2⟩ | ⟨h1, h2, h3⟩ | ⟨h, h1, h2, h3, h4⟩
    all_goals
      clear HN
      go_wp2_with fail
      go_meet
      exact ⟨rfl, K⟩
  clear K HN
  obtain ⟨rfl, K⟩ := hcut
  go_wp2_with fail
  refine (HW.out _).mono ?_
  rintro e w2 ⟨rfl, hb⟩
  replace K := Lib.hid (K.out.step hb)
  clear hb
  go_upto_block 2 with fail
  go_cut [14] (fun v wx => v = .int .i64 (i : Int) ∧ Hid (Kept w wx))
  case first => as_aux_lemma =>
    go_wp2_with fail
    go_loop [14, 15] (fun v p => ∃ k : Nat, k ≤ i ∧ v = .int .i64 (s.size : Int) ∧ p = .int .i64 (k : Int)) (fun _ p => s.size - (intOf p).toNat)
    case atStart => exact ⟨0, Nat.zero_le _, rfl, rfl⟩
    case round =>
      obtain ⟨k, hk, rfl, rfl⟩ := hrel
      by_cases hlt : k < i
      · have hks : k < s.size := by omega
        have hki : (k : Int) < (s.size : Int) := by omega
        obtain ⟨g1, g2⟩ := HE.out.no hks hlt
        go_wp2_with fail
        go_round
        case rel => exact ⟨k + 1, by omega, rfl, by go_num⟩
        case measure => simp [intOf]; omega
      · obtain rfl : k = i := by omega
        clear hlt hk
        have hki : (k : Int) < (s.size : Int) := by have := hi.out; omega
        have hks : k < s.size := by omega
        rcases HE.out.yes hks with g1 | g1
        all_goals
          go_wp2_with fail
          go_meet
          exact ⟨rfl, K⟩
  clear K
  obtain ⟨rfl, K⟩ := hcut
  have hi1 : (i : Int) < (s.size : Int) := by have := hi.out; omega
  have hi2 : (0 : Int) ≤ (i : Int) := by omega
  have hi3 : (i : Int) ≤ (s.size : Int) := by omega
  have hi4 : (0 : Int) ≤ (i : Int) + 1 := by omega
  have hi5 : (i : Int) + 1 ≤ (s.size : Int) := by omega
  have hp := HPP.out
  go_upto_region 40 with fail
  clear hp
  go_cut [159] (fun b wx => b = .bool sg ∧ Hid (Kept w wx))
  case first => as_aux_lemma =>
    rcases HSG.out with ⟨h1, rfl, rfl, rfl⟩ | ⟨h1, h2, h3, rfl, rfl⟩ | ⟨h1, h2, h3, rfl, rfl⟩ | ⟨h1, x, h2, h3, h4, rfl, rfl, rfl⟩
    all_goals
      go_wp2_with fail
      go_meet
      exact ⟨rfl, K⟩
  clear K
  obtain ⟨rfl, K⟩ := hcut
  go_upto_if 159 with fail
  go_cut [17, 18] (fun a b wx => a = .string q ∧ b = .bool mp ∧ Hid (Kept w wx))
  case first => as_aux_lemma =>
    rcases HSG.out with ⟨h1, rfl, rfl, rfl⟩ | ⟨h1, h2, h3, rfl, rfl⟩ | ⟨h1, h2, h3, rfl, rfl⟩ | ⟨h1, x, h2, h3, h4, rfl, rfl, rfl⟩
    all_goals
      go_wp2_with fail
      go_meet
      exact ⟨rfl, rfl, K⟩
  clear K
  obtain ⟨rfl, rfl, K⟩ := hcut
  rcases HBA.out with hb | ⟨hb0, hb⟩ | ⟨hb0, hb1, hb⟩
  · as_aux_lemma =>
    have hb' : decide ((q.size : Int) < 1) = true := decide_eq_true (by omega)
    clear hb HBA
    obtain ⟨⟨c0, c1, c2⟩, f0, f1, f2⟩ := K.out.1.facts
    have hlt := K.out.1.lt
    go_wp2_with fail
    refine bodyPost_ret (v := .tuple #[.agg #[.int .i64 0, .int .i64 0, .string ⟨#[]⟩], .bool false, .int .i64 0]) (by simp [results, Tryd.results18, go_sem, c0, c1, c2]) rfl ⟨rfl, ?_⟩
    exact K.out.done rfl rfl rfl
  · as_aux_lemma =>
    have hb' : decide ((3 : Int) < (q.size : Int)) = true := decide_eq_true (by omega)
    have hb'' : decide ((q.size : Int) < 1) = false := decide_eq_false (by omega)
    clear hb hb0 HBA
    obtain ⟨⟨c0, c1, c2⟩, f0, f1, f2⟩ := K.out.1.facts
    have hlt := K.out.1.lt
    go_wp2_with fail
    refine bodyPost_ret (v := .tuple #[.agg #[.int .i64 0, .int .i64 0, .string ⟨#[]⟩], .bool false, .int .i64 0]) (by simp [results, Tryd.results18, go_sem, c0, c1, c2]) rfl ⟨rfl, ?_⟩
    exact K.out.done rfl rfl rfl
  · as_aux_lemma =>
    have hb' : decide ((3 : Int) < (q.size : Int)) = false := decide_eq_false (by omega)
    have hb'' : decide ((q.size : Int) < 1) = false := decide_eq_false (by omega)
    have hb3 : (dq != (q.size : Int)) = true := by simpa using hb
    clear hb hb0 hb1 HBA
    go_wp2_with fail
    refine (HQ.out _).mono ?_
    rintro e w3 ⟨rfl, hb⟩
    replace K := Lib.hid (K.out.step hb)
    clear hb
    obtain ⟨⟨c0, c1, c2⟩, f0, f1, f2⟩ := K.out.1.facts
    have hlt := K.out.1.lt
    go_wp2_with fail
    refine bodyPost_ret (v := .tuple #[.agg #[.int .i64 0, .int .i64 0, .string ⟨#[]⟩], .bool false, .int .i64 0]) (by simp [results, Tryd.results18, go_sem, c0, c1, c2]) rfl ⟨rfl, ?_⟩
    exact K.out.done rfl rfl rfl

set_option maxHeartbeats 8000000 in
set_option maxRecDepth 100000 in
theorem rt_exp (s : ByteArray) (w : World) (hs : s.size ≤ 64) (a : Nat) (ha : a ≤ 64) (hD : ∀ w, Calls Tryd.prog 43 #[.string s] w fun e w' => e = .returned (.int .i64 (a : Int)) ∧ Below w.heap.size w w') (hno : NoRad s a)
    (n : Int) (hW : ∀ w, Calls Tryd.prog 45 #[.string s] w fun e w' => e = .returned (.tuple #[.int .i64 n, .bool false]) ∧ Below w.heap.size w w')
    (i : Nat) (hE : FirstE s i) (x D : ByteArray) (hx : s.extract 0 i = x) (m has fine : Bool) (pt pw : Int) (hpt : 0 ≤ pt) (hpt2 : pt ≤ 64)
    (hP : ∀ w, Calls Tryd.prog 35 #[.string x] w fun e w' => e = .returned (.tuple #[.bool m, .string D, .int .i64 pt, .bool has, .bool fine]) ∧ Below w.heap.size w w')
    (hpw1 : -1000 < pw) (hpw2 : pw < 1000) (v v2 : Int) (fits fits2 : Bool)
    (hS : ∀ w, Calls Tryd.prog 36 #[.string D, .int .i64 (pt + pw)] w fun e w' => e = .returned (.tuple #[.int .i64 v, .bool fits]) ∧ Below w.heap.size w w')
    (hG : ∀ w, Calls Tryd.prog 37 #[.int .i64 v, .bool m] w fun e w' => e = .returned (.tuple #[.int .i64 v2, .bool fits2]) ∧ Below w.heap.size w w')
    (k0 n0 e0 : Int) (ok0 : Bool) (hT : TailIs fine fits fits2 v2 (k0, n0, ok0, e0)) (hi0 : i < s.size) (p q : ByteArray) (mp sg : Bool) (hp : s.extract (i + 1) s.size = p) (hpq : SignAt p q mp sg) (hQ : ∀ w, Calls Tryd.prog 43 #[.string q] w fun e w' => e = .returned (.int .i64 (q.size : Int)) ∧ Below w.heap.size w w') (hq1 : 1 ≤ q.size) (hq3 : q.size ≤ 3) (hqd : q.data.toList.all isDig = true) (hpw : (if mp = true then -(valD q.data.toList : Int) else (valD q.data.toList : Int)) = pw) :
    Calls Tryd.prog 18 #[.string s] w (RQ k0 n0 ok0 e0 w) := by
  have HD := Lib.hid hD
  have HW := Lib.hid hW
  have HP := Lib.hid hP
  have HS := Lib.hid hS
  have HG := Lib.hid hG
  have HN := Lib.hid hno
  have HE := Lib.hid hE
  have HR := Lib.hid hT
  have HX := Lib.hid hx
  have HT := Lib.hid (TokBlk.new w)
  have hsz : ¬ ((64 : Int) < (s.size : Int)) := by omega
  have ha0 : (0 : Int) ≤ (a : Int) := by omega
  have ha1 : (a : Int) ≤ 64 := by omega
  have hil := hE.2.2
  have hi := Lib.hid hi0
  have HPP := Lib.hid hp
  have HSG := Lib.hid hpq
  clear hp hpq
  have HQ := Lib.hid hQ
  have HQD := Lib.hid hqd
  have HPW := Lib.hid hpw
  clear hQ hqd hpw
  clear hD hW hno hP hS hG hE hT hx hi0
  go_enter Tryd.func18, Tryd.ntmps18
  go_wp2_with fail
  refine (HD.out _).mono ?_
  rintro e w1 ⟨rfl, hb⟩
  have K := Lib.hid (Kept.first HT.out hb)
  clear hb HT
  go_upto_region 4 with fail
  go_cut [51] (fun b wx => b = .bool false ∧ Hid (Kept w wx))
  case first => as_aux_lemma =>
    rcases HN.out.ways with h1 | ⟨h1, h2⟩ | ⟨h1, h2, h3⟩ | ⟨h, h1, h2, h3, h4⟩
    all_goals
      clear HN
      go_wp2_with fail
      go_meet
      exact ⟨rfl, K⟩
  clear K HN
  obtain ⟨rfl, K⟩ := hcut
  go_wp2_with fail
  refine (HW.out _).mono ?_
  rintro e w2 ⟨rfl, hb⟩
  replace K := Lib.hid (K.out.step hb)
  clear hb
  go_upto_block 2 with fail
  go_cut [14] (fun v wx => v = .int .i64 (i : Int) ∧ Hid (Kept w wx))
  case first => as_aux_lemma =>
    go_wp2_with fail
    go_loop [14, 15] (fun v p => ∃ k : Nat, k ≤ i ∧ v = .int .i64 (s.size : Int) ∧ p = .int .i64 (k : Int)) (fun _ p => s.size - (intOf p).toNat)
    case atStart => exact ⟨0, Nat.zero_le _, rfl, rfl⟩
    case round =>
      obtain ⟨k, hk, rfl, rfl⟩ := hrel
      by_cases hlt : k < i
      · have hks : k < s.size := by omega
        have hki : (k : Int) < (s.size : Int) := by omega
        obtain ⟨g1, g2⟩ := HE.out.no hks hlt
        go_wp2_with fail
        go_round
        case rel => exact ⟨k + 1, by omega, rfl, by go_num⟩
        case measure => simp [intOf]; omega
      · obtain rfl : k = i := by omega
        clear hlt hk
        have hki : (k : Int) < (s.size : Int) := by have := hi.out; omega
        have hks : k < s.size := by omega
        rcases HE.out.yes hks with g1 | g1
        all_goals
          go_wp2_with fail
          go_meet
          exact ⟨rfl, K⟩
  clear K
  obtain ⟨rfl, K⟩ := hcut
  have hi1 : (i : Int) < (s.size : Int) := by have := hi.out; omega
  have hi2 : (0 : Int) ≤ (i : Int) := by omega
  have hi3 : (i : Int) ≤ (s.size : Int) := by omega
  have hi4 : (0 : Int) ≤ (i : Int) + 1 := by omega
  have hi5 : (i : Int) + 1 ≤ (s.size : Int) := by omega
  have hp := HPP.out
  go_upto_region 40 with fail
  clear hp
  go_cut [159] (fun b wx => b = .bool sg ∧ Hid (Kept w wx))
  case first => as_aux_lemma =>
    rcases HSG.out with ⟨h1, rfl, rfl, rfl⟩ | ⟨h1, h2, h3, rfl, rfl⟩ | ⟨h1, h2, h3, rfl, rfl⟩ | ⟨h1, x, h2, h3, h4, rfl, rfl, rfl⟩
    all_goals
      go_wp2_with fail
      go_meet
      exact ⟨rfl, K⟩
  clear K
  obtain ⟨rfl, K⟩ := hcut
  go_upto_if 159 with fail
  go_cut [17, 18] (fun a b wx => a = .string q ∧ b = .bool mp ∧ Hid (Kept w wx))
  case first => as_aux_lemma =>
    rcases HSG.out with ⟨h1, rfl, rfl, rfl⟩ | ⟨h1, h2, h3, rfl, rfl⟩ | ⟨h1, h2, h3, rfl, rfl⟩ | ⟨h1, x, h2, h3, h4, rfl, rfl, rfl⟩
    all_goals
      go_wp2_with fail
      go_meet
      exact ⟨rfl, rfl, K⟩
  clear K
  obtain ⟨rfl, rfl, K⟩ := hcut
  have hb' : decide ((3 : Int) < (q.size : Int)) = false := decide_eq_false (by omega)
  have hb'' : decide ((q.size : Int) < 1) = false := decide_eq_false (by omega)
  have hb4 : decide (3 < q.size) = false := decide_eq_false (by omega)
  have hb5 : decide (q.size < 1) = false := decide_eq_false (by omega)
  go_wp2_with fail
  refine (HQ.out _).mono ?_
  rintro e w3 ⟨rfl, hb⟩
  replace K := Lib.hid (K.out.step hb)
  clear hb
  have HQ1 := Lib.hid hq1
  clear hb' hb'' hb4 hb5 hq1
  go_upto_block 4 with fail
  go_cut [16] (fun v wx => v = .int .i64 (valD q.data.toList : Int) ∧ Hid (Kept w wx))
  case first => as_aux_lemma =>
    go_wp2_with fail
    go_loop [16, 19] (fun v p => ∃ k : Nat, k ≤ q.size ∧ v = .int .i64 (valD (q.data.toList.take k) : Int) ∧ p = .int .i64 (k : Int)) (fun _ p => q.size - (intOf p).toNat)
    case atStart => exact ⟨0, Nat.zero_le _, rfl, rfl⟩
    case round =>
      obtain ⟨k, hk, rfl, rfl⟩ := hrel
      by_cases hlt : k < q.size
      · have hki : (k : Int) < (q.size : Int) := by omega
        have HV := Lib.hid (take_snoc' q k hlt)
        have hb2 := valD_1000 q HQD.out (by omega) k (by omega)
        have HC := Lib.hid (dig_at q k hlt HQD.out)
        have HB2 := Lib.hid hb2
        clear hb2
        go_wp2_with fail
        go_round
        case rel => exact ⟨k + 1, by omega, by rw [HV.out, ← num10 _ _ (by have := HB2.out; omega) HC.out.1 HC.out.2], by go_num⟩
        case measure => simp [intOf]; omega
      · obtain rfl : k = q.size := by omega
        have hki : ¬ ((q.size : Int) < (q.size : Int)) := by omega
        go_wp2_with fail
        go_meet
        exact ⟨by rw [List.take_of_length_le (by rw [← Lib.size_eq]; exact Nat.le_refl _)], K⟩
  clear K
  obtain ⟨rfl, K⟩ := hcut
  have hV := valD_1000 q HQD.out (by omega) q.size (Nat.le_refl _)
  rw [List.take_of_length_le (by rw [← Lib.size_eq]; exact Nat.le_refl _)] at hV
  have HPW' := HPW.out
  clear HPW
  generalize valD q.data.toList = V at *
  go_upto_if 195 with fail
  go_cut [16] (fun v wx => v = .int .i64 pw ∧ Hid (Kept w wx))
  case first => as_aux_lemma =>
    cases mp
    · have HPW := Lib.hid HPW'
      clear HPW'
      go_wp2_with fail
      go_meet
      exact ⟨by rw [← HPW.out]; rfl, K⟩
    · have HPW := Lib.hid HPW'
      clear HPW'
      go_wp2_with fail
      go_meet
      exact ⟨by rw [← HPW.out]; rfl, K⟩
  clear K HPW' hV
  obtain ⟨rfl, K⟩ := hcut
  have hx := HX.out
  go_wp2_with fail
  refine (HP.out _).mono ?_
  rintro e w3 ⟨rfl, hb⟩
  replace K := Lib.hid (K.out.step hb)
  clear hb
  clear hx
  rcases HR.out with ⟨rfl, hr⟩ | ⟨rfl, rfl, hr⟩ | ⟨rfl, rfl, rfl, hr⟩ | ⟨rfl, rfl, rfl, hr⟩
  · cases hr
    clear HR
    obtain ⟨⟨c0, c1, c2⟩, f0, f1, f2⟩ := K.out.1.facts
    have hlt := K.out.1.lt
    go_wp2_with fail
    refine bodyPost_ret (v := .tuple #[.agg #[.int .i64 0, .int .i64 0, .string ⟨#[]⟩], .bool false, .int .i64 0]) (by simp [results, Tryd.results18, go_sem, c0, c1, c2]) rfl ⟨rfl, ?_⟩
    exact K.out.done rfl rfl rfl
  · cases hr
    clear HR
    go_wp2_with fail
    refine (HS.out _).mono ?_
    rintro e w4 ⟨rfl, hb⟩
    replace K := Lib.hid (K.out.step hb)
    clear hb
    obtain ⟨⟨c0, c1, c2⟩, f0, f1, f2⟩ := K.out.1.facts
    have hlt := K.out.1.lt
    go_wp2_with fail
    refine bodyPost_ret (v := .tuple #[.agg #[.int .i64 0, .int .i64 0, .string ⟨#[]⟩], .bool true, .int .i64 9]) (by simp [results, Tryd.results18, go_sem, c0, c1, c2]) rfl ⟨rfl, ?_⟩
    exact K.out.done rfl rfl rfl
  · cases hr
    clear HR
    go_wp2_with fail
    refine (HS.out _).mono ?_
    rintro e w4 ⟨rfl, hb⟩
    replace K := Lib.hid (K.out.step hb)
    clear hb
    go_wp2_with fail
    refine (HG.out _).mono ?_
    rintro e w5 ⟨rfl, hb⟩
    replace K := Lib.hid (K.out.step hb)
    clear hb
    obtain ⟨⟨c0, c1, c2⟩, f0, f1, f2⟩ := K.out.1.facts
    have hlt := K.out.1.lt
    go_wp2_with fail
    refine bodyPost_ret (v := .tuple #[.agg #[.int .i64 0, .int .i64 0, .string ⟨#[]⟩], .bool true, .int .i64 9]) (by simp [results, Tryd.results18, go_sem, c0, c1, c2]) rfl ⟨rfl, ?_⟩
    exact K.out.done rfl rfl rfl
  · cases hr
    clear HR
    go_wp2_with fail
    refine (HS.out _).mono ?_
    rintro e w4 ⟨rfl, hb⟩
    replace K := Lib.hid (K.out.step hb)
    clear hb
    go_wp2_with fail
    refine (HG.out _).mono ?_
    rintro e w5 ⟨rfl, hb⟩
    replace K := Lib.hid (K.out.step hb)
    clear hb
    obtain ⟨⟨c0, c1, c2⟩, f0, f1, f2⟩ := K.out.1.facts
    have hlt := K.out.1.lt
    go_wp2_with fail
    refine bodyPost_ret (v := .tuple #[.agg #[.int .i64 2, .int .i64 v2, .string ⟨#[]⟩], .bool true, .int .i64 0]) (by simp [results, Tryd.results18, go_sem, c0, c1, c2]) rfl ⟨rfl, ?_⟩
    exact K.out.done rfl rfl rfl

end Go.Proofs.YtiocgpfnbmlfaaaDoor.QT

/-! ## RW -/
namespace Go.Proofs.YtiocgpfnbmlfaaaDoor.QT
open Go Go.RowKit Go.Proofs.YtiocgpfnbmlfaaaDoor Go.Proofs.YtiocgpfnbmlfaaaDoor.PT Go.Proofs.YtiocgpfnbmlfaaaDoor.QD Go.Proofs.YtiocgpfnbmlfaaaDoorW.PrintWords Go.Proofs.YtiocgpfnbmlfaaaDoorW.PrintLast

theorem Hex_fin : ∀ c : Fin 256, PE.mezzotintref01_Hex.f 5 (c.val : Int) = some (digV c.val : Int) := by decide +kernel
theorem Hex_any (c : UInt8) (w : World) : Calls Tryd.prog 44 #[.int .u8 c.toNat] w fun e w' => e = .returned (.int .i64 (digV c.toNat : Nat)) ∧ Below w.heap.size w w' := by
  refine (PE.mezzotintref01_Hex.calls 5 _ _ w (Hex_fin ⟨c.toNat, c.toNat_lt⟩)).mono ?_
  rintro e w' ⟨rfl, hd⟩
  exact ⟨rfl, by first | exact hd.below | exact hd⟩

/-- the loop's head: behind k digits -/
def RL (base : Nat) (r : List UInt8) (k : Nat) (z : Int) (ov gd : Bool) : Prop :=
  (gd = true ∧ 2 ≤ base ∧ base ≤ 36 ∧ (∀ j, j < k → digV (r.getD j 0).toNat < base) ∧ z = ((radFold base (r.take k)).1 : Nat) ∧ ov = (radFold base (r.take k)).2) ∨ (gd = false ∧ radTail base r = (0, 0, false, 0))
theorem RL.next {base : Nat} {r : List UInt8} {k : Nat} {z : Int} {ov : Bool} (h : RL base r k z ov true) (hk : k < r.length) (d : Nat) (hd : digV (r.getD k 0).toNat = d) (hlt : d < base) (n : Nat) (hn : (n : Int) = z) (st : Nat × Bool)
    (hs : (if 4294967296 ≤ n * base + d then (0, true) else (n * base + d, ov)) = st) : RL base r (k + 1) (st.1 : Int) st.2 true := by
  rcases h with ⟨_, h1, h2, h3, h4, h5⟩ | ⟨h, _⟩
  · refine .inl ⟨rfl, h1, h2, ?_, ?_, ?_⟩
    · intro j hj
      by_cases e : j = k
      · subst e; omega
      · exact h3 j (by omega)
    all_goals
      have hn' : n = (radFold base (r.take k)).1 := by omega
      have hg : r.getD k 0 = r[k] := by rw [List.getD, List.getElem?_eq_getElem hk]; rfl
      rw [List.take_succ_eq_append_getElem hk, radFold_snoc, radStep, ← hg, hd, ← hn', ← h5, ← hs]
  · cases h
theorem RL.bad {base : Nat} {r : List UInt8} {k : Nat} (hk : k < r.length) (d : Nat) (hd : digV (r.getD k 0).toNat = d) (hge : base ≤ d) (k' : Nat) (z' : Int) (ov' : Bool) : RL base r k' z' ov' false := by
  refine .inr ⟨rfl, ?_⟩
  unfold radTail
  rw [if_pos]
  refine .inr (.inr ?_)
  rw [List.any_eq_true]
  have hg : r.getD k 0 = r[k] := by rw [List.getD, List.getElem?_eq_getElem hk]; rfl
  exact ⟨r[k], List.getElem_mem hk, by rw [← hg, hd]; simpa using hge⟩
theorem RL.done {base : Nat} {r : List UInt8} {k : Nat} {z : Int} {ov : Bool} (h : RL base r k z ov true) (hk : k = r.length) : ∃ n : Nat, z = n ∧ n < 4294967296 ∧ radTail base r = radEnd (n, ov) := by
  rcases h with ⟨_, h1, h2, h3, h4, h5⟩ | ⟨h, _⟩
  · subst hk
    rw [List.take_of_length_le (Nat.le_refl _)] at h4 h5
    refine ⟨_, h4, radFold_lt _ _, ?_⟩
    unfold radTail
    rw [if_neg, h5]
    rintro (hh | hh | hh)
    · omega
    · omega
    · rw [List.any_eq_true] at hh
      obtain ⟨c, hc, hcb⟩ := hh
      obtain ⟨j, hj, rfl⟩ := List.mem_iff_getElem.1 hc
      have := h3 j hj
      rw [List.getD, List.getElem?_eq_getElem hj] at this
      simp only [Option.getD_some, decide_eq_true_eq] at this hcb
      omega
  · cases h

set_option maxHeartbeats 8000000 in
set_option maxRecDepth 100000 in
theorem rt_radix (s : ByteArray) (w : World) (hs : s.size ≤ 64) (a : Nat) (ha1 : 1 ≤ a) (ha2 : a ≤ 2) (hD : ∀ w, Calls Tryd.prog 43 #[.string s] w fun e w' => e = .returned (.int .i64 (a : Int)) ∧ Below w.heap.size w w')
    (hsz1 : a + 1 < s.size) (has : a < s.size) (h35 : (s[a]'has) = 35) (h0 : 0 < s.size) (c0 : UInt8) (hc0 : (s[0]'h0) = c0) (b0 base : Nat) (hb0 : ((c0.toNat : Int) - 48) % 256 = (b0 : Int)) (hb09 : b0 ≤ 9)
    (hbase : (a = 1 ∧ base = b0) ∨ (a = 2 ∧ ∃ (h1 : 1 < s.size) (c1 : UInt8) (b1 : Nat), (s[1]'h1) = c1 ∧ ((c1.toNat : Int) - 48) % 256 = (b1 : Int) ∧ b1 ≤ 9 ∧ base = 10 * b0 + b1))
    (r : List UInt8) (hr : r.length + (a + 1) = s.size) (hrs : ∀ j, j < r.length → ∀ h : a + 1 + j < s.size, (s[a + 1 + j]'h) = r.getD j 0)
    (k0 n0 e0 : Int) (ok0 : Bool) (hres : radTail base r = (k0, n0, ok0, e0)) :
    Calls Tryd.prog 18 #[.string s] w (RQ k0 n0 ok0 e0 w) := by
  have HD := Lib.hid hD
  have HB := Lib.hid hbase
  have HRS := Lib.hid hrs
  have HRL := Lib.hid hr
  have HR := Lib.hid hres
  have HT := Lib.hid (TokBlk.new w)
  have hsz : ¬ ((64 : Int) < (s.size : Int)) := by omega
  have g1 : decide ((1 : Int) ≤ (a : Int)) = true := decide_eq_true (by omega)
  have g2 : decide ((a : Int) ≤ 2) = true := decide_eq_true (by omega)
  have g3 : decide ((a : Int) + 1 < (s.size : Int)) = true := decide_eq_true (by omega)
  have g4 : (0 : Int) ≤ (a : Int) := by omega
  have g5 : (a : Int) < (s.size : Int) := by omega
  clear hD hbase hrs hr hres
  go_enter Tryd.func18, Tryd.ntmps18
  go_wp2_with fail
  refine (HD.out _).mono ?_
  rintro e w1 ⟨rfl, hb⟩
  have K := Lib.hid (Kept.first HT.out hb)
  clear hb HT
  go_upto_if 57 with fail
  clear h35 g1 g2
  go_cut [6] (fun v wx => v = .int .i64 (base : Int) ∧ Hid (QD.Kept w wx))
  case first => as_aux_lemma =>
    rcases HB.out with ⟨h1, h2⟩ | ⟨h1, hh1, c1, b1, hc1, hb1, hb19, hb2⟩
    · have H2 := Lib.hid h2
      have h3 : ((a : Int) == 2) = false := beq_eq_false_iff_ne.2 (by omega)
      clear h1 h2
      go_wp2_with fail
      go_meet
      exact ⟨by rw [H2.out], K⟩
    · have H2 := Lib.hid hb2
      have h3 : ((a : Int) == 2) = true := beq_iff_eq.2 (by omega)
      clear h1 hb2
      go_wp2_with fail
      go_meet
      exact ⟨by rw [H2.out]; push_cast; rw [Int.mul_comm], K⟩
  clear K hc0 hb0
  obtain ⟨rfl, K⟩ := hcut
  have hbd : base ≤ 99 := by rcases HB.out with ⟨_, h⟩ | ⟨_, _, _, _, _, _, _, h⟩ <;> omega
  clear HB
  go_upto_region 8 with fail
  go_cut [7] (fun v wx => (∃ g : Bool, v = .bool g ∧ Hid (RL base r 0 0 false g)) ∧ Hid (QD.Kept w wx))
  case first => as_aux_lemma =>
    by_cases hb1 : 2 ≤ base
    · have hd1 : decide ((2 : Int) ≤ (base : Int)) = true := decide_eq_true (by omega)
      by_cases hb2 : base ≤ 36
      · have hd2 : decide ((base : Int) ≤ 36) = true := decide_eq_true (by omega)
        have HX := Lib.hid (show RL base r 0 0 false true from .inl ⟨rfl, hb1, hb2, fun _ h => absurd h (Nat.not_lt_zero _), rfl, rfl⟩)
        clear hb1 hb2
        go_wp2_with fail
        go_meet
        exact ⟨⟨true, rfl, HX⟩, K⟩
      · have hd2 : decide ((base : Int) ≤ 36) = false := decide_eq_false (by omega)
        have HX := Lib.hid (show RL base r 0 0 false false from .inr ⟨rfl, by unfold radTail; rw [if_pos (.inr (.inl (by omega)))]⟩)
        clear hb1 hb2
        go_wp2_with fail
        go_meet
        exact ⟨⟨false, rfl, HX⟩, K⟩
    · have hd1 : decide ((2 : Int) ≤ (base : Int)) = false := decide_eq_false (by omega)
      have HX := Lib.hid (show RL base r 0 0 false false from .inr ⟨rfl, by unfold radTail; rw [if_pos (.inl (by omega))]⟩)
      clear hb1
      go_wp2_with fail
      go_meet
      exact ⟨⟨false, rfl, HX⟩, K⟩
  clear K
  obtain ⟨⟨g, rfl, HI⟩, K⟩ := hcut
  have hbd1 : (0 : Int) ≤ (base : Int) := by omega
  have hbd2 : (base : Int) ≤ 99 := by omega
  clear hbd has hsz1 g3 g4 g5 h0
  go_upto_block 0 with fail
  go_cut [7, 8, 9] (fun v7 v8 v9 wx => (∃ (g : Bool) (z : Int) (ov : Bool), v7 = .bool g ∧ v8 = .int .i64 z ∧ v9 = .bool ov ∧ Hid (∃ k, RL base r k z ov g ∧ (g = true → k = r.length))) ∧ Hid (QD.Kept w wx))
  case first => as_aux_lemma =>
    go_wp2_with fail
    go_loopw [7, 8, 9, 10] (fun v7 v8 v9 v10 wx => ∃ (k : Nat) (g : Bool) (z : Int) (ov : Bool), k ≤ r.length ∧ v7 = .bool g ∧ v8 = .int .i64 z ∧ v9 = .bool ov ∧ v10 = .int .i64 ((a : Int) + 1 + (k : Int)) ∧ Hid (RL base r k z ov g) ∧ Hid (QD.Kept w wx)) (fun _ _ _ p _ => s.size - (intOf p).toNat)
    case atStart => exact ⟨0, g, 0, false, Nat.zero_le _, rfl, rfl, rfl, by simp, HI, K⟩
    case round =>
      clear HI K
      obtain ⟨k, g, z, ov, hk, rfl, rfl, rfl, rfl, HI, K⟩ := hrel
      have hal : a + 1 + r.length = s.size := by have := HRL.out; omega
      cases g with
      | false =>
        by_cases hlt : k < r.length
        · have hd : decide ((a : Int) + 1 + (k : Int) < (s.size : Int)) = true := decide_eq_true (by omega)
          clear hlt hal hk
          go_wp2_with fail
          go_meet
          exact ⟨⟨false, z, ov, rfl, rfl, rfl, ⟨k, HI.out, fun h => by cases h⟩⟩, K⟩
        · have hd : decide ((a : Int) + 1 + (k : Int) < (s.size : Int)) = false := decide_eq_false (by omega)
          clear hlt hal hk
          go_wp2_with fail
          go_meet
          exact ⟨⟨false, z, ov, rfl, rfl, rfl, ⟨k, HI.out, fun h => by cases h⟩⟩, K⟩
      | true =>
        by_cases hlt : k < r.length
        · have hd : decide ((a : Int) + 1 + (k : Int) < (s.size : Int)) = true := decide_eq_true (by omega)
          have hd0 : (0 : Int) ≤ (a : Int) + 1 + (k : Int) := by omega
          have hd1 : (a : Int) + 1 + (k : Int) < (s.size : Int) := by omega
          have hks : a + 1 + k < s.size := by omega
          have hm : s.size - ((a : Int) + 1 + (k : Int) + 1).toNat < s.size - ((a : Int) + 1 + (k : Int)).toNat := by omega
          have HM := Lib.hid hm
          have hc := HRS.out k hlt hks
          obtain ⟨nj, hz, hnj⟩ : ∃ n : Nat, z = n ∧ n < 4294967296 := by
            rcases HI.out with ⟨_, _, _, _, h4, _⟩ | ⟨h, _⟩
            · exact ⟨_, h4, radFold_lt _ _⟩
            · cases h
          subst hz
          have hb36 : base ≤ 36 := by
            rcases HI.out with ⟨_, _, h2, _, _, _⟩ | ⟨h, _⟩
            · exact h2
            · cases h
          generalize hcc : r.getD k 0 = c at *
          have HCC := Lib.hid (show digV (r.getD k 0).toNat = digV c.toNat by rw [hcc])
          have hpr := prod_le nj base hnj hb36
          have hp0 := prod_ge nj base
          have hd99 := digV_le c.toNat
          have HL := Lib.hid hlt
          have HN := Lib.hid hnj
          clear hcc hlt hal hk hm hnj hb36
          go_wp2_with fail
          refine (Hex_any c _).mono ?_
          rintro e wx ⟨rfl, hb⟩
          replace K := Lib.hid (K.out.step hb)
          clear hb
          generalize digV c.toNat = d at *
          by_cases hge : base ≤ d
          · have hdd : decide ((d : Int) < (base : Int)) = false := decide_eq_false (by omega)
            have HX := fun k' z' ov' => RL.bad HL.out d HCC.out hge k' z' ov'
            have HX := Lib.hid HX
            have hdn : decide (d < base) = false := decide_eq_false (by omega)
            by_cases hbig : 4294967296 ≤ nj * base + d
            · have hbb : decide ((4294967296 : Int) ≤ (nj : Int) * (base : Int) + (d : Int)) = true := prod_dec_true hbig
              clear hbig hge
              go_wp2_with fail
              go_roundw
              case rel => exact ⟨k + 1, false, _, _, HL.out, rfl, rfl, rfl, by rw [show (a : Int) + 1 + ((k + 1 : Nat) : Int) = (a : Int) + 1 + (k : Int) + 1 from by omega], HX.out _ _ _, K⟩
              case measure => simpa [intOf] using HM.out
            · have hbb : decide ((4294967296 : Int) ≤ (nj : Int) * (base : Int) + (d : Int)) = false := prod_dec_false hbig
              clear hbig hge
              go_wp2_with fail
              go_roundw
              case rel => exact ⟨k + 1, false, _, _, HL.out, rfl, rfl, rfl, by rw [show (a : Int) + 1 + ((k + 1 : Nat) : Int) = (a : Int) + 1 + (k : Int) + 1 from by omega], HX.out _ _ _, K⟩
              case measure => simpa [intOf] using HM.out
          · have hdd : decide ((d : Int) < (base : Int)) = true := decide_eq_true (by omega)
            have hdn : decide (d < base) = true := decide_eq_true (by omega)
            by_cases hbig : 4294967296 ≤ nj * base + d
            · have hbb : decide ((4294967296 : Int) ≤ (nj : Int) * (base : Int) + (d : Int)) = true := prod_dec_true hbig
              have HX := Lib.hid (HI.out.next HL.out d HCC.out (by omega) nj rfl (0, true) (by rw [if_pos hbig]))
              clear hbig hge
              go_wp2_with fail
              go_roundw
              case rel => exact ⟨k + 1, true, 0, true, HL.out, rfl, rfl, rfl, by rw [show (a : Int) + 1 + ((k + 1 : Nat) : Int) = (a : Int) + 1 + (k : Int) + 1 from by omega], HX, K⟩
              case measure => simpa [intOf] using HM.out
            · have hbb : decide ((4294967296 : Int) ≤ (nj : Int) * (base : Int) + (d : Int)) = false := prod_dec_false hbig
              have HX := Lib.hid (HI.out.next HL.out d HCC.out (by omega) nj rfl (nj * base + d, ov) (by rw [if_neg hbig]))
              clear hbig hge
              go_wp2_with fail
              go_roundw
              case rel => exact ⟨k + 1, true, _, ov, HL.out, rfl, by push_cast; rfl, rfl, by rw [show (a : Int) + 1 + ((k + 1 : Nat) : Int) = (a : Int) + 1 + (k : Int) + 1 from by omega], HX, K⟩
              case measure => simpa [intOf] using HM.out
        · have hd : decide ((a : Int) + 1 + (k : Int) < (s.size : Int)) = false := decide_eq_false (by omega)
          have HKR := Lib.hid (show k = r.length by omega)
          clear hlt hal hk
          go_wp2_with fail
          go_meet
          exact ⟨⟨true, z, ov, rfl, rfl, rfl, ⟨k, HI.out, fun _ => HKR.out⟩⟩, K⟩
  clear K HI
  obtain ⟨⟨gd, z, ov, rfl, rfl, rfl, HI⟩, K⟩ := hcut
  cases gd with
  | false =>
    have hr : (k0, n0, ok0, e0) = ((0 : Int), (0 : Int), false, (0 : Int)) := by
      obtain ⟨k, h, _⟩ := HI.out
      rcases h with ⟨h, _⟩ | ⟨_, h⟩
      · cases h
      · rw [← HR.out, h]
    cases hr
    clear HI HR
    obtain ⟨⟨c0, c1, c2⟩, f0, f1, f2⟩ := K.out.1.facts
    have hlt := K.out.1.lt
    go_wp2_with fail
    refine bodyPost_ret (v := .tuple #[.agg #[.int .i64 0, .int .i64 0, .string ⟨#[]⟩], .bool false, .int .i64 0]) (by simp [results, Tryd.results18, go_sem, c0, c1, c2]) rfl ⟨rfl, ?_⟩
    exact K.out.done rfl rfl rfl
  | true =>
    obtain ⟨n, hz, hn, hres⟩ : ∃ n : Nat, z = n ∧ n < 4294967296 ∧ (k0, n0, ok0, e0) = radEnd (n, ov) := by
      obtain ⟨k, h, hk⟩ := HI.out
      obtain ⟨n, h1, h2, h3⟩ := h.done (hk rfl)
      exact ⟨n, h1, h2, by rw [← h3, HR.out]⟩
    subst hz
    clear HI HR
    cases ov with
    | true =>
      have hr : (k0, n0, ok0, e0) = ((0 : Int), (0 : Int), true, (9 : Int)) := by rw [hres]; rfl
      cases hr
      clear hres hn
      obtain ⟨⟨c0, c1, c2⟩, f0, f1, f2⟩ := K.out.1.facts
      have hlt := K.out.1.lt
      go_wp2_with fail
      refine bodyPost_ret (v := .tuple #[.agg #[.int .i64 0, .int .i64 0, .string ⟨#[]⟩], .bool true, .int .i64 9]) (by simp [results, Tryd.results18, go_sem, c0, c1, c2]) rfl ⟨rfl, ?_⟩
      exact K.out.done rfl rfl rfl
    | false =>
      by_cases hbig : 2147483648 ≤ n
      · have hbb : decide ((2147483648 : Int) ≤ (n : Int)) = true := decide_eq_true (by omega)
        have hr : (k0, n0, ok0, e0) = ((1 : Int), (n : Int) - 4294967296, true, (0 : Int)) := by rw [hres]; simp [radEnd, hbig]
        cases hr
        clear hres hbig
        obtain ⟨⟨c0, c1, c2⟩, f0, f1, f2⟩ := K.out.1.facts
        have hlt := K.out.1.lt
        go_wp2_with fail
        refine bodyPost_ret (v := .tuple #[.agg #[.int .i64 1, .int .i64 ((n : Int) - 4294967296), .string ⟨#[]⟩], .bool true, .int .i64 0]) (by simp [results, Tryd.results18, go_sem, c0, c1, c2]) rfl ⟨rfl, ?_⟩
        exact K.out.done rfl rfl rfl
      · have hbb : decide ((2147483648 : Int) ≤ (n : Int)) = false := decide_eq_false (by omega)
        have hr : (k0, n0, ok0, e0) = ((1 : Int), (n : Int), true, (0 : Int)) := by rw [hres]; simp [radEnd, hbig]
        cases hr
        clear hres hbig
        obtain ⟨⟨c0, c1, c2⟩, f0, f1, f2⟩ := K.out.1.facts
        have hlt := K.out.1.lt
        go_wp2_with fail
        refine bodyPost_ret (v := .tuple #[.agg #[.int .i64 1, .int .i64 (n : Int), .string ⟨#[]⟩], .bool true, .int .i64 0]) (by simp [results, Tryd.results18, go_sem, c0, c1, c2]) rfl ⟨rfl, ?_⟩
        exact K.out.done rfl rfl rfl

end Go.Proofs.YtiocgpfnbmlfaaaDoor.QT
