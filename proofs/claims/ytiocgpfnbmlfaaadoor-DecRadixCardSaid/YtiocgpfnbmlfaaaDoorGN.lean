/- dec.Token: its walks, one for each way through it. -/
import Derived.Test.YtiocgpfnbmlfaaaDoorGK
namespace Go.Proofs.YtiocgpfnbmlfaaaDoor.QD
open Go Go.RowKit Go.Proofs.YtiocgpfnbmlfaaaDoor Go.Proofs.YtiocgpfnbmlfaaaDoorW.PrintWords

/-- what is left of a world below a mark: the result's block, and what was there when the call began -/
def Kept (w wn : World) : Prop := TokBlk w.heap.size wn ∧ Below w.heap.size w wn
theorem Kept.step {w wn wm : World} (h : Kept w wn) (hb : Below wn.heap.size wn wm) : Kept w wm :=
  ⟨h.1.below hb h.1.lt, h.2.trans (hb.mono h.2.size)⟩
theorem Kept.first {w wn : World} {o : Obj} (h : TokBlk w.heap.size (w.alloc o)) (hb : Below (w.alloc o).heap.size (w.alloc o) wn) : Kept w wn :=
  ⟨h.below hb (by simp), below_alloc0 hb⟩
theorem setCell_size (w : World) (a : Addr) (v : Value) : (w.setCell a v).heap.size = w.heap.size := by simp [World.setCell]
/-- the last store, the result's three cells -/
theorem Kept.done {w wn : World} {v0 v1 v2 : Value} {a0 a1 a2 : Addr} (h : Kept w wn) (h0 : a0.block = w.heap.size) (h1 : a1.block = w.heap.size) (h2 : a2.block = w.heap.size) :
    Below w.heap.size w (((wn.setCell a0 v0).setCell a1 v1).setCell a2 v2) :=
  ((h.2.setCell (by omega) _).setCell (by omega) _).setCell (by omega) _

set_option maxHeartbeats 4000000 in
set_option maxRecDepth 100000 in
theorem tok_radix (s : ByteArray) (w : World) (hs : s.size ≤ 64) (kr nr er : Int) (okr : Bool) (hR : ∀ w, Calls Tryd.prog 38 #[.string s] w (RQ kr nr okr er w)) (hok : okr = true)  :
    Calls Tryd.prog 17 #[.string s] w (RQ kr nr true er w) := by
  have HR := Lib.hid hR
  have HT := Lib.hid (TokBlk.new w)
  have hsz : ¬ ((64 : Int) < (s.size : Int)) := by omega
  clear hR
  subst hok
  go_enter Tryd.func17, Tryd.ntmps17
  go_wp2_with fail
  refine (HR.out _).mono ?_
  rintro e w1 ⟨rfl, hb⟩
  have K := Lib.hid (Kept.first HT.out hb)
  clear hb HT
  obtain ⟨⟨c0, c1, c2⟩, f0, f1, f2⟩ := K.out.1.facts
  have hlt := K.out.1.lt
  go_wp2_with fail
  refine bodyPost_ret (v := .tuple #[.agg #[.int .i64 kr, .int .i64 nr, .string ⟨#[]⟩], .bool true, .int .i64 er]) (by simp [results, Tryd.results17, go_sem, c0, c1, c2, hlt]) rfl ⟨rfl, ?_⟩
  exact (K.out.done rfl rfl rfl).alloc (by simp only [setCell_size]; omega) _

set_option maxHeartbeats 4000000 in
set_option maxRecDepth 100000 in
theorem tok_whole (s : ByteArray) (w : World) (hs : s.size ≤ 64) (kr nr er : Int) (okr : Bool) (nw : Int) (okw : Bool) (hR : ∀ w, Calls Tryd.prog 38 #[.string s] w (RQ kr nr okr er w)) (hW : ∀ w, Calls Tryd.prog 39 #[.string s] w fun e w' => e = .returned (.tuple #[.int .i64 nw, .bool okw]) ∧ Below w.heap.size w w') (hokr : okr = false) (hokw : okw = true)  :
    Calls Tryd.prog 17 #[.string s] w (RQ 1 nw true 0 w) := by
  have HR := Lib.hid hR
  have HW := Lib.hid hW
  have HT := Lib.hid (TokBlk.new w)
  have hsz : ¬ ((64 : Int) < (s.size : Int)) := by omega
  clear hR hW
  subst hokr hokw
  go_enter Tryd.func17, Tryd.ntmps17
  go_wp2_with fail
  refine (HR.out _).mono ?_
  rintro e w1 ⟨rfl, hb⟩
  have K := Lib.hid (Kept.first HT.out hb)
  clear hb HT
  go_wp2_with fail
  refine (HW.out _).mono ?_
  rintro e w2 ⟨rfl, hb⟩
  replace K := Lib.hid (K.out.step (below_alloc0 hb))
  clear hb
  obtain ⟨⟨c0, c1, c2⟩, f0, f1, f2⟩ := K.out.1.facts
  have hlt := K.out.1.lt
  go_wp2_with fail
  refine bodyPost_ret (v := .tuple #[.agg #[.int .i64 1, .int .i64 nw, .string ⟨#[]⟩], .bool true, .int .i64 0]) (by simp [results, Tryd.results17, go_sem, c0, c1, c2]) rfl ⟨rfl, ?_⟩
  exact K.out.done rfl rfl rfl

set_option maxHeartbeats 4000000 in
set_option maxRecDepth 100000 in
theorem tok_badexp (s : ByteArray) (w : World) (hs : s.size ≤ 64) (kr nr er : Int) (okr : Bool) (nw : Int) (okw : Bool) (m : Bool) (r : ByteArray) (ix : Int) (q : ByteArray) (np : Int) (okp : Bool) (hR : ∀ w, Calls Tryd.prog 38 #[.string s] w (RQ kr nr okr er w)) (hW : ∀ w, Calls Tryd.prog 39 #[.string s] w fun e w' => e = .returned (.tuple #[.int .i64 nw, .bool okw]) ∧ Below w.heap.size w w') (hS : ∀ w, Calls Tryd.prog 32 #[.string s] w fun e w' => e = .returned (.tuple #[.bool m, .string r]) ∧ Below w.heap.size w w') (hI : ∀ w, Calls Tryd.prog 40 #[.string r, .string ⟨#[101, 69]⟩] w fun e w' => e = .returned (.int .i64 ix) ∧ Below w.heap.size w w') (hP : ∀ w, Calls Tryd.prog 41 #[.string q] w fun e w' => e = .returned (.tuple #[.int .i64 np, .bool okp]) ∧ Below w.heap.size w w') (hokr : okr = false) (hokw : okw = false) (i : Nat) (hix : ix = (i : Int)) (hil : i < r.size) (hrs : r.size ≤ 64) (hq : r.extract (i + 1) r.size = q) (hokp : okp = false)  :
    Calls Tryd.prog 17 #[.string s] w (RQ 0 0 false 0 w) := by
  have HR := Lib.hid hR
  have HW := Lib.hid hW
  have HS := Lib.hid hS
  have HI := Lib.hid hI
  have HP := Lib.hid hP
  have HT := Lib.hid (TokBlk.new w)
  have hsz : ¬ ((64 : Int) < (s.size : Int)) := by omega
  clear hR hW hS hI hP
  subst hokr hokw hix
  have d1 : (0 : Int) ≤ (i : Int) := by omega
  have d2 : (0 : Int) ≤ (i : Int) + 1 := by omega
  have d3 : (i : Int) + 1 ≤ (r.size : Int) := by omega
  have d4 : (i : Int) ≤ (r.size : Int) := by omega
  subst hokp
  go_enter Tryd.func17, Tryd.ntmps17
  go_wp2_with fail
  refine (HR.out _).mono ?_
  rintro e w1 ⟨rfl, hb⟩
  have K := Lib.hid (Kept.first HT.out hb)
  clear hb HT
  go_wp2_with fail
  refine (HW.out _).mono ?_
  rintro e w2 ⟨rfl, hb⟩
  replace K := Lib.hid (K.out.step (below_alloc0 hb))
  clear hb
  go_wp2_with fail
  refine (HS.out _).mono ?_
  rintro e w3 ⟨rfl, hb⟩
  replace K := Lib.hid (K.out.step hb)
  clear hb
  go_wp2_with fail
  refine (HI.out _).mono ?_
  rintro e w4 ⟨rfl, hb⟩
  replace K := Lib.hid (K.out.step hb)
  clear hb
  go_wp2_with fail
  refine (HP.out _).mono ?_
  rintro e w5 ⟨rfl, hb⟩
  replace K := Lib.hid (K.out.step hb)
  clear hb
  obtain ⟨⟨c0, c1, c2⟩, f0, f1, f2⟩ := K.out.1.facts
  have hlt := K.out.1.lt
  go_wp2_with fail
  refine bodyPost_ret (v := .tuple #[.agg #[.int .i64 0, .int .i64 0, .string ⟨#[]⟩], .bool false, .int .i64 0]) (by simp [results, Tryd.results17, go_sem, c0, c1, c2]) rfl ⟨rfl, ?_⟩
  exact K.out.done rfl rfl rfl

set_option maxHeartbeats 4000000 in
set_option maxRecDepth 100000 in
theorem tok_badmant_e (s : ByteArray) (w : World) (hs : s.size ≤ 64) (kr nr er : Int) (okr : Bool) (nw : Int) (okw : Bool) (m : Bool) (r : ByteArray) (ix : Int) (q : ByteArray) (np : Int) (okp : Bool) (r2 ma mb : ByteArray) (mp okm : Bool) (hR : ∀ w, Calls Tryd.prog 38 #[.string s] w (RQ kr nr okr er w)) (hW : ∀ w, Calls Tryd.prog 39 #[.string s] w fun e w' => e = .returned (.tuple #[.int .i64 nw, .bool okw]) ∧ Below w.heap.size w w') (hS : ∀ w, Calls Tryd.prog 32 #[.string s] w fun e w' => e = .returned (.tuple #[.bool m, .string r]) ∧ Below w.heap.size w w') (hI : ∀ w, Calls Tryd.prog 40 #[.string r, .string ⟨#[101, 69]⟩] w fun e w' => e = .returned (.int .i64 ix) ∧ Below w.heap.size w w') (hP : ∀ w, Calls Tryd.prog 41 #[.string q] w fun e w' => e = .returned (.tuple #[.int .i64 np, .bool okp]) ∧ Below w.heap.size w w') (hM : ∀ w, Calls Tryd.prog 33 #[.string r2] w fun e w' => e = .returned (.tuple #[.string ma, .string mb, .bool mp, .bool okm]) ∧ Below w.heap.size w w') (hokr : okr = false) (hokw : okw = false) (i : Nat) (hix : ix = (i : Int)) (hil : i < r.size) (hrs : r.size ≤ 64) (hq : r.extract (i + 1) r.size = q) (hokp : okp = true) (hr2 : r.extract 0 i = r2) (hokm : okm = false)  :
    Calls Tryd.prog 17 #[.string s] w (RQ 0 0 false 0 w) := by
  have HR := Lib.hid hR
  have HW := Lib.hid hW
  have HS := Lib.hid hS
  have HI := Lib.hid hI
  have HP := Lib.hid hP
  have HM := Lib.hid hM
  have HT := Lib.hid (TokBlk.new w)
  have hsz : ¬ ((64 : Int) < (s.size : Int)) := by omega
  clear hR hW hS hI hP hM
  subst hokr hokw hix
  have d1 : (0 : Int) ≤ (i : Int) := by omega
  have d2 : (0 : Int) ≤ (i : Int) + 1 := by omega
  have d3 : (i : Int) + 1 ≤ (r.size : Int) := by omega
  have d4 : (i : Int) ≤ (r.size : Int) := by omega
  subst hokp hokm
  go_enter Tryd.func17, Tryd.ntmps17
  go_wp2_with fail
  refine (HR.out _).mono ?_
  rintro e w1 ⟨rfl, hb⟩
  have K := Lib.hid (Kept.first HT.out hb)
  clear hb HT
  go_wp2_with fail
  refine (HW.out _).mono ?_
  rintro e w2 ⟨rfl, hb⟩
  replace K := Lib.hid (K.out.step (below_alloc0 hb))
  clear hb
  go_wp2_with fail
  refine (HS.out _).mono ?_
  rintro e w3 ⟨rfl, hb⟩
  replace K := Lib.hid (K.out.step hb)
  clear hb
  go_wp2_with fail
  refine (HI.out _).mono ?_
  rintro e w4 ⟨rfl, hb⟩
  replace K := Lib.hid (K.out.step hb)
  clear hb
  go_wp2_with fail
  refine (HP.out _).mono ?_
  rintro e w5 ⟨rfl, hb⟩
  replace K := Lib.hid (K.out.step hb)
  clear hb
  go_wp2_with fail
  refine (HM.out _).mono ?_
  rintro e w6 ⟨rfl, hb⟩
  replace K := Lib.hid (K.out.step hb)
  clear hb
  obtain ⟨⟨c0, c1, c2⟩, f0, f1, f2⟩ := K.out.1.facts
  have hlt := K.out.1.lt
  go_wp2_with fail
  refine bodyPost_ret (v := .tuple #[.agg #[.int .i64 0, .int .i64 0, .string ⟨#[]⟩], .bool false, .int .i64 0]) (by simp [results, Tryd.results17, go_sem, c0, c1, c2]) rfl ⟨rfl, ?_⟩
  exact K.out.done rfl rfl rfl

set_option maxHeartbeats 4000000 in
set_option maxRecDepth 100000 in
theorem tok_big_e (s : ByteArray) (w : World) (hs : s.size ≤ 64) (kr nr er : Int) (okr : Bool) (nw : Int) (okw : Bool) (m : Bool) (r : ByteArray) (ix : Int) (q : ByteArray) (np : Int) (okp : Bool) (r2 ma mb : ByteArray) (mp okm : Bool) (x y : ByteArray) (nv : Int) (okv : Bool) (hR : ∀ w, Calls Tryd.prog 38 #[.string s] w (RQ kr nr okr er w)) (hW : ∀ w, Calls Tryd.prog 39 #[.string s] w fun e w' => e = .returned (.tuple #[.int .i64 nw, .bool okw]) ∧ Below w.heap.size w w') (hS : ∀ w, Calls Tryd.prog 32 #[.string s] w fun e w' => e = .returned (.tuple #[.bool m, .string r]) ∧ Below w.heap.size w w') (hI : ∀ w, Calls Tryd.prog 40 #[.string r, .string ⟨#[101, 69]⟩] w fun e w' => e = .returned (.int .i64 ix) ∧ Below w.heap.size w w') (hP : ∀ w, Calls Tryd.prog 41 #[.string q] w fun e w' => e = .returned (.tuple #[.int .i64 np, .bool okp]) ∧ Below w.heap.size w w') (hM : ∀ w, Calls Tryd.prog 33 #[.string r2] w fun e w' => e = .returned (.tuple #[.string ma, .string mb, .bool mp, .bool okm]) ∧ Below w.heap.size w w') (hH : ∀ w, Calls Tryd.prog 42 #[.string ma, .string mb, .int .i64 np] w (ShQ x y w)) (hV : ∀ w, Calls Tryd.prog 34 #[.bool m, .string x, .string y] w fun e w' => e = .returned (.tuple #[.int .i64 nv, .bool okv]) ∧ Below w.heap.size w w') (hokr : okr = false) (hokw : okw = false) (i : Nat) (hix : ix = (i : Int)) (hil : i < r.size) (hrs : r.size ≤ 64) (hq : r.extract (i + 1) r.size = q) (hokp : okp = true) (hr2 : r.extract 0 i = r2) (hokm : okm = true) (hokv : okv = false)  :
    Calls Tryd.prog 17 #[.string s] w (RQ 0 0 true 9 w) := by
  have HR := Lib.hid hR
  have HW := Lib.hid hW
  have HS := Lib.hid hS
  have HI := Lib.hid hI
  have HP := Lib.hid hP
  have HM := Lib.hid hM
  have HH := Lib.hid hH
  have HV := Lib.hid hV
  have HT := Lib.hid (TokBlk.new w)
  have hsz : ¬ ((64 : Int) < (s.size : Int)) := by omega
  clear hR hW hS hI hP hM hH hV
  subst hokr hokw hix
  have d1 : (0 : Int) ≤ (i : Int) := by omega
  have d2 : (0 : Int) ≤ (i : Int) + 1 := by omega
  have d3 : (i : Int) + 1 ≤ (r.size : Int) := by omega
  have d4 : (i : Int) ≤ (r.size : Int) := by omega
  subst hokp hokm hokv
  go_enter Tryd.func17, Tryd.ntmps17
  go_wp2_with fail
  refine (HR.out _).mono ?_
  rintro e w1 ⟨rfl, hb⟩
  have K := Lib.hid (Kept.first HT.out hb)
  clear hb HT
  go_wp2_with fail
  refine (HW.out _).mono ?_
  rintro e w2 ⟨rfl, hb⟩
  replace K := Lib.hid (K.out.step (below_alloc0 hb))
  clear hb
  go_wp2_with fail
  refine (HS.out _).mono ?_
  rintro e w3 ⟨rfl, hb⟩
  replace K := Lib.hid (K.out.step hb)
  clear hb
  go_wp2_with fail
  refine (HI.out _).mono ?_
  rintro e w4 ⟨rfl, hb⟩
  replace K := Lib.hid (K.out.step hb)
  clear hb
  go_wp2_with fail
  refine (HP.out _).mono ?_
  rintro e w5 ⟨rfl, hb⟩
  replace K := Lib.hid (K.out.step hb)
  clear hb
  go_wp2_with fail
  refine (HM.out _).mono ?_
  rintro e w6 ⟨rfl, hb⟩
  replace K := Lib.hid (K.out.step hb)
  clear hb
  go_wp2_with fail
  refine (HH.out _).mono ?_
  rintro e w7 ⟨rfl, hb⟩
  replace K := Lib.hid (K.out.step hb)
  clear hb
  go_wp2_with fail
  refine (HV.out _).mono ?_
  rintro e w8 ⟨rfl, hb⟩
  replace K := Lib.hid (K.out.step hb)
  clear hb
  obtain ⟨⟨c0, c1, c2⟩, f0, f1, f2⟩ := K.out.1.facts
  have hlt := K.out.1.lt
  go_wp2_with fail
  refine bodyPost_ret (v := .tuple #[.agg #[.int .i64 0, .int .i64 0, .string ⟨#[]⟩], .bool true, .int .i64 9]) (by simp [results, Tryd.results17, go_sem, c0, c1, c2]) rfl ⟨rfl, ?_⟩
  exact K.out.done rfl rfl rfl

set_option maxHeartbeats 4000000 in
set_option maxRecDepth 100000 in
theorem tok_real_e (s : ByteArray) (w : World) (hs : s.size ≤ 64) (kr nr er : Int) (okr : Bool) (nw : Int) (okw : Bool) (m : Bool) (r : ByteArray) (ix : Int) (q : ByteArray) (np : Int) (okp : Bool) (r2 ma mb : ByteArray) (mp okm : Bool) (x y : ByteArray) (nv : Int) (okv : Bool) (hR : ∀ w, Calls Tryd.prog 38 #[.string s] w (RQ kr nr okr er w)) (hW : ∀ w, Calls Tryd.prog 39 #[.string s] w fun e w' => e = .returned (.tuple #[.int .i64 nw, .bool okw]) ∧ Below w.heap.size w w') (hS : ∀ w, Calls Tryd.prog 32 #[.string s] w fun e w' => e = .returned (.tuple #[.bool m, .string r]) ∧ Below w.heap.size w w') (hI : ∀ w, Calls Tryd.prog 40 #[.string r, .string ⟨#[101, 69]⟩] w fun e w' => e = .returned (.int .i64 ix) ∧ Below w.heap.size w w') (hP : ∀ w, Calls Tryd.prog 41 #[.string q] w fun e w' => e = .returned (.tuple #[.int .i64 np, .bool okp]) ∧ Below w.heap.size w w') (hM : ∀ w, Calls Tryd.prog 33 #[.string r2] w fun e w' => e = .returned (.tuple #[.string ma, .string mb, .bool mp, .bool okm]) ∧ Below w.heap.size w w') (hH : ∀ w, Calls Tryd.prog 42 #[.string ma, .string mb, .int .i64 np] w (ShQ x y w)) (hV : ∀ w, Calls Tryd.prog 34 #[.bool m, .string x, .string y] w fun e w' => e = .returned (.tuple #[.int .i64 nv, .bool okv]) ∧ Below w.heap.size w w') (hokr : okr = false) (hokw : okw = false) (i : Nat) (hix : ix = (i : Int)) (hil : i < r.size) (hrs : r.size ≤ 64) (hq : r.extract (i + 1) r.size = q) (hokp : okp = true) (hr2 : r.extract 0 i = r2) (hokm : okm = true) (hokv : okv = true)  :
    Calls Tryd.prog 17 #[.string s] w (RQ 2 nv true 0 w) := by
  have HR := Lib.hid hR
  have HW := Lib.hid hW
  have HS := Lib.hid hS
  have HI := Lib.hid hI
  have HP := Lib.hid hP
  have HM := Lib.hid hM
  have HH := Lib.hid hH
  have HV := Lib.hid hV
  have HT := Lib.hid (TokBlk.new w)
  have hsz : ¬ ((64 : Int) < (s.size : Int)) := by omega
  clear hR hW hS hI hP hM hH hV
  subst hokr hokw hix
  have d1 : (0 : Int) ≤ (i : Int) := by omega
  have d2 : (0 : Int) ≤ (i : Int) + 1 := by omega
  have d3 : (i : Int) + 1 ≤ (r.size : Int) := by omega
  have d4 : (i : Int) ≤ (r.size : Int) := by omega
  subst hokp hokm hokv
  go_enter Tryd.func17, Tryd.ntmps17
  go_wp2_with fail
  refine (HR.out _).mono ?_
  rintro e w1 ⟨rfl, hb⟩
  have K := Lib.hid (Kept.first HT.out hb)
  clear hb HT
  go_wp2_with fail
  refine (HW.out _).mono ?_
  rintro e w2 ⟨rfl, hb⟩
  replace K := Lib.hid (K.out.step (below_alloc0 hb))
  clear hb
  go_wp2_with fail
  refine (HS.out _).mono ?_
  rintro e w3 ⟨rfl, hb⟩
  replace K := Lib.hid (K.out.step hb)
  clear hb
  go_wp2_with fail
  refine (HI.out _).mono ?_
  rintro e w4 ⟨rfl, hb⟩
  replace K := Lib.hid (K.out.step hb)
  clear hb
  go_wp2_with fail
  refine (HP.out _).mono ?_
  rintro e w5 ⟨rfl, hb⟩
  replace K := Lib.hid (K.out.step hb)
  clear hb
  go_wp2_with fail
  refine (HM.out _).mono ?_
  rintro e w6 ⟨rfl, hb⟩
  replace K := Lib.hid (K.out.step hb)
  clear hb
  go_wp2_with fail
  refine (HH.out _).mono ?_
  rintro e w7 ⟨rfl, hb⟩
  replace K := Lib.hid (K.out.step hb)
  clear hb
  go_wp2_with fail
  refine (HV.out _).mono ?_
  rintro e w8 ⟨rfl, hb⟩
  replace K := Lib.hid (K.out.step hb)
  clear hb
  obtain ⟨⟨c0, c1, c2⟩, f0, f1, f2⟩ := K.out.1.facts
  have hlt := K.out.1.lt
  go_wp2_with fail
  refine bodyPost_ret (v := .tuple #[.agg #[.int .i64 2, .int .i64 nv, .string ⟨#[]⟩], .bool true, .int .i64 0]) (by simp [results, Tryd.results17, go_sem, c0, c1, c2]) rfl ⟨rfl, ?_⟩
  exact K.out.done rfl rfl rfl

set_option maxHeartbeats 4000000 in
set_option maxRecDepth 100000 in
theorem tok_badmant (s : ByteArray) (w : World) (hs : s.size ≤ 64) (kr nr er : Int) (okr : Bool) (nw : Int) (okw : Bool) (m : Bool) (r : ByteArray) (ix : Int) (r2 ma mb : ByteArray) (mp okm : Bool) (hR : ∀ w, Calls Tryd.prog 38 #[.string s] w (RQ kr nr okr er w)) (hW : ∀ w, Calls Tryd.prog 39 #[.string s] w fun e w' => e = .returned (.tuple #[.int .i64 nw, .bool okw]) ∧ Below w.heap.size w w') (hS : ∀ w, Calls Tryd.prog 32 #[.string s] w fun e w' => e = .returned (.tuple #[.bool m, .string r]) ∧ Below w.heap.size w w') (hI : ∀ w, Calls Tryd.prog 40 #[.string r, .string ⟨#[101, 69]⟩] w fun e w' => e = .returned (.int .i64 ix) ∧ Below w.heap.size w w') (hM : ∀ w, Calls Tryd.prog 33 #[.string r2] w fun e w' => e = .returned (.tuple #[.string ma, .string mb, .bool mp, .bool okm]) ∧ Below w.heap.size w w') (hokr : okr = false) (hokw : okw = false) (hix : ix < 0) (hokm : okm = false) (hr2 : r = r2)  :
    Calls Tryd.prog 17 #[.string s] w (RQ 0 0 false 0 w) := by
  have HR := Lib.hid hR
  have HW := Lib.hid hW
  have HS := Lib.hid hS
  have HI := Lib.hid hI
  have HM := Lib.hid hM
  have HT := Lib.hid (TokBlk.new w)
  have hsz : ¬ ((64 : Int) < (s.size : Int)) := by omega
  clear hR hW hS hI hM
  subst hokr hokw
  have d1 : ¬ ((0 : Int) ≤ ix) := by omega
  subst hokm hr2
  go_enter Tryd.func17, Tryd.ntmps17
  go_wp2_with fail
  refine (HR.out _).mono ?_
  rintro e w1 ⟨rfl, hb⟩
  have K := Lib.hid (Kept.first HT.out hb)
  clear hb HT
  go_wp2_with fail
  refine (HW.out _).mono ?_
  rintro e w2 ⟨rfl, hb⟩
  replace K := Lib.hid (K.out.step (below_alloc0 hb))
  clear hb
  go_wp2_with fail
  refine (HS.out _).mono ?_
  rintro e w3 ⟨rfl, hb⟩
  replace K := Lib.hid (K.out.step hb)
  clear hb
  go_wp2_with fail
  refine (HI.out _).mono ?_
  rintro e w4 ⟨rfl, hb⟩
  replace K := Lib.hid (K.out.step hb)
  clear hb
  go_wp2_with fail
  refine (HM.out _).mono ?_
  rintro e w5 ⟨rfl, hb⟩
  replace K := Lib.hid (K.out.step hb)
  clear hb
  obtain ⟨⟨c0, c1, c2⟩, f0, f1, f2⟩ := K.out.1.facts
  have hlt := K.out.1.lt
  go_wp2_with fail
  refine bodyPost_ret (v := .tuple #[.agg #[.int .i64 0, .int .i64 0, .string ⟨#[]⟩], .bool false, .int .i64 0]) (by simp [results, Tryd.results17, go_sem, c0, c1, c2]) rfl ⟨rfl, ?_⟩
  exact K.out.done rfl rfl rfl

set_option maxHeartbeats 4000000 in
set_option maxRecDepth 100000 in
theorem tok_big (s : ByteArray) (w : World) (hs : s.size ≤ 64) (kr nr er : Int) (okr : Bool) (nw : Int) (okw : Bool) (m : Bool) (r : ByteArray) (ix : Int) (r2 ma mb : ByteArray) (mp okm : Bool) (x y : ByteArray) (nv : Int) (okv : Bool) (hR : ∀ w, Calls Tryd.prog 38 #[.string s] w (RQ kr nr okr er w)) (hW : ∀ w, Calls Tryd.prog 39 #[.string s] w fun e w' => e = .returned (.tuple #[.int .i64 nw, .bool okw]) ∧ Below w.heap.size w w') (hS : ∀ w, Calls Tryd.prog 32 #[.string s] w fun e w' => e = .returned (.tuple #[.bool m, .string r]) ∧ Below w.heap.size w w') (hI : ∀ w, Calls Tryd.prog 40 #[.string r, .string ⟨#[101, 69]⟩] w fun e w' => e = .returned (.int .i64 ix) ∧ Below w.heap.size w w') (hM : ∀ w, Calls Tryd.prog 33 #[.string r2] w fun e w' => e = .returned (.tuple #[.string ma, .string mb, .bool mp, .bool okm]) ∧ Below w.heap.size w w') (hH : ∀ w, Calls Tryd.prog 42 #[.string ma, .string mb, .int .i64 0] w (ShQ x y w)) (hV : ∀ w, Calls Tryd.prog 34 #[.bool m, .string x, .string y] w fun e w' => e = .returned (.tuple #[.int .i64 nv, .bool okv]) ∧ Below w.heap.size w w') (hokr : okr = false) (hokw : okw = false) (hix : ix < 0) (hokm : okm = true) (hokv : okv = false) (hr2 : r = r2)  :
    Calls Tryd.prog 17 #[.string s] w (RQ 0 0 true 9 w) := by
  have HR := Lib.hid hR
  have HW := Lib.hid hW
  have HS := Lib.hid hS
  have HI := Lib.hid hI
  have HM := Lib.hid hM
  have HH := Lib.hid hH
  have HV := Lib.hid hV
  have HT := Lib.hid (TokBlk.new w)
  have hsz : ¬ ((64 : Int) < (s.size : Int)) := by omega
  clear hR hW hS hI hM hH hV
  subst hokr hokw
  have d1 : ¬ ((0 : Int) ≤ ix) := by omega
  subst hokm hokv hr2
  go_enter Tryd.func17, Tryd.ntmps17
  go_wp2_with fail
  refine (HR.out _).mono ?_
  rintro e w1 ⟨rfl, hb⟩
  have K := Lib.hid (Kept.first HT.out hb)
  clear hb HT
  go_wp2_with fail
  refine (HW.out _).mono ?_
  rintro e w2 ⟨rfl, hb⟩
  replace K := Lib.hid (K.out.step (below_alloc0 hb))
  clear hb
  go_wp2_with fail
  refine (HS.out _).mono ?_
  rintro e w3 ⟨rfl, hb⟩
  replace K := Lib.hid (K.out.step hb)
  clear hb
  go_wp2_with fail
  refine (HI.out _).mono ?_
  rintro e w4 ⟨rfl, hb⟩
  replace K := Lib.hid (K.out.step hb)
  clear hb
  go_wp2_with fail
  refine (HM.out _).mono ?_
  rintro e w5 ⟨rfl, hb⟩
  replace K := Lib.hid (K.out.step hb)
  clear hb
  go_wp2_with fail
  refine (HH.out _).mono ?_
  rintro e w6 ⟨rfl, hb⟩
  replace K := Lib.hid (K.out.step hb)
  clear hb
  go_wp2_with fail
  refine (HV.out _).mono ?_
  rintro e w7 ⟨rfl, hb⟩
  replace K := Lib.hid (K.out.step hb)
  clear hb
  obtain ⟨⟨c0, c1, c2⟩, f0, f1, f2⟩ := K.out.1.facts
  have hlt := K.out.1.lt
  go_wp2_with fail
  refine bodyPost_ret (v := .tuple #[.agg #[.int .i64 0, .int .i64 0, .string ⟨#[]⟩], .bool true, .int .i64 9]) (by simp [results, Tryd.results17, go_sem, c0, c1, c2]) rfl ⟨rfl, ?_⟩
  exact K.out.done rfl rfl rfl

set_option maxHeartbeats 4000000 in
set_option maxRecDepth 100000 in
theorem tok_real (s : ByteArray) (w : World) (hs : s.size ≤ 64) (kr nr er : Int) (okr : Bool) (nw : Int) (okw : Bool) (m : Bool) (r : ByteArray) (ix : Int) (r2 ma mb : ByteArray) (mp okm : Bool) (x y : ByteArray) (nv : Int) (okv : Bool) (hR : ∀ w, Calls Tryd.prog 38 #[.string s] w (RQ kr nr okr er w)) (hW : ∀ w, Calls Tryd.prog 39 #[.string s] w fun e w' => e = .returned (.tuple #[.int .i64 nw, .bool okw]) ∧ Below w.heap.size w w') (hS : ∀ w, Calls Tryd.prog 32 #[.string s] w fun e w' => e = .returned (.tuple #[.bool m, .string r]) ∧ Below w.heap.size w w') (hI : ∀ w, Calls Tryd.prog 40 #[.string r, .string ⟨#[101, 69]⟩] w fun e w' => e = .returned (.int .i64 ix) ∧ Below w.heap.size w w') (hM : ∀ w, Calls Tryd.prog 33 #[.string r2] w fun e w' => e = .returned (.tuple #[.string ma, .string mb, .bool mp, .bool okm]) ∧ Below w.heap.size w w') (hH : ∀ w, Calls Tryd.prog 42 #[.string ma, .string mb, .int .i64 0] w (ShQ x y w)) (hV : ∀ w, Calls Tryd.prog 34 #[.bool m, .string x, .string y] w fun e w' => e = .returned (.tuple #[.int .i64 nv, .bool okv]) ∧ Below w.heap.size w w') (hokr : okr = false) (hokw : okw = false) (hix : ix < 0) (hokm : okm = true) (hokv : okv = true) (hr2 : r = r2)  :
    Calls Tryd.prog 17 #[.string s] w (RQ 2 nv true 0 w) := by
  have HR := Lib.hid hR
  have HW := Lib.hid hW
  have HS := Lib.hid hS
  have HI := Lib.hid hI
  have HM := Lib.hid hM
  have HH := Lib.hid hH
  have HV := Lib.hid hV
  have HT := Lib.hid (TokBlk.new w)
  have hsz : ¬ ((64 : Int) < (s.size : Int)) := by omega
  clear hR hW hS hI hM hH hV
  subst hokr hokw
  have d1 : ¬ ((0 : Int) ≤ ix) := by omega
  subst hokm hokv hr2
  go_enter Tryd.func17, Tryd.ntmps17
  go_wp2_with fail
  refine (HR.out _).mono ?_
  rintro e w1 ⟨rfl, hb⟩
  have K := Lib.hid (Kept.first HT.out hb)
  clear hb HT
  go_wp2_with fail
  refine (HW.out _).mono ?_
  rintro e w2 ⟨rfl, hb⟩
  replace K := Lib.hid (K.out.step (below_alloc0 hb))
  clear hb
  go_wp2_with fail
  refine (HS.out _).mono ?_
  rintro e w3 ⟨rfl, hb⟩
  replace K := Lib.hid (K.out.step hb)
  clear hb
  go_wp2_with fail
  refine (HI.out _).mono ?_
  rintro e w4 ⟨rfl, hb⟩
  replace K := Lib.hid (K.out.step hb)
  clear hb
  go_wp2_with fail
  refine (HM.out _).mono ?_
  rintro e w5 ⟨rfl, hb⟩
  replace K := Lib.hid (K.out.step hb)
  clear hb
  go_wp2_with fail
  refine (HH.out _).mono ?_
  rintro e w6 ⟨rfl, hb⟩
  replace K := Lib.hid (K.out.step hb)
  clear hb
  go_wp2_with fail
  refine (HV.out _).mono ?_
  rintro e w7 ⟨rfl, hb⟩
  replace K := Lib.hid (K.out.step hb)
  clear hb
  obtain ⟨⟨c0, c1, c2⟩, f0, f1, f2⟩ := K.out.1.facts
  have hlt := K.out.1.lt
  go_wp2_with fail
  refine bodyPost_ret (v := .tuple #[.agg #[.int .i64 2, .int .i64 nv, .string ⟨#[]⟩], .bool true, .int .i64 0]) (by simp [results, Tryd.results17, go_sem, c0, c1, c2]) rfl ⟨rfl, ?_⟩
  exact K.out.done rfl rfl rfl

set_option maxHeartbeats 4000000 in
set_option maxRecDepth 100000 in
theorem tok_long (s : ByteArray) (w : World) (hs : 64 < s.size) :
    Calls Tryd.prog 17 #[.string s] w (RQ 0 0 false 0 w) := by
  have hT := TokBlk.new w
  have hlt := hT.lt
  obtain ⟨⟨c0, c1, c2⟩, f0, f1, f2⟩ := hT.facts
  have hsz : (64 : Int) < (s.size : Int) := by omega
  clear hT
  go_enter Tryd.func17, Tryd.ntmps17
  go_wp2_with fail
  refine bodyPost_ret (v := .tuple #[.agg #[.int .i64 0, .int .i64 0, .string ⟨#[]⟩], .bool false, .int .i64 0]) (by simp [results, Tryd.results17, go_sem, c0, c1, c2]) rfl ⟨rfl, ?_⟩
  exact (Below.refl _ _).alloc (Nat.le_refl _) _

end Go.Proofs.YtiocgpfnbmlfaaaDoor.QD
