/- dec.shift: its walk. What dec.Token answers, in plain words. dec.Token: its walks, one for each way through it. dec.Token in plain words, in the printed form. The value of decimal digits, exactly: what doubling them 17 times counts. Made by a program of this session (wip/given.py) out of the translation: Lean functions for the Go functions, with the walks that show it; of a law: its row, at every input, no condition of its own. Made by a program of this session (wip/given.py) out of the translation: Lean functions for the Go functions, with the walks that show it; of a law: its row, at every input, no condition of its own. The reference's Dec (a whole number's digits): its contract in plain words. The law DecPowers in plain words: an exponent moves the decimal point. The law DecPowers: its walk, by hand (every answer is the wanted one). The law DecPowers at every input. -/
import Derived.Test.YtiocgpfnbmlfaaaDoorBP0
import Derived.Test.YtiocgpfnbmlfaaaDoorBP1
import Derived.Deep.RegionWith
import Derived.Test.YtiocgpfnbmlfaaaDoorProg
import Derived.Below
import Derived.Deep.Draws
import Derived.Deep.AppendLies
import Derived.Maps.AppendAt
import Derived.OwnWalk
import Derived.Laws.BytesArg
import Derived.Laws.MakeOwn
import Derived.Laws.OwnMore
import Derived.Deep.OwnRows
import Derived.Tactics
import Derived.Lib.ConvBytes
import Derived.Laws.Slices
import Derived.WalkKit
import Derived.KernelRfl
import Derived.RowKit3
import Derived.Deep.LoopGhost
import Derived.Deep.QuietTactic
import Derived.BigQuiet
import Derived.WideLaws
import Derived.Deep.DeepCutAuto
import Derived.Deep.CutBlock
import Derived.Deep.RegionHeld3
import Derived.Laws.Rows
import Derived.Lib.AppendStr
import Derived.ArgAppend
import Derived.Laws.IdiomCopy
import Derived.OrdersHeld
import Derived.Laws.BitsLemmas
import Derived.RowKit
import Derived.Test.YtiocgpfnbmlfaaaDoorWWords
import Derived.Test.YtiocgpfnbmlfaaaDoorWLast
import Derived.Test.YtiocgpfnbmlfaaaDoorWTab
import Derived.Test.YtiocgpfnbmlfaaaDoorWFour
import Derived.Test.YtiocgpfnbmlfaaaDoorWQPut
import Derived.Test.YtiocgpfnbmlfaaaDoorWApart
import Derived.Test.YtiocgpfnbmlfaaaDoorWArr
import Derived.Test.YtiocgpfnbmlfaaaDoorWZeros
import Derived.Test.YtiocgpfnbmlfaaaDoorWFoot
import Derived.Test.YtiocgpfnbmlfaaaDoorWKept
import Derived.Test.YtiocgpfnbmlfaaaDoorWShare
import Derived.Test.YtiocgpfnbmlfaaaDoorWN
import Derived.Test.YtiocgpfnbmlfaaaDoorWFootNe
import Derived.Test.YtiocgpfnbmlfaaaDoorWAt
import Derived.Test.YtiocgpfnbmlfaaaDoorWEqStruct
import Derived.Test.YtiocgpfnbmlfaaaDoorWRepsOne
import Derived.Test.YtiocgpfnbmlfaaaDoorWInv
import Derived.Test.YtiocgpfnbmlfaaaDoorWInvWords
import Derived.Test.YtiocgpfnbmlfaaaDoorWGuard
import Derived.Test.YtiocgpfnbmlfaaaDoorWNEv
import Derived.Test.YtiocgpfnbmlfaaaDoorWMore

/-! ## GK -/
namespace Go.Proofs.YtiocgpfnbmlfaaaDoor.QD
open Go Go.RowKit Go.Proofs.YtiocgpfnbmlfaaaDoor Go.Proofs.YtiocgpfnbmlfaaaDoorW.PrintWords

/-- the digits ahead of the point, with noughts where they do not reach -/
def aOf (D : List UInt8) (n : Nat) : List UInt8 := (D ++ List.replicate n 48).take n
theorem aOf_len (D : List UInt8) (n : Nat) : (aOf D n).length = n := by simp [aOf]
theorem aOf_all (D : List UInt8) (n : Nat) (hD : D.all isDig = true) : (aOf D n).all isDig = true := by
  rw [List.all_eq_true] at *
  intro x hx
  have := List.mem_of_mem_take hx
  rcases List.mem_append.1 this with h | h
  · exact hD x h
  · rw [(List.mem_replicate.1 h).2]; decide
/-- the digits behind the point -/
def bOf (D : List UInt8) (p : Int) : List UInt8 := List.replicate (-p).toNat 48 ++ D.drop p.toNat
theorem bOf_all (D : List UInt8) (p : Int) (hD : D.all isDig = true) : (bOf D p).all isDig = true := by
  rw [List.all_eq_true] at *
  intro x hx
  rcases List.mem_append.1 hx with h | h
  · rw [(List.mem_replicate.1 h).2]; decide
  · exact hD x (List.mem_of_mem_drop h)
theorem bOf_len (D : List UInt8) (p : Int) : (bOf D p).length ≤ (-p).toNat + D.length := by simp [bOf]

theorem repeat0 (n : Nat) : Lib.repeatL [48] n = List.replicate n 48 := by
  induction n with
  | zero => rfl
  | succ n ih =>
    have : Lib.repeatL [48] (n + 1) = [48] ++ Lib.repeatL [48] n := rfl
    rw [this, ih]; rfl
theorem repeat_f (n : Nat) (hn : n ≤ 100000) (k : Int) (hk : k = n) : strings_Repeat.f ⟨#[48]⟩ k = some (S (List.replicate n 48)) := by
  subst hk
  unfold strings_Repeat.f
  rw [if_pos ⟨by omega, by omega, by decide⟩, Int.toNat_natCast]
  show some (S (Lib.repeatL [48] n)) = _
  rw [repeat0]

def ShQ (x y : ByteArray) (w : World) (e : Ending) (w' : World) : Prop := e = .returned (.tuple #[.string x, .string y]) ∧ Below w.heap.size w w'

set_option maxHeartbeats 2000000 in
set_option maxRecDepth 100000 in
theorem shift_neg (a b d z r : ByteArray) (k : Int) (n : Nat) (w : World) (hd : a ++ b = d) (ha : a.size ≤ 100000) (hb : b.size ≤ 100000) (hk1 : -100000 ≤ k) (hk2 : k ≤ 100000)
    (hn : (a.size : Int) + k = -(n : Int)) (h0 : 0 < n) (hz : strings_Repeat.f ⟨#[48]⟩ (n : Int) = some z) (hzs : z.size = n) (hr : z ++ d = r) :
    Calls Tryd.prog 42 #[.string a, .string b, .int .i64 k] w (ShQ ⟨#[]⟩ r w) := by
  have hds : d.size = a.size + b.size := by rw [← hd]; simp
  have HZ := Lib.hid (fun w => strings_Repeat.calls ⟨#[48]⟩ (n : Int) z w hz)
  have c0 : a.size + b.size ≤ 9223372036854775807 := by omega
  have c1 : z.size + d.size ≤ 9223372036854775807 := by omega
  have c2 : (-(n : Int)) < 0 := by omega
  clear hz hds
  go_enter Tryd.func42, Tryd.ntmps42
  go_wp2_with (go_at_call 70; refine (HZ.out _).mono ?_; rintro e w' ⟨rfl, hb⟩; have HB := Lib.hid hb; clear hb)
  go_ret2
  exact ⟨rfl, HB.out⟩

set_option maxHeartbeats 2000000 in
set_option maxRecDepth 100000 in
theorem shift_far (a b d z r : ByteArray) (k : Int) (n m : Nat) (w : World) (hd : a ++ b = d) (ha : a.size ≤ 100000) (hb : b.size ≤ 100000) (hk1 : -100000 ≤ k) (hk2 : k ≤ 100000)
    (hn : (a.size : Int) + k = (n : Int)) (h0 : (n : Int) = (d.size : Int) + (m : Int)) (h1 : 0 < m) (hz : strings_Repeat.f ⟨#[48]⟩ (m : Int) = some z) (hzs : z.size = m) (hr : d ++ z = r) (hrs : r.size = n) (hr1 : r.extract 0 n = r) (_ : r.extract n n = ⟨#[]⟩) :
    Calls Tryd.prog 42 #[.string a, .string b, .int .i64 k] w (ShQ r ⟨#[]⟩ w) := by
  have hds : d.size = a.size + b.size := by rw [← hd]; simp
  have HZ := Lib.hid (fun w => strings_Repeat.calls ⟨#[48]⟩ (m : Int) z w hz)
  have c0 : a.size + b.size ≤ 9223372036854775807 := by omega
  have c1 : d.size + z.size ≤ 9223372036854775807 := by omega
  have c2 : ((n : Int) - (d.size : Int)) = (m : Int) := by omega
  have c3 : ¬ ((n : Int) < 0) := by omega
  have c4 : (d.size : Int) < (n : Int) := by omega
  have c5 : (0 : Int) ≤ (n : Int) := by omega
  clear hz hds h0
  go_enter Tryd.func42, Tryd.ntmps42
  go_wp2_with (go_at_call 70; refine (HZ.out _).mono ?_; rintro e w' ⟨rfl, hb⟩; have HB := Lib.hid hb; clear hb)
  go_quiet (fail)
  go_wp2_with fail
  go_ret2
  exact ⟨rfl, HB.out.trans ((Go.Proofs.YtiocgpfnbmlfaaaDoorW.PrintWords.Drawn0.mk ⟨_, rfl⟩).below.mono HB.out.size)⟩

set_option maxHeartbeats 2000000 in
set_option maxRecDepth 100000 in
theorem shift_mid (a b d x y : ByteArray) (k : Int) (n : Nat) (w : World) (hd : a ++ b = d) (ha : a.size ≤ 100000) (hb : b.size ≤ 100000) (hk1 : -100000 ≤ k) (hk2 : k ≤ 100000)
    (hn : (a.size : Int) + k = (n : Int)) (h0 : n ≤ d.size) (hx : d.extract 0 n = x) (hy : d.extract n d.size = y) :
    Calls Tryd.prog 42 #[.string a, .string b, .int .i64 k] w (ShQ x y w) := by
  have hds : d.size = a.size + b.size := by rw [← hd]; simp
  have c0 : a.size + b.size ≤ 9223372036854775807 := by omega
  have c3 : ¬ ((n : Int) < 0) := by omega
  have c4 : ¬ ((d.size : Int) < (n : Int)) := by omega
  have c5 : (0 : Int) ≤ (n : Int) := by omega
  have c6 : (n : Int) ≤ (d.size : Int) := by omega
  clear hds
  go_enter Tryd.func42, Tryd.ntmps42
  go_wp2_with fail
  go_quiet (fail)
  go_wp2_with fail
  go_ret2
  exact ⟨rfl, (Go.Proofs.YtiocgpfnbmlfaaaDoorW.PrintWords.Drawn0.mk ⟨_, rfl⟩).below⟩

def shiftL (a b : List UInt8) (k : Int) : List UInt8 × List UInt8 := (aOf (a ++ b) ((a.length : Int) + k).toNat, bOf (a ++ b) ((a.length : Int) + k))

theorem shift_any (a b : List UInt8) (k : Int) (w : World) (ha : a.length ≤ 10000) (hb : b.length ≤ 10000) (hk1 : -10000 ≤ k) (hk2 : k ≤ 10000) :
    Calls Tryd.prog 42 #[.string (S a), .string (S b), .int .i64 k] w (ShQ (S (shiftL a b k).1) (S (shiftL a b k).2) w) := by
  have hD := S_append a b
  have hDs : (S (a ++ b)).size = a.length + b.length := by rw [S_size]; simp
  have hA := S_size a
  have hB := S_size b
  unfold shiftL
  by_cases hneg : (a.length : Int) + k < 0
  · obtain ⟨n, hn⟩ : ∃ n : Nat, (a.length : Int) + k = -(n : Int) := ⟨(-((a.length : Int) + k)).toNat, by omega⟩
    have := shift_neg (S a) (S b) (S (a ++ b)) (S (List.replicate n 48)) (S (List.replicate n 48 ++ (a ++ b))) k n w hD (by omega) (by omega) (by omega) (by omega) (by rw [hA]; exact hn) (by omega) (repeat_f n (by omega) _ rfl) (by rw [S_size]; simp) (S_append _ _)
    rw [hn]
    have e1 : (-(n : Int)).toNat = 0 := by omega
    have e2 : (-(-(n : Int))).toNat = n := by omega
    unfold bOf aOf
    rw [e1, e2, List.take_zero, List.drop_zero]
    exact this
  · obtain ⟨n, hn⟩ : ∃ n : Nat, (a.length : Int) + k = (n : Int) := ⟨((a.length : Int) + k).toNat, by omega⟩
    rw [hn]
    have e1 : ((n : Int)).toNat = n := by omega
    have e2 : (-((n : Int))).toNat = 0 := by omega
    unfold bOf aOf
    rw [e1, e2, List.replicate_zero, List.nil_append]
    by_cases hfar : (a ++ b).length < n
    · obtain ⟨m, hm⟩ : ∃ m, n = (a ++ b).length + m := ⟨n - (a ++ b).length, by omega⟩
      have hdrop : (a ++ b).drop n = [] := List.drop_eq_nil_of_le (by omega)
      have htake : ((a ++ b) ++ List.replicate n 48).take n = (a ++ b) ++ List.replicate m 48 := by
        rw [List.take_append, List.take_of_length_le (by omega), List.take_replicate]
        congr 2
        omega
      have hrs : (S ((a ++ b) ++ List.replicate m 48)).size = n := by rw [S_size, List.length_append, List.length_replicate]; omega
      rw [hdrop, htake]
      refine shift_far (S a) (S b) (S (a ++ b)) (S (List.replicate m 48)) _ k n m w hD (by omega) (by omega) (by omega) (by omega) (by rw [hA]; exact hn) (by rw [S_size]; omega) (by omega) (repeat_f m (by omega) _ rfl) (by rw [S_size]; simp) (S_append _ _) hrs ?_ ?_
      · show (S ((a ++ b) ++ List.replicate m 48)).extract 0 n = S ((a ++ b) ++ List.replicate m 48)
        rw [S_to, List.take_of_length_le (by rw [← S_size]; omega)]
      · have := S_from ((a ++ b) ++ List.replicate m 48) n
        rw [hrs, List.drop_eq_nil_of_le (by rw [← S_size]; omega)] at this
        exact this
    · have htake : ((a ++ b) ++ List.replicate n 48).take n = (a ++ b).take n := List.take_append_of_le_length (by omega)
      rw [htake]
      exact shift_mid (S a) (S b) (S (a ++ b)) _ _ k n w hD (by omega) (by omega) (by omega) (by omega) (by rw [hA]; exact hn) (by rw [S_size]; omega) (S_to _ _) (S_from _ _)

end Go.Proofs.YtiocgpfnbmlfaaaDoor.QD

/-! ## GN -/
namespace Go.Proofs.YtiocgpfnbmlfaaaDoor.QD
open Go Go.RowKit Go.Proofs.YtiocgpfnbmlfaaaDoor Go.Proofs.YtiocgpfnbmlfaaaDoorW.PrintWords

/-- what is left of a world below a mark: the result's block, and what was there when the call began -/
def Kept (w wn : World) : Prop := TokBlk w.heap.size wn ∧ Below w.heap.size w wn
theorem Kept.step {w wn wm : World} (h : Kept w wn) (hb : Below wn.heap.size wn wm) : Kept w wm :=
  ⟨h.1.below hb h.1.lt, h.2.trans (hb.mono h.2.size)⟩
theorem Kept.first {w wn : World} {o : Obj} (h : TokBlk w.heap.size (w.alloc o)) (hb : Below (w.alloc o).heap.size (w.alloc o) wn) : Kept w wn :=
  ⟨h.below hb (by simp), below_alloc0 hb⟩
theorem setCell_size (w : World) (a : Addr) (v : Value) : (w.setCell a v).heap.size = w.heap.size := by simp [World.setCell]
/-- the last store, the result's three cells -/
theorem Kept.done {w wn : World} {v0 v1 v2 : Value} {a0 a1 a2 : Addr} (h : Kept w wn) (h0 : a0.block = w.heap.size) (h1 : a1.block = w.heap.size) (h2 : a2.block = w.heap.size) :
    Below w.heap.size w (((wn.setCell a0 v0).setCell a1 v1).setCell a2 v2) :=
  ((h.2.setCell (by omega) _).setCell (by omega) _).setCell (by omega) _

set_option maxHeartbeats 4000000 in
set_option maxRecDepth 100000 in
theorem tok_radix (s : ByteArray) (w : World) (hs : s.size ≤ 64) (kr nr er : Int) (okr : Bool) (hR : ∀ w, Calls Tryd.prog 38 #[.string s] w (RQ kr nr okr er w)) (hok : okr = true)  :
    Calls Tryd.prog 17 #[.string s] w (RQ kr nr true er w) := by
  have HR := Lib.hid hR
  have HT := Lib.hid (TokBlk.new w)
  have hsz : ¬ ((64 : Int) < (s.size : Int)) := by omega
  clear hR
  subst hok
  go_enter Tryd.func17, Tryd.ntmps17
  go_wp2_with fail
  refine (HR.out _).mono ?_
  rintro e w1 ⟨rfl, hb⟩
  have K := Lib.hid (Kept.first HT.out hb)
  clear hb HT
  obtain ⟨⟨c0, c1, c2⟩, f0, f1, f2⟩ := K.out.1.facts
  have hlt := K.out.1.lt
  go_wp2_with fail
  refine bodyPost_ret (v := .tuple #[.agg #[.int .i64 kr, .int .i64 nr, .string ⟨#[]⟩], .bool true, .int .i64 er]) (by simp [results, Tryd.results17, go_sem, c0, c1, c2, hlt]) rfl ⟨rfl, ?_⟩
  exact (K.out.done rfl rfl rfl).alloc (by simp only [setCell_size]; omega) _

set_option maxHeartbeats 4000000 in
set_option maxRecDepth 100000 in
theorem tok_whole (s : ByteArray) (w : World) (hs : s.size ≤ 64) (kr nr er : Int) (okr : Bool) (nw : Int) (okw : Bool) (hR : ∀ w, Calls Tryd.prog 38 #[.string s] w (RQ kr nr okr er w)) (hW : ∀ w, Calls Tryd.prog 39 #[.string s] w fun e w' => e = .returned (.tuple #[.int .i64 nw, .bool okw]) ∧ Below w.heap.size w w') (hokr : okr = false) (hokw : okw = true)  :
    Calls Tryd.prog 17 #[.string s] w (RQ 1 nw true 0 w) := by
  have HR := Lib.hid hR
  have HW := Lib.hid hW
  have HT := Lib.hid (TokBlk.new w)
  have hsz : ¬ ((64 : Int) < (s.size : Int)) := by omega
  clear hR hW
  subst hokr hokw
  go_enter Tryd.func17, Tryd.ntmps17
  go_wp2_with fail
  refine (HR.out _).mono ?_
  rintro e w1 ⟨rfl, hb⟩
  have K := Lib.hid (Kept.first HT.out hb)
  clear hb HT
  go_wp2_with fail
  refine (HW.out _).mono ?_
  rintro e w2 ⟨rfl, hb⟩
  replace K := Lib.hid (K.out.step (below_alloc0 hb))
  clear hb
  obtain ⟨⟨c0, c1, c2⟩, f0, f1, f2⟩ := K.out.1.facts
  have hlt := K.out.1.lt
  go_wp2_with fail
  refine bodyPost_ret (v := .tuple #[.agg #[.int .i64 1, .int .i64 nw, .string ⟨#[]⟩], .bool true, .int .i64 0]) (by simp [results, Tryd.results17, go_sem, c0, c1, c2]) rfl ⟨rfl, ?_⟩
  exact K.out.done rfl rfl rfl

set_option maxHeartbeats 4000000 in
set_option maxRecDepth 100000 in
theorem tok_badexp (s : ByteArray) (w : World) (hs : s.size ≤ 64) (kr nr er : Int) (okr : Bool) (nw : Int) (okw : Bool) (m : Bool) (r : ByteArray) (ix : Int) (q : ByteArray) (np : Int) (okp : Bool) (hR : ∀ w, Calls Tryd.prog 38 #[.string s] w (RQ kr nr okr er w)) (hW : ∀ w, Calls Tryd.prog 39 #[.string s] w fun e w' => e = .returned (.tuple #[.int .i64 nw, .bool okw]) ∧ Below w.heap.size w w') (hS : ∀ w, Calls Tryd.prog 32 #[.string s] w fun e w' => e = .returned (.tuple #[.bool m, .string r]) ∧ Below w.heap.size w w') (hI : ∀ w, Calls Tryd.prog 40 #[.string r, .string ⟨#[101, 69]⟩] w fun e w' => e = .returned (.int .i64 ix) ∧ Below w.heap.size w w') (hP : ∀ w, Calls Tryd.prog 41 #[.string q] w fun e w' => e = .returned (.tuple #[.int .i64 np, .bool okp]) ∧ Below w.heap.size w w') (hokr : okr = false) (hokw : okw = false) (i : Nat) (hix : ix = (i : Int)) (hil : i < r.size) (hrs : r.size ≤ 64) (hq : r.extract (i + 1) r.size = q) (hokp : okp = false)  :
    Calls Tryd.prog 17 #[.string s] w (RQ 0 0 false 0 w) := by
  have HR := Lib.hid hR
  have HW := Lib.hid hW
  have HS := Lib.hid hS
  have HI := Lib.hid hI
  have HP := Lib.hid hP
  have HT := Lib.hid (TokBlk.new w)
  have hsz : ¬ ((64 : Int) < (s.size : Int)) := by omega
  clear hR hW hS hI hP
  subst hokr hokw hix
  have d1 : (0 : Int) ≤ (i : Int) := by omega
  have d2 : (0 : Int) ≤ (i : Int) + 1 := by omega
  have d3 : (i : Int) + 1 ≤ (r.size : Int) := by omega
  have d4 : (i : Int) ≤ (r.size : Int) := by omega
  subst hokp
  go_enter Tryd.func17, Tryd.ntmps17
  go_wp2_with fail
  refine (HR.out _).mono ?_
  rintro e w1 ⟨rfl, hb⟩
  have K := Lib.hid (Kept.first HT.out hb)
  clear hb HT
  go_wp2_with fail
  refine (HW.out _).mono ?_
  rintro e w2 ⟨rfl, hb⟩
  replace K := Lib.hid (K.out.step (below_alloc0 hb))
  clear hb
  go_wp2_with fail
  refine (HS.out _).mono ?_
  rintro e w3 ⟨rfl, hb⟩
  replace K := Lib.hid (K.out.step hb)
  clear hb
  go_wp2_with fail
  refine (HI.out _).mono ?_
  rintro e w4 ⟨rfl, hb⟩
  replace K := Lib.hid (K.out.step hb)
  clear hb
  go_wp2_with fail
  refine (HP.out _).mono ?_
  rintro e w5 ⟨rfl, hb⟩
  replace K := Lib.hid (K.out.step hb)
  clear hb
  obtain ⟨⟨c0, c1, c2⟩, f0, f1, f2⟩ := K.out.1.facts
  have hlt := K.out.1.lt
  go_wp2_with fail
  refine bodyPost_ret (v := .tuple #[.agg #[.int .i64 0, .int .i64 0, .string ⟨#[]⟩], .bool false, .int .i64 0]) (by simp [results, Tryd.results17, go_sem, c0, c1, c2]) rfl ⟨rfl, ?_⟩
  exact K.out.done rfl rfl rfl

set_option maxHeartbeats 4000000 in
set_option maxRecDepth 100000 in
theorem tok_badmant_e (s : ByteArray) (w : World) (hs : s.size ≤ 64) (kr nr er : Int) (okr : Bool) (nw : Int) (okw : Bool) (m : Bool) (r : ByteArray) (ix : Int) (q : ByteArray) (np : Int) (okp : Bool) (r2 ma mb : ByteArray) (mp okm : Bool) (hR : ∀ w, Calls Tryd.prog 38 #[.string s] w (RQ kr nr okr er w)) (hW : ∀ w, Calls Tryd.prog 39 #[.string s] w fun e w' => e = .returned (.tuple #[.int .i64 nw, .bool okw]) ∧ Below w.heap.size w w') (hS : ∀ w, Calls Tryd.prog 32 #[.string s] w fun e w' => e = .returned (.tuple #[.bool m, .string r]) ∧ Below w.heap.size w w') (hI : ∀ w, Calls Tryd.prog 40 #[.string r, .string ⟨#[101, 69]⟩] w fun e w' => e = .returned (.int .i64 ix) ∧ Below w.heap.size w w') (hP : ∀ w, Calls Tryd.prog 41 #[.string q] w fun e w' => e = .returned (.tuple #[.int .i64 np, .bool okp]) ∧ Below w.heap.size w w') (hM : ∀ w, Calls Tryd.prog 33 #[.string r2] w fun e w' => e = .returned (.tuple #[.string ma, .string mb, .bool mp, .bool okm]) ∧ Below w.heap.size w w') (hokr : okr = false) (hokw : okw = false) (i : Nat) (hix : ix = (i : Int)) (hil : i < r.size) (hrs : r.size ≤ 64) (hq : r.extract (i + 1) r.size = q) (hokp : okp = true) (hr2 : r.extract 0 i = r2) (hokm : okm = false)  :
    Calls Tryd.prog 17 #[.string s] w (RQ 0 0 false 0 w) := by
  have HR := Lib.hid hR
  have HW := Lib.hid hW
  have HS := Lib.hid hS
  have HI := Lib.hid hI
  have HP := Lib.hid hP
  have HM := Lib.hid hM
  have HT := Lib.hid (TokBlk.new w)
  have hsz : ¬ ((64 : Int) < (s.size : Int)) := by omega
  clear hR hW hS hI hP hM
  subst hokr hokw hix
  have d1 : (0 : Int) ≤ (i : Int) := by omega
  have d2 : (0 : Int) ≤ (i : Int) + 1 := by omega
  have d3 : (i : Int) + 1 ≤ (r.size : Int) := by omega
  have d4 : (i : Int) ≤ (r.size : Int) := by omega
  subst hokp hokm
  go_enter Tryd.func17, Tryd.ntmps17
  go_wp2_with fail
  refine (HR.out _).mono ?_
  rintro e w1 ⟨rfl, hb⟩
  have K := Lib.hid (Kept.first HT.out hb)
  clear hb HT
  go_wp2_with fail
  refine (HW.out _).mono ?_
  rintro e w2 ⟨rfl, hb⟩
  replace K := Lib.hid (K.out.step (below_alloc0 hb))
  clear hb
  go_wp2_with fail
  refine (HS.out _).mono ?_
  rintro e w3 ⟨rfl, hb⟩
  replace K := Lib.hid (K.out.step hb)
  clear hb
  go_wp2_with fail
  refine (HI.out _).mono ?_
  rintro e w4 ⟨rfl, hb⟩
  replace K := Lib.hid (K.out.step hb)
  clear hb
  go_wp2_with fail
  refine (HP.out _).mono ?_
  rintro e w5 ⟨rfl, hb⟩
  replace K := Lib.hid (K.out.step hb)
  clear hb
  go_wp2_with fail
  refine (HM.out _).mono ?_
  rintro e w6 ⟨rfl, hb⟩
  replace K := Lib.hid (K.out.step hb)
  clear hb
  obtain ⟨⟨c0, c1, c2⟩, f0, f1, f2⟩ := K.out.1.facts
  have hlt := K.out.1.lt
  go_wp2_with fail
  refine bodyPost_ret (v := .tuple #[.agg #[.int .i64 0, .int .i64 0, .string ⟨#[]⟩], .bool false, .int .i64 0]) (by simp [results, Tryd.results17, go_sem, c0, c1, c2]) rfl ⟨rfl, ?_⟩
  exact K.out.done rfl rfl rfl

set_option maxHeartbeats 4000000 in
set_option maxRecDepth 100000 in
theorem tok_big_e (s : ByteArray) (w : World) (hs : s.size ≤ 64) (kr nr er : Int) (okr : Bool) (nw : Int) (okw : Bool) (m : Bool) (r : ByteArray) (ix : Int) (q : ByteArray) (np : Int) (okp : Bool) (r2 ma mb : ByteArray) (mp okm : Bool) (x y : ByteArray) (nv : Int) (okv : Bool) (hR : ∀ w, Calls Tryd.prog 38 #[.string s] w (RQ kr nr okr er w)) (hW : ∀ w, Calls Tryd.prog 39 #[.string s] w fun e w' => e = .returned (.tuple #[.int .i64 nw, .bool okw]) ∧ Below w.heap.size w w') (hS : ∀ w, Calls Tryd.prog 32 #[.string s] w fun e w' => e = .returned (.tuple #[.bool m, .string r]) ∧ Below w.heap.size w w') (hI : ∀ w, Calls Tryd.prog 40 #[.string r, .string ⟨#[101, 69]⟩] w fun e w' => e = .returned (.int .i64 ix) ∧ Below w.heap.size w w') (hP : ∀ w, Calls Tryd.prog 41 #[.string q] w fun e w' => e = .returned (.tuple #[.int .i64 np, .bool okp]) ∧ Below w.heap.size w w') (hM : ∀ w, Calls Tryd.prog 33 #[.string r2] w fun e w' => e = .returned (.tuple #[.string ma, .string mb, .bool mp, .bool okm]) ∧ Below w.heap.size w w') (hH : ∀ w, Calls Tryd.prog 42 #[.string ma, .string mb, .int .i64 np] w (ShQ x y w)) (hV : ∀ w, Calls Tryd.prog 34 #[.bool m, .string x, .string y] w fun e w' => e = .returned (.tuple #[.int .i64 nv, .bool okv]) ∧ Below w.heap.size w w') (hokr : okr = false) (hokw : okw = false) (i : Nat) (hix : ix = (i : Int)) (hil : i < r.size) (hrs : r.size ≤ 64) (hq : r.extract (i + 1) r.size = q) (hokp : okp = true) (hr2 : r.extract 0 i = r2) (hokm : okm = true) (hokv : okv = false)  :
    Calls Tryd.prog 17 #[.string s] w (RQ 0 0 true 9 w) := by
  have HR := Lib.hid hR
  have HW := Lib.hid hW
  have HS := Lib.hid hS
  have HI := Lib.hid hI
  have HP := Lib.hid hP
  have HM := Lib.hid hM
  have HH := Lib.hid hH
  have HV := Lib.hid hV
  have HT := Lib.hid (TokBlk.new w)
  have hsz : ¬ ((64 : Int) < (s.size : Int)) := by omega
  clear hR hW hS hI hP hM hH hV
  subst hokr hokw hix
  have d1 : (0 : Int) ≤ (i : Int) := by omega
  have d2 : (0 : Int) ≤ (i : Int) + 1 := by omega
  have d3 : (i : Int) + 1 ≤ (r.size : Int) := by omega
  have d4 : (i : Int) ≤ (r.size : Int) := by omega
  subst hokp hokm hokv
  go_enter Tryd.func17, Tryd.ntmps17
  go_wp2_with fail
  refine (HR.out _).mono ?_
  rintro e w1 ⟨rfl, hb⟩
  have K := Lib.hid (Kept.first HT.out hb)
  clear hb HT
  go_wp2_with fail
  refine (HW.out _).mono ?_
  rintro e w2 ⟨rfl, hb⟩
  replace K := Lib.hid (K.out.step (below_alloc0 hb))
  clear hb
  go_wp2_with fail
  refine (HS.out _).mono ?_
  rintro e w3 ⟨rfl, hb⟩
  replace K := Lib.hid (K.out.step hb)
  clear hb
  go_wp2_with fail
  refine (HI.out _).mono ?_
  rintro e w4 ⟨rfl, hb⟩
  replace K := Lib.hid (K.out.step hb)
  clear hb
  go_wp2_with fail
  refine (HP.out _).mono ?_
  rintro e w5 ⟨rfl, hb⟩
  replace K := Lib.hid (K.out.step hb)
  clear hb
  go_wp2_with fail
  refine (HM.out _).mono ?_
  rintro e w6 ⟨rfl, hb⟩
  replace K := Lib.hid (K.out.step hb)
  clear hb
  go_wp2_with fail
  refine (HH.out _).mono ?_
  rintro e w7 ⟨rfl, hb⟩
  replace K := Lib.hid (K.out.step hb)
  clear hb
  go_wp2_with fail
  refine (HV.out _).mono ?_
  rintro e w8 ⟨rfl, hb⟩
  replace K := Lib.hid (K.out.step hb)
  clear hb
  obtain ⟨⟨c0, c1, c2⟩, f0, f1, f2⟩ := K.out.1.facts
  have hlt := K.out.1.lt
  go_wp2_with fail
  refine bodyPost_ret (v := .tuple #[.agg #[.int .i64 0, .int .i64 0, .string ⟨#[]⟩], .bool true, .int .i64 9]) (by simp [results, Tryd.results17, go_sem, c0, c1, c2]) rfl ⟨rfl, ?_⟩
  exact K.out.done rfl rfl rfl

set_option maxHeartbeats 4000000 in
set_option maxRecDepth 100000 in
theorem tok_real_e (s : ByteArray) (w : World) (hs : s.size ≤ 64) (kr nr er : Int) (okr : Bool) (nw : Int) (okw : Bool) (m : Bool) (r : ByteArray) (ix : Int) (q : ByteArray) (np : Int) (okp : Bool) (r2 ma mb : ByteArray) (mp okm : Bool) (x y : ByteArray) (nv : Int) (okv : Bool) (hR : ∀ w, Calls Tryd.prog 38 #[.string s] w (RQ kr nr okr er w)) (hW : ∀ w, Calls Tryd.prog 39 #[.string s] w fun e w' => e = .returned (.tuple #[.int .i64 nw, .bool okw]) ∧ Below w.heap.size w w') (hS : ∀ w, Calls Tryd.prog 32 #[.string s] w fun e w' => e = .returned (.tuple #[.bool m, .string r]) ∧ Below w.heap.size w w') (hI : ∀ w, Calls Tryd.prog 40 #[.string r, .string ⟨#[101, 69]⟩] w fun e w' => e = .returned (.int .i64 ix) ∧ Below w.heap.size w w') (hP : ∀ w, Calls Tryd.prog 41 #[.string q] w fun e w' => e = .returned (.tuple #[.int .i64 np, .bool okp]) ∧ Below w.heap.size w w') (hM : ∀ w, Calls Tryd.prog 33 #[.string r2] w fun e w' => e = .returned (.tuple #[.string ma, .string mb, .bool mp, .bool okm]) ∧ Below w.heap.size w w') (hH : ∀ w, Calls Tryd.prog 42 #[.string ma, .string mb, .int .i64 np] w (ShQ x y w)) (hV : ∀ w, Calls Tryd.prog 34 #[.bool m, .string x, .string y] w fun e w' => e = .returned (.tuple #[.int .i64 nv, .bool okv]) ∧ Below w.heap.size w w') (hokr : okr = false) (hokw : okw = false) (i : Nat) (hix : ix = (i : Int)) (hil : i < r.size) (hrs : r.size ≤ 64) (hq : r.extract (i + 1) r.size = q) (hokp : okp = true) (hr2 : r.extract 0 i = r2) (hokm : okm = true) (hokv : okv = true)  :
    Calls Tryd.prog 17 #[.string s] w (RQ 2 nv true 0 w) := by
  have HR := Lib.hid hR
  have HW := Lib.hid hW
  have HS := Lib.hid hS
  have HI := Lib.hid hI
  have HP := Lib.hid hP
  have HM := Lib.hid hM
  have HH := Lib.hid hH
  have HV := Lib.hid hV
  have HT := Lib.hid (TokBlk.new w)
  have hsz : ¬ ((64 : Int) < (s.size : Int)) := by omega
  clear hR hW hS hI hP hM hH hV
  subst hokr hokw hix
  have d1 : (0 : Int) ≤ (i : Int) := by omega
  have d2 : (0 : Int) ≤ (i : Int) + 1 := by omega
  have d3 : (i : Int) + 1 ≤ (r.size : Int) := by omega
  have d4 : (i : Int) ≤ (r.size : Int) := by omega
  subst hokp hokm hokv
  go_enter Tryd.func17, Tryd.ntmps17
  go_wp2_with fail
  refine (HR.out _).mono ?_
  rintro e w1 ⟨rfl, hb⟩
  have K := Lib.hid (Kept.first HT.out hb)
  clear hb HT
  go_wp2_with fail
  refine (HW.out _).mono ?_
  rintro e w2 ⟨rfl, hb⟩
  replace K := Lib.hid (K.out.step (below_alloc0 hb))
  clear hb
  go_wp2_with fail
  refine (HS.out _).mono ?_
  rintro e w3 ⟨rfl, hb⟩
  replace K := Lib.hid (K.out.step hb)
  clear hb
  go_wp2_with fail
  refine (HI.out _).mono ?_
  rintro e w4 ⟨rfl, hb⟩
  replace K := Lib.hid (K.out.step hb)
  clear hb
  go_wp2_with fail
  refine (HP.out _).mono ?_
  rintro e w5 ⟨rfl, hb⟩
  replace K := Lib.hid (K.out.step hb)
  clear hb
  go_wp2_with fail
  refine (HM.out _).mono ?_
  rintro e w6 ⟨rfl, hb⟩
  replace K := Lib.hid (K.out.step hb)
  clear hb
  go_wp2_with fail
  refine (HH.out _).mono ?_
  rintro e w7 ⟨rfl, hb⟩
  replace K := Lib.hid (K.out.step hb)
  clear hb
  go_wp2_with fail
  refine (HV.out _).mono ?_
  rintro e w8 ⟨rfl, hb⟩
  replace K := Lib.hid (K.out.step hb)
  clear hb
  obtain ⟨⟨c0, c1, c2⟩, f0, f1, f2⟩ := K.out.1.facts
  have hlt := K.out.1.lt
  go_wp2_with fail
  refine bodyPost_ret (v := .tuple #[.agg #[.int .i64 2, .int .i64 nv, .string ⟨#[]⟩], .bool true, .int .i64 0]) (by simp [results, Tryd.results17, go_sem, c0, c1, c2]) rfl ⟨rfl, ?_⟩
  exact K.out.done rfl rfl rfl

set_option maxHeartbeats 4000000 in
set_option maxRecDepth 100000 in
theorem tok_badmant (s : ByteArray) (w : World) (hs : s.size ≤ 64) (kr nr er : Int) (okr : Bool) (nw : Int) (okw : Bool) (m : Bool) (r : ByteArray) (ix : Int) (r2 ma mb : ByteArray) (mp okm : Bool) (hR : ∀ w, Calls Tryd.prog 38 #[.string s] w (RQ kr nr okr er w)) (hW : ∀ w, Calls Tryd.prog 39 #[.string s] w fun e w' => e = .returned (.tuple #[.int .i64 nw, .bool okw]) ∧ Below w.heap.size w w') (hS : ∀ w, Calls Tryd.prog 32 #[.string s] w fun e w' => e = .returned (.tuple #[.bool m, .string r]) ∧ Below w.heap.size w w') (hI : ∀ w, Calls Tryd.prog 40 #[.string r, .string ⟨#[101, 69]⟩] w fun e w' => e = .returned (.int .i64 ix) ∧ Below w.heap.size w w') (hM : ∀ w, Calls Tryd.prog 33 #[.string r2] w fun e w' => e = .returned (.tuple #[.string ma, .string mb, .bool mp, .bool okm]) ∧ Below w.heap.size w w') (hokr : okr = false) (hokw : okw = false) (hix : ix < 0) (hokm : okm = false) (hr2 : r = r2)  :
    Calls Tryd.prog 17 #[.string s] w (RQ 0 0 false 0 w) := by
  have HR := Lib.hid hR
  have HW := Lib.hid hW
  have HS := Lib.hid hS
  have HI := Lib.hid hI
  have HM := Lib.hid hM
  have HT := Lib.hid (TokBlk.new w)
  have hsz : ¬ ((64 : Int) < (s.size : Int)) := by omega
  clear hR hW hS hI hM
  subst hokr hokw
  have d1 : ¬ ((0 : Int) ≤ ix) := by omega
  subst hokm hr2
  go_enter Tryd.func17, Tryd.ntmps17
  go_wp2_with fail
  refine (HR.out _).mono ?_
  rintro e w1 ⟨rfl, hb⟩
  have K := Lib.hid (Kept.first HT.out hb)
  clear hb HT
  go_wp2_with fail
  refine (HW.out _).mono ?_
  rintro e w2 ⟨rfl, hb⟩
  replace K := Lib.hid (K.out.step (below_alloc0 hb))
  clear hb
  go_wp2_with fail
  refine (HS.out _).mono ?_
  rintro e w3 ⟨rfl, hb⟩
  replace K := Lib.hid (K.out.step hb)
  clear hb
  go_wp2_with fail
  refine (HI.out _).mono ?_
  rintro e w4 ⟨rfl, hb⟩
  replace K := Lib.hid (K.out.step hb)
  clear hb
  go_wp2_with fail
  refine (HM.out _).mono ?_
  rintro e w5 ⟨rfl, hb⟩
  replace K := Lib.hid (K.out.step hb)
  clear hb
  obtain ⟨⟨c0, c1, c2⟩, f0, f1, f2⟩ := K.out.1.facts
  have hlt := K.out.1.lt
  go_wp2_with fail
  refine bodyPost_ret (v := .tuple #[.agg #[.int .i64 0, .int .i64 0, .string ⟨#[]⟩], .bool false, .int .i64 0]) (by simp [results, Tryd.results17, go_sem, c0, c1, c2]) rfl ⟨rfl, ?_⟩
  exact K.out.done rfl rfl rfl

set_option maxHeartbeats 4000000 in
set_option maxRecDepth 100000 in
theorem tok_big (s : ByteArray) (w : World) (hs : s.size ≤ 64) (kr nr er : Int) (okr : Bool) (nw : Int) (okw : Bool) (m : Bool) (r : ByteArray) (ix : Int) (r2 ma mb : ByteArray) (mp okm : Bool) (x y : ByteArray) (nv : Int) (okv : Bool) (hR : ∀ w, Calls Tryd.prog 38 #[.string s] w (RQ kr nr okr er w)) (hW : ∀ w, Calls Tryd.prog 39 #[.string s] w fun e w' => e = .returned (.tuple #[.int .i64 nw, .bool okw]) ∧ Below w.heap.size w w') (hS : ∀ w, Calls Tryd.prog 32 #[.string s] w fun e w' => e = .returned (.tuple #[.bool m, .string r]) ∧ Below w.heap.size w w') (hI : ∀ w, Calls Tryd.prog 40 #[.string r, .string ⟨#[101, 69]⟩] w fun e w' => e = .returned (.int .i64 ix) ∧ Below w.heap.size w w') (hM : ∀ w, Calls Tryd.prog 33 #[.string r2] w fun e w' => e = .returned (.tuple #[.string ma, .string mb, .bool mp, .bool okm]) ∧ Below w.heap.size w w') (hH : ∀ w, Calls Tryd.prog 42 #[.string ma, .string mb, .int .i64 0] w (ShQ x y w)) (hV : ∀ w, Calls Tryd.prog 34 #[.bool m, .string x, .string y] w fun e w' => e = .returned (.tuple #[.int .i64 nv, .bool okv]) ∧ Below w.heap.size w w') (hokr : okr = false) (hokw : okw = false) (hix : ix < 0) (hokm : okm = true) (hokv : okv = false) (hr2 : r = r2)  :
    Calls Tryd.prog 17 #[.string s] w (RQ 0 0 true 9 w) := by
  have HR := Lib.hid hR
  have HW := Lib.hid hW
  have HS := Lib.hid hS
  have HI := Lib.hid hI
  have HM := Lib.hid hM
  have HH := Lib.hid hH
  have HV := Lib.hid hV
  have HT := Lib.hid (TokBlk.new w)
  have hsz : ¬ ((64 : Int) < (s.size : Int)) := by omega
  clear hR hW hS hI hM hH hV
  subst hokr hokw
  have d1 : ¬ ((0 : Int) ≤ ix) := by omega
  subst hokm hokv hr2
  go_enter Tryd.func17, Tryd.ntmps17
  go_wp2_with fail
  refine (HR.out _).mono ?_
  rintro e w1 ⟨rfl, hb⟩
  have K := Lib.hid (Kept.first HT.out hb)
  clear hb HT
  go_wp2_with fail
  refine (HW.out _).mono ?_
  rintro e w2 ⟨rfl, hb⟩
  replace K := Lib.hid (K.out.step (below_alloc0 hb))
  clear hb
  go_wp2_with fail
  refine (HS.out _).mono ?_
  rintro e w3 ⟨rfl, hb⟩
  replace K := Lib.hid (K.out.step hb)
  clear hb
  go_wp2_with fail
  refine (HI.out _).mono ?_
  rintro e w4 ⟨rfl, hb⟩
  replace K := Lib.hid (K.out.step hb)
  clear hb
  go_wp2_with fail
  refine (HM.out _).mono ?_
  rintro e w5 ⟨rfl, hb⟩
  replace K := Lib.hid (K.out.step hb)
  clear hb
  go_wp2_with fail
  refine (HH.out _).mono ?_
  rintro e w6 ⟨rfl, hb⟩
  replace K := Lib.hid (K.out.step hb)
  clear hb
  go_wp2_with fail
  refine (HV.out _).mono ?_
  rintro e w7 ⟨rfl, hb⟩
  replace K := Lib.hid (K.out.step hb)
  clear hb
  obtain ⟨⟨c0, c1, c2⟩, f0, f1, f2⟩ := K.out.1.facts
  have hlt := K.out.1.lt
  go_wp2_with fail
  refine bodyPost_ret (v := .tuple #[.agg #[.int .i64 0, .int .i64 0, .string ⟨#[]⟩], .bool true, .int .i64 9]) (by simp [results, Tryd.results17, go_sem, c0, c1, c2]) rfl ⟨rfl, ?_⟩
  exact K.out.done rfl rfl rfl

set_option maxHeartbeats 4000000 in
set_option maxRecDepth 100000 in
theorem tok_real (s : ByteArray) (w : World) (hs : s.size ≤ 64) (kr nr er : Int) (okr : Bool) (nw : Int) (okw : Bool) (m : Bool) (r : ByteArray) (ix : Int) (r2 ma mb : ByteArray) (mp okm : Bool) (x y : ByteArray) (nv : Int) (okv : Bool) (hR : ∀ w, Calls Tryd.prog 38 #[.string s] w (RQ kr nr okr er w)) (hW : ∀ w, Calls Tryd.prog 39 #[.string s] w fun e w' => e = .returned (.tuple #[.int .i64 nw, .bool okw]) ∧ Below w.heap.size w w') (hS : ∀ w, Calls Tryd.prog 32 #[.string s] w fun e w' => e = .returned (.tuple #[.bool m, .string r]) ∧ Below w.heap.size w w') (hI : ∀ w, Calls Tryd.prog 40 #[.string r, .string ⟨#[101, 69]⟩] w fun e w' => e = .returned (.int .i64 ix) ∧ Below w.heap.size w w') (hM : ∀ w, Calls Tryd.prog 33 #[.string r2] w fun e w' => e = .returned (.tuple #[.string ma, .string mb, .bool mp, .bool okm]) ∧ Below w.heap.size w w') (hH : ∀ w, Calls Tryd.prog 42 #[.string ma, .string mb, .int .i64 0] w (ShQ x y w)) (hV : ∀ w, Calls Tryd.prog 34 #[.bool m, .string x, .string y] w fun e w' => e = .returned (.tuple #[.int .i64 nv, .bool okv]) ∧ Below w.heap.size w w') (hokr : okr = false) (hokw : okw = false) (hix : ix < 0) (hokm : okm = true) (hokv : okv = true) (hr2 : r = r2)  :
    Calls Tryd.prog 17 #[.string s] w (RQ 2 nv true 0 w) := by
  have HR := Lib.hid hR
  have HW := Lib.hid hW
  have HS := Lib.hid hS
  have HI := Lib.hid hI
  have HM := Lib.hid hM
  have HH := Lib.hid hH
  have HV := Lib.hid hV
  have HT := Lib.hid (TokBlk.new w)
  have hsz : ¬ ((64 : Int) < (s.size : Int)) := by omega
  clear hR hW hS hI hM hH hV
  subst hokr hokw
  have d1 : ¬ ((0 : Int) ≤ ix) := by omega
  subst hokm hokv hr2
  go_enter Tryd.func17, Tryd.ntmps17
  go_wp2_with fail
  refine (HR.out _).mono ?_
  rintro e w1 ⟨rfl, hb⟩
  have K := Lib.hid (Kept.first HT.out hb)
  clear hb HT
  go_wp2_with fail
  refine (HW.out _).mono ?_
  rintro e w2 ⟨rfl, hb⟩
  replace K := Lib.hid (K.out.step (below_alloc0 hb))
  clear hb
  go_wp2_with fail
  refine (HS.out _).mono ?_
  rintro e w3 ⟨rfl, hb⟩
  replace K := Lib.hid (K.out.step hb)
  clear hb
  go_wp2_with fail
  refine (HI.out _).mono ?_
  rintro e w4 ⟨rfl, hb⟩
  replace K := Lib.hid (K.out.step hb)
  clear hb
  go_wp2_with fail
  refine (HM.out _).mono ?_
  rintro e w5 ⟨rfl, hb⟩
  replace K := Lib.hid (K.out.step hb)
  clear hb
  go_wp2_with fail
  refine (HH.out _).mono ?_
  rintro e w6 ⟨rfl, hb⟩
  replace K := Lib.hid (K.out.step hb)
  clear hb
  go_wp2_with fail
  refine (HV.out _).mono ?_
  rintro e w7 ⟨rfl, hb⟩
  replace K := Lib.hid (K.out.step hb)
  clear hb
  obtain ⟨⟨c0, c1, c2⟩, f0, f1, f2⟩ := K.out.1.facts
  have hlt := K.out.1.lt
  go_wp2_with fail
  refine bodyPost_ret (v := .tuple #[.agg #[.int .i64 2, .int .i64 nv, .string ⟨#[]⟩], .bool true, .int .i64 0]) (by simp [results, Tryd.results17, go_sem, c0, c1, c2]) rfl ⟨rfl, ?_⟩
  exact K.out.done rfl rfl rfl

set_option maxHeartbeats 4000000 in
set_option maxRecDepth 100000 in
theorem tok_long (s : ByteArray) (w : World) (hs : 64 < s.size) :
    Calls Tryd.prog 17 #[.string s] w (RQ 0 0 false 0 w) := by
  have hT := TokBlk.new w
  have hlt := hT.lt
  obtain ⟨⟨c0, c1, c2⟩, f0, f1, f2⟩ := hT.facts
  have hsz : (64 : Int) < (s.size : Int) := by omega
  clear hT
  go_enter Tryd.func17, Tryd.ntmps17
  go_wp2_with fail
  refine bodyPost_ret (v := .tuple #[.agg #[.int .i64 0, .int .i64 0, .string ⟨#[]⟩], .bool false, .int .i64 0]) (by simp [results, Tryd.results17, go_sem, c0, c1, c2]) rfl ⟨rfl, ?_⟩
  exact (Below.refl _ _).alloc (Nat.le_refl _) _

end Go.Proofs.YtiocgpfnbmlfaaaDoor.QD

/-! ## GO -/
namespace Go.Proofs.YtiocgpfnbmlfaaaDoor.QD
open Go Go.RowKit Go.Proofs.YtiocgpfnbmlfaaaDoor Go.Proofs.YtiocgpfnbmlfaaaDoorW.PrintWords

/-- ahead of an e, what it raises by, is that well formed -/
def expL (r : List UInt8) : List UInt8 × Int × Bool :=
  if Lib.indexAny r [101, 69] < 0 then (r, 0, true)
  else (r.take (Lib.indexAny r [101, 69]).toNat, (powL (r.drop ((Lib.indexAny r [101, 69]).toNat + 1))).1, (powL (r.drop ((Lib.indexAny r [101, 69]).toNat + 1))).2)
/-- the mantissa's answer -/
def realL (m : Bool) (r : List UInt8) (k : Int) : Int × Int × Bool × Int :=
  if (mantL r).2.2.2 = true then
    (if (valueL m (shiftL (mantL r).1 (mantL r).2.1 k).1 (shiftL (mantL r).1 (mantL r).2.1 k).2).2 = true then (2, (valueL m (shiftL (mantL r).1 (mantL r).2.1 k).1 (shiftL (mantL r).1 (mantL r).2.1 k).2).1, true, 0) else (0, 0, true, 9))
  else (0, 0, false, 0)
/-- kind, number, is it one, error -/
def tokL (l : List UInt8) : Int × Int × Bool × Int :=
  if 64 < l.length then (0, 0, false, 0)
  else if (radixL l).2.2.1 = true then ((radixL l).1, (radixL l).2.1, true, (radixL l).2.2.2)
  else if (wholeL l).2 = true then (1, (wholeL l).1, true, 0)
  else if (expL (sgnL l).2).2.2 = true then realL (sgnL l).1 (expL (sgnL l).2).1 (expL (sgnL l).2).2.1
  else (0, 0, false, 0)

theorem indexAny_lt (chars : List UInt8) : ∀ l : List UInt8, Lib.indexAny l chars < l.length
  | [] => by show (-1 : Int) < 0; omega
  | b :: l => by
    have ih := indexAny_lt chars l
    have hg := Lib.indexAny_ge chars l
    simp only [List.length_cons]
    unfold Lib.indexAny
    split
    · omega
    · split
      · omega
      · omega

theorem powL_bound (l : List UInt8) : -1000 < (powL l).1 ∧ (powL l).1 < 1000 := by
  unfold powL
  split
  · simp
  · rename_i h
    have h3 : (sgnL l).2.length ≤ 3 := by
      rcases Nat.lt_or_ge 3 (sgnL l).2.length with hh | hh
      · exact absurd (by simp [hh]) h
      · exact hh
    have hd : (sgnL l).2.all isDig = true := by
      cases hh : (sgnL l).2.all isDig with
      | true => rfl
      | false => exact absurd (by simp [hh]) h
    have hv := valD_lt10 _ hd
    have hp : 10 ^ (sgnL l).2.length ≤ 10 ^ 3 := Nat.pow_le_pow_right (by omega) h3
    simp only
    split <;> omega

theorem mant_all (l : List UInt8) (h : (mantL l).2.2.2 = true) : (mantL l).1.all isDig = true ∧ (mantL l).2.1.all isDig = true := by
  unfold mantL at *
  simp only [Bool.and_eq_true] at h
  exact h.1
theorem mant_len (l : List UInt8) : (mantL l).1.length ≤ l.length ∧ (mantL l).2.1.length ≤ l.length := cut1_len 46 l

theorem mantR_f (l : List UInt8) (hs : l.length ≤ 1000000) : PR.dec_mantissa.f (S l) = some (S (mantL l).1, S (mantL l).2.1, (mantL l).2.2.1, (mantL l).2.2.2) := by
  have hc := cut1_len 46 l
  have h0 : strings_Cut.f (S l) ⟨#[46]⟩ = some (S (cut1 46 l).1, S (cut1 46 l).2.1, (cut1 46 l).2.2) := by
    unfold strings_Cut.f
    rw [if_pos ⟨by decide, by rw [S_size]; omega⟩, S_data]
    rfl
  unfold PR.dec_mantissa.f mantL
  rw [h0]
  simp only [Option.bind_some]
  rw [plain_f _ (by rw [S_size]; omega), plain_f _ (by rw [S_size]; omega)]
  simp only [Option.bind_some, S_data, S_size]
  rw [show wrap64 (((cut1 46 l).1.length : Int) + ((cut1 46 l).2.1.length : Int)) = ((cut1 46 l).1.length : Int) + ((cut1 46 l).2.1.length : Int) from w64 _ (by omega) (by omega)]
  cases (cut1 46 l).1.all isDig <;> cases (cut1 46 l).2.1.all isDig <;> simp
  omega

theorem shift_len (a b : List UInt8) (k : Int) : (shiftL a b k).2.length ≤ k.natAbs + a.length + b.length := by
  unfold shiftL
  have := bOf_len (a ++ b) ((a.length : Int) + k)
  rw [List.length_append] at this
  simp only
  omega

theorem tok_any (l : List UInt8) (w : World) : Calls Tryd.prog 17 #[.string (S l)] w (RQ (tokL l).1 (tokL l).2.1 (tokL l).2.2.1 (tokL l).2.2.2 w) := by
  by_cases hlong : 64 < l.length
  · rw [show tokL l = (0, 0, false, 0) from by unfold tokL; rw [if_pos hlong]]
    exact tok_long (S l) w (by rw [S_size]; exact hlong)
  have hs : (S l).size ≤ 64 := by rw [S_size]; omega
  have hR : ∀ w, Calls Tryd.prog 38 #[.string (S l)] w (RQ (radixL l).1 (radixL l).2.1 (radixL l).2.2.1 (radixL l).2.2.2 w) := fun w => radix_any (S l) w (by omega) _ _ _ _ (by rw [S_data])
  have hW : ∀ w, Calls Tryd.prog 39 #[.string (S l)] w fun e w' => e = .returned (.tuple #[.int .i64 (wholeL l).1, .bool (wholeL l).2]) ∧ Below w.heap.size w w' := fun w =>
    dec_whole.calls (S l) _ _ w (by unfold dec_whole.f; rw [if_pos (by omega), S_data])
  have hS : ∀ w, Calls Tryd.prog 32 #[.string (S l)] w fun e w' => e = .returned (.tuple #[.bool (sgnL l).1, .string (S (sgnL l).2)]) ∧ Below w.heap.size w w' := fun w => by
    have := signed_any (S l) w
    rw [S_data] at this
    exact this
  have hrl := sgnL_len l
  have htok : tokL l = if (radixL l).2.2.1 = true then ((radixL l).1, (radixL l).2.1, true, (radixL l).2.2.2)
      else if (wholeL l).2 = true then (1, (wholeL l).1, true, 0)
      else if (expL (sgnL l).2).2.2 = true then realL (sgnL l).1 (expL (sgnL l).2).1 (expL (sgnL l).2).2.1 else (0, 0, false, 0) := by
    unfold tokL; rw [if_neg hlong]
  rw [htok]
  generalize (radixL l).1 = kr at *
  generalize (radixL l).2.1 = nr at *
  generalize (radixL l).2.2.2 = er at *
  cases hokr : (radixL l).2.2.1 with
  | true =>
    rw [hokr] at hR
    exact tok_radix (S l) w hs kr nr er true hR rfl
  | false =>
  rw [hokr] at hR
  rw [if_neg Bool.false_ne_true]
  generalize (wholeL l).1 = nw at *
  cases hokw : (wholeL l).2 with
  | true =>
    rw [hokw] at hW
    exact tok_whole (S l) w hs kr nr er false nw true hR hW rfl rfl
  | false =>
  rw [hokw] at hW
  rw [if_neg Bool.false_ne_true]
  generalize (sgnL l).1 = m at *
  generalize (sgnL l).2 = r at *
  have hI : ∀ w, Calls Tryd.prog 40 #[.string (S r), .string ⟨#[101, 69]⟩] w fun e w' => e = .returned (.int .i64 (Lib.indexAny r [101, 69])) ∧ Below w.heap.size w w' := fun w =>
    strings_IndexAny.calls (S r) _ _ w (by unfold strings_IndexAny.f; rw [if_pos ⟨rfl, by rw [S_size]; omega⟩, S_data])
  have hilt := indexAny_lt [101, 69] r
  have hige := Lib.indexAny_ge [101, 69] r
  have hM : ∀ (r2 : List UInt8), r2.length ≤ 64 → ∀ w, Calls Tryd.prog 33 #[.string (S r2)] w fun e w' => e = .returned (.tuple #[.string (S (mantL r2).1), .string (S (mantL r2).2.1), .bool (mantL r2).2.2.1, .bool (mantL r2).2.2.2]) ∧ Below w.heap.size w w' := fun r2 h2 w =>
    PR.dec_mantissa.calls (S r2) _ _ _ _ w (mantR_f r2 (by omega))
  have hV : ∀ (r2 : List UInt8) (k : Int), r2.length ≤ 64 → -1000 < k → k < 1000 → (mantL r2).2.2.2 = true → ∀ w, Calls Tryd.prog 34 #[.bool m, .string (S (shiftL (mantL r2).1 (mantL r2).2.1 k).1), .string (S (shiftL (mantL r2).1 (mantL r2).2.1 k).2)] w fun e w' =>
      e = .returned (.tuple #[.int .i64 (valueL m (shiftL (mantL r2).1 (mantL r2).2.1 k).1 (shiftL (mantL r2).1 (mantL r2).2.1 k).2).1, .bool (valueL m (shiftL (mantL r2).1 (mantL r2).2.1 k).1 (shiftL (mantL r2).1 (mantL r2).2.1 k).2).2]) ∧ Below w.heap.size w w' := fun r2 k h2 hk1 hk2 hok w => by
    obtain ⟨h3, h4⟩ := mant_all r2 hok
    obtain ⟨h5, h6⟩ := mant_len r2
    have h7 := shift_len (mantL r2).1 (mantL r2).2.1 k
    have hD : ((mantL r2).1 ++ (mantL r2).2.1).all isDig = true := by rw [List.all_append, h3, h4]; rfl
    refine dec_value.calls m _ _ _ _ w ?_
    unfold dec_value.f
    rw [S_data, S_data, if_pos ⟨aOf_all _ _ hD, bOf_all _ _ hD, by rw [S_size]; omega⟩]
  have hH : ∀ (r2 : List UInt8) (k : Int), r2.length ≤ 64 → -1000 < k → k < 1000 → ∀ w, Calls Tryd.prog 42 #[.string (S (mantL r2).1), .string (S (mantL r2).2.1), .int .i64 k] w (ShQ (S (shiftL (mantL r2).1 (mantL r2).2.1 k).1) (S (shiftL (mantL r2).1 (mantL r2).2.1 k).2) w) := fun r2 k h2 hk1 hk2 w => by
    obtain ⟨h5, h6⟩ := mant_len r2
    exact shift_any _ _ k w (by omega) (by omega) (by omega) (by omega)
  unfold expL
  generalize hix : Lib.indexAny r [101, 69] = ix at *
  by_cases hneg : ix < 0
  · rw [if_pos hneg, if_pos rfl]
    have hrr : r.length ≤ 64 := by omega
    have hMr := hM r hrr
    have hHr := hH r 0 hrr (by omega) (by omega)
    have hVr := hV r 0 hrr (by omega) (by omega)
    unfold realL
    cases hokm : (mantL r).2.2.2 with
    | false =>
      rw [hokm] at hMr
      exact tok_badmant (S l) w hs kr nr er false nw false m (S r) ix (S r) _ _ _ false hR hW hS hI hMr rfl rfl hneg rfl rfl
    | true =>
      rw [hokm] at hMr
      have hVr := hVr hokm
      rw [if_pos rfl]
      generalize valueL m (shiftL (mantL r).1 (mantL r).2.1 0).1 (shiftL (mantL r).1 (mantL r).2.1 0).2 = v at *
      obtain ⟨nv, okv⟩ := v
      cases okv with
      | false => exact tok_big (S l) w hs kr nr er false nw false m (S r) ix (S r) _ _ _ true _ _ nv false hR hW hS hI hMr hHr hVr rfl rfl hneg rfl rfl rfl
      | true => exact tok_real (S l) w hs kr nr er false nw false m (S r) ix (S r) _ _ _ true _ _ nv true hR hW hS hI hMr hHr hVr rfl rfl hneg rfl rfl rfl
  · rw [if_neg hneg]
    obtain ⟨i, hi⟩ : ∃ i : Nat, ix = (i : Int) := ⟨ix.toNat, by omega⟩
    have hi' : ix.toNat = i := by omega
    rw [hi']
    have hq : (S r).extract (i + 1) (S r).size = S (r.drop (i + 1)) := S_from r (i + 1)
    have hr2 : (S r).extract 0 i = S (r.take i) := S_to r i
    have hil : i < (S r).size := by rw [S_size]; omega
    have hrs : (S r).size ≤ 64 := by rw [S_size]; omega
    have hP : ∀ w, Calls Tryd.prog 41 #[.string (S (r.drop (i + 1)))] w fun e w' => e = .returned (.tuple #[.int .i64 (powL (r.drop (i + 1))).1, .bool (powL (r.drop (i + 1))).2]) ∧ Below w.heap.size w w' := fun w =>
      dec_power.calls (S (r.drop (i + 1))) _ _ w (by unfold dec_power.f; rw [if_pos (by rw [S_size, List.length_drop]; omega), S_data])
    obtain ⟨hk1, hk2⟩ := powL_bound (r.drop (i + 1))
    have hrr : (r.take i).length ≤ 64 := by rw [List.length_take]; omega
    have hMr := hM (r.take i) hrr
    generalize (powL (r.drop (i + 1))).1 = np at *
    have hHr := hH (r.take i) np hrr hk1 hk2
    have hVr := hV (r.take i) np hrr hk1 hk2
    cases hokp : (powL (r.drop (i + 1))).2 with
    | false =>
      rw [hokp] at hP
      exact tok_badexp (S l) w hs kr nr er false nw false m (S r) ix (S (r.drop (i + 1))) np false hR hW hS hI hP rfl rfl i hi hil hrs hq rfl
    | true =>
      rw [hokp] at hP
      rw [if_pos rfl]
      unfold realL
      cases hokm : (mantL (r.take i)).2.2.2 with
      | false =>
        rw [hokm] at hMr
        exact tok_badmant_e (S l) w hs kr nr er false nw false m (S r) ix (S (r.drop (i + 1))) np true (S (r.take i)) _ _ _ false hR hW hS hI hP hMr rfl rfl i hi hil hrs hq rfl hr2 rfl
      | true =>
        rw [hokm] at hMr
        have hVr := hVr hokm
        rw [if_pos rfl]
        generalize valueL m (shiftL (mantL (r.take i)).1 (mantL (r.take i)).2.1 np).1 (shiftL (mantL (r.take i)).1 (mantL (r.take i)).2.1 np).2 = v at *
        obtain ⟨nv, okv⟩ := v
        cases okv with
        | false => exact tok_big_e (S l) w hs kr nr er false nw false m (S r) ix (S (r.drop (i + 1))) np true (S (r.take i)) _ _ _ true _ _ nv false hR hW hS hI hP hMr hHr hVr rfl rfl i hi hil hrs hq rfl hr2 rfl rfl
        | true => exact tok_real_e (S l) w hs kr nr er false nw false m (S r) ix (S (r.drop (i + 1))) np true (S (r.take i)) _ _ _ true _ _ nv true hR hW hS hI hP hMr hHr hVr rfl rfl i hi hil hrs hq rfl hr2 rfl rfl

end Go.Proofs.YtiocgpfnbmlfaaaDoor.QD
namespace Go.Proofs.YtiocgpfnbmlfaaaDoor
open Go Go.RowKit Go.Proofs.YtiocgpfnbmlfaaaDoorW.PrintWords

def dec_Token.f (a0 : ByteArray) : Option (Int × Int × ByteArray × Bool × Int) :=
  some ((QD.tokL a0.data.toList).1, (QD.tokL a0.data.toList).2.1, ⟨#[]⟩, (QD.tokL a0.data.toList).2.2.1, (QD.tokL a0.data.toList).2.2.2)
theorem dec_Token.calls (a0 : ByteArray) (r1 r2 : Int) (r3 : ByteArray) (r4 : Bool) (r5 : Int) (w : World) (h : dec_Token.f a0 = some (r1, r2, r3, r4, r5)) :
    Calls Tryd.prog 17 #[.string a0] w fun e w' => e = .returned (.tuple #[.agg #[.int .i64 r1, .int .i64 r2, .string r3], .bool r4, .int .i64 r5]) ∧ Below w.heap.size w w' := by
  unfold dec_Token.f at h
  simp only [Option.some.injEq, Prod.mk.injEq] at h
  obtain ⟨rfl, rfl, rfl, rfl, rfl⟩ := h
  have := QD.tok_any a0.data.toList w
  rw [← QD.S_of] at this
  exact this

end Go.Proofs.YtiocgpfnbmlfaaaDoor

/-! ## QV -/
namespace Go.Proofs.YtiocgpfnbmlfaaaDoor.QD
open Go Go.RowKit Go.Proofs.YtiocgpfnbmlfaaaDoor Go.Proofs.YtiocgpfnbmlfaaaDoorW.PrintWords

theorem digs9 (b : List UInt8) (hb : b.all isDig = true) : ∀ d ∈ digsOf b, d ≤ 9 := by
  intro d hd
  unfold digsOf at hd
  obtain ⟨c, hc, rfl⟩ := List.mem_map.1 hd
  have := (isDig_iff c).1 (List.all_eq_true.1 hb c hc)
  omega
theorem digsOf_len (b : List UInt8) : (digsOf b).length = b.length := by simp [digsOf]
theorem digsOf_append (a b : List UInt8) : digsOf (a ++ b) = digsOf a ++ digsOf b := by simp [digsOf]
theorem digsOf_zeros (m : Nat) : digsOf (List.replicate m 48) = List.replicate m 0 := by simp [digsOf]

def valN : List Nat → Nat
  | [] => 0
  | d :: ds => d * 10 ^ ds.length + valN ds
theorem valN_lt : ∀ ds : List Nat, (∀ d ∈ ds, d ≤ 9) → valN ds < 10 ^ ds.length
  | [], _ => by simp [valN]
  | d :: ds, h => by
    have ih := valN_lt ds (fun x hx => h x (by simp [hx]))
    have hd := h d (by simp)
    simp only [valN, List.length_cons, Nat.pow_succ]
    have : d * 10 ^ ds.length ≤ 9 * 10 ^ ds.length := Nat.mul_le_mul_right _ hd
    omega
theorem valN_append (a b : List Nat) : valN (a ++ b) = valN a * 10 ^ b.length + valN b := by
  induction a with
  | nil => simp [valN]
  | cons d a ih =>
    simp only [List.cons_append, valN, List.length_append, ih, Nat.pow_add, Nat.add_mul, Nat.mul_assoc]
    omega
theorem valN_zeros (n : Nat) : valN (List.replicate n 0) = 0 := by
  induction n with
  | zero => rfl
  | succ n ih => simp [List.replicate_succ, valN, ih]
theorem dbl_val : ∀ ds : List Nat, (dbl ds).1 * 10 ^ ds.length + valN (dbl ds).2 = 2 * valN ds
  | [] => by simp [dbl, valN]
  | d :: ds => by
    have ih := dbl_val ds
    simp only [dbl, valN, List.length_cons, dbl_len, Nat.pow_succ]
    generalize (dbl ds).1 = c at *
    generalize valN (dbl ds).2 = v at *
    generalize valN ds = u at *
    generalize 10 ^ ds.length = P at *
    have h1 : (2 * d + c) / 10 * (P * 10) + (2 * d + c) % 10 * P = (2 * d + c) * P := by
      rw [Nat.mul_comm P 10, ← Nat.mul_assoc, ← Nat.add_mul]
      congr 1
      omega
    have h2 : (2 * d + c) * P = 2 * (d * P) + c * P := by rw [Nat.add_mul, Nat.mul_assoc]
    omega
theorem iterD_val (k : Nat) : ∀ (n : Nat) (ds : List Nat), (iterD k n ds).1 * 10 ^ ds.length + valN (iterD k n ds).2 = 2 ^ k * (n * 10 ^ ds.length + valN ds) := by
  induction k with
  | zero => intro n ds; simp [iterD]
  | succ k ih =>
    intro n ds
    have h := ih (2 * n + (dbl ds).1) (dbl ds).2
    rw [dbl_len] at h
    rw [iterD, h, Nat.pow_succ, Nat.mul_assoc]
    congr 1
    have hd := dbl_val ds
    rw [Nat.add_mul, Nat.mul_assoc]
    omega
/-- digits that are f parts of 65536, exactly: 17 doublings count 2 f -/
theorem iterD_exact (ds : List Nat) (f : Nat) (hd : ∀ d ∈ ds, d ≤ 9) (h : valN ds * 65536 = f * 10 ^ ds.length) : (iterD 17 0 ds).1 = 2 * f := by
  have hv := iterD_val 17 0 ds
  have hl := (iterD_ok 17 0 ds hd)
  have hlt := valN_lt (iterD 17 0 ds).2 hl.2.1
  rw [hl.1] at hlt
  generalize (iterD 17 0 ds).1 = B at *
  generalize valN (iterD 17 0 ds).2 = v at *
  generalize 10 ^ ds.length = P at *
  have h2 : B * P + v = 2 * f * P := by
    rw [hv, Nat.zero_mul, Nat.zero_add, show (2 : Nat) ^ 17 = 2 * 65536 from rfl, Nat.mul_assoc, Nat.mul_comm 65536, h, Nat.mul_assoc]
  have hP : 0 < P := by omega
  have h3 : (B * P + v) / P = B := by rw [Nat.mul_comm, Nat.mul_add_div hP, Nat.div_eq_of_lt hlt]; rfl
  rw [h2, Nat.mul_div_cancel _ hP] at h3
  exact h3.symm

theorem digsOf_cons (c : UInt8) (l : List UInt8) : digsOf (c :: l) = (c.toNat - 48) :: digsOf l := rfl
theorem digB (d : Nat) (h : d ≤ 9) : (UInt8.ofNat (48 + d)).toNat = 48 + d := by
  rw [UInt8.toNat_ofNat']; omega
theorem fracs_val (k : Nat) : ∀ f, f < 65536 → 2 ^ (16 - k) ∣ f → k ≤ 16 → valN (digsOf (fracs k f)) * 65536 = f * 10 ^ (fracs k f).length ∧ (fracs k f).all isDig = true := by
  induction k with
  | zero =>
    intro f hf hd _
    have h0 : f = 0 := by
      rcases Nat.eq_zero_or_pos f with h | h
      · exact h
      · have := Nat.le_of_dvd h hd; omega
    subst h0
    simp [fracs, digsOf, valN]
  | succ k ih =>
    intro f hf hd hk
    by_cases h0 : f = 0
    · subst h0; simp [fracs_zero, digsOf, valN]
    · have hs := frac_step (j := 16 - (k + 1)) (k := k + 1) (by omega) hd hf h0
      obtain ⟨h1, h2⟩ := ih (f * 10 % 65536) (by omega) (by rw [show 16 - k = 16 - (k + 1) + 1 from by omega]; exact hs.2) (by omega)
      have hdl : f * 10 / 65536 ≤ 9 := by omega
      rw [fracs_succ h0, digsOf_cons, digB _ hdl]
      refine ⟨?_, ?_⟩
      · simp only [valN, digsOf_len, List.length_cons, Nat.pow_succ]
        generalize (fracs k (f * 10 % 65536)).length = L at *
        generalize valN (digsOf (fracs k (f * 10 % 65536))) = V at *
        have e1 : (48 + f * 10 / 65536 - 48) = f * 10 / 65536 := by omega
        have e2 : f * 10 = f * 10 / 65536 * 65536 + f * 10 % 65536 := by omega
        rw [e1, Nat.add_mul, h1, Nat.mul_assoc, Nat.mul_comm (10 ^ L) 65536, ← Nat.mul_assoc, ← Nat.add_mul, ← e2, Nat.mul_assoc, Nat.mul_comm 10]
      · rw [List.all_cons, h2, Bool.and_true, isDig_iff, digB _ hdl]
        omega
theorem digs_val (k : Nat) : ∀ n, n < 10 ^ (k + 1) → valD (digs n) = n ∧ (digs n).all isDig = true ∧ digs n ≠ [] := by
  induction k with
  | zero =>
    intro n hn
    have hn : n < 10 := by omega
    rw [digs_small hn]
    refine ⟨?_, ?_, by simp⟩
    · simp only [valD, List.foldl_cons, List.foldl_nil, digB n (by omega)]; omega
    · simp only [List.all_cons, List.all_nil, Bool.and_true, isDig_iff, digB n (by omega)]; omega
  | succ k ih =>
    intro n hn
    by_cases h : n < 10
    · rw [digs_small h]
      refine ⟨?_, ?_, by simp⟩
      · simp only [valD, List.foldl_cons, List.foldl_nil, digB n (by omega)]; omega
      · simp only [List.all_cons, List.all_nil, Bool.and_true, isDig_iff, digB n (by omega)]; omega
    · obtain ⟨h1, h2, _⟩ := ih (n / 10) (by rw [Nat.pow_succ] at hn; omega)
      rw [digs_big h]
      refine ⟨?_, ?_, by simp⟩
      · rw [valD_snoc, h1, digB _ (by omega)]; omega
      · rw [List.all_append, h2]
        simp only [List.all_cons, List.all_nil, Bool.and_true, Bool.true_and, isDig_iff, digB (n % 10) (by omega)]; omega

end Go.Proofs.YtiocgpfnbmlfaaaDoor.QD

/-! ## PFx0 -/
namespace Go.Proofs.YtiocgpfnbmlfaaaDoor.PF
open Go.RowKit Go.Proofs.YtiocgpfnbmlfaaaDoorW.PrintWords Go.Proofs.YtiocgpfnbmlfaaaDoorW.PrintLast Go.Proofs.YtiocgpfnbmlfaaaDoorW.PrintMore
attribute [local go_sem] max2_int min2_int max_two min_two max_three min_three max_four min_four   -- for this text's walks alone
set_option linter.unusedVariables false
set_option linter.unusedSimpArgs false



def errW : Option Int → Value
  | none => .nilIface
  | some c => .iface 0 (.int .i64 c)
theorem errW_none : errW none = .nilIface := rfl
theorem errW_some (c : Int) : errW (some c) = .iface 0 (.int .i64 c) := rfl

theorem info5 : (Tryd.prog.info? 5).map (fun i => (i.zero, i.size, i.bytes)) = some (some (.int .u8 0), 1, 1) := by kernel_rfl
-- the values' own types

end Go.Proofs.YtiocgpfnbmlfaaaDoor.PF

/-! ## PFx1 -/
namespace Go.Proofs.YtiocgpfnbmlfaaaDoor.PF
open Go.RowKit Go.Proofs.YtiocgpfnbmlfaaaDoorW.PrintWords Go.Proofs.YtiocgpfnbmlfaaaDoorW.PrintLast Go.Proofs.YtiocgpfnbmlfaaaDoorW.PrintMore
attribute [local go_sem] max2_int min2_int max_two min_two max_three min_three max_four min_four   -- for this text's walks alone
set_option linter.unusedVariables false
set_option linter.unusedSimpArgs false

/-! ### mezzotintref01_udec: function 46 -/
def mezzotintref01_udec.l0 : Nat → Int → ByteArray → Option (ByteArray)
  | 0, _, _ => none
  | k + 1, x0, x3 => (some (([(48 + ((Int.tmod x0 10) % 256)) % 256] : List Int) : List Int)).bind fun y101 => (if (strOfNums y101).size + x3.size ≤ 9223372036854775807 then (if (IntKind.u64.wrap (Int.tdiv x0 10)) = 0 then (some ((strOfNums y101) ++ x3)) else (mezzotintref01_udec.l0 k (IntKind.u64.wrap (Int.tdiv x0 10)) ((strOfNums y101) ++ x3))) else (none))
def mezzotintref01_udec.f (k : Nat) (a0 : Int) : Option (ByteArray) := mezzotintref01_udec.l0 k a0 (⟨#[]⟩ : ByteArray)
theorem mezzotintref01_udec.mono_l : ∀ k, (∀ y0 y1, LeO (mezzotintref01_udec.l0 k y0 y1) (mezzotintref01_udec.l0 (k + 1) y0 y1))
  | 0 => fun _ _ r h => by simp [mezzotintref01_udec.l0] at h
  | k + 1 => by
    have ih0 := mezzotintref01_udec.mono_l k
    · intro y0 y1
      unfold mezzotintref01_udec.l0
      repeat' first
      | (with_reducible exact ih0 _ _)
      | (with_reducible exact LeO.refl _)
      | (with_reducible exact LeO.none _)
      | (with_reducible refine LeO.ite ?_ ?_)
      | (with_reducible refine LeO.bind ?_ (fun _ => ?_))
      | exact ih0 _ _
      | exact LeO.none _
      | refine LeO.ite ?_ ?_
      | refine LeO.bind ?_ (fun _ => ?_)
theorem mezzotintref01_udec.mono : ∀ a0 k, LeO (mezzotintref01_udec.f k a0) (mezzotintref01_udec.f (k + 1) a0) := by
  intro a0 k
  have ih0 := mezzotintref01_udec.mono_l k
  unfold mezzotintref01_udec.f
  repeat' first
      | (with_reducible exact ih0 _ _)
      | (with_reducible exact LeO.refl _)
      | (with_reducible exact LeO.none _)
      | (with_reducible refine LeO.ite ?_ ?_)
      | (with_reducible refine LeO.bind ?_ (fun _ => ?_))
      | exact ih0 _ _
      | exact LeO.none _
      | refine LeO.ite ?_ ?_
      | refine LeO.bind ?_ (fun _ => ?_)
set_option maxHeartbeats 8000000 in
set_option maxRecDepth 100000 in
theorem mezzotintref01_udec.calls (k : Nat) (a0 : Int) (r : ByteArray) (w : World) (h : mezzotintref01_udec.f k a0 = some r) :
    Calls Tryd.prog 46 #[.int .u64 a0] w fun e w' => e = .returned (.string r) ∧ Below w.heap.size w w' := by
  have HB := Aside0.mk (Below.refl w.heap.size w)
  have H : (mezzotintref01_udec.l0 k a0 (⟨#[]⟩ : ByteArray)) = some r := h
  clear h
  have H' := Aside0.mk H
  clear H
  go_enter Tryd.func46, Tryd.ntmps46
  go_wp2
  go_loopg [0, 3] k (fun kq v0 v3 w' => ∃ (x0_1 : Int) (x3_1 : ByteArray), v0 = .int .u64 x0_1 ∧ v3 = .string x3_1 ∧ Aside0 (mezzotintref01_udec.l0 kq x0_1 x3_1 = some r) ∧ Aside0 (kq ≤ k) ∧ Aside0 (Below w.heap.size w w'))
  case atStart => exact ⟨(a0), ((⟨#[]⟩ : ByteArray)), (by first | rfl | (simp; done) | (simp [*]; done)), (by first | rfl | (simp; done) | (simp [*]; done)), H', ⟨Nat.le_refl _⟩, ⟨by repeat (first | (with_reducible first | exact HB.out | apply below_alloc | apply pw_below_drewN | apply below_drew1) | exact HB.out)⟩⟩
  case round =>
    clear H'
    obtain ⟨x0_1, x3_1, rfl, rfl, HA, HK1, HB⟩ := hrel
    cases gk with
    | zero => exact absurd HA.out (by simp [mezzotintref01_udec.l0])
    | succ k1 =>
      have H := HA.out
      clear HA
      simp only [mezzotintref01_udec.l0] at H
      obtain ⟨y101, hy101⟩ : ∃ y_ : List Int, y_ = (([(48 + ((Int.tmod x0_1 10) % 256)) % 256] : List Int)) := ⟨_, rfl⟩
      replace H : (if (strOfNums y101).size + x3_1.size ≤ 9223372036854775807 then (if (IntKind.u64.wrap (Int.tdiv x0_1 10)) = 0 then (some ((strOfNums y101) ++ x3_1)) else (mezzotintref01_udec.l0 k1 (IntKind.u64.wrap (Int.tdiv x0_1 10)) ((strOfNums y101) ++ x3_1))) else (none)) = some r := by first | (rw [hy101]; with_reducible exact H) | (have H2_ := (Option.bind_some _ _).symm.trans H; rw [hy101]; with_reducible exact H2_) | (have H2_ := (Option.bind_some _ _).symm.trans H; with_reducible exact H2_) | with_reducible exact H | (rw [hy101]; exact H) | exact H
      have Ny101 := Aside0.mk hy101
      clear hy101
      by_cases c2 : (strOfNums y101).size + x3_1.size ≤ 9223372036854775807
      · rw [if_pos c2] at H
        have c2b0 := eq_true c2
        have c2b1 : decide ((strOfNums y101).size + x3_1.size ≤ 9223372036854775807) = true := decide_eq_true c2
        try have c2b2 : (9223372036854775807 < (strOfNums y101).size + x3_1.size) = False := eq_false (Nat.not_lt.2 c2)
        by_cases c3 : (IntKind.u64.wrap (Int.tdiv x0_1 10)) = 0
        · rw [if_pos c3] at H
          have c3b0 : ((IntKind.u64.wrap (Int.tdiv x0_1 10)) == 0) = true := beq_iff_eq.mpr c3
          have c3b1 : ((IntKind.u64.wrap (Int.tdiv x0_1 10)) != 0) = false := bne_eq_false_iff_eq.mpr c3
          clear c3
          obtain rfl := Option.some.inj H
          go_wp2_with (first | ((with_reducible refine gate_dst (N := 8) rfl ?_); refine Kd.R_lit (Kd.int .u8) _ 5 ?hg (N := 8) ?hd (xs := ([(48 + ((Int.tmod x0_1 10) % 256)) % 256] : List Int)) (inner := [.int .u8 ((48 + ((Int.tmod x0_1 10) % 256)) % 256)]) (ok := fun _ => True) (okp := fun _ => True) ?hr ?hp (fun _ hk => hk) trivial (Below.refl _ _) (Nat.le_refl _) (by simp) ?_; (case hd => rfl); (case hg => rfl); (case hr => first | (go_simp; done) | (go_simp; rfl)); (case hp => exact (Reps.one (show Kd.M (Kd.int .u8) _ _ _ ((48 + ((Int.tmod x0_1 10) % 256)) % 256) [.int .u8 ((48 + ((Int.tmod x0_1 10) % 256)) % 256)] from rfl) (Reps.none _ _))); intro v102 w4 ho5 hb hg_ hnew_; clear hg_ hnew_; (first | rw [← Ny101.out] at ho5 | (simp only [Int.reduceToNat] at ho5; rw [← Ny101.out] at ho5)); have n0_ := Aside0.mk (Kd.R_lower ho5 (below_size (by repeat (first | (with_reducible first | exact HB.out | apply below_alloc | apply pw_below_drewN | apply below_drew1) | exact HB.out)))); have n1_ := Aside0.mk (below_step (by repeat (first | (with_reducible first | exact HB.out | apply below_alloc | apply pw_below_drewN | apply below_drew1) | exact HB.out)) hb); clear HB; have HO103 := n0_; have HB := n1_; clear n0_ n1_; clear hb ho5; have hcv6 := own_string (P := Tryd.prog) Tryd.underlying32 Tryd.underlying5 Tryd.underlying9 (Kd.own_of_R HO103.out)))
          go_ret
          exact ⟨by first | rfl | (simp [errW_none, errW_some] <;> rfl) | (simp [*, errW_none, errW_some] <;> rfl), by repeat (first | (with_reducible first | exact HB.out | apply below_alloc | apply pw_below_drewN | apply below_drew1) | exact HB.out)⟩
        · rw [if_neg c3] at H
          have c3b0 : ((IntKind.u64.wrap (Int.tdiv x0_1 10)) == 0) = false := beq_eq_false_iff_ne.mpr c3
          have c3b1 : ((IntKind.u64.wrap (Int.tdiv x0_1 10)) != 0) = true := bne_iff_ne.mpr c3
          have H' := Aside0.mk H
          clear H
          go_wp2_with (first | ((with_reducible refine gate_dst (N := 8) rfl ?_); refine Kd.R_lit (Kd.int .u8) _ 5 ?hg (N := 8) ?hd (xs := ([(48 + ((Int.tmod x0_1 10) % 256)) % 256] : List Int)) (inner := [.int .u8 ((48 + ((Int.tmod x0_1 10) % 256)) % 256)]) (ok := fun _ => True) (okp := fun _ => True) ?hr ?hp (fun _ hk => hk) trivial (Below.refl _ _) (Nat.le_refl _) (by simp) ?_; (case hd => rfl); (case hg => rfl); (case hr => first | (go_simp; done) | (go_simp; rfl)); (case hp => exact (Reps.one (show Kd.M (Kd.int .u8) _ _ _ ((48 + ((Int.tmod x0_1 10) % 256)) % 256) [.int .u8 ((48 + ((Int.tmod x0_1 10) % 256)) % 256)] from rfl) (Reps.none _ _))); intro v102 w7 ho8 hb hg_ hnew_; clear hg_ hnew_; (first | rw [← Ny101.out] at ho8 | (simp only [Int.reduceToNat] at ho8; rw [← Ny101.out] at ho8)); have n0_ := Aside0.mk (Kd.R_lower ho8 (below_size (by repeat (first | (with_reducible first | exact HB.out | apply below_alloc | apply pw_below_drewN | apply below_drew1) | exact HB.out)))); have n1_ := Aside0.mk (below_step (by repeat (first | (with_reducible first | exact HB.out | apply below_alloc | apply pw_below_drewN | apply below_drew1) | exact HB.out)) hb); clear HB; have HO103 := n0_; have HB := n1_; clear n0_ n1_; clear hb ho8; have hcv9 := own_string (P := Tryd.prog) Tryd.underlying32 Tryd.underlying5 Tryd.underlying9 (Kd.own_of_R HO103.out)))
          go_roundg k1
          case measure => have := HK1.out; omega
          case rel => exact ⟨(IntKind.u64.wrap (Int.tdiv x0_1 10)), ((strOfNums y101) ++ x3_1), (by first | rfl | (simp; done) | (simp [*]; done)), (by first | rfl | (simp; done) | (simp [*]; done)), H', ⟨by have := HK1.out; omega⟩, ⟨by repeat (first | (with_reducible first | exact HB.out | apply below_alloc | apply pw_below_drewN | apply below_drew1) | exact HB.out)⟩⟩
      · rw [if_neg c2] at H
        exact absurd H (by simp)

/-! ### mezzotintref01_Dec: function 19 -/
def mezzotintref01_Dec.f (k : Nat) (a0 : Int) : Option (ByteArray) := if a0 < 0 then ((mezzotintref01_udec.f k (IntKind.u64.wrap ((IntKind.u64.wrap (wrap64 (-(wrap64 (a0 + 1))))) + 1))).bind fun t104 => (if 1 + t104.size ≤ 9223372036854775807 then (some ((⟨#[45]⟩ : ByteArray) ++ t104)) else (none))) else ((mezzotintref01_udec.f k (IntKind.u64.wrap (a0))).bind fun t105 => (some t105))
theorem mezzotintref01_Dec.mono : ∀ a0 k, LeO (mezzotintref01_Dec.f k a0) (mezzotintref01_Dec.f (k + 1) a0) := by
  intro a0 k
  unfold mezzotintref01_Dec.f
  repeat' first
      | (with_reducible exact mezzotintref01_udec.mono _ _)
      | (with_reducible exact LeO.refl _)
      | (with_reducible exact LeO.none _)
      | (with_reducible refine LeO.ite ?_ ?_)
      | (with_reducible refine LeO.bind ?_ (fun _ => ?_))
      | exact mezzotintref01_udec.mono _ _
      | exact LeO.none _
      | refine LeO.ite ?_ ?_
      | refine LeO.bind ?_ (fun _ => ?_)
set_option maxHeartbeats 8000000 in
set_option maxRecDepth 100000 in
theorem mezzotintref01_Dec.calls (k : Nat) (a0 : Int) (r : ByteArray) (w : World) (h : mezzotintref01_Dec.f k a0 = some r) :
    Calls Tryd.prog 19 #[.int .i64 a0] w fun e w' => e = .returned (.string r) ∧ Below w.heap.size w w' := by
  have HB := Aside0.mk (Below.refl w.heap.size w)
  have H : (if a0 < 0 then ((mezzotintref01_udec.f k (IntKind.u64.wrap ((IntKind.u64.wrap (wrap64 (-(wrap64 (a0 + 1))))) + 1))).bind fun t104 => (if 1 + t104.size ≤ 9223372036854775807 then (some ((⟨#[45]⟩ : ByteArray) ++ t104)) else (none))) else ((mezzotintref01_udec.f k (IntKind.u64.wrap (a0))).bind fun t105 => (some t105))) = some r := h
  clear h
  by_cases c2 : a0 < 0
  · rw [if_pos c2] at H
    have c2b0 : decide (a0 < 0) = true := decide_eq_true c2
    clear c2
    replace H := Option.bind_eq_some_iff.mp H
    obtain ⟨t104, A30, H⟩ := H
    replace H : (if 1 + t104.size ≤ 9223372036854775807 then (some ((⟨#[45]⟩ : ByteArray) ++ t104)) else (none)) = some r := H
    have A3 := Aside0.mk A30
    clear A30
    by_cases c4 : 1 + t104.size ≤ 9223372036854775807
    · rw [if_pos c4] at H
      have c4b0 := eq_true c4
      have c4b1 : decide (1 + t104.size ≤ 9223372036854775807) = true := decide_eq_true c4
      try have c4b2 : (9223372036854775807 < 1 + t104.size) = False := eq_false (Nat.not_lt.2 c4)
      obtain rfl := Option.some.inj H
      go_enter Tryd.func19, Tryd.ntmps19
      go_wp2_with (first | ((with_reducible refine gate_callee (f := 46) rfl ?_); refine goesL_ (some 10) rfl rfl Tryd.func46 (by kernel_rfl) rfl #[.int .u64 (IntKind.u64.wrap ((IntKind.u64.wrap (wrap64 (-(wrap64 (a0 + 1))))) + 1))] rfl (by (try simp only [List.map_toArray, List.map_cons, List.map_nil]); first | done | rfl | (simp only [List.length_drop, List.length_take]; rfl)) ?_; (with_reducible refine (mezzotintref01_udec.calls k (IntKind.u64.wrap ((IntKind.u64.wrap (wrap64 (-(wrap64 (a0 + 1))))) + 1)) t104 _ A3.out).mono ?_); rintro e w5 ⟨rfl, hb⟩; refine ⟨_, rfl, ?_⟩; have n0_ := Aside0.mk (below_step (by repeat (first | (with_reducible first | exact HB.out | apply below_alloc | apply pw_below_drewN | apply below_drew1) | exact HB.out)) hb); clear HB; have HB := n0_; clear n0_; (try clear hb); (try clear hb2); (try clear hk); (try clear hi)))
      go_ret
      exact ⟨by first | rfl | (simp [errW_none, errW_some] <;> rfl) | (simp [*, errW_none, errW_some] <;> rfl), by repeat (first | (with_reducible first | exact HB.out | apply below_alloc | apply pw_below_drewN | apply below_drew1) | exact HB.out)⟩
    · rw [if_neg c4] at H
      exact absurd H (by simp)
  · rw [if_neg c2] at H
    have c2b0 : decide (a0 < 0) = false := decide_eq_false c2
    clear c2
    replace H := Option.bind_eq_some_iff.mp H
    obtain ⟨t105, A60, H⟩ := H
    replace H : (some t105) = some r := H
    have A6 := Aside0.mk A60
    clear A60
    obtain rfl := Option.some.inj H
    go_enter Tryd.func19, Tryd.ntmps19
    go_wp2_with (first | ((with_reducible refine gate_callee (f := 46) rfl ?_); refine goesL_ (some 14) rfl rfl Tryd.func46 (by kernel_rfl) rfl #[.int .u64 (IntKind.u64.wrap (a0))] rfl (by (try simp only [List.map_toArray, List.map_cons, List.map_nil]); first | done | rfl | (simp only [List.length_drop, List.length_take]; rfl)) ?_; (with_reducible refine (mezzotintref01_udec.calls k (IntKind.u64.wrap (a0)) t105 _ A6.out).mono ?_); rintro e w7 ⟨rfl, hb⟩; refine ⟨_, rfl, ?_⟩; have n0_ := Aside0.mk (below_step (by repeat (first | (with_reducible first | exact HB.out | apply below_alloc | apply pw_below_drewN | apply below_drew1) | exact HB.out)) hb); clear HB; have HB := n0_; clear n0_; (try clear hb); (try clear hb2); (try clear hk); (try clear hi)))
    go_ret
    exact ⟨by first | rfl | (simp [errW_none, errW_some] <;> rfl) | (simp [*, errW_none, errW_some] <;> rfl), by repeat (first | (with_reducible first | exact HB.out | apply below_alloc | apply pw_below_drewN | apply below_drew1) | exact HB.out)⟩

-- given: function 47 (dec_parts)

/-! ### dec_Print: function 20 -/
def dec_Print.f (a0 : Int) : Option (ByteArray) := (dec_parts.f a0).bind fun bt106 => (if bt106.2.2.toList = ([] : List UInt8) then (if bt106.1.size + bt106.2.1.size ≤ 9223372036854775807 then (some (bt106.1 ++ bt106.2.1)) else (none)) else (if bt106.1.size + bt106.2.1.size ≤ 9223372036854775807 then (if (bt106.1 ++ bt106.2.1).size + 1 ≤ 9223372036854775807 then (if ((bt106.1 ++ bt106.2.1) ++ (⟨#[46]⟩ : ByteArray)).size + bt106.2.2.size ≤ 9223372036854775807 then (some (((bt106.1 ++ bt106.2.1) ++ (⟨#[46]⟩ : ByteArray)) ++ bt106.2.2)) else (none)) else (none)) else (none)))
set_option maxHeartbeats 8000000 in
set_option maxRecDepth 100000 in
theorem dec_Print.calls (a0 : Int) (r : ByteArray) (w : World) (h : dec_Print.f a0 = some r) :
    Calls Tryd.prog 20 #[.int .i64 a0] w fun e w' => e = .returned (.string r) ∧ Below w.heap.size w w' := by
  have HB := Aside0.mk (Below.refl w.heap.size w)
  have H : ((dec_parts.f a0).bind fun bt106 => (if bt106.2.2.toList = ([] : List UInt8) then (if bt106.1.size + bt106.2.1.size ≤ 9223372036854775807 then (some (bt106.1 ++ bt106.2.1)) else (none)) else (if bt106.1.size + bt106.2.1.size ≤ 9223372036854775807 then (if (bt106.1 ++ bt106.2.1).size + 1 ≤ 9223372036854775807 then (if ((bt106.1 ++ bt106.2.1) ++ (⟨#[46]⟩ : ByteArray)).size + bt106.2.2.size ≤ 9223372036854775807 then (some (((bt106.1 ++ bt106.2.1) ++ (⟨#[46]⟩ : ByteArray)) ++ bt106.2.2)) else (none)) else (none)) else (none)))) = some r := h
  clear h
  replace H := Option.bind_eq_some_iff.mp H
  obtain ⟨⟨t106, t107, t108⟩, A20, H⟩ := H
  replace H : (if t108.toList = ([] : List UInt8) then (if t106.size + t107.size ≤ 9223372036854775807 then (some (t106 ++ t107)) else (none)) else (if t106.size + t107.size ≤ 9223372036854775807 then (if (t106 ++ t107).size + 1 ≤ 9223372036854775807 then (if ((t106 ++ t107) ++ (⟨#[46]⟩ : ByteArray)).size + t108.size ≤ 9223372036854775807 then (some (((t106 ++ t107) ++ (⟨#[46]⟩ : ByteArray)) ++ t108)) else (none)) else (none)) else (none))) = some r := H
  have A2 := Aside0.mk A20
  clear A20
  by_cases c3 : t108.toList = ([] : List UInt8)
  · rw [if_pos c3] at H
    have c3b0 : (t108.toList == ([] : List UInt8)) = true := beq_iff_eq.mpr c3
    have c3b1 : (t108.toList != ([] : List UInt8)) = false := bne_eq_false_iff_eq.mpr c3
    clear c3
    by_cases c4 : t106.size + t107.size ≤ 9223372036854775807
    · rw [if_pos c4] at H
      have c4b0 := eq_true c4
      have c4b1 : decide (t106.size + t107.size ≤ 9223372036854775807) = true := decide_eq_true c4
      try have c4b2 : (9223372036854775807 < t106.size + t107.size) = False := eq_false (Nat.not_lt.2 c4)
      obtain rfl := Option.some.inj H
      go_enter Tryd.func20, Tryd.ntmps20
      go_wp2_with (first | ((with_reducible refine gate_callee (f := 47) rfl ?_); refine goesL_ (some 8) rfl rfl Tryd.func47 (by kernel_rfl) rfl #[.int .i64 a0] rfl (by (try simp only [List.map_toArray, List.map_cons, List.map_nil]); first | done | rfl | (simp only [List.length_drop, List.length_take]; rfl)) ?_; (with_reducible refine (dec_parts.calls a0 t106 t107 t108 _ A2.out).mono ?_); rintro e w5 ⟨rfl, hb⟩; refine ⟨_, rfl, ?_⟩; have n0_ := Aside0.mk (below_step (by repeat (first | (with_reducible first | exact HB.out | apply below_alloc | apply pw_below_drewN | apply below_drew1) | exact HB.out)) hb); clear HB; have HB := n0_; clear n0_; (try clear hb); (try clear hb2); (try clear hk); (try clear hi)))
      go_ret
      exact ⟨by first | rfl | (simp [errW_none, errW_some] <;> rfl) | (simp [*, errW_none, errW_some] <;> rfl), by repeat (first | (with_reducible first | exact HB.out | apply below_alloc | apply pw_below_drewN | apply below_drew1) | exact HB.out)⟩
    · rw [if_neg c4] at H
      exact absurd H (by simp)
  · rw [if_neg c3] at H
    have c3b0 : (t108.toList == ([] : List UInt8)) = false := beq_eq_false_iff_ne.mpr c3
    have c3b1 : (t108.toList != ([] : List UInt8)) = true := bne_iff_ne.mpr c3
    by_cases c6 : t106.size + t107.size ≤ 9223372036854775807
    · rw [if_pos c6] at H
      have c6b0 := eq_true c6
      have c6b1 : decide (t106.size + t107.size ≤ 9223372036854775807) = true := decide_eq_true c6
      try have c6b2 : (9223372036854775807 < t106.size + t107.size) = False := eq_false (Nat.not_lt.2 c6)
      by_cases c7 : (t106 ++ t107).size + 1 ≤ 9223372036854775807
      · rw [if_pos c7] at H
        have c7b0 := eq_true c7
        have c7b1 : decide ((t106 ++ t107).size + 1 ≤ 9223372036854775807) = true := decide_eq_true c7
        try have c7b2 : (9223372036854775807 < (t106 ++ t107).size + 1) = False := eq_false (Nat.not_lt.2 c7)
        try (have c7b3 := eq_false (Nat.not_lt.2 c7); simp only [ByteArray.size_append, lit_size, List.size_toArray, List.length_cons, List.length_nil, Nat.zero_add, Nat.reduceAdd] at c7b3)
        by_cases c8 : ((t106 ++ t107) ++ (⟨#[46]⟩ : ByteArray)).size + t108.size ≤ 9223372036854775807
        · rw [if_pos c8] at H
          have c8b0 := eq_true c8
          have c8b1 : decide (((t106 ++ t107) ++ (⟨#[46]⟩ : ByteArray)).size + t108.size ≤ 9223372036854775807) = true := decide_eq_true c8
          try have c8b2 : (9223372036854775807 < ((t106 ++ t107) ++ (⟨#[46]⟩ : ByteArray)).size + t108.size) = False := eq_false (Nat.not_lt.2 c8)
          try (have c8b3 := eq_false (Nat.not_lt.2 c8); simp only [ByteArray.size_append, lit_size, List.size_toArray, List.length_cons, List.length_nil, Nat.zero_add, Nat.reduceAdd] at c8b3)
          obtain rfl := Option.some.inj H
          go_enter Tryd.func20, Tryd.ntmps20
          go_wp2_with (first | ((with_reducible refine gate_callee (f := 47) rfl ?_); refine goesL_ (some 8) rfl rfl Tryd.func47 (by kernel_rfl) rfl #[.int .i64 a0] rfl (by (try simp only [List.map_toArray, List.map_cons, List.map_nil]); first | done | rfl | (simp only [List.length_drop, List.length_take]; rfl)) ?_; (with_reducible refine (dec_parts.calls a0 t106 t107 t108 _ A2.out).mono ?_); rintro e w9 ⟨rfl, hb⟩; refine ⟨_, rfl, ?_⟩; have n0_ := Aside0.mk (below_step (by repeat (first | (with_reducible first | exact HB.out | apply below_alloc | apply pw_below_drewN | apply below_drew1) | exact HB.out)) hb); clear HB; have HB := n0_; clear n0_; (try clear hb); (try clear hb2); (try clear hk); (try clear hi)))
          go_ret
          exact ⟨by first | rfl | (simp [errW_none, errW_some] <;> rfl) | (simp [*, errW_none, errW_some] <;> rfl), by repeat (first | (with_reducible first | exact HB.out | apply below_alloc | apply pw_below_drewN | apply below_drew1) | exact HB.out)⟩
        · rw [if_neg c8] at H
          exact absurd H (by simp)
      · rw [if_neg c7] at H
        exact absurd H (by simp)
    · rw [if_neg c6] at H
      exact absurd H (by simp)

/-! ### dec_PrintReal: function 21 -/
def dec_PrintReal.f (a0 : Int) : Option (ByteArray) := (dec_parts.f a0).bind fun bt109 => (if bt109.2.2.toList = ([] : List UInt8) then (if bt109.1.size + bt109.2.1.size ≤ 9223372036854775807 then (if (bt109.1 ++ bt109.2.1).size + 1 ≤ 9223372036854775807 then (if ((bt109.1 ++ bt109.2.1) ++ (⟨#[46]⟩ : ByteArray)).size + 1 ≤ 9223372036854775807 then (some (((bt109.1 ++ bt109.2.1) ++ (⟨#[46]⟩ : ByteArray)) ++ (⟨#[48]⟩ : ByteArray))) else (none)) else (none)) else (none)) else (if bt109.1.size + bt109.2.1.size ≤ 9223372036854775807 then (if (bt109.1 ++ bt109.2.1).size + 1 ≤ 9223372036854775807 then (if ((bt109.1 ++ bt109.2.1) ++ (⟨#[46]⟩ : ByteArray)).size + bt109.2.2.size ≤ 9223372036854775807 then (some (((bt109.1 ++ bt109.2.1) ++ (⟨#[46]⟩ : ByteArray)) ++ bt109.2.2)) else (none)) else (none)) else (none)))
set_option maxHeartbeats 8000000 in
set_option maxRecDepth 100000 in
theorem dec_PrintReal.calls (a0 : Int) (r : ByteArray) (w : World) (h : dec_PrintReal.f a0 = some r) :
    Calls Tryd.prog 21 #[.int .i64 a0] w fun e w' => e = .returned (.string r) ∧ Below w.heap.size w w' := by
  have HB := Aside0.mk (Below.refl w.heap.size w)
  have H : ((dec_parts.f a0).bind fun bt109 => (if bt109.2.2.toList = ([] : List UInt8) then (if bt109.1.size + bt109.2.1.size ≤ 9223372036854775807 then (if (bt109.1 ++ bt109.2.1).size + 1 ≤ 9223372036854775807 then (if ((bt109.1 ++ bt109.2.1) ++ (⟨#[46]⟩ : ByteArray)).size + 1 ≤ 9223372036854775807 then (some (((bt109.1 ++ bt109.2.1) ++ (⟨#[46]⟩ : ByteArray)) ++ (⟨#[48]⟩ : ByteArray))) else (none)) else (none)) else (none)) else (if bt109.1.size + bt109.2.1.size ≤ 9223372036854775807 then (if (bt109.1 ++ bt109.2.1).size + 1 ≤ 9223372036854775807 then (if ((bt109.1 ++ bt109.2.1) ++ (⟨#[46]⟩ : ByteArray)).size + bt109.2.2.size ≤ 9223372036854775807 then (some (((bt109.1 ++ bt109.2.1) ++ (⟨#[46]⟩ : ByteArray)) ++ bt109.2.2)) else (none)) else (none)) else (none)))) = some r := h
  clear h
  replace H := Option.bind_eq_some_iff.mp H
  obtain ⟨⟨t109, t110, t111⟩, A20, H⟩ := H
  replace H : (if t111.toList = ([] : List UInt8) then (if t109.size + t110.size ≤ 9223372036854775807 then (if (t109 ++ t110).size + 1 ≤ 9223372036854775807 then (if ((t109 ++ t110) ++ (⟨#[46]⟩ : ByteArray)).size + 1 ≤ 9223372036854775807 then (some (((t109 ++ t110) ++ (⟨#[46]⟩ : ByteArray)) ++ (⟨#[48]⟩ : ByteArray))) else (none)) else (none)) else (none)) else (if t109.size + t110.size ≤ 9223372036854775807 then (if (t109 ++ t110).size + 1 ≤ 9223372036854775807 then (if ((t109 ++ t110) ++ (⟨#[46]⟩ : ByteArray)).size + t111.size ≤ 9223372036854775807 then (some (((t109 ++ t110) ++ (⟨#[46]⟩ : ByteArray)) ++ t111)) else (none)) else (none)) else (none))) = some r := H
  have A2 := Aside0.mk A20
  clear A20
  by_cases c3 : t111.toList = ([] : List UInt8)
  · rw [if_pos c3] at H
    have c3b0 : (t111.toList == ([] : List UInt8)) = true := beq_iff_eq.mpr c3
    have c3b1 : (t111.toList != ([] : List UInt8)) = false := bne_eq_false_iff_eq.mpr c3
    clear c3
    by_cases c4 : t109.size + t110.size ≤ 9223372036854775807
    · rw [if_pos c4] at H
      have c4b0 := eq_true c4
      have c4b1 : decide (t109.size + t110.size ≤ 9223372036854775807) = true := decide_eq_true c4
      try have c4b2 : (9223372036854775807 < t109.size + t110.size) = False := eq_false (Nat.not_lt.2 c4)
      by_cases c5 : (t109 ++ t110).size + 1 ≤ 9223372036854775807
      · rw [if_pos c5] at H
        have c5b0 := eq_true c5
        have c5b1 : decide ((t109 ++ t110).size + 1 ≤ 9223372036854775807) = true := decide_eq_true c5
        try have c5b2 : (9223372036854775807 < (t109 ++ t110).size + 1) = False := eq_false (Nat.not_lt.2 c5)
        try (have c5b3 := eq_false (Nat.not_lt.2 c5); simp only [ByteArray.size_append, lit_size, List.size_toArray, List.length_cons, List.length_nil, Nat.zero_add, Nat.reduceAdd] at c5b3)
        by_cases c6 : ((t109 ++ t110) ++ (⟨#[46]⟩ : ByteArray)).size + 1 ≤ 9223372036854775807
        · rw [if_pos c6] at H
          have c6b0 := eq_true c6
          have c6b1 : decide (((t109 ++ t110) ++ (⟨#[46]⟩ : ByteArray)).size + 1 ≤ 9223372036854775807) = true := decide_eq_true c6
          try have c6b2 : (9223372036854775807 < ((t109 ++ t110) ++ (⟨#[46]⟩ : ByteArray)).size + 1) = False := eq_false (Nat.not_lt.2 c6)
          try (have c6b3 := eq_false (Nat.not_lt.2 c6); simp only [ByteArray.size_append, lit_size, List.size_toArray, List.length_cons, List.length_nil, Nat.zero_add, Nat.reduceAdd] at c6b3)
          obtain rfl := Option.some.inj H
          go_enter Tryd.func21, Tryd.ntmps21
          go_wp2_with (first | ((with_reducible refine gate_callee (f := 47) rfl ?_); refine goesL_ (some 8) rfl rfl Tryd.func47 (by kernel_rfl) rfl #[.int .i64 a0] rfl (by (try simp only [List.map_toArray, List.map_cons, List.map_nil]); first | done | rfl | (simp only [List.length_drop, List.length_take]; rfl)) ?_; (with_reducible refine (dec_parts.calls a0 t109 t110 t111 _ A2.out).mono ?_); rintro e w7 ⟨rfl, hb⟩; refine ⟨_, rfl, ?_⟩; have n0_ := Aside0.mk (below_step (by repeat (first | (with_reducible first | exact HB.out | apply below_alloc | apply pw_below_drewN | apply below_drew1) | exact HB.out)) hb); clear HB; have HB := n0_; clear n0_; (try clear hb); (try clear hb2); (try clear hk); (try clear hi)))
          go_ret
          exact ⟨by first | rfl | (simp [errW_none, errW_some] <;> rfl) | (simp [*, errW_none, errW_some] <;> rfl), by repeat (first | (with_reducible first | exact HB.out | apply below_alloc | apply pw_below_drewN | apply below_drew1) | exact HB.out)⟩
        · rw [if_neg c6] at H
          exact absurd H (by simp)
      · rw [if_neg c5] at H
        exact absurd H (by simp)
    · rw [if_neg c4] at H
      exact absurd H (by simp)
  · rw [if_neg c3] at H
    have c3b0 : (t111.toList == ([] : List UInt8)) = false := beq_eq_false_iff_ne.mpr c3
    have c3b1 : (t111.toList != ([] : List UInt8)) = true := bne_iff_ne.mpr c3
    by_cases c8 : t109.size + t110.size ≤ 9223372036854775807
    · rw [if_pos c8] at H
      have c8b0 := eq_true c8
      have c8b1 : decide (t109.size + t110.size ≤ 9223372036854775807) = true := decide_eq_true c8
      try have c8b2 : (9223372036854775807 < t109.size + t110.size) = False := eq_false (Nat.not_lt.2 c8)
      by_cases c9 : (t109 ++ t110).size + 1 ≤ 9223372036854775807
      · rw [if_pos c9] at H
        have c9b0 := eq_true c9
        have c9b1 : decide ((t109 ++ t110).size + 1 ≤ 9223372036854775807) = true := decide_eq_true c9
        try have c9b2 : (9223372036854775807 < (t109 ++ t110).size + 1) = False := eq_false (Nat.not_lt.2 c9)
        try (have c9b3 := eq_false (Nat.not_lt.2 c9); simp only [ByteArray.size_append, lit_size, List.size_toArray, List.length_cons, List.length_nil, Nat.zero_add, Nat.reduceAdd] at c9b3)
        by_cases c10 : ((t109 ++ t110) ++ (⟨#[46]⟩ : ByteArray)).size + t111.size ≤ 9223372036854775807
        · rw [if_pos c10] at H
          have c10b0 := eq_true c10
          have c10b1 : decide (((t109 ++ t110) ++ (⟨#[46]⟩ : ByteArray)).size + t111.size ≤ 9223372036854775807) = true := decide_eq_true c10
          try have c10b2 : (9223372036854775807 < ((t109 ++ t110) ++ (⟨#[46]⟩ : ByteArray)).size + t111.size) = False := eq_false (Nat.not_lt.2 c10)
          try (have c10b3 := eq_false (Nat.not_lt.2 c10); simp only [ByteArray.size_append, lit_size, List.size_toArray, List.length_cons, List.length_nil, Nat.zero_add, Nat.reduceAdd] at c10b3)
          obtain rfl := Option.some.inj H
          go_enter Tryd.func21, Tryd.ntmps21
          go_wp2_with (first | ((with_reducible refine gate_callee (f := 47) rfl ?_); refine goesL_ (some 8) rfl rfl Tryd.func47 (by kernel_rfl) rfl #[.int .i64 a0] rfl (by (try simp only [List.map_toArray, List.map_cons, List.map_nil]); first | done | rfl | (simp only [List.length_drop, List.length_take]; rfl)) ?_; (with_reducible refine (dec_parts.calls a0 t109 t110 t111 _ A2.out).mono ?_); rintro e w11 ⟨rfl, hb⟩; refine ⟨_, rfl, ?_⟩; have n0_ := Aside0.mk (below_step (by repeat (first | (with_reducible first | exact HB.out | apply below_alloc | apply pw_below_drewN | apply below_drew1) | exact HB.out)) hb); clear HB; have HB := n0_; clear n0_; (try clear hb); (try clear hb2); (try clear hk); (try clear hi)))
          go_ret
          exact ⟨by first | rfl | (simp [errW_none, errW_some] <;> rfl) | (simp [*, errW_none, errW_some] <;> rfl), by repeat (first | (with_reducible first | exact HB.out | apply below_alloc | apply pw_below_drewN | apply below_drew1) | exact HB.out)⟩
        · rw [if_neg c10] at H
          exact absurd H (by simp)
      · rw [if_neg c9] at H
        exact absurd H (by simp)
    · rw [if_neg c8] at H
      exact absurd H (by simp)

/-! ### mezzotintlaw02_answers: function 14 -/
def mezzotintlaw02_answers.f  : Option (Bool) := (dec_Print.f 32768).bind fun t112 => (if t112.toList = ([48, 46, 53] : List UInt8) then ((dec_PrintReal.f 65536).bind fun t113 => (some (t113.toList == ([49, 46, 48] : List UInt8)))) else (some false))
set_option maxHeartbeats 8000000 in
set_option maxRecDepth 100000 in
theorem mezzotintlaw02_answers.calls  (r : Bool) (w : World) (h : mezzotintlaw02_answers.f  = some r) :
    Calls Tryd.prog 14 #[] w fun e w' => e = .returned (.bool r) ∧ Below w.heap.size w w' := by
  have HB := Aside0.mk (Below.refl w.heap.size w)
  have H : ((dec_Print.f 32768).bind fun t112 => (if t112.toList = ([48, 46, 53] : List UInt8) then ((dec_PrintReal.f 65536).bind fun t113 => (some (t113.toList == ([49, 46, 48] : List UInt8)))) else (some false))) = some r := h
  clear h
  replace H := Option.bind_eq_some_iff.mp H
  obtain ⟨t112, A10, H⟩ := H
  replace H : (if t112.toList = ([48, 46, 53] : List UInt8) then ((dec_PrintReal.f 65536).bind fun t113 => (some (t113.toList == ([49, 46, 48] : List UInt8)))) else (some false)) = some r := H
  have A1 := Aside0.mk A10
  clear A10
  by_cases c2 : t112.toList = ([48, 46, 53] : List UInt8)
  · rw [if_pos c2] at H
    have c2b0 : (t112.toList == ([48, 46, 53] : List UInt8)) = true := beq_iff_eq.mpr c2
    have c2b1 : (t112.toList != ([48, 46, 53] : List UInt8)) = false := bne_eq_false_iff_eq.mpr c2
    clear c2
    replace H := Option.bind_eq_some_iff.mp H
    obtain ⟨t113, A30, H⟩ := H
    replace H : (some (t113.toList == ([49, 46, 48] : List UInt8))) = some r := H
    have A3 := Aside0.mk A30
    clear A30
    obtain rfl := Option.some.inj H
    go_enter Tryd.func14, Tryd.ntmps14
    go_wp2_with (first | ((with_reducible refine gate_callee (f := 20) rfl ?_); refine goesL_ (some 1) rfl rfl Tryd.func20 (by kernel_rfl) rfl #[.int .i64 32768] rfl (by (try simp only [List.map_toArray, List.map_cons, List.map_nil]); first | done | rfl | (simp only [List.length_drop, List.length_take]; rfl)) ?_; (with_reducible refine (dec_Print.calls 32768 t112 _ A1.out).mono ?_); rintro e w4 ⟨rfl, hb⟩; refine ⟨_, rfl, ?_⟩; have n0_ := Aside0.mk (below_step (by repeat (first | (with_reducible first | exact HB.out | apply below_alloc | apply pw_below_drewN | apply below_drew1) | exact HB.out)) hb); clear HB; have HB := n0_; clear n0_; (try clear hb); (try clear hb2); (try clear hk); (try clear hi)) | (go_at_call 21; (with_reducible refine (dec_PrintReal.calls 65536 t113 _ A3.out).mono ?_); rintro e w5 ⟨rfl, hb⟩; have n0_ := Aside0.mk (below_step (by repeat (first | (with_reducible first | exact HB.out | apply below_alloc | apply pw_below_drewN | apply below_drew1) | exact HB.out)) hb); clear HB; have HB := n0_; clear n0_; (try clear hb); (try clear hb2); (try clear hk); (try clear hi)))
    go_ret
    exact ⟨by first | rfl | (simp [errW_none, errW_some] <;> rfl) | (simp [*, errW_none, errW_some] <;> rfl), by repeat (first | (with_reducible first | exact HB.out | apply below_alloc | apply pw_below_drewN | apply below_drew1) | exact HB.out)⟩
  · rw [if_neg c2] at H
    have c2b0 : (t112.toList == ([48, 46, 53] : List UInt8)) = false := beq_eq_false_iff_ne.mpr c2
    have c2b1 : (t112.toList != ([48, 46, 53] : List UInt8)) = true := bne_iff_ne.mpr c2
    obtain rfl := Option.some.inj H
    go_enter Tryd.func14, Tryd.ntmps14
    go_wp2_with (first | ((with_reducible refine gate_callee (f := 20) rfl ?_); refine goesL_ (some 1) rfl rfl Tryd.func20 (by kernel_rfl) rfl #[.int .i64 32768] rfl (by (try simp only [List.map_toArray, List.map_cons, List.map_nil]); first | done | rfl | (simp only [List.length_drop, List.length_take]; rfl)) ?_; (with_reducible refine (dec_Print.calls 32768 t112 _ A1.out).mono ?_); rintro e w6 ⟨rfl, hb⟩; refine ⟨_, rfl, ?_⟩; have n0_ := Aside0.mk (below_step (by repeat (first | (with_reducible first | exact HB.out | apply below_alloc | apply pw_below_drewN | apply below_drew1) | exact HB.out)) hb); clear HB; have HB := n0_; clear n0_; (try clear hb); (try clear hb2); (try clear hk); (try clear hi)))
    go_ret
    exact ⟨by first | rfl | (simp [errW_none, errW_some] <;> rfl) | (simp [*, errW_none, errW_some] <;> rfl), by repeat (first | (with_reducible first | exact HB.out | apply below_alloc | apply pw_below_drewN | apply below_drew1) | exact HB.out)⟩

/-- THE ONE PURE STATEMENT of mezzotintlaw02_answers: yours. -/
def mezzotintlaw02_answers.Pure : Prop := mezzotintlaw02_answers.f  = some true
theorem mezzotintlaw02_answers.walk (P : mezzotintlaw02_answers.Pure)  (w : World)  :
    Calls Tryd.prog 14 #[] w fun e w' => e = .returned (.bool true) ∧ Below w.heap.size w w' := by
  have h := P  
  refine (mezzotintlaw02_answers.calls  true w h).mono ?_
  rintro e w' ⟨rfl, hd⟩
  exact ⟨rfl, hd⟩

end Go.Proofs.YtiocgpfnbmlfaaaDoor.PF

/-! ## GY -/
namespace Go.Proofs.YtiocgpfnbmlfaaaDoor.QF
open Go Go.RowKit Go.Proofs.YtiocgpfnbmlfaaaDoor Go.Proofs.YtiocgpfnbmlfaaaDoor.PF Go.Proofs.YtiocgpfnbmlfaaaDoor.QD Go.Proofs.YtiocgpfnbmlfaaaDoorW.PrintWords Go.Proofs.YtiocgpfnbmlfaaaDoorW.PrintLast

theorem S_nums (n : Nat) : strOfNums [(n : Int)] = S [UInt8.ofNat n] := by simp [strOfNums, S]
theorem u64_small (n : Nat) (h : n < 18446744073709551616) : IntKind.u64.wrap (n : Int) = n := by
  simp [IntKind.wrap, IntKind.bits, IntKind.signed]
  omega
theorem udec_ev (k : Nat) : ∀ (n : Nat) (x : List UInt8), n < 10 ^ (k + 1) → n < 18446744073709551616 → x.length + k < 9223372036854775807 →
    Ev (fun r => mezzotintref01_udec.l0 r n (S x)) (S (digs n ++ x)) := by
  induction k with
  | zero =>
    intro n x hn hb hx
    have hn : n < 10 := by omega
    refine Ev.step (f := fun _ => some (S (digs n ++ x))) (fun r => ?_) (Ev.now _)
    simp only [mezzotintref01_udec.l0, Option.bind_some]
    rw [show ((48 + ((n : Int).tmod 10) % 256) % 256 : Int) = ((48 + n % 10 : Nat) : Int) from by rw [tm _ _ (by omega)]; omega, S_nums, S_append, S_size, S_size,
      if_pos (by simp; omega), show (n : Int).tdiv 10 = ((n / 10 : Nat) : Int) from by rw [td _ _ (by omega)]; omega, u64_small _ (by omega), if_pos (by omega), digs_small hn, show n % 10 = n from by omega]
  | succ k ih =>
    intro n x hn hb hx
    by_cases h : n < 10
    · refine Ev.step (f := fun _ => some (S (digs n ++ x))) (fun r => ?_) (Ev.now _)
      simp only [mezzotintref01_udec.l0, Option.bind_some]
      rw [show ((48 + ((n : Int).tmod 10) % 256) % 256 : Int) = ((48 + n % 10 : Nat) : Int) from by rw [tm _ _ (by omega)]; omega, S_nums, S_append, S_size, S_size,
        if_pos (by simp; omega), show (n : Int).tdiv 10 = ((n / 10 : Nat) : Int) from by rw [td _ _ (by omega)]; omega, u64_small _ (by omega), if_pos (by omega), digs_small h, show n % 10 = n from by omega]
    · have := ih (n / 10) (UInt8.ofNat (48 + n % 10) :: x) (by rw [Nat.pow_succ] at hn; omega) (by omega) (by simp; omega)
      rw [show digs n ++ x = digs (n / 10) ++ UInt8.ofNat (48 + n % 10) :: x from by rw [digs_big h]; simp]
      refine Ev.step (fun r => ?_) this
      simp only [mezzotintref01_udec.l0, Option.bind_some]
      rw [show ((48 + ((n : Int).tmod 10) % 256) % 256 : Int) = ((48 + n % 10 : Nat) : Int) from by rw [tm _ _ (by omega)]; omega, S_nums, S_append, S_size, S_size,
        if_pos (by simp; omega), show (n : Int).tdiv 10 = ((n / 10 : Nat) : Int) from by rw [td _ _ (by omega)]; omega, u64_small _ (by omega), if_neg (by omega)]
      rfl

/-- Dec of a number that is not below 0 -/
theorem Dec_ev (n : Nat) (h : n < 9223372036854775808) : Ev (fun r => mezzotintref01_Dec.f r n) (S (digs n)) := by
  have := udec_ev 18 n [] (by omega) (by omega) (by simp)
  rw [List.append_nil] at this
  refine Ev.congr (fun r => ?_) this
  unfold mezzotintref01_Dec.f mezzotintref01_udec.f
  rw [if_neg (by omega), u64_small _ (by omega)]
  show (mezzotintref01_udec.l0 r n (S [])).bind (fun t => some t) = _
  cases mezzotintref01_udec.l0 r n (S []) <;> rfl


/-- Dec of a small number of either sign -/
def decL (z : Int) : List UInt8 := if z < 0 then 45 :: digs z.natAbs else digs z.natAbs
theorem Dec_any (z : Int) (h1 : -1000000000000 < z) (h2 : z < 1000000000000) : Ev (fun r => mezzotintref01_Dec.f r z) (S (decL z)) := by
  by_cases hneg : z < 0
  · obtain ⟨n, rfl⟩ : ∃ n : Nat, z = -(n : Int) := ⟨z.natAbs, by omega⟩
    have hu := udec_ev 18 n [] (by omega) (by omega) (by simp)
    rw [List.append_nil] at hu
    have hd : decL (-(n : Int)) = 45 :: digs n := by unfold decL; rw [if_pos hneg]; simp
    have hl := digs_lenk 18 n (by omega)
    rw [hd]
    unfold mezzotintref01_Dec.f
    simp only [if_pos hneg]
    rw [show IntKind.u64.wrap (IntKind.u64.wrap (wrap64 (-(wrap64 (-(n : Int) + 1)))) + 1) = (n : Int) from by
      rw [w64 (-(n : Int) + 1) (by omega) (by omega), w64 _ (by omega) (by omega), show -(-(n : Int) + 1) = ((n - 1 : Nat) : Int) from by omega, u64_small _ (by omega), show ((n - 1 : Nat) : Int) + 1 = (n : Int) from by omega, u64_small _ (by omega)]]
    refine Ev.bind (g := fun k => mezzotintref01_udec.f k n) (a := S (digs n)) ?_ ?_
    · exact hu
    · refine Ev.congr (fun _ => ?_) (Ev.now _)
      rw [if_pos (by rw [S_size]; omega), show (⟨#[45]⟩ : ByteArray) = S [45] from rfl, S_append]
      rfl
  · obtain ⟨n, rfl⟩ : ∃ n : Nat, z = (n : Int) := ⟨z.natAbs, by omega⟩
    have hd : decL (n : Int) = digs n := by unfold decL; rw [if_neg hneg]; simp
    rw [hd]
    exact Dec_ev n (by omega)

theorem Dec_call (z : Int) (h1 : -1000000000000 < z) (h2 : z < 1000000000000) (w : World) :
    Calls Tryd.prog 19 #[.int .i64 z] w fun e w' => e = .returned (.string (S (decL z))) ∧ Below w.heap.size w w' := by
  obtain ⟨k, hk⟩ := (Dec_any z h1 h2).rounds
  exact mezzotintref01_Dec.calls k z _ w hk

end Go.Proofs.YtiocgpfnbmlfaaaDoor.QF

/-! ## HL -/
namespace Go.Proofs.YtiocgpfnbmlfaaaDoor.HL
open Go Go.RowKit Go.Proofs.YtiocgpfnbmlfaaaDoor Go.Proofs.YtiocgpfnbmlfaaaDoor.QD Go.Proofs.YtiocgpfnbmlfaaaDoor.QF Go.Proofs.YtiocgpfnbmlfaaaDoorW.PrintWords Go.Proofs.YtiocgpfnbmlfaaaDoorW.PrintLast

theorem dig_ne (v : UInt8) (hv : isDig v = false) (a : List UInt8) (h : a.all isDig = true) : ∀ x ∈ a, x ≠ v := by
  intro x hx e
  have := List.all_eq_true.1 h x hx
  rw [e, hv] at this
  cases this
theorem mant_point (a b : List UInt8) (ha : a.all isDig = true) (hb : b.all isDig = true) (h0 : a ≠ []) : mantL (a ++ 46 :: b) = (a, b, true, true) := by
  have hc := cut1_split a (46 :: b) (dig_ne 46 (by decide) a ha)
  have h1 : 0 < a.length := List.length_pos_iff.2 h0
  unfold mantL
  rw [hc]
  simp [cut1, ha, hb]
  omega
theorem mant_plain (a : List UInt8) (ha : a.all isDig = true) (h0 : a ≠ []) : mantL a = (a, [], false, true) := by
  have hc := cut1_split a [] (dig_ne 46 (by decide) a ha)
  have h1 : 0 < a.length := List.length_pos_iff.2 h0
  rw [List.append_nil] at hc
  unfold mantL
  rw [hc]
  simp [cut1, ha]
  omega
theorem cut1_no (c : UInt8) (l : List UInt8) (h : ∀ x ∈ l, x ≠ c) : cut1 c l = (l, [], false) := by
  induction l with
  | nil => rfl
  | cons b l ih => rw [cut1, if_neg (h b (by simp)), ih (fun x hx => h x (by simp [hx]))]
theorem indexAny_no (l : List UInt8) (h : ∀ x ∈ l, x ≠ 101 ∧ x ≠ 69) : Lib.indexAny l [101, 69] = -1 := by
  induction l with
  | nil => rfl
  | cons b l ih =>
    obtain ⟨h1, h2⟩ := h b (by simp)
    rw [Lib.indexAny, if_neg (by simp [h1, h2]), ih (fun x hx => h x (by simp [hx]))]
    rfl
theorem indexAny_at (l t : List UInt8) (h : ∀ x ∈ l, x ≠ 101 ∧ x ≠ 69) : Lib.indexAny (l ++ 101 :: t) [101, 69] = (l.length : Int) := by
  induction l with
  | nil => rfl
  | cons b l ih =>
    obtain ⟨h1, h2⟩ := h b (by simp)
    have e := ih (fun x hx => h x (by simp [hx]))
    rw [List.cons_append, Lib.indexAny, if_neg (by simp [h1, h2]), e, if_neg (by first | (simp; done) | (simp; omega))]
    simp
theorem drop_at (l t : List UInt8) (c : UInt8) : (l ++ c :: t).drop (l.length + 1) = t := by
  rw [show l ++ c :: t = (l ++ [c]) ++ t from by simp]
  exact List.drop_left' (by simp)
theorem shift_zero (a b : List UInt8) : shiftL a b 0 = (a, b) := by
  unfold shiftL
  rw [show ((a.length : Int) + 0).toNat = a.length from by omega, show ((a.length : Int) + 0) = (a.length : Int) from by omega]
  unfold aOf bOf
  rw [List.append_assoc, List.take_left' rfl, show (-(a.length : Int)).toNat = 0 from by omega, Int.toNat_natCast, List.drop_left' rfl]
  rfl
theorem sgn_dig (x : List UInt8) (h : ∃ c t, x = c :: t ∧ isDig c = true) : sgnL x = (false, x) := by
  obtain ⟨c, t, rfl, hc⟩ := h
  have h45 : c ≠ 45 := fun e => by subst e; revert hc; decide
  have h43 : c ≠ 43 := fun e => by subst e; revert hc; decide
  simp [sgnL, h45, h43]
theorem head_dig (a x : List UInt8) (ha : a.all isDig = true) (h0 : a ≠ []) : ∃ c t, a ++ x = c :: t ∧ isDig c = true := by
  match a, h0 with
  | c :: t, _ => exact ⟨c, t ++ x, rfl, by simp only [List.all_cons, Bool.and_eq_true] at ha; exact ha.1⟩

/-- the sign of a number -/
def sgOf (m : Bool) : List UInt8 := if m then [45] else []
theorem sgn_of (m : Bool) (a x : List UInt8) (ha : a.all isDig = true) (h0 : a ≠ []) : sgnL (sgOf m ++ (a ++ x)) = (m, a ++ x) := by
  cases m with
  | true => rfl
  | false => exact sgn_dig _ (head_dig a x ha h0)

theorem tok_real (m : Bool) (r r1 a b : List UInt8) (f : Bool) (k z : Int) (hs : sgnL (sgOf m ++ r) = (m, r)) (hl : (sgOf m ++ r).length ≤ 64) (h35 : ∀ x ∈ r, x ≠ 35) (hbad : r.all isDig = false) (hex : expL r = (r1, k, true)) (hm : mantL r1 = (a, b, f, true))
    (hV : valueL m (shiftL a b k).1 (shiftL a b k).2 = (z, true)) : tokL (sgOf m ++ r) = (2, z, true, 0) := by
  have hrad : radixL (sgOf m ++ r) = (0, 0, false, 0) := by
    have : ∀ x ∈ sgOf m ++ r, x ≠ 35 := by
      intro x hx
      rcases List.mem_append.1 hx with h | h
      · cases m with
        | true => simp [sgOf] at h; rw [h]; decide
        | false => simp [sgOf] at h
      · exact h35 x h
    unfold radixL
    rw [cut1_no 35 _ this, if_pos (Or.inl rfl)]
  have hwh : wholeL (sgOf m ++ r) = (0, false) := by
    unfold wholeL
    rw [hs]
    simp [hbad]
  unfold tokL
  rw [if_neg (by omega), hrad, if_neg (by simp), hwh, if_neg (by simp), hs]
  simp only [hex, if_true]
  unfold realL
  simp only [hm, if_true, hV]

theorem dbl_zeros : ∀ k : Nat, dbl (List.replicate k 0) = (0, List.replicate k 0)
  | 0 => rfl
  | k + 1 => by simp only [List.replicate_succ, dbl, dbl_zeros k]
theorem iterD_zeros (k : Nat) : ∀ j n : Nat, iterD j n (List.replicate k 0) = (2 ^ j * n, List.replicate k 0)
  | 0, n => by simp [iterD]
  | j + 1, n => by
    rw [iterD, dbl_zeros, iterD_zeros k j, Nat.pow_succ]
    simp only [Nat.add_zero, Prod.mk.injEq, and_true]
    rw [Nat.mul_assoc]
theorem mag_zeros (a : List UInt8) (k : Nat) : magL a (List.replicate k 48) = valD a * 65536 := by
  have h : ∀ N : Nat, (iterD 16 N (List.replicate k 0)).1 + (dbl (iterD 16 N (List.replicate k 0)).2).1 = N * 65536 := by
    intro N
    have e := iterD_zeros k 16 N
    have e1 : (iterD 16 N (List.replicate k 0)).1 = 2 ^ 16 * N := by rw [e]
    have e2 : (dbl (iterD 16 N (List.replicate k 0)).2).1 = 0 := by rw [e, dbl_zeros]
    omega
  have h2 := h (valD (strip0 a))
  rw [← digsOf_zeros k, strip0_val] at h2
  unfold magL
  rw [strip0_val]
  exact h2
theorem mag_le (a b : List UInt8) (hb : b.all isDig = true) : magL a b ≤ (valD a + 1) * 65536 := by
  unfold magL
  rw [strip0_val]
  obtain ⟨h1, h2, h3⟩ := iterD_ok 16 (valD a) (digsOf b) (digs9 b hb)
  have h4 := (dbl_le _ h2).1
  have : (valD a + 1) * 2 ^ 16 = (valD a + 1) * 65536 := rfl
  omega
theorem value_fits (m : Bool) (a b : List UInt8) (M : Nat) (ha : a.all isDig = true) (h5 : valD a ≤ 99999) (hM : magL a b = M) (hf : M < 2147483648 ∨ (m = true ∧ M = 2147483648)) : valueL m a b = (if m then -(M : Int) else (M : Int), true) := by
  have h := strip0_len a ha
  have key : ∀ z : Int, -2147483648 ≤ z → z ≤ 2147483647 → fitsB z = true := by
    intro z h1 h2
    unfold fitsB
    rw [decide_eq_true h1, decide_eq_true h2]
    rfl
  have hk : fitsB (if m then -(M : Int) else (M : Int)) = true := by
    cases m with
    | true => exact key (-(M : Int)) (by rcases hf with h | ⟨_, h⟩ <;> omega) (by omega)
    | false =>
      refine key (M : Int) (by omega) ?_
      rcases hf with h | ⟨h, _⟩
      · omega
      · cases h
  unfold valueL
  rw [if_neg (fun e => by have := h.1 e; omega), hM, hk]

theorem valD_zeros (n : Nat) : valD (List.replicate n 48) = 0 := by
  induction n with
  | zero => rfl
  | succ n ih => rw [List.replicate_succ', valD_append, ih]; simp [valD]
theorem zeros_all (n : Nat) : (List.replicate n (48 : UInt8)).all isDig = true := by
  rw [List.all_eq_true]; intro x hx; rw [(List.mem_replicate.1 hx).2]; decide

/-- the digits with zeros ahead, so that there are more than k -/
def padOf (D : List UInt8) (k : Nat) : List UInt8 := List.replicate (k + 1 - D.length) 48 ++ D
theorem pad_len (D : List UInt8) (k : Nat) : (padOf D k).length = (k + 1 - D.length) + D.length := by simp [padOf]
theorem all_take {l : List UInt8} (h : l.all isDig = true) (n : Nat) : (l.take n).all isDig = true := by
  rw [List.all_eq_true] at *
  exact fun x hx => h x (List.mem_of_mem_take hx)
theorem all_drop {l : List UInt8} (h : l.all isDig = true) (n : Nat) : (l.drop n).all isDig = true := by
  rw [List.all_eq_true] at *
  exact fun x hx => h x (List.mem_of_mem_drop hx)
theorem pad_all {D : List UInt8} (h : D.all isDig = true) (k : Nat) : (padOf D k).all isDig = true := by
  unfold padOf
  rw [List.all_append, zeros_all, h]
  rfl

/-- the value of the digits with the point moved to the left: it fits, and it is what the shifted digits give -/
theorem moved (m : Bool) (D : List UInt8) (N k : Nat) (hD : D.all isDig = true) (hN : valD D = N) (hm : if m then N ≤ 32768 else N ≤ 32767) :
    ∃ z : Int, valueL m ((padOf D k).take ((padOf D k).length - k)) ((padOf D k).drop ((padOf D k).length - k)) = (z, true) ∧ valueL m (shiftL D [] (-(k : Int))).1 (shiftL D [] (-(k : Int))).2 = (z, true) := by
  have hN2 : N ≤ 32768 := by cases m <;> simp at hm <;> omega
  have hpl := pad_len D k
  have hpa := pad_all hD k
  have hval : valD ((padOf D k).take ((padOf D k).length - k)) * 10 ^ k + valD ((padOf D k).drop ((padOf D k).length - k)) = N := by
    have h1 := valD_append ((padOf D k).take ((padOf D k).length - k)) ((padOf D k).drop ((padOf D k).length - k))
    rw [List.take_append_drop, List.length_drop, show (padOf D k).length - ((padOf D k).length - k) = k from by omega] at h1
    rw [← h1]
    unfold padOf
    rw [valD_append, valD_zeros, hN]
    omega
  have hmag : magL ((padOf D k).take ((padOf D k).length - k)) ((padOf D k).drop ((padOf D k).length - k)) < 2147483648 ∨ (m = true ∧ magL ((padOf D k).take ((padOf D k).length - k)) ((padOf D k).drop ((padOf D k).length - k)) = 2147483648) := by
    rcases Nat.eq_zero_or_pos k with rfl | hk
    · rw [show (padOf D 0).drop ((padOf D 0).length - 0) = List.replicate 0 48 from by simp, mag_zeros]
      have h2 : valD ((padOf D 0).take ((padOf D 0).length - 0)) = N := by
        rw [show (padOf D 0).drop ((padOf D 0).length - 0) = [] from by simp] at hval
        simpa [valD] using hval
      rw [h2]
      cases m with
      | true =>
        simp at hm
        rcases Nat.lt_or_ge N 32768 with h | h
        · left; omega
        · right; exact ⟨rfl, by omega⟩
      | false =>
        simp at hm
        left
        omega
    · left
      have h2 := mag_le ((padOf D k).take ((padOf D k).length - k)) ((padOf D k).drop ((padOf D k).length - k)) (all_drop hpa _)
      have h10 : 10 ≤ 10 ^ k := by
        calc 10 = 10 ^ 1 := rfl
          _ ≤ 10 ^ k := Nat.pow_le_pow_right (by omega) hk
      have h3 : valD ((padOf D k).take ((padOf D k).length - k)) * 10 ≤ N := by
        have := Nat.mul_le_mul_left (valD ((padOf D k).take ((padOf D k).length - k))) h10
        omega
      omega
  have h5 : valD ((padOf D k).take ((padOf D k).length - k)) ≤ 99999 := by
    have : valD ((padOf D k).take ((padOf D k).length - k)) * 1 ≤ valD ((padOf D k).take ((padOf D k).length - k)) * 10 ^ k := Nat.mul_le_mul_left _ (Nat.one_le_pow _ _ (by omega))
    omega
  have hv := value_fits m _ _ _ (all_take hpa _) h5 rfl hmag
  refine ⟨_, hv, ?_⟩
  rw [← hv]
  unfold shiftL
  rw [List.append_nil]
  by_cases hkl : k < D.length
  · have e0 : padOf D k = D := by unfold padOf; rw [show k + 1 - D.length = 0 from by omega]; rfl
    have e1 : ((D.length : Int) + -(k : Int)).toNat = D.length - k := by omega
    have e2 : (-((D.length : Int) + -(k : Int))).toNat = 0 := by omega
    unfold aOf bOf
    rw [e0, e1, e2, List.take_append_of_le_length (by omega)]
    rfl
  · have e1 : ((D.length : Int) + -(k : Int)).toNat = 0 := by omega
    have e2 : (-((D.length : Int) + -(k : Int))).toNat = k - D.length := by omega
    have e3 : (padOf D k).length - k = 1 := by omega
    have e4 : padOf D k = 48 :: (List.replicate (k - D.length) 48 ++ D) := by
      unfold padOf
      rw [show k + 1 - D.length = (k - D.length) + 1 from by omega, List.replicate_succ]
      rfl
    unfold aOf bOf
    rw [e1, e2, e3, e4]
    rfl

theorem pow_k (k : Nat) (hk : k ≤ 4) : powL (45 :: digs k) = (-(k : Int), true) := by
  rw [digs_small (by omega)]
  match k, hk with
  | 0, _ => decide
  | 1, _ => decide
  | 2, _ => decide
  | 3, _ => decide
  | 4, _ => decide
  | n + 5, h => omega

/-- the three texts -/
def text1 (m : Bool) (D : List UInt8) (k : Nat) : List UInt8 := sgOf m ++ (D ++ 101 :: 45 :: digs k)
def text2 (m : Bool) (D : List UInt8) (k : Nat) : List UInt8 := sgOf m ++ ((padOf D k).take ((padOf D k).length - k) ++ 46 :: (padOf D k).drop ((padOf D k).length - k))
def text3 (m : Bool) (D : List UInt8) (k : Nat) : List UInt8 := sgOf m ++ ((D ++ 46 :: List.replicate k 48) ++ 101 :: [43, 48])

theorem sg_len (m : Bool) : (sgOf m).length ≤ 1 := by cases m <;> simp [sgOf]
theorem powers (m : Bool) (D : List UInt8) (N k : Nat) (hD : D.all isDig = true) (h0 : D ≠ []) (hl : D.length ≤ 10) (hN : valD D = N) (hm : if m then N ≤ 32768 else N ≤ 32767) (hk : k ≤ 4) :
    ∃ z : Int, tokL (text1 m D k) = (2, z, true, 0) ∧ tokL (text2 m D k) = (2, z, true, 0) ∧ tokL (text3 m D k) = (2, if m then -((N * 65536 : Nat) : Int) else ((N * 65536 : Nat) : Int), true, 0) := by
  obtain ⟨z, hz2, hz1⟩ := moved m D N k hD hN hm
  have hsl := sg_len m
  have hpl := pad_len D k
  have hpa := pad_all hD k
  have hD0 : 0 < D.length := List.length_pos_iff.2 h0
  have hdk : (digs k).length = 1 := by rw [digs_small (by omega)]; rfl
  refine ⟨z, ?_, ?_, ?_⟩
  · refine tok_real m _ D D [] false (-(k : Int)) z (sgn_of m D _ hD h0) (by simp only [List.length_append, List.length_cons]; omega) ?_ ?_ ?_ (mant_plain D hD h0) hz1
    · intro x hx
      rcases List.mem_append.1 hx with h | h
      · exact dig_ne 35 (by decide) D hD x h
      · rw [digs_small (by omega)] at h
        simp only [List.mem_cons, List.not_mem_nil, or_false] at h
        rcases h with h | h | h
        · rw [h]; decide
        · rw [h]; decide
        · rw [h]
          match k, hk with
          | 0, _ => decide
          | 1, _ => decide
          | 2, _ => decide
          | 3, _ => decide
          | 4, _ => decide
          | n + 5, h => omega
    · rw [List.all_append, List.all_cons]
      simp [show isDig 101 = false from by decide]
    · unfold expL
      rw [indexAny_at D (45 :: digs k) (fun x hx => ⟨dig_ne 101 (by decide) D hD x hx, dig_ne 69 (by decide) D hD x hx⟩), if_neg (by omega), Int.toNat_natCast, List.take_left' rfl, drop_at]
      simp only [pow_k k hk]
  · have hL0 : (padOf D k).take ((padOf D k).length - k) ≠ [] := by
      intro e
      have := congrArg List.length e
      rw [List.length_take] at this
      simp only [List.length_nil] at this
      omega
    refine tok_real m _ _ ((padOf D k).take ((padOf D k).length - k)) ((padOf D k).drop ((padOf D k).length - k)) true 0 z (sgn_of m _ _ (all_take hpa _) hL0) (by simp only [List.length_append, List.length_cons, List.length_take, List.length_drop]; omega) ?_ ?_ ?_ (mant_point _ _ (all_take hpa _) (all_drop hpa _) hL0) (by rw [shift_zero]; exact hz2)
    · intro x hx
      rcases List.mem_append.1 hx with h | h
      · exact dig_ne 35 (by decide) _ (all_take hpa _) x h
      · rcases List.mem_cons.1 h with h | h
        · rw [h]; decide
        · exact dig_ne 35 (by decide) _ (all_drop hpa _) x h
    · rw [List.all_append, List.all_cons]
      simp [show isDig 46 = false from by decide]
    · unfold expL
      rw [indexAny_no _ (fun x hx => ?_), if_pos (by omega)]
      rcases List.mem_append.1 hx with h | h
      · exact ⟨dig_ne 101 (by decide) _ (all_take hpa _) x h, dig_ne 69 (by decide) _ (all_take hpa _) x h⟩
      · rcases List.mem_cons.1 h with h | h
        · rw [h]; decide
        · exact ⟨dig_ne 101 (by decide) _ (all_drop hpa _) x h, dig_ne 69 (by decide) _ (all_drop hpa _) x h⟩
  · have hz := zeros_all k
    have hno : ∀ v : UInt8, isDig v = false → v ≠ 46 → ∀ x ∈ D ++ 46 :: List.replicate k 48, x ≠ v := by
      intro v hv h46 x hx
      rcases List.mem_append.1 hx with h | h
      · exact dig_ne v hv D hD x h
      · rcases List.mem_cons.1 h with h | h
        · rw [h]; exact fun e => h46 e.symm
        · exact dig_ne v hv _ hz x h
    refine tok_real m _ (D ++ 46 :: List.replicate k 48) D (List.replicate k 48) true 0 _ ?_ (by simp only [List.length_append, List.length_cons, List.length_replicate, List.length_nil]; omega) ?_ ?_ ?_ (mant_point D _ hD hz h0) ?_
    · rw [List.append_assoc]; exact sgn_of m D _ hD h0
    · intro x hx
      rcases List.mem_append.1 hx with h | h
      · exact hno 35 (by decide) (by decide) x h
      · simp only [List.mem_cons, List.not_mem_nil, or_false] at h
        rcases h with h | h | h <;> (rw [h]; decide)
    · rw [List.all_append, List.all_cons (a := 101)]
      simp [show isDig 101 = false from by decide]
    · unfold expL
      rw [indexAny_at _ [43, 48] (fun x hx => ⟨hno 101 (by decide) (by decide) x hx, hno 69 (by decide) (by decide) x hx⟩), if_neg (by omega), Int.toNat_natCast, List.take_left' rfl, drop_at]
      rfl
    · rw [shift_zero]
      have hM : magL D (List.replicate k 48) = N * 65536 := by rw [mag_zeros, hN]
      refine value_fits m D _ _ hD (by cases m <;> simp at hm <;> omega) hM ?_
      cases m with
      | true =>
        simp at hm
        rcases Nat.lt_or_ge N 32768 with h | h
        · left; omega
        · right; exact ⟨rfl, by omega⟩
      | false =>
        simp at hm
        left
        omega

end Go.Proofs.YtiocgpfnbmlfaaaDoor.HL

/-! ## HQ -/
namespace Go.Proofs.YtiocgpfnbmlfaaaDoor.HL
open Go Go.RowKit Go.ChangeShapes Go.Proofs.YtiocgpfnbmlfaaaDoor Go.Proofs.YtiocgpfnbmlfaaaDoor.QD Go.Proofs.YtiocgpfnbmlfaaaDoorW.PrintWords Go.Proofs.YtiocgpfnbmlfaaaDoorW.PrintLast

theorem tok_set {w : World} {b : Nat} {x0 x1 x2 : Value} {t : TypeId} {fr : Nat × Nat} (h : w.heap[b]? = some (.cells #[x0, x1, x2] t fr)) (y0 y1 y2 : Value) :
    (((w.setCell ⟨b, 0, none⟩ y0).setCell ⟨b, 1, none⟩ y1).setCell ⟨b, 2, none⟩ y2).heap[b]? = some (.cells #[y0, y1, y2] t fr) := by
  simp only [World.setCell, Array.getElem?_modify, if_true, h]
  rfl
/-- the second token's block, made behind the call -/
theorem after_call {w w4 : World} (hb : Below w.drew.heap.size w.drew w4) (o : Obj) : Below w.heap.size w (w4.alloc o) :=
  ((Below.refl w.heap.size w).drew.trans hb).alloc hb.size o
/-- .. made ahead of it -/
theorem ahead_call {w w4 : World} {x0 x1 x2 : Value} {t : TypeId} (hb : Below (w.alloc (.cells #[x0, x1, x2] t)).drew.heap.size (w.alloc (.cells #[x0, x1, x2] t)).drew w4) (y0 y1 y2 : Value) :
    (((w4.setCell ⟨w.heap.size, 0, none⟩ y0).setCell ⟨w.heap.size, 1, none⟩ y1).setCell ⟨w.heap.size, 2, none⟩ y2).heap[w.heap.size]? = some (.cells #[y0, y1, y2] t (0, 0)) ∧
    Below w.heap.size w (((w4.setCell ⟨w.heap.size, 0, none⟩ y0).setCell ⟨w.heap.size, 1, none⟩ y1).setCell ⟨w.heap.size, 2, none⟩ y2) := by
  have hs : w.heap.size < (w.alloc (.cells #[x0, x1, x2] t)).drew.heap.size := by simp
  have h4 : w4.heap[w.heap.size]? = some (.cells #[x0, x1, x2] t (0, 0)) := (hb.block w.heap.size hs).trans (heap_alloc_new w _)
  refine ⟨tok_set h4 y0 y1 y2, ?_⟩
  exact ((((((Below.refl w.heap.size w).alloc (Nat.le_refl _) _).drew).trans (hb.mono (Nat.le_of_lt hs))).setCell (p := ⟨w.heap.size, 0, none⟩) (Nat.le_refl _) _).setCell (p := ⟨w.heap.size, 1, none⟩) (Nat.le_refl _) _).setCell (p := ⟨w.heap.size, 2, none⟩) (Nat.le_refl _) _
theorem blk_lt {W : World} {g : Nat} {o : Obj} (h : W.heap[g]? = some o) : g < W.heap.size := by
  rcases Nat.lt_or_ge g W.heap.size with h' | h'
  · exact h'
  · rw [Array.getElem?_eq_none h'] at h; cases h

set_option maxHeartbeats 4000000 in
set_option maxRecDepth 100000 in
theorem powers_walk (n by5 : Int) (k j at1 : Nat) (l0 : List UInt8) (D zs sg DK A1 E1 A3 E3 E4 A2 x1 x2 s0 s1 L R : ByteArray) (z : Int) (w : World)
    (hD : ∀ w, Calls Tryd.prog 19 #[.int .i64 n] w fun e w' => e = .returned (.string D) ∧ Below w.heap.size w w')
    (hK : ∀ w, Calls Tryd.prog 19 #[.int .i64 (k : Int)] w fun e w' => e = .returned (.string DK) ∧ Below w.heap.size w w')
    (hT1 : ∀ w, Calls Tryd.prog 17 #[.string A1] w (RQ 2 z true 0 w))
    (hT2 : ∀ w, Calls Tryd.prog 17 #[.string A2] w (RQ 2 z true 0 w))
    (hT3 : ∀ w, Calls Tryd.prog 17 #[.string A3] w (RQ 2 (n * 65536) true 0 w))
    (hA : ∀ w, Calls Tryd.prog 14 #[] w fun e w' => e = .returned (.bool true) ∧ Below w.heap.size w w')
    (hn1 : -32768 ≤ n) (hn2 : n ≤ 32767) (hk : Int.tmod by5 5 = (k : Int)) (_h5 : 0 ≤ by5) (_h6 : by5 ≤ 255) (hk4 : k ≤ 4) (hz : (⟨#[48, 48, 48, 48]⟩ : ByteArray).extract 0 k = zs)
    (hDs : D.size ≤ 100) (hKs : DK.size ≤ 100) (hl0 : l0.length ≤ 100) (hzs : zs.size ≤ 100) (hs0 : s0 = S l0)
    (hj1 : ∀ i, i < j → i + l0.length ≤ k) (hj2 : k < j + l0.length) (hjb : j ≤ 100) (hs1 : s1 = S (List.replicate j 48 ++ l0)) (hat : (s1.size : Int) - (k : Int) = (at1 : Int))
    (e1 : D ++ ⟨#[101, 45]⟩ = E1) (e2 : E1 ++ DK = A1) (e3 : D ++ ⟨#[46]⟩ = E3) (e4 : E3 ++ zs = E4) (e5 : E4 ++ ⟨#[101, 43, 48]⟩ = A3)
    (e6 : s1.extract 0 at1 = L) (e7 : sg ++ L = x1) (e8 : x1 ++ ⟨#[46]⟩ = x2) (e9 : s1.extract at1 s1.size = R) (e10 : x2 ++ R = A2)
    (hs : (n < 0 ∧ 1 ≤ D.size ∧ D.extract 1 D.size = s0 ∧ sg = ⟨#[45]⟩) ∨ (¬ n < 0 ∧ D = s0 ∧ sg = ⟨#[]⟩)) :
    Calls Tryd.prog 6 #[.int .i16 n, .int .u8 by5] w fun e w' => e = .returned (.bool true) ∧ Below w.heap.size w w' := by
  have HD := Lib.hid hD
  have HK := Lib.hid hK
  have HT1 := Lib.hid hT1
  have HT2 := Lib.hid hT2
  have HT3 := Lib.hid hT3
  have HA := Lib.hid hA
  have HS0 := Lib.hid hs0
  have HS1 := Lib.hid hs1
  have HJ := Lib.hid (And.intro hj1 (And.intro hj2 (And.intro hl0 hjb)))
  have HE1 := Lib.hid (And.intro e1 e2)
  have HE3 := Lib.hid (And.intro e3 (And.intro e4 e5))
  have HE6 := Lib.hid (And.intro e6 (And.intro e7 (And.intro e8 (And.intro e9 e10))))
  have HAT := Lib.hid hat
  have HSG := Lib.hid hs
  have HZ := Lib.hid (And.intro hDs (And.intro hKs hzs))
  clear hD hK hT1 hT2 hT3 hA hj1 hj2 e1 e2 e3 e4 e5 e6 e7 e8 e9 e10 hs0 hs1 hl0 hjb hat hs hDs hKs hzs
  have c0 : (0 : Int) ≤ (k : Int) := by omega
  have c1 : (k : Int) ≤ 4 := by omega
  have c2 : wrap64 n = n := w64 n (by omega) (by omega)
  go_enter Tryd.func6, Tryd.ntmps6
  go_wp2_with fail
  refine (HD.out _).mono ?_
  rintro e w0 ⟨rfl, hb⟩
  have HB := Lib.hid hb
  clear hb
  go_upto_if 28 with fail
  go_cut [6, 8] (fun v6 v8 wx => v6 = .string s0 ∧ v8 = .string sg ∧ Hid (Below w.heap.size w wx))
  case first =>
    rcases HSG.out with ⟨hneg, hds, hx, rfl⟩ | ⟨hneg, rfl, rfl⟩
    · have hdi : (1 : Int) ≤ (D.size : Int) := by omega
      go_wp2_with fail
      go_region
      all_goals (go_wp2_with fail)
      all_goals go_meet
      all_goals exact ⟨rfl, rfl, Lib.hid HB.out.drew⟩
    · go_wp2_with fail
      go_meet
      exact ⟨rfl, rfl, HB⟩
  obtain ⟨rfl, rfl, HB2⟩ := hcut
  clear HB
  go_upto_block 0 with fail
  go_cut [6] (fun v6 wx => v6 = .string s1 ∧ Hid (Below w.heap.size w wx))
  case first =>
    rw [HS0.out]
    go_wp2_with fail
    go_loopg [6] j (fun g s6 wx => ∃ i : Nat, i + g = j ∧ s6 = .string (S (List.replicate i 48 ++ l0)) ∧ Hid (Below w.heap.size w wx))
    case atStart => exact ⟨0, by omega, rfl, HB2⟩
    case round =>
      clear HB2
      obtain ⟨i, hig, rfl, HB⟩ := hrel
      have hsz : (S (List.replicate i 48 ++ l0)).size = i + l0.length := by rw [S_size]; simp
      cases gk with
      | zero =>
        obtain rfl : i = j := by omega
        have hgt : ¬ (((i + l0.length : Nat) : Int) ≤ (k : Int)) := by have := HJ.out.2.1; omega
        rw [← hsz] at hgt
        clear hsz
        go_wp2_with fail
        go_meet
        exact ⟨by rw [HS1.out], HB⟩
      | succ g =>
        have hle : (((i + l0.length : Nat) : Int) ≤ (k : Int)) := by have := HJ.out.1 i (by omega); omega
        have hap : (⟨#[48]⟩ : ByteArray) ++ S (List.replicate i 48 ++ l0) = S (List.replicate (i + 1) 48 ++ l0) := by
          rw [show (⟨#[48]⟩ : ByteArray) = S [48] from rfl, S_append, List.replicate_succ]; rfl
        have hbd : (⟨#[48]⟩ : ByteArray).size + (S (List.replicate i 48 ++ l0)).size ≤ 9223372036854775807 := by
          have := HJ.out
          rw [hsz]; show 1 + _ ≤ _; omega
        have hbd2 : 1 + (S (List.replicate i 48 ++ l0)).size ≤ 9223372036854775807 := hbd
        rw [← hsz] at hle
        clear hsz
        go_wp2_with fail
        go_roundg g
        case measure => omega
        case rel => exact ⟨i + 1, by omega, rfl, HB⟩
  obtain ⟨rfl, HB⟩ := hcut
  clear HB2
  have hat := HAT.out
  have hs1s : s1.size ≤ 300 := by
    have := HJ.out
    rw [HS1.out, S_size]; simp; omega
  have wat : wrap64 (at1 : Int) = (at1 : Int) := w64 _ (by omega) (by omega)
  obtain ⟨hDs, hKs, hzs⟩ := HZ.out
  obtain ⟨e1, e2⟩ := HE1.out
  have b1 : D.size + (⟨#[101, 45]⟩ : ByteArray).size ≤ 9223372036854775807 := by show D.size + 2 ≤ _; omega
  have b1' : D.size + 2 ≤ 9223372036854775807 := b1
  have E1s : E1.size = D.size + 2 := by rw [← e1]; simp; rfl
  have b2 : E1.size + DK.size ≤ 9223372036854775807 := by omega
  clear E1s hDs hKs hzs
  go_wp2_with fail
  refine (HD.out _).mono ?_
  rintro e w1 ⟨rfl, hb⟩
  have HB1 := Lib.hid (HB.out.trans (hb.mono HB.out.size))
  clear hb HB
  go_wp2_with fail
  refine (HK.out _).mono ?_
  rintro e w2 ⟨rfl, hb⟩
  have HB2 := Lib.hid (HB1.out.trans (hb.mono HB1.out.size))
  clear hb HB1
  go_wp2_with fail
  refine (HT1.out _).mono ?_
  rintro e w3 ⟨rfl, hb⟩
  have hB3 := HB2.out.trans (hb.mono HB2.out.size)
  have HB3 := Lib.hid (hB3.alloc hB3.size (.cells #[.int .i64 2, .int .i64 z, .string ⟨#[]⟩] 27))
  have HG1 := Lib.hid (heap_alloc_new w3 (.cells #[.int .i64 2, .int .i64 z, .string ⟨#[]⟩] 27))
  clear hb HB2 hB3 b1 b1' b2 e1 e2
  go_upto_region 11 with fail
  generalize w3.alloc (.cells #[.int .i64 2, .int .i64 z, .string ⟨#[]⟩] 27) = W3 at *
  generalize w3.heap.size = g1 at *
  go_cut [13, 14, 15] (fun v13 v14 v15 wx => ∃ g2, v13 = .pointer (some ⟨g2, 0, none⟩) ∧ v14 = .bool true ∧ v15 = .int .i64 0 ∧ Hid (wx.heap[g2]? = some (.cells #[.int .i64 2, .int .i64 z, .string ⟨#[]⟩] 27 (0, 0))) ∧ Hid (Below W3.heap.size W3 wx))
  case first =>
    obtain ⟨e6, e7, e8, e9, e10⟩ := HE6.out
    have hsg : sg.size ≤ 1 := by
      rcases HSG.out with ⟨_, _, _, h⟩ | ⟨_, _, h⟩
      · rw [h]; exact Nat.le_refl _
      · rw [h]; exact Nat.zero_le _
    have a0 : (0 : Int) ≤ (at1 : Int) := by omega
    have a1 : (at1 : Int) ≤ (s1.size : Int) := by omega
    have Ls : L.size = at1 := by rw [← e6]; simp; omega
    have x1s : x1.size = sg.size + L.size := by rw [← e7]; simp
    have x2s : x2.size = x1.size + 1 := by rw [← e8]; simp; rfl
    have Rs : R.size = s1.size - at1 := by rw [← e9]; simp
    have b3 : sg.size + L.size ≤ 9223372036854775807 := by omega
    have b4 : x1.size + 1 ≤ 9223372036854775807 := by omega
    have b5 : x2.size + R.size ≤ 9223372036854775807 := by omega
    clear Ls x1s x2s Rs hsg hs1s
    go_region_with (first | (go_at_call_of 17 (Value.string A2); refine (HT2.out _).mono ?_; rintro e w4 ⟨rfl, hb⟩; first | (have hT := (TokBlk.new _).below (((Below.refl _ _).drew).trans hb) (by simp); have hlt4 := hT.lt; obtain ⟨⟨c40, c41, c42⟩, f40, f41, f42⟩ := hT.facts; try simp at c40 c41 c42 f40 f41 f42 hlt4) | skip))
    all_goals (go_wp2_with fail)
    all_goals go_meet
    all_goals first
      | exact ⟨_, rfl, rfl, rfl, Lib.hid (heap_alloc_new _ _), Lib.hid (after_call hb _)⟩
      | exact ⟨_, rfl, rfl, rfl, Lib.hid (ahead_call hb _ _ _).1, Lib.hid (ahead_call hb _ _ _).2⟩
  obtain ⟨g2, rfl, rfl, rfl, HG2, HB4⟩ := hcut
  have HB5 := Lib.hid (HB3.out.trans (HB4.out.mono HB3.out.size))
  have HG1' := Lib.hid ((HB4.out.block g1 (blk_lt HG1.out)).trans HG1.out)
  clear HB3 HB4 HG1
  obtain ⟨e3, e4, e5⟩ := HE3.out
  obtain ⟨hDs, hKs, hzs⟩ := HZ.out
  have E3s : E3.size = D.size + 1 := by rw [← e3]; simp; rfl
  have E4s : E4.size = E3.size + zs.size := by rw [← e4]; simp
  have b3 : D.size + 1 ≤ 9223372036854775807 := by omega
  have b4 : E3.size + zs.size ≤ 9223372036854775807 := by omega
  have b5 : E4.size + 3 ≤ 9223372036854775807 := by omega
  have wm : wrap64 (n * 65536) = n * 65536 := w64 _ (by omega) (by omega)
  clear E3s E4s hDs hKs hzs
  go_wp2_with fail
  refine (HD.out _).mono ?_
  rintro e w5 ⟨rfl, hb⟩
  have HB6 := Lib.hid (HB5.out.trans (hb.mono HB5.out.size))
  have HG1 := Lib.hid ((hb.block g1 (blk_lt HG1'.out)).trans HG1'.out)
  have HG2' := Lib.hid ((hb.block g2 (blk_lt HG2.out)).trans HG2.out)
  clear hb HB5 HG1' HG2
  go_wp2_with fail
  refine (HT3.out _).mono ?_
  rintro e w6 ⟨rfl, hb⟩
  have hB7 := HB6.out.trans (hb.mono HB6.out.size)
  have HB7 := Lib.hid (hB7.alloc hB7.size (.cells #[.int .i64 2, .int .i64 (n * 65536), .string ⟨#[]⟩] 27))
  have hba := hb.alloc hb.size (.cells #[.int .i64 2, .int .i64 (n * 65536), .string ⟨#[]⟩] 27)
  have HG1' := Lib.hid ((hba.block g1 (blk_lt HG1.out)).trans HG1.out)
  have HG2 := Lib.hid ((hba.block g2 (blk_lt HG2'.out)).trans HG2'.out)
  have HG3 := Lib.hid (heap_alloc_new w6 (.cells #[.int .i64 2, .int .i64 (n * 65536), .string ⟨#[]⟩] 27))
  clear hb hba hB7 HB6 HG1 HG2'
  go_upto_region 13 with fail
  generalize w6.alloc (.cells #[.int .i64 2, .int .i64 (n * 65536), .string ⟨#[]⟩] 27) = W6 at *
  generalize w6.heap.size = g3 at *
  clear b3 b4 b5 e3 e4 e5
  go_wp2_with fail
  refine (HA.out _).mono ?_
  rintro e w7 ⟨rfl, hb⟩
  have HB8 := Lib.hid (HB7.out.trans (hb.mono HB7.out.size))
  have h1 := (hb.block g1 (blk_lt HG1'.out)).trans HG1'.out
  have h2 := (hb.block g2 (blk_lt HG2.out)).trans HG2.out
  have h3 := (hb.block g3 (blk_lt HG3.out)).trans HG3.out
  have a0 : w7.cell? ⟨g1, 0, none⟩ = some (.int .i64 2) := Lib.cell_of_heap h1 0
  have a1 : w7.cell? ⟨g1, 1, none⟩ = some (.int .i64 z) := Lib.cell_of_heap h1 1
  have a2 : w7.cell? ⟨g1, 2, none⟩ = some (.string ⟨#[]⟩) := Lib.cell_of_heap h1 2
  have d0 : w7.cell? ⟨g2, 0, none⟩ = some (.int .i64 2) := Lib.cell_of_heap h2 0
  have d1 : w7.cell? ⟨g2, 1, none⟩ = some (.int .i64 z) := Lib.cell_of_heap h2 1
  have d2 : w7.cell? ⟨g2, 2, none⟩ = some (.string ⟨#[]⟩) := Lib.cell_of_heap h2 2
  have f1 : w7.cell? ⟨g3, 1, none⟩ = some (.int .i64 (n * 65536)) := Lib.cell_of_heap h3 1
  have hu27 := Tryd.underlying27
  clear hb h1 h2 h3 HB7
  go_wp2_with fail
  go_ret
  exact ⟨rfl, HB8.out⟩

end Go.Proofs.YtiocgpfnbmlfaaaDoor.HL

/-! ## HR -/
namespace Go.Proofs.YtiocgpfnbmlfaaaDoor.HL
open Go Go.RowKit Go.ChangeShapes Go.Proofs.YtiocgpfnbmlfaaaDoor Go.Proofs.YtiocgpfnbmlfaaaDoor.PF Go.Proofs.YtiocgpfnbmlfaaaDoor.QD Go.Proofs.YtiocgpfnbmlfaaaDoor.QF Go.Proofs.YtiocgpfnbmlfaaaDoorW.PrintWords Go.Proofs.YtiocgpfnbmlfaaaDoorW.PrintLast

theorem parts_half : dec_parts.f 32768 = some (S [], S [48], S [53]) := by
  have h : clip 32768 = 32768 := by decide
  unfold dec_parts.f
  rw [h, show (32768 : Int).natAbs / 65536 = 0 from by decide, digs_small (by decide), show fracs 16 ((32768 : Int).natAbs % 65536) = [53] from by decide]
  rfl
theorem parts_one : dec_parts.f 65536 = some (S [], S [49], S []) := by
  have h : clip 65536 = 65536 := by decide
  unfold dec_parts.f
  rw [h, show (65536 : Int).natAbs / 65536 = 1 from by decide, digs_small (by decide), show fracs 16 ((65536 : Int).natAbs % 65536) = [] from by decide]
  rfl
theorem answers_true : mezzotintlaw02_answers.f = some true := by
  have e46 : (⟨#[46]⟩ : ByteArray) = S [46] := rfl
  have e48 : (⟨#[48]⟩ : ByteArray) = S [48] := rfl
  have h1 : dec_Print.f 32768 = some (S [48, 46, 53]) := by
    unfold dec_Print.f
    rw [parts_half]
    simp only [Option.bind_some, S_list, e46, S_append, S_size]
    rfl
  have h2 : dec_PrintReal.f 65536 = some (S [49, 46, 48]) := by
    unfold dec_PrintReal.f
    rw [parts_one]
    simp only [Option.bind_some, S_list, e46, e48, S_append, S_size]
    rfl
  unfold mezzotintlaw02_answers.f
  rw [h1, h2]
  simp only [Option.bind_some, S_list]
  rfl

theorem dec_sg (n : Int) : decL n = sgOf (decide (n < 0)) ++ digs n.natAbs := by
  unfold decL sgOf
  by_cases h : n < 0
  · rw [if_pos h, decide_eq_true h]; rfl
  · rw [if_neg h, decide_eq_false h]; rfl
theorem zeros4 (k : Nat) (hk : k ≤ 4) : (⟨#[48, 48, 48, 48]⟩ : ByteArray).extract 0 k = S (List.replicate k 48) := by
  match k, hk with
  | 0, _ => rfl
  | 1, _ => rfl
  | 2, _ => rfl
  | 3, _ => rfl
  | 4, _ => rfl
  | n + 5, h => omega
theorem tok_is (l : List UInt8) (k z er : Int) (ok : Bool) (h : tokL l = (k, z, ok, er)) (w : World) : Calls Tryd.prog 17 #[.string (S l)] w (RQ k z ok er w) := by
  have := tok_any l w
  rw [h] at this
  exact this

theorem powers_at (n : Int) (k : Nat) (by5 : Int) (w : World) (hn1 : -32768 ≤ n) (hn2 : n ≤ 32767) (h5 : 0 ≤ by5) (h6 : by5 ≤ 255) (hk : Int.tmod by5 5 = (k : Int)) (hk4 : k ≤ 4) :
    Calls Tryd.prog 6 #[.int .i16 n, .int .u8 by5] w fun e w' => e = .returned (.bool true) ∧ Below w.heap.size w w' := by
  obtain ⟨hv, hd, h0⟩ := digs_val 5 n.natAbs (by omega)
  have hdl := digs_len n.natAbs (by omega)
  have hd0 : 0 < (digs n.natAbs).length := List.length_pos_iff.2 h0
  obtain ⟨z, t1, t2, t3⟩ := powers (decide (n < 0)) (digs n.natAbs) n.natAbs k hd h0 (by omega) hv (by by_cases h : n < 0 <;> simp [h] <;> omega) hk4
  have hpl := pad_len (digs n.natAbs) k
  have hkl : (decL (k : Int)).length = 1 := by unfold decL; rw [if_neg (by omega), Int.natAbs_natCast, digs_small (by omega)]; rfl
  have hkd : decL (k : Int) = digs k := by unfold decL; rw [if_neg (by omega), Int.natAbs_natCast]
  have hsl := sg_len (decide (n < 0))
  have h3 : (if decide (n < 0) = true then -((n.natAbs * 65536 : Nat) : Int) else ((n.natAbs * 65536 : Nat) : Int)) = n * 65536 := by
    by_cases h : n < 0
    · rw [if_pos (decide_eq_true h)]; omega
    · rw [if_neg (by simp [h])]; omega
  rw [h3] at t3
  have hds := dec_sg n
  have hdn : (decL n).length ≤ 7 := by rw [hds, List.length_append]; omega
  refine powers_walk n by5 k (k + 1 - (digs n.natAbs).length) ((padOf (digs n.natAbs) k).length - k) (digs n.natAbs) (S (decL n)) (S (List.replicate k 48)) (S (sgOf (decide (n < 0)))) (S (decL (k : Int)))
    (S (text1 (decide (n < 0)) (digs n.natAbs) k)) (S (decL n ++ [101, 45])) (S (text3 (decide (n < 0)) (digs n.natAbs) k)) (S (decL n ++ [46])) (S (decL n ++ [46] ++ List.replicate k 48)) (S (text2 (decide (n < 0)) (digs n.natAbs) k))
    (S (sgOf (decide (n < 0)) ++ (padOf (digs n.natAbs) k).take ((padOf (digs n.natAbs) k).length - k))) (S (sgOf (decide (n < 0)) ++ (padOf (digs n.natAbs) k).take ((padOf (digs n.natAbs) k).length - k) ++ [46])) (S (digs n.natAbs)) (S (padOf (digs n.natAbs) k))
    (S ((padOf (digs n.natAbs) k).take ((padOf (digs n.natAbs) k).length - k))) (S ((padOf (digs n.natAbs) k).drop ((padOf (digs n.natAbs) k).length - k))) z w
    (fun w => Dec_call n (by omega) (by omega) w) (fun w => Dec_call (k : Int) (by omega) (by omega) w) (fun w => tok_is _ _ _ _ _ t1 w) (fun w => tok_is _ _ _ _ _ t2 w) (fun w => tok_is _ _ _ _ _ t3 w)
    (fun w => mezzotintlaw02_answers.calls true w answers_true) hn1 hn2 hk h5 h6 hk4 (zeros4 k hk4) (by rw [S_size]; omega) (by rw [S_size]; omega) (by omega) (by rw [S_size, List.length_replicate]; omega) rfl
    (fun i hi => by omega) (by omega) (by omega) rfl (by rw [S_size]; omega) ?_ ?_ ?_ ?_ ?_ ?_ ?_ ?_ ?_ ?_ ?_
  · exact S_append (decL n) [101, 45]
  · rw [S_append, hkd, hds]
    unfold text1
    congr 1
    simp
  · exact S_append (decL n) [46]
  · exact S_append (decL n ++ [46]) _
  · rw [show (⟨#[101, 43, 48]⟩ : ByteArray) = S [101, 43, 48] from rfl, S_append, hds]
    unfold text3
    congr 1
    simp
  · exact S_to _ _
  · exact S_append _ _
  · exact S_append _ [46]
  · exact S_from _ _
  · rw [S_append]
    unfold text2
    congr 1
    simp
  · by_cases h : n < 0
    · refine .inl ⟨h, by rw [S_size, hds, List.length_append]; omega, ?_, by simp [sgOf, h]; rfl⟩
      rw [S_from, hds]
      simp [sgOf, h]
    · refine .inr ⟨h, ?_, by simp [sgOf, h]; rfl⟩
      rw [hds]
      simp [sgOf, h]

theorem powers_all (a0 a1 : Int) (w : World) (w0 : (Lit.int .i16 a0).wf = true) (w1 : (Lit.int .u8 a1).wf = true) :
    Calls Tryd.prog 6 #[.int .i16 a0, .int .u8 a1] w fun e w' => e = .returned (.bool true) ∧ Below w.heap.size w w' := by
  simp [Lit.wf, IntKind.min, IntKind.max, IntKind.signed, IntKind.bits] at w0 w1
  have hm : Int.tmod a1 5 = ((a1.toNat % 5 : Nat) : Int) := by rw [Int.tmod_eq_emod_of_nonneg (by omega)]; omega
  exact powers_at a0 (a1.toNat % 5) a1 w (by omega) (by omega) (by omega) (by omega) hm (by omega)

end Go.Proofs.YtiocgpfnbmlfaaaDoor.HL
