/- dec.shift: its walk. What dec.Token answers, in plain words. -/
import Derived.Test.YtiocgpfnbmlfaaaDoorGI
import Derived.Test.YtiocgpfnbmlfaaaDoorGF
import Derived.Test.YtiocgpfnbmlfaaaDoorQS
import Derived.Deep.RegionWith
namespace Go.Proofs.YtiocgpfnbmlfaaaDoor.QD
open Go Go.RowKit Go.Proofs.YtiocgpfnbmlfaaaDoor Go.Proofs.YtiocgpfnbmlfaaaDoorW.PrintWords

/-- the digits ahead of the point, with noughts where they do not reach -/
def aOf (D : List UInt8) (n : Nat) : List UInt8 := (D ++ List.replicate n 48).take n
theorem aOf_len (D : List UInt8) (n : Nat) : (aOf D n).length = n := by simp [aOf]
theorem aOf_all (D : List UInt8) (n : Nat) (hD : D.all isDig = true) : (aOf D n).all isDig = true := by
  rw [List.all_eq_true] at *
  intro x hx
  have := List.mem_of_mem_take hx
  rcases List.mem_append.1 this with h | h
  · exact hD x h
  · rw [(List.mem_replicate.1 h).2]; decide
/-- the digits behind the point -/
def bOf (D : List UInt8) (p : Int) : List UInt8 := List.replicate (-p).toNat 48 ++ D.drop p.toNat
theorem bOf_all (D : List UInt8) (p : Int) (hD : D.all isDig = true) : (bOf D p).all isDig = true := by
  rw [List.all_eq_true] at *
  intro x hx
  rcases List.mem_append.1 hx with h | h
  · rw [(List.mem_replicate.1 h).2]; decide
  · exact hD x (List.mem_of_mem_drop h)
theorem bOf_len (D : List UInt8) (p : Int) : (bOf D p).length ≤ (-p).toNat + D.length := by simp [bOf]

theorem repeat0 (n : Nat) : Lib.repeatL [48] n = List.replicate n 48 := by
  induction n with
  | zero => rfl
  | succ n ih =>
    have : Lib.repeatL [48] (n + 1) = [48] ++ Lib.repeatL [48] n := rfl
    rw [this, ih]; rfl
theorem repeat_f (n : Nat) (hn : n ≤ 100000) (k : Int) (hk : k = n) : strings_Repeat.f ⟨#[48]⟩ k = some (S (List.replicate n 48)) := by
  subst hk
  unfold strings_Repeat.f
  rw [if_pos ⟨by omega, by omega, by decide⟩, Int.toNat_natCast]
  show some (S (Lib.repeatL [48] n)) = _
  rw [repeat0]

def ShQ (x y : ByteArray) (w : World) (e : Ending) (w' : World) : Prop := e = .returned (.tuple #[.string x, .string y]) ∧ Below w.heap.size w w'

set_option maxHeartbeats 2000000 in
set_option maxRecDepth 100000 in
theorem shift_neg (a b d z r : ByteArray) (k : Int) (n : Nat) (w : World) (hd : a ++ b = d) (ha : a.size ≤ 100000) (hb : b.size ≤ 100000) (hk1 : -100000 ≤ k) (hk2 : k ≤ 100000)
    (hn : (a.size : Int) + k = -(n : Int)) (h0 : 0 < n) (hz : strings_Repeat.f ⟨#[48]⟩ (n : Int) = some z) (hzs : z.size = n) (hr : z ++ d = r) :
    Calls Tryd.prog 42 #[.string a, .string b, .int .i64 k] w (ShQ ⟨#[]⟩ r w) := by
  have hds : d.size = a.size + b.size := by rw [← hd]; simp
  have HZ := Lib.hid (fun w => strings_Repeat.calls ⟨#[48]⟩ (n : Int) z w hz)
  have c0 : a.size + b.size ≤ 9223372036854775807 := by omega
  have c1 : z.size + d.size ≤ 9223372036854775807 := by omega
  have c2 : (-(n : Int)) < 0 := by omega
  clear hz hds
  go_enter Tryd.func42, Tryd.ntmps42
  go_wp2_with (go_at_call 70; refine (HZ.out _).mono ?_; rintro e w' ⟨rfl, hb⟩; have HB := Lib.hid hb; clear hb)
  go_ret2
  exact ⟨rfl, HB.out⟩

set_option maxHeartbeats 2000000 in
set_option maxRecDepth 100000 in
theorem shift_far (a b d z r : ByteArray) (k : Int) (n m : Nat) (w : World) (hd : a ++ b = d) (ha : a.size ≤ 100000) (hb : b.size ≤ 100000) (hk1 : -100000 ≤ k) (hk2 : k ≤ 100000)
    (hn : (a.size : Int) + k = (n : Int)) (h0 : (n : Int) = (d.size : Int) + (m : Int)) (h1 : 0 < m) (hz : strings_Repeat.f ⟨#[48]⟩ (m : Int) = some z) (hzs : z.size = m) (hr : d ++ z = r) (hrs : r.size = n) (hr1 : r.extract 0 n = r) (_ : r.extract n n = ⟨#[]⟩) :
    Calls Tryd.prog 42 #[.string a, .string b, .int .i64 k] w (ShQ r ⟨#[]⟩ w) := by
  have hds : d.size = a.size + b.size := by rw [← hd]; simp
  have HZ := Lib.hid (fun w => strings_Repeat.calls ⟨#[48]⟩ (m : Int) z w hz)
  have c0 : a.size + b.size ≤ 9223372036854775807 := by omega
  have c1 : d.size + z.size ≤ 9223372036854775807 := by omega
  have c2 : ((n : Int) - (d.size : Int)) = (m : Int) := by omega
  have c3 : ¬ ((n : Int) < 0) := by omega
  have c4 : (d.size : Int) < (n : Int) := by omega
  have c5 : (0 : Int) ≤ (n : Int) := by omega
  clear hz hds h0
  go_enter Tryd.func42, Tryd.ntmps42
  go_wp2_with (go_at_call 70; refine (HZ.out _).mono ?_; rintro e w' ⟨rfl, hb⟩; have HB := Lib.hid hb; clear hb)
  go_quiet (fail)
  go_wp2_with fail
  go_ret2
  exact ⟨rfl, HB.out.trans ((Go.Proofs.YtiocgpfnbmlfaaaDoorW.PrintWords.Drawn0.mk ⟨_, rfl⟩).below.mono HB.out.size)⟩

set_option maxHeartbeats 2000000 in
set_option maxRecDepth 100000 in
theorem shift_mid (a b d x y : ByteArray) (k : Int) (n : Nat) (w : World) (hd : a ++ b = d) (ha : a.size ≤ 100000) (hb : b.size ≤ 100000) (hk1 : -100000 ≤ k) (hk2 : k ≤ 100000)
    (hn : (a.size : Int) + k = (n : Int)) (h0 : n ≤ d.size) (hx : d.extract 0 n = x) (hy : d.extract n d.size = y) :
    Calls Tryd.prog 42 #[.string a, .string b, .int .i64 k] w (ShQ x y w) := by
  have hds : d.size = a.size + b.size := by rw [← hd]; simp
  have c0 : a.size + b.size ≤ 9223372036854775807 := by omega
  have c3 : ¬ ((n : Int) < 0) := by omega
  have c4 : ¬ ((d.size : Int) < (n : Int)) := by omega
  have c5 : (0 : Int) ≤ (n : Int) := by omega
  have c6 : (n : Int) ≤ (d.size : Int) := by omega
  clear hds
  go_enter Tryd.func42, Tryd.ntmps42
  go_wp2_with fail
  go_quiet (fail)
  go_wp2_with fail
  go_ret2
  exact ⟨rfl, (Go.Proofs.YtiocgpfnbmlfaaaDoorW.PrintWords.Drawn0.mk ⟨_, rfl⟩).below⟩

def shiftL (a b : List UInt8) (k : Int) : List UInt8 × List UInt8 := (aOf (a ++ b) ((a.length : Int) + k).toNat, bOf (a ++ b) ((a.length : Int) + k))

theorem shift_any (a b : List UInt8) (k : Int) (w : World) (ha : a.length ≤ 10000) (hb : b.length ≤ 10000) (hk1 : -10000 ≤ k) (hk2 : k ≤ 10000) :
    Calls Tryd.prog 42 #[.string (S a), .string (S b), .int .i64 k] w (ShQ (S (shiftL a b k).1) (S (shiftL a b k).2) w) := by
  have hD := S_append a b
  have hDs : (S (a ++ b)).size = a.length + b.length := by rw [S_size]; simp
  have hA := S_size a
  have hB := S_size b
  unfold shiftL
  by_cases hneg : (a.length : Int) + k < 0
  · obtain ⟨n, hn⟩ : ∃ n : Nat, (a.length : Int) + k = -(n : Int) := ⟨(-((a.length : Int) + k)).toNat, by omega⟩
    have := shift_neg (S a) (S b) (S (a ++ b)) (S (List.replicate n 48)) (S (List.replicate n 48 ++ (a ++ b))) k n w hD (by omega) (by omega) (by omega) (by omega) (by rw [hA]; exact hn) (by omega) (repeat_f n (by omega) _ rfl) (by rw [S_size]; simp) (S_append _ _)
    rw [hn]
    have e1 : (-(n : Int)).toNat = 0 := by omega
    have e2 : (-(-(n : Int))).toNat = n := by omega
    unfold bOf aOf
    rw [e1, e2, List.take_zero, List.drop_zero]
    exact this
  · obtain ⟨n, hn⟩ : ∃ n : Nat, (a.length : Int) + k = (n : Int) := ⟨((a.length : Int) + k).toNat, by omega⟩
    rw [hn]
    have e1 : ((n : Int)).toNat = n := by omega
    have e2 : (-((n : Int))).toNat = 0 := by omega
    unfold bOf aOf
    rw [e1, e2, List.replicate_zero, List.nil_append]
    by_cases hfar : (a ++ b).length < n
    · obtain ⟨m, hm⟩ : ∃ m, n = (a ++ b).length + m := ⟨n - (a ++ b).length, by omega⟩
      have hdrop : (a ++ b).drop n = [] := List.drop_eq_nil_of_le (by omega)
      have htake : ((a ++ b) ++ List.replicate n 48).take n = (a ++ b) ++ List.replicate m 48 := by
        rw [List.take_append, List.take_of_length_le (by omega), List.take_replicate]
        congr 2
        omega
      have hrs : (S ((a ++ b) ++ List.replicate m 48)).size = n := by rw [S_size, List.length_append, List.length_replicate]; omega
      rw [hdrop, htake]
      refine shift_far (S a) (S b) (S (a ++ b)) (S (List.replicate m 48)) _ k n m w hD (by omega) (by omega) (by omega) (by omega) (by rw [hA]; exact hn) (by rw [S_size]; omega) (by omega) (repeat_f m (by omega) _ rfl) (by rw [S_size]; simp) (S_append _ _) hrs ?_ ?_
      · show (S ((a ++ b) ++ List.replicate m 48)).extract 0 n = S ((a ++ b) ++ List.replicate m 48)
        rw [S_to, List.take_of_length_le (by rw [← S_size]; omega)]
      · have := S_from ((a ++ b) ++ List.replicate m 48) n
        rw [hrs, List.drop_eq_nil_of_le (by rw [← S_size]; omega)] at this
        exact this
    · have htake : ((a ++ b) ++ List.replicate n 48).take n = (a ++ b).take n := List.take_append_of_le_length (by omega)
      rw [htake]
      exact shift_mid (S a) (S b) (S (a ++ b)) _ _ k n w hD (by omega) (by omega) (by omega) (by omega) (by rw [hA]; exact hn) (by rw [S_size]; omega) (S_to _ _) (S_from _ _)

end Go.Proofs.YtiocgpfnbmlfaaaDoor.QD
