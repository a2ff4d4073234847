/- The reference's plain: the walks where a point stands behind the digits. -/
import Derived.Test.YtiocgpfnbmlfaaaDoorGTa
namespace Go.Proofs.YtiocgpfnbmlfaaaDoor.QE
open Go Go.RowKit Go.Proofs.YtiocgpfnbmlfaaaDoor Go.Proofs.YtiocgpfnbmlfaaaDoor.PE Go.Proofs.YtiocgpfnbmlfaaaDoor.QD Go.Proofs.YtiocgpfnbmlfaaaDoorW.PrintWords Go.Proofs.YtiocgpfnbmlfaaaDoorW.PrintLast

set_option maxHeartbeats 4000000 in
set_option maxRecDepth 100000 in
theorem plain_point (s r a q : ByteArray) (m : Bool) (n : Nat) (hS : SignIs s r m) (hs : s.size ≤ 100000000) (hr : r.size ≤ 100000000) (hn : (r.data.toList.takeWhile isDig).length = n) (hle : n ≤ r.size)
    (ha : r.extract 0 n = a) (hq : r.extract n r.size = q) (h0 : 0 < q.size) (hy : (q[0]'h0) = 46) (t b z : ByteArray) (ht : q.extract 1 q.size = t) (n2 : Nat) (hts : t.size ≤ 100000000) (hn2 : (t.data.toList.takeWhile isDig).length = n2) (hle2 : n2 ≤ t.size) (hab : a.size ≤ 100000000) (hbb : b.size ≤ 100000000) (hb : t.extract 0 n2 = b) (hzz : t.extract n2 t.size = z) (d : ByteArray) (hd0 : a ++ b = d) (hz0 : z.size = 0) (w : World) (ok : Bool) (hok : decide (0 < d.size) = ok) :
    Calls Tryd.prog 35 #[.string s] w fun e w' => e = .returned (.tuple #[.bool m, .string d, .int .i64 (n : Nat), .bool true, .bool ok]) ∧ Drawn0 w w' := by
  have HD := Lib.hid (fun w => Digits_any r n (by omega) hn w)
  have c0 : (0 : Int) ≤ (n : Int) := by omega
  have c1 : (n : Int) ≤ (r.size : Int) := by omega
  have z1 : q.size + n = r.size := by rw [← hq]; simp; omega
  have c2 : ((q.size : Int) == 0) = false := beq_eq_false_iff_ne.2 (by omega)
  have c3 : ((0 : Int) < (q.size : Int)) = True := eq_true (by omega)
  have c4 : ((1 : Int) ≤ (q.size : Int)) = True := eq_true (by omega)
  have HE := Lib.hid (fun w => Digits_any t n2 (by omega) hn2 w)
  have c5 : (0 : Int) ≤ (n2 : Int) := by omega
  have c6 : (n2 : Int) ≤ (t.size : Int) := by omega
  have z3 : t.size + 1 = q.size := by rw [← ht]; simp; omega
  have z5 : z.size + n2 = t.size := by rw [← hzz]; simp; omega
  have c7 : a.size + b.size ≤ 9223372036854775807 := by omega
  clear hn2
  have c8 : ((z.size : Int) = 0) = True := eq_true (by omega)
  clear hn
  rcases hS with ⟨hz, hrs, rfl⟩ | ⟨hz, hc, hx, rfl⟩ | ⟨hz, hc, hx, rfl⟩ | ⟨hz, x, hc, hc1, hc2, hrs, rfl⟩
  · subst hrs
    exact absurd h0 (by omega)
  · have z0 : r.size + 1 = s.size := by rw [← hx]; simp; omega
    go_enter Tryd.func35, Tryd.ntmps35
    go_wp2_with (first | (go_at_call_of 43 (Value.string r); refine (HD.out _).mono ?_; rintro e w' ⟨rfl, hd⟩; obtain ⟨nd, rfl⟩ := drawn_drewN hd) | (go_at_call_of 43 (Value.string t); refine (HE.out _).mono ?_; rintro e w' ⟨rfl, hd⟩; obtain ⟨nd, rfl⟩ := drawn_drewN hd))
    refine bodyPost_ret (results_list (rs := [.tmp 2, .tmp 3, .tmp 4, .tmp 5, .tmp 6]) rfl (by simp) (.tmp (.tmp (.tmp (.tmp (.tmp .nil)))))) rfl ?_
    exact ⟨rfl, _, by first | rfl | (simp only [World.drewN_drewN]; done) | (simp only [World.drewN_drewN]; rfl)⟩
  · have z0 : r.size + 1 = s.size := by rw [← hx]; simp; omega
    go_enter Tryd.func35, Tryd.ntmps35
    go_wp2_with (first | (go_at_call_of 43 (Value.string r); refine (HD.out _).mono ?_; rintro e w' ⟨rfl, hd⟩; obtain ⟨nd, rfl⟩ := drawn_drewN hd) | (go_at_call_of 43 (Value.string t); refine (HE.out _).mono ?_; rintro e w' ⟨rfl, hd⟩; obtain ⟨nd, rfl⟩ := drawn_drewN hd))
    refine bodyPost_ret (results_list (rs := [.tmp 2, .tmp 3, .tmp 4, .tmp 5, .tmp 6]) rfl (by simp) (.tmp (.tmp (.tmp (.tmp (.tmp .nil)))))) rfl ?_
    exact ⟨rfl, _, by first | rfl | (simp only [World.drewN_drewN]; done) | (simp only [World.drewN_drewN]; rfl)⟩
  · subst hrs
    go_enter Tryd.func35, Tryd.ntmps35
    go_wp2_with (first | (go_at_call_of 43 (Value.string r); refine (HD.out _).mono ?_; rintro e w' ⟨rfl, hd⟩; obtain ⟨nd, rfl⟩ := drawn_drewN hd) | (go_at_call_of 43 (Value.string t); refine (HE.out _).mono ?_; rintro e w' ⟨rfl, hd⟩; obtain ⟨nd, rfl⟩ := drawn_drewN hd))
    refine bodyPost_ret (results_list (rs := [.tmp 2, .tmp 3, .tmp 4, .tmp 5, .tmp 6]) rfl (by simp) (.tmp (.tmp (.tmp (.tmp (.tmp .nil)))))) rfl ?_
    exact ⟨rfl, _, by first | rfl | (simp only [World.drewN_drewN]; done) | (simp only [World.drewN_drewN]; rfl)⟩

set_option maxHeartbeats 4000000 in
set_option maxRecDepth 100000 in
theorem plain_more (s r a q : ByteArray) (m : Bool) (n : Nat) (hS : SignIs s r m) (hs : s.size ≤ 100000000) (hr : r.size ≤ 100000000) (hn : (r.data.toList.takeWhile isDig).length = n) (hle : n ≤ r.size)
    (ha : r.extract 0 n = a) (hq : r.extract n r.size = q) (h0 : 0 < q.size) (hy : (q[0]'h0) = 46) (t b z : ByteArray) (ht : q.extract 1 q.size = t) (n2 : Nat) (hts : t.size ≤ 100000000) (hn2 : (t.data.toList.takeWhile isDig).length = n2) (hle2 : n2 ≤ t.size) (hab : a.size ≤ 100000000) (hbb : b.size ≤ 100000000) (hb : t.extract 0 n2 = b) (hzz : t.extract n2 t.size = z) (d : ByteArray) (hd0 : a ++ b = d) (hz0 : 0 < z.size) (w : World) (ok : Bool) (hok : false = ok) :
    Calls Tryd.prog 35 #[.string s] w fun e w' => e = .returned (.tuple #[.bool m, .string d, .int .i64 (n : Nat), .bool true, .bool ok]) ∧ Drawn0 w w' := by
  have HD := Lib.hid (fun w => Digits_any r n (by omega) hn w)
  have c0 : (0 : Int) ≤ (n : Int) := by omega
  have c1 : (n : Int) ≤ (r.size : Int) := by omega
  have z1 : q.size + n = r.size := by rw [← hq]; simp; omega
  subst hok
  have c2 : ((q.size : Int) == 0) = false := beq_eq_false_iff_ne.2 (by omega)
  have c3 : ((0 : Int) < (q.size : Int)) = True := eq_true (by omega)
  have c4 : ((1 : Int) ≤ (q.size : Int)) = True := eq_true (by omega)
  have HE := Lib.hid (fun w => Digits_any t n2 (by omega) hn2 w)
  have c5 : (0 : Int) ≤ (n2 : Int) := by omega
  have c6 : (n2 : Int) ≤ (t.size : Int) := by omega
  have z3 : t.size + 1 = q.size := by rw [← ht]; simp; omega
  have z5 : z.size + n2 = t.size := by rw [← hzz]; simp; omega
  have c7 : a.size + b.size ≤ 9223372036854775807 := by omega
  clear hn2
  have c8 : ((z.size : Int) == 0) = false := beq_eq_false_iff_ne.2 (by omega)
  clear hn
  rcases hS with ⟨hz, hrs, rfl⟩ | ⟨hz, hc, hx, rfl⟩ | ⟨hz, hc, hx, rfl⟩ | ⟨hz, x, hc, hc1, hc2, hrs, rfl⟩
  · subst hrs
    exact absurd h0 (by omega)
  · have z0 : r.size + 1 = s.size := by rw [← hx]; simp; omega
    go_enter Tryd.func35, Tryd.ntmps35
    go_wp2_with (first | (go_at_call_of 43 (Value.string r); refine (HD.out _).mono ?_; rintro e w' ⟨rfl, hd⟩; obtain ⟨nd, rfl⟩ := drawn_drewN hd) | (go_at_call_of 43 (Value.string t); refine (HE.out _).mono ?_; rintro e w' ⟨rfl, hd⟩; obtain ⟨nd, rfl⟩ := drawn_drewN hd))
    refine bodyPost_ret (results_list (rs := [.tmp 2, .tmp 3, .tmp 4, .tmp 5, .tmp 6]) rfl (by simp) (.tmp (.tmp (.tmp (.tmp (.tmp .nil)))))) rfl ?_
    exact ⟨rfl, _, by first | rfl | (simp only [World.drewN_drewN]; done) | (simp only [World.drewN_drewN]; rfl)⟩
  · have z0 : r.size + 1 = s.size := by rw [← hx]; simp; omega
    go_enter Tryd.func35, Tryd.ntmps35
    go_wp2_with (first | (go_at_call_of 43 (Value.string r); refine (HD.out _).mono ?_; rintro e w' ⟨rfl, hd⟩; obtain ⟨nd, rfl⟩ := drawn_drewN hd) | (go_at_call_of 43 (Value.string t); refine (HE.out _).mono ?_; rintro e w' ⟨rfl, hd⟩; obtain ⟨nd, rfl⟩ := drawn_drewN hd))
    refine bodyPost_ret (results_list (rs := [.tmp 2, .tmp 3, .tmp 4, .tmp 5, .tmp 6]) rfl (by simp) (.tmp (.tmp (.tmp (.tmp (.tmp .nil)))))) rfl ?_
    exact ⟨rfl, _, by first | rfl | (simp only [World.drewN_drewN]; done) | (simp only [World.drewN_drewN]; rfl)⟩
  · subst hrs
    go_enter Tryd.func35, Tryd.ntmps35
    go_wp2_with (first | (go_at_call_of 43 (Value.string r); refine (HD.out _).mono ?_; rintro e w' ⟨rfl, hd⟩; obtain ⟨nd, rfl⟩ := drawn_drewN hd) | (go_at_call_of 43 (Value.string t); refine (HE.out _).mono ?_; rintro e w' ⟨rfl, hd⟩; obtain ⟨nd, rfl⟩ := drawn_drewN hd))
    refine bodyPost_ret (results_list (rs := [.tmp 2, .tmp 3, .tmp 4, .tmp 5, .tmp 6]) rfl (by simp) (.tmp (.tmp (.tmp (.tmp (.tmp .nil)))))) rfl ?_
    exact ⟨rfl, _, by first | rfl | (simp only [World.drewN_drewN]; done) | (simp only [World.drewN_drewN]; rfl)⟩

end Go.Proofs.YtiocgpfnbmlfaaaDoor.QE
