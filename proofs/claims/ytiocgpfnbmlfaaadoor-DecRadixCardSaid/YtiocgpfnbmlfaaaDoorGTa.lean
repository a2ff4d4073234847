/- The reference's plain (an optional sign, digits, a point): its walk, and its Lean function in plain words. -/
import Derived.Test.YtiocgpfnbmlfaaaDoorPEx1
import Derived.Test.YtiocgpfnbmlfaaaDoorQS
import Derived.Test.YtiocgpfnbmlfaaaDoorGS
import Derived.Deep.RegionWith
namespace Go.Proofs.YtiocgpfnbmlfaaaDoor.QE
open Go Go.RowKit Go.Proofs.YtiocgpfnbmlfaaaDoor Go.Proofs.YtiocgpfnbmlfaaaDoor.PE Go.Proofs.YtiocgpfnbmlfaaaDoor.QD Go.Proofs.YtiocgpfnbmlfaaaDoorW.PrintWords Go.Proofs.YtiocgpfnbmlfaaaDoorW.PrintLast

theorem Digits_l0 (suf : List UInt8) : ∀ pre : List UInt8, pre.length + suf.length < 1000000000000 →
    Ev (fun r => mezzotintref01_Digits.l0 r (S (pre ++ suf)) (pre.length : Int)) ((pre.length + (suf.takeWhile isDig).length : Nat) : Int) := by
  induction suf with
  | nil =>
    intro pre _
    refine Ev.step (f := fun _ => some ((pre.length : Nat) : Int)) (fun r => ?_) (Ev.now _)
    simp only [mezzotintref01_Digits.l0, List.append_nil, S_size]
    rw [if_neg (by omega)]
  | cons c suf ih =>
    intro pre hb
    simp only [List.length_cons] at hb
    have hbt := S_bt pre suf c
    have hsz : ((pre.length : Nat) : Int) < ((S (pre ++ c :: suf)).size : Int) := by rw [S_size]; simp; omega
    by_cases hc : isDig c = true
    · have hd := (isDig_iff c).1 hc
      have := ih (pre ++ [c]) (by simp; omega)
      rw [show (pre ++ [c]) ++ suf = pre ++ c :: suf from by simp, show ((pre ++ [c]).length : Int) = (pre.length : Int) + 1 from by simp] at this
      rw [show pre.length + ((c :: suf).takeWhile isDig).length = (pre ++ [c]).length + (suf.takeWhile isDig).length from by rw [List.takeWhile_cons, if_pos hc]; simp; omega]
      refine Ev.step (fun r => ?_) this
      simp only [mezzotintref01_Digits.l0]
      rw [if_pos hsz, if_pos (by omega), hbt, if_pos (by omega), if_pos (by omega), w64 _ (by omega) (by omega)]
    · have hd : ¬ (48 ≤ c.toNat ∧ c.toNat ≤ 57) := fun h => hc ((isDig_iff c).2 h)
      refine Ev.step (f := fun _ => some ((pre.length : Nat) : Int)) (fun r => ?_) ?_
      · simp only [mezzotintref01_Digits.l0]
        rw [if_pos hsz, if_pos (by omega), hbt]
        by_cases h1 : 48 ≤ c.toNat
        · rw [if_pos (by omega), if_neg (by omega)]
        · rw [if_neg (by omega)]
      · rw [List.takeWhile_cons, if_neg hc]
        exact Ev.now _

theorem Digits_ev (l : List UInt8) (h : l.length < 1000000000000) : Ev (fun r => mezzotintref01_Digits.f r (S l)) (((l.takeWhile isDig).length : Nat) : Int) := by
  have := Digits_l0 l [] (by simpa using h)
  simpa [mezzotintref01_Digits.f] using this

theorem Digits_any (s : ByteArray) (n : Nat) (hs : s.size < 1000000000000) (hn : (s.data.toList.takeWhile isDig).length = n) (w : World) :
    Calls Tryd.prog 43 #[.string s] w fun e w' => e = .returned (.int .i64 (n : Nat)) ∧ Drawn0 w w' := by
  subst hn
  obtain ⟨k, hk⟩ := (Digits_ev s.data.toList (by rw [← Lib.size_eq]; exact hs)).rounds
  rw [← S_of] at hk
  exact mezzotintref01_Digits.calls k s _ w hk

theorem drawn_drewN {w w' : World} (h : Drawn0 w w') : ∃ n, w' = w.drewN n := by
  obtain ⟨n, h⟩ := h
  exact ⟨n, h⟩

/-- how a text begins: s is the text, r what is behind its sign -/
def SignIs (s r : ByteArray) (m : Bool) : Prop :=
  (s.size = 0 ∧ r = s ∧ m = false) ∨ (∃ (h : 0 < s.size), (s[0]'h) = 45 ∧ s.extract 1 s.size = r ∧ m = true) ∨ (∃ (h : 0 < s.size), (s[0]'h) = 43 ∧ s.extract 1 s.size = r ∧ m = false) ∨
  (∃ (h : 0 < s.size) (x : UInt8), (s[0]'h) = x ∧ ((x.toNat : Int) == 45) = false ∧ ((x.toNat : Int) == 43) = false ∧ r = s ∧ m = false)

set_option maxHeartbeats 4000000 in
set_option maxRecDepth 100000 in
theorem plain_none (s r a q : ByteArray) (m : Bool) (n : Nat) (hS : SignIs s r m) (hs : s.size ≤ 100000000) (hr : r.size ≤ 100000000) (hn : (r.data.toList.takeWhile isDig).length = n) (hle : n ≤ r.size)
    (ha : r.extract 0 n = a) (hq : r.extract n r.size = q) (h0 : q.size = 0) (w : World) (ok : Bool) (hok : decide (0 < a.size) = ok) :
    Calls Tryd.prog 35 #[.string s] w fun e w' => e = .returned (.tuple #[.bool m, .string a, .int .i64 (n : Nat), .bool false, .bool ok]) ∧ Drawn0 w w' := by
  have HD := Lib.hid (fun w => Digits_any r n (by omega) hn w)
  have c0 : (0 : Int) ≤ (n : Int) := by omega
  have c1 : (n : Int) ≤ (r.size : Int) := by omega
  have z1 : q.size + n = r.size := by rw [← hq]; simp; omega
  have c2 : ((q.size : Int) = 0) = True := eq_true (by omega)
  clear hn
  rcases hS with ⟨hz, hrs, rfl⟩ | ⟨hz, hc, hx, rfl⟩ | ⟨hz, hc, hx, rfl⟩ | ⟨hz, x, hc, hc1, hc2, hrs, rfl⟩
  · subst hrs
    go_enter Tryd.func35, Tryd.ntmps35
    go_wp2_with (first | (go_at_call_of 43 (Value.string r); refine (HD.out _).mono ?_; rintro e w' ⟨rfl, hd⟩; obtain ⟨nd, rfl⟩ := drawn_drewN hd))
    refine bodyPost_ret (results_list (rs := [.tmp 2, .tmp 3, .tmp 4, .tmp 5, .tmp 6]) rfl (by simp) (.tmp (.tmp (.tmp (.tmp (.tmp .nil)))))) rfl ?_
    exact ⟨rfl, _, by first | rfl | (simp only [World.drewN_drewN]; done) | (simp only [World.drewN_drewN]; rfl)⟩
  · have z0 : r.size + 1 = s.size := by rw [← hx]; simp; omega
    go_enter Tryd.func35, Tryd.ntmps35
    go_wp2_with (first | (go_at_call_of 43 (Value.string r); refine (HD.out _).mono ?_; rintro e w' ⟨rfl, hd⟩; obtain ⟨nd, rfl⟩ := drawn_drewN hd))
    refine bodyPost_ret (results_list (rs := [.tmp 2, .tmp 3, .tmp 4, .tmp 5, .tmp 6]) rfl (by simp) (.tmp (.tmp (.tmp (.tmp (.tmp .nil)))))) rfl ?_
    exact ⟨rfl, _, by first | rfl | (simp only [World.drewN_drewN]; done) | (simp only [World.drewN_drewN]; rfl)⟩
  · have z0 : r.size + 1 = s.size := by rw [← hx]; simp; omega
    go_enter Tryd.func35, Tryd.ntmps35
    go_wp2_with (first | (go_at_call_of 43 (Value.string r); refine (HD.out _).mono ?_; rintro e w' ⟨rfl, hd⟩; obtain ⟨nd, rfl⟩ := drawn_drewN hd))
    refine bodyPost_ret (results_list (rs := [.tmp 2, .tmp 3, .tmp 4, .tmp 5, .tmp 6]) rfl (by simp) (.tmp (.tmp (.tmp (.tmp (.tmp .nil)))))) rfl ?_
    exact ⟨rfl, _, by first | rfl | (simp only [World.drewN_drewN]; done) | (simp only [World.drewN_drewN]; rfl)⟩
  · subst hrs
    go_enter Tryd.func35, Tryd.ntmps35
    go_wp2_with (first | (go_at_call_of 43 (Value.string r); refine (HD.out _).mono ?_; rintro e w' ⟨rfl, hd⟩; obtain ⟨nd, rfl⟩ := drawn_drewN hd))
    refine bodyPost_ret (results_list (rs := [.tmp 2, .tmp 3, .tmp 4, .tmp 5, .tmp 6]) rfl (by simp) (.tmp (.tmp (.tmp (.tmp (.tmp .nil)))))) rfl ?_
    exact ⟨rfl, _, by first | rfl | (simp only [World.drewN_drewN]; done) | (simp only [World.drewN_drewN]; rfl)⟩

set_option maxHeartbeats 4000000 in
set_option maxRecDepth 100000 in
theorem plain_other (s r a q : ByteArray) (m : Bool) (n : Nat) (hS : SignIs s r m) (hs : s.size ≤ 100000000) (hr : r.size ≤ 100000000) (hn : (r.data.toList.takeWhile isDig).length = n) (hle : n ≤ r.size)
    (ha : r.extract 0 n = a) (hq : r.extract n r.size = q) (h0 : 0 < q.size) (y : UInt8) (hy : (q[0]'h0) = y) (hy2 : ((y.toNat : Int) == 46) = false) (w : World) (ok : Bool) (hok : false = ok) :
    Calls Tryd.prog 35 #[.string s] w fun e w' => e = .returned (.tuple #[.bool m, .string a, .int .i64 (n : Nat), .bool false, .bool ok]) ∧ Drawn0 w w' := by
  have HD := Lib.hid (fun w => Digits_any r n (by omega) hn w)
  have c0 : (0 : Int) ≤ (n : Int) := by omega
  have c1 : (n : Int) ≤ (r.size : Int) := by omega
  have z1 : q.size + n = r.size := by rw [← hq]; simp; omega
  subst hok
  have c2 : ((q.size : Int) == 0) = false := beq_eq_false_iff_ne.2 (by omega)
  have c3 : ((0 : Int) < (q.size : Int)) = True := eq_true (by omega)
  clear hn
  rcases hS with ⟨hz, hrs, rfl⟩ | ⟨hz, hc, hx, rfl⟩ | ⟨hz, hc, hx, rfl⟩ | ⟨hz, x, hc, hc1, hc2, hrs, rfl⟩
  · subst hrs
    exact absurd h0 (by omega)
  · have z0 : r.size + 1 = s.size := by rw [← hx]; simp; omega
    go_enter Tryd.func35, Tryd.ntmps35
    go_wp2_with (first | (go_at_call_of 43 (Value.string r); refine (HD.out _).mono ?_; rintro e w' ⟨rfl, hd⟩; obtain ⟨nd, rfl⟩ := drawn_drewN hd))
    refine bodyPost_ret (results_list (rs := [.tmp 2, .tmp 3, .tmp 4, .tmp 5, .tmp 6]) rfl (by simp) (.tmp (.tmp (.tmp (.tmp (.tmp .nil)))))) rfl ?_
    exact ⟨rfl, _, by first | rfl | (simp only [World.drewN_drewN]; done) | (simp only [World.drewN_drewN]; rfl)⟩
  · have z0 : r.size + 1 = s.size := by rw [← hx]; simp; omega
    go_enter Tryd.func35, Tryd.ntmps35
    go_wp2_with (first | (go_at_call_of 43 (Value.string r); refine (HD.out _).mono ?_; rintro e w' ⟨rfl, hd⟩; obtain ⟨nd, rfl⟩ := drawn_drewN hd))
    refine bodyPost_ret (results_list (rs := [.tmp 2, .tmp 3, .tmp 4, .tmp 5, .tmp 6]) rfl (by simp) (.tmp (.tmp (.tmp (.tmp (.tmp .nil)))))) rfl ?_
    exact ⟨rfl, _, by first | rfl | (simp only [World.drewN_drewN]; done) | (simp only [World.drewN_drewN]; rfl)⟩
  · subst hrs
    go_enter Tryd.func35, Tryd.ntmps35
    go_wp2_with (first | (go_at_call_of 43 (Value.string r); refine (HD.out _).mono ?_; rintro e w' ⟨rfl, hd⟩; obtain ⟨nd, rfl⟩ := drawn_drewN hd))
    refine bodyPost_ret (results_list (rs := [.tmp 2, .tmp 3, .tmp 4, .tmp 5, .tmp 6]) rfl (by simp) (.tmp (.tmp (.tmp (.tmp (.tmp .nil)))))) rfl ?_
    exact ⟨rfl, _, by first | rfl | (simp only [World.drewN_drewN]; done) | (simp only [World.drewN_drewN]; rfl)⟩

end Go.Proofs.YtiocgpfnbmlfaaaDoor.QE
