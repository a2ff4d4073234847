/- What the reference's Dec and Print come to, in plain words. -/
import Derived.Test.YtiocgpfnbmlfaaaPQx1
import Derived.Test.YtiocgpfnbmlfaaaGPl
namespace Go.Proofs.Ytiocgpfnbmlfaaa.QD
open Go Go.RowKit Go.Proofs.Ytiocgpfnbmlfaaa.PQ Go.Proofs.YtiocgpfnbmlfaaaW.PrintWords Go.Proofs.YtiocgpfnbmlfaaaW.PrintLast

/-- a string by its bytes -/
def S (l : List UInt8) : ByteArray := ⟨l.toArray⟩
theorem S_append (a b : List UInt8) : S a ++ S b = S (a ++ b) := by apply ByteArray.ext; simp [S]
theorem S_size (a : List UInt8) : (S a).size = a.length := by simp [S, ByteArray.size]
theorem S_list (a : List UInt8) : (S a).toList = a := by rw [Lib.toList_data]; simp [S]
theorem S_nums (n : Nat) : strOfNums [(n : Int)] = S [UInt8.ofNat n] := by simp [strOfNums, S]

theorem tm (a b : Int) (h : 0 ≤ a) : a.tmod b = a % b := Int.tmod_eq_emod_of_nonneg h
theorem td (a b : Int) (h : 0 ≤ a) : a.tdiv b = a / b := Int.tdiv_eq_ediv_of_nonneg h

theorem u64_small (n : Nat) (h : n < 18446744073709551616) : IntKind.u64.wrap (n : Int) = n := by
  simp [IntKind.wrap, IntKind.bits, IntKind.signed]
  omega

theorem udec_ev (k : Nat) : ∀ (n : Nat) (x : List UInt8), n < 10 ^ (k + 1) → n < 18446744073709551616 → x.length + k < 9223372036854775807 →
    Ev (fun r => mezzotintref01_udec.l0 r n (S x)) (S (digs n ++ x)) := by
  induction k with
  | zero =>
    intro n x hn hb hx
    have hn : n < 10 := by omega
    refine Ev.step (f := fun _ => some (S (digs n ++ x))) (fun r => ?_) (Ev.now _)
    simp only [mezzotintref01_udec.l0, Option.bind_some]
    rw [show ((48 + ((n : Int).tmod 10) % 256) % 256 : Int) = ((48 + n % 10 : Nat) : Int) from by rw [tm _ _ (by omega)]; omega, S_nums, S_append, S_size, S_size,
      if_pos (by simp; omega), show (n : Int).tdiv 10 = ((n / 10 : Nat) : Int) from by rw [td _ _ (by omega)]; omega, u64_small _ (by omega), if_pos (by omega), digs_small hn, show n % 10 = n from by omega]
  | succ k ih =>
    intro n x hn hb hx
    by_cases h : n < 10
    · refine Ev.step (f := fun _ => some (S (digs n ++ x))) (fun r => ?_) (Ev.now _)
      simp only [mezzotintref01_udec.l0, Option.bind_some]
      rw [show ((48 + ((n : Int).tmod 10) % 256) % 256 : Int) = ((48 + n % 10 : Nat) : Int) from by rw [tm _ _ (by omega)]; omega, S_nums, S_append, S_size, S_size,
        if_pos (by simp; omega), show (n : Int).tdiv 10 = ((n / 10 : Nat) : Int) from by rw [td _ _ (by omega)]; omega, u64_small _ (by omega), if_pos (by omega), digs_small h, show n % 10 = n from by omega]
    · have := ih (n / 10) (UInt8.ofNat (48 + n % 10) :: x) (by rw [Nat.pow_succ] at hn; omega) (by omega) (by simp; omega)
      rw [show digs n ++ x = digs (n / 10) ++ UInt8.ofNat (48 + n % 10) :: x from by rw [digs_big h]; simp]
      refine Ev.step (fun r => ?_) this
      simp only [mezzotintref01_udec.l0, Option.bind_some]
      rw [show ((48 + ((n : Int).tmod 10) % 256) % 256 : Int) = ((48 + n % 10 : Nat) : Int) from by rw [tm _ _ (by omega)]; omega, S_nums, S_append, S_size, S_size,
        if_pos (by simp; omega), show (n : Int).tdiv 10 = ((n / 10 : Nat) : Int) from by rw [td _ _ (by omega)]; omega, u64_small _ (by omega), if_neg (by omega)]
      rfl

/-- Dec of a number that is not below 0 -/
theorem Dec_ev (n : Nat) (h : n < 9223372036854775808) : Ev (fun r => mezzotintref01_Dec.f r n) (S (digs n)) := by
  have := udec_ev 18 n [] (by omega) (by omega) (by simp)
  rw [List.append_nil] at this
  refine Ev.congr (fun r => ?_) this
  unfold mezzotintref01_Dec.f mezzotintref01_udec.f
  rw [if_neg (by omega), u64_small _ (by omega)]
  show (mezzotintref01_udec.l0 r n (S [])).bind (fun t => some t) = _
  cases mezzotintref01_udec.l0 r n (S []) <;> rfl

/-- the digits of a fraction -/
theorem frac_ev (k : Nat) : ∀ (f : Nat) (x : List UInt8), f < 65536 → 2 ^ (16 - k) ∣ f → k ≤ 16 → x.length + k < 1000 →
    Ev (fun r => mezzotintref01_Print.l0 r (S x) f) (S (x ++ fracs k f)) := by
  induction k with
  | zero =>
    intro f x hf hd _ hx
    have h0 : f = 0 := by
      rcases Nat.eq_zero_or_pos f with h | h
      · exact h
      · have := Nat.le_of_dvd h hd; omega
    subst h0
    refine Ev.step (f := fun _ => some (S (x ++ fracs 0 0))) (fun r => ?_) (Ev.now _)
    simp only [mezzotintref01_Print.l0, fracs_zero, List.append_nil]
    rw [if_neg (by simp)]
  | succ k ih =>
    intro f x hf hd hk hx
    by_cases h0 : f = 0
    · subst h0
      refine Ev.step (f := fun _ => some (S (x ++ fracs (k + 1) 0))) (fun r => ?_) (Ev.now _)
      simp only [mezzotintref01_Print.l0, fracs_zero, List.append_nil]
      rw [if_neg (by simp)]
    · have hs := frac_step (j := 16 - (k + 1)) (k := k + 1) (by omega) hd hf h0
      have := ih (f * 10 % 65536) (x ++ [UInt8.ofNat (48 + f * 10 / 65536)]) (by omega) (by rw [show 16 - k = 16 - (k + 1) + 1 from by omega]; exact hs.2) (by omega) (by simp; omega)
      rw [show x ++ fracs (k + 1) f = x ++ [UInt8.ofNat (48 + f * 10 / 65536)] ++ fracs k (f * 10 % 65536) from by rw [fracs_succ h0]; simp]
      have hD := Dec_ev (f * 10 / 65536) (by omega)
      rw [digs_small (by omega)] at hD
      refine Ev.step (fun r => ?_) (Ev.bind hD (f := fun r t => if (S x).size + t.size ≤ 9223372036854775807 then mezzotintref01_Print.l0 r (S x ++ t) ((f * 10 % 65536 : Nat) : Int) else none) ?_)
      · simp only [mezzotintref01_Print.l0]
        rw [if_pos (by omega), show wrap64 ((f : Int) * 10) = ((f * 10 : Nat) : Int) from by unfold wrap64; omega, show wrap64 (((f * 10 : Nat) : Int).tdiv 65536) = ((f * 10 / 65536 : Nat) : Int) from by rw [td _ _ (by omega)]; unfold wrap64; omega,
          show ((f * 10 : Nat) : Int).tmod 65536 = ((f * 10 % 65536 : Nat) : Int) from by rw [tm _ _ (by omega)]; omega]
      · refine Ev.congr (fun r => ?_) this
        rw [if_pos (by rw [S_size, S_size]; simp; omega), S_append]

end Go.Proofs.Ytiocgpfnbmlfaaa.QD
