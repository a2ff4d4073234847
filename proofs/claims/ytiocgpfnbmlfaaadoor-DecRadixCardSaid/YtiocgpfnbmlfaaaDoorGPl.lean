/- Plain words for the numbers' texts: decimal digits of a natural number, binary fractions as decimal digits; nothing of the program. -/
import Derived.Laws.BitsLemmas
import Derived.Lib.Strings
namespace Go.Proofs.YtiocgpfnbmlfaaaDoor
open Go

theorem lit_size (a : Array UInt8) : (⟨a⟩ : ByteArray).size = a.size := rfl

/-- decimal digits, as bytes -/
def digs (n : Nat) : List UInt8 := if h : n < 10 then [UInt8.ofNat (48 + n)] else digs (n / 10) ++ [UInt8.ofNat (48 + n % 10)]
termination_by n
decreasing_by omega

theorem digs_small {n : Nat} (h : n < 10) : digs n = [UInt8.ofNat (48 + n)] := by rw [digs, dif_pos h]
theorem digs_big {n : Nat} (h : ¬ n < 10) : digs n = digs (n / 10) ++ [UInt8.ofNat (48 + n % 10)] := by rw [digs, dif_neg h]

/-- the digits of a fraction of 65536, at most k of them -/
def fracs : Nat → Nat → List UInt8
  | 0, _ => []
  | k + 1, f => if f = 0 then [] else UInt8.ofNat (48 + f * 10 / 65536) :: fracs k (f * 10 % 65536)

theorem fracs_zero (k : Nat) : fracs k 0 = [] := by cases k <;> simp [fracs]
theorem fracs_succ {k f : Nat} (h : f ≠ 0) : fracs (k + 1) f = UInt8.ofNat (48 + f * 10 / 65536) :: fracs k (f * 10 % 65536) := by simp [fracs, h]

/-- what a round of the fraction's loop keeps: the power of two that divides it grows -/
theorem frac_step {j k f : Nat} (hjk : j + k = 16) (h : 2 ^ j ∣ f) (hf : f < 65536) (h0 : f ≠ 0) : k ≠ 0 ∧ 2 ^ (j + 1) ∣ f * 10 % 65536 := by
  constructor
  · rintro rfl
    obtain rfl : j = 16 := by omega
    have := Nat.le_of_dvd (Nat.pos_of_ne_zero h0) h
    omega
  · have h1 : 2 ^ (j + 1) ∣ f * 10 := by
      obtain ⟨c, rfl⟩ := h
      exact ⟨c * 5, by rw [Nat.pow_succ, Nat.mul_assoc, Nat.mul_assoc]; congr 1; omega⟩
    by_cases hj : j + 1 ≤ 16
    · have h2 : 2 ^ (j + 1) ∣ 65536 := by
        have : (65536 : Nat) = 2 ^ 16 := rfl
        rw [this]; exact Nat.pow_dvd_pow 2 hj
      exact (Nat.dvd_mod_iff h2).2 h1
    · exfalso
      have hj16 : j = 16 := by omega
      subst hj16
      have := Nat.le_of_dvd (Nat.pos_of_ne_zero h0) h
      omega

theorem i64_small (n : Int) (h0 : 0 ≤ n) (h1 : n < 2 ^ 62) : IntKind.i64.wrap n = n := by
  simp only [IntKind.wrap, IntKind.bits, IntKind.signed]
  simp
  omega

theorem and_65535 (n : Int) (h0 : 0 ≤ n) (h1 : n < 4611686018427387904) : Go.bits .and .i64 n 65535 = n % 65536 := by
  have h := bits_mask .i64 62 (by decide) i64_small 16 (by decide) n h0 (by simpa using h1)
  simpa using h

/-- the three parts of a number's text -/
def fitsB (n : Int) : Bool := decide (-2147483648 ≤ n) && decide (n ≤ 2147483647)
def clip (n : Int) : Int := if fitsB n = true then n else 0
def signL (n : Int) : List UInt8 := if n < 0 then [45] else []
def dec_parts.f (a0 : Int) : Option (ByteArray × ByteArray × ByteArray) :=
  some (⟨(signL (clip a0)).toArray⟩, ⟨(digs ((clip a0).natAbs / 65536)).toArray⟩, ⟨(fracs 16 ((clip a0).natAbs % 65536)).toArray⟩)

end Go.Proofs.YtiocgpfnbmlfaaaDoor
