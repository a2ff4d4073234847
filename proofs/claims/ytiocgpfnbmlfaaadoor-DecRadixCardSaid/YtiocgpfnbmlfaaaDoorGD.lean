/- dec.digits and dec.parts: what they answer, by the walk. -/
import Derived.Test.YtiocgpfnbmlfaaaDoorGB
import Derived.Test.YtiocgpfnbmlfaaaDoorGPl
import Derived.Test.YtiocgpfnbmlfaaaDoorShelf
import Derived.Laws.Runes
import Derived.Laws.Cover4
import Derived.Deep.LoopGhost
import Derived.IntWalk
import Derived.Lib.Hide
namespace Go.Proofs.YtiocgpfnbmlfaaaDoor
open Go Go.RowKit

theorem ret_str {a b : ByteArray} (h : a = b) : Ending.returned (.string a) = .returned (.string b) := by rw [h]

theorem enc_digit (n : Nat) (h : n < 10) : Utf8.encode (48 + (n : Int)) = ⟨#[UInt8.ofNat (48 + n)]⟩ := by
  have : n = 0 ∨ n = 1 ∨ n = 2 ∨ n = 3 ∨ n = 4 ∨ n = 5 ∨ n = 6 ∨ n = 7 ∨ n = 8 ∨ n = 9 := by omega
  rcases this with rfl | rfl | rfl | rfl | rfl | rfl | rfl | rfl | rfl | rfl <;> decide

theorem digs_lenk (k : Nat) : ∀ n : Nat, n < 10 ^ (k + 1) → (digs n).length ≤ k + 1 := by
  induction k with
  | zero => intro n h; rw [digs_small (by omega)]; simp
  | succ k ih =>
    intro n h
    by_cases hn : n < 10
    · rw [digs_small hn]; simp
    · rw [digs_big hn]
      have := ih (n / 10) (by rw [Nat.pow_succ] at h; omega)
      simp; omega
theorem digs_len (n : Nat) (h : n < 1000000) : (digs n).length ≤ 6 := digs_lenk 5 n h

def DigQ (n : Nat) (w : World) (e : Ending) (w' : World) : Prop := e = .returned (.string ⟨(digs n).toArray⟩) ∧ w = w'

set_option maxHeartbeats 400000 in
theorem digits_s (n : Nat) (w : World) (hn : n < 10) : Calls Tryd.prog 73 #[.int .i64 n] w (DigQ n w) := by
  go_enter Tryd.func73, Tryd.ntmps73
  go_wp2_with fail
  go_ret
  exact ⟨ret_str (by rw [enc_digit n hn, digs_small hn]), rfl⟩

set_option maxHeartbeats 400000 in
theorem digits_any (k : Nat) : ∀ (n : Nat) (w : World), n ≤ k → n < 1000000 → Calls Tryd.prog 73 #[.int .i64 n] w (DigQ n w) := by
  induction k with
  | zero => intro n w hk _; exact digits_s n w (by omega)
  | succ k ih =>
    intro n w hk hb
    by_cases hn : n < 10
    · exact digits_s n w hn
    · have HI := Lib.hid (ih (n / 10) w (by omega) (by omega))
      clear ih
      go_enter Tryd.func73, Tryd.ntmps73
      go_wp2_with fail
      rw [show ((n : Int) / 10) = ((n / 10 : Nat) : Int) from by omega]
      refine HI.out.mono ?_
      rintro e w' ⟨rfl, rfl⟩
      have hl : (⟨(digs (n / 10)).toArray⟩ : ByteArray).size ≤ 6 := digs_len (n / 10) (by omega)
      generalize hs : (⟨(digs (n / 10)).toArray⟩ : ByteArray) = s at hl ⊢
      have HS := Lib.hid hs
      clear hs
      have he : (Utf8.encode (48 + (n : Int) % 10)).size ≤ 4 := encode_size_le _
      have hk : s.size + (Utf8.encode (48 + (n : Int) % 10)).size ≤ 9223372036854775807 := by omega
      go_wp2_with fail

      go_ret
      refine ⟨ret_str ?_, rfl⟩
      rw [show (48 + (n : Int) % 10) = 48 + ((n % 10 : Nat) : Int) from by omega, enc_digit (n % 10) (by omega), ← HS.out, digs_big hn]
      apply ByteArray.ext
      simp

theorem fits_any (n : Int) (w : World) (b : Bool) (h : fitsB n = b) :
    Calls Tryd.prog 63 #[.int .i64 n] w fun e w' => e = .returned (.bool b) ∧ w = w' := by
  subst h
  by_cases h1 : -2147483648 ≤ n
  · by_cases h2 : n ≤ 2147483647
    · have : fitsB n = true := by simp [fitsB, h1, h2]
      rw [this]
      go_enter Tryd.func63, Tryd.ntmps63
      go_wp2_with fail
      go_ret
      exact ⟨rfl, rfl⟩
    · have : fitsB n = false := by simp [fitsB, h2]
      rw [this]
      go_enter Tryd.func63, Tryd.ntmps63
      go_wp2_with fail
      go_ret
      exact ⟨rfl, rfl⟩
  · have : fitsB n = false := by simp [fitsB, h1]
    rw [this]
    go_enter Tryd.func63, Tryd.ntmps63
    go_wp2_with fail
    go_ret
    exact ⟨rfl, rfl⟩

def PartsQ (s d r : List UInt8) (w : World) (e : Ending) (w' : World) : Prop :=
  e = .returned (.tuple #[.string ⟨s.toArray⟩, .string ⟨d.toArray⟩, .string ⟨r.toArray⟩]) ∧ Below w.heap.size w w'

/-- the loop's head: what is written, what is left -/
def PartsInv (B f0 k f : Nat) (w wr : World) : Prop :=
  k ≤ 16 ∧ f < 65536 ∧ 2 ^ (16 - k) ∣ f ∧ (∃ pre, pre.length + k = 16 ∧ fracs 16 f0 = pre ++ fracs k f ∧ Lib.IsBuilder 96 5 B B (Lib.byteCells pre) wr) ∧ Below B w wr ∧ B ≤ wr.heap.size

set_option maxHeartbeats 1000000 in
set_option maxRecDepth 100000 in
theorem parts_pos (n : Nat) (hn : n ≤ 2147483647) (w : World) :
    Calls Tryd.prog 47 #[.int .i64 n] w (PartsQ [] (digs (n / 65536)) (fracs 16 (n % 65536)) w) := by
  have HF := Lib.hid (fits_any n w true (by simp [fitsB]; omega))
  have HB := Lib.hid (Lib.fresh_isBuilder 96 5 w)
  have ha : Go.bits .and .i64 (n : Int) 65535 = ((n % 65536 : Nat) : Int) := by rw [and_65535 _ (by omega) (by omega)]; rfl
  go_enter Tryd.func47, Tryd.ntmps47
  go_wp2_with (go_at_call 63; refine HF.out.mono ?_; rintro e w' ⟨rfl, rfl⟩)
  clear ha HF
  go_loopg [6] 16 (fun k v wr => ∃ f : Nat, v = .int .i64 f ∧ Hid (PartsInv w.heap.size (n % 65536) k f w wr))
  case atStart =>
    exact ⟨n % 65536, rfl, ⟨Nat.le_refl _, by omega, by simp, ⟨[], rfl, by simp, by simpa [Lib.byteCells] using HB.out⟩, (Below.refl _ _).alloc (Nat.le_refl _) _, by simp⟩⟩
  case round =>
    clear HB
    obtain ⟨f, rfl, HI⟩ := hrel
    have hlt : f < 65536 := HI.out.2.1
    have hB := HI.out.2.2.2.2.2
    by_cases hf0 : f = 0
    · subst hf0
      have HD := Lib.hid (digits_any (n / 65536) (n / 65536) wr (Nat.le_refl _) (by omega))
      go_wp2_with fail
      rw [show ((n : Int) / 65536) = ((n / 65536 : Nat) : Int) from by omega]
      refine HD.out.mono ?_
      rintro e w' ⟨rfl, rfl⟩
      obtain ⟨hk, _, _, ⟨pre, hpl, hpre, hbu⟩, hbel, _⟩ := HI.out
      rw [fracs_zero gk, List.append_nil] at hpre
      have HS := Lib.hid (Tryd.Builder_String_any w.heap.size w.heap.size pre wr hbu hB)
      have HP := Lib.hid hpre
      have HL := Lib.hid hbel
      clear hpre hbu hpl hbel HI HD
      go_wp2_with fail
      refine HS.out.mono ?_
      rintro e w2 ⟨rfl, hb2⟩
      go_wp2_with fail
      go_ret3
      exact ⟨by rw [HP.out]; rfl, HL.out.trans hb2⟩
    · have hx : Go.bits .and .i64 ((f : Int) * 10) 65535 = ((f * 10 % 65536 : Nat) : Int) := by rw [and_65535 _ (by omega) (by omega)]; omega
      obtain ⟨hk, _, hdv, ⟨pre, hpl, hpre, hbu⟩, hbel, _⟩ := HI.out
      have hs := frac_step (j := 16 - gk) (k := gk) (by omega) hdv hlt hf0
      obtain ⟨k, rfl⟩ : ∃ k, gk = k + 1 := ⟨gk - 1, by omega⟩
      rw [fracs_succ hf0] at hpre
      have HW := Lib.hid (gb_WriteByte w.heap.size w.heap.size (Lib.byteCells pre) (48 + (f : Int) * 10 / 65536) wr hbu (by rw [Lib.byteCells_length]; omega) hB)
      have HP := Lib.hid (And.intro hpre (And.intro hpl (And.intro hk (And.intro hs.2 hbel))))
      clear hpre hpl hk hdv hbu hbel HI hs
      go_wp2_with fail
      refine HW.out.mono ?_
      rintro e w2 ⟨rfl, hb2, hl2⟩
      have HB2 := Lib.hid hb2
      have HL2 := Lib.hid hl2
      clear hb2 hl2 HW
      go_wp2_with fail
      go_roundg k
      case measure => omega
      case rel =>
        obtain ⟨hpre, hpl, hk, hs, hbel⟩ := HP.out
        refine ⟨f * 10 % 65536, rfl, ⟨by omega, by omega, ?_, ⟨pre ++ [UInt8.ofNat (48 + f * 10 / 65536)], by simp; omega, by simpa using hpre, .inr ?_⟩, hbel.trans HL2.out, ?_⟩⟩
        · rwa [show 16 - k = 16 - (k + 1) + 1 from by omega]
        · have hc : Lib.byteCells (pre ++ [UInt8.ofNat (48 + f * 10 / 65536)]) = Lib.byteCells pre ++ [.int .u8 (48 + (f : Int) * 10 / 65536)] := by
            simp [Lib.byteCells]
            omega
          rw [hc]; exact HB2.out
        · have := HL2.out.size; omega

set_option maxHeartbeats 1000000 in
set_option maxRecDepth 100000 in
theorem parts_neg (n : Nat) (hn : n ≤ 2147483648) (h1 : 1 ≤ n) (w : World) :
    Calls Tryd.prog 47 #[.int .i64 (-(n : Int))] w (PartsQ [45] (digs (n / 65536)) (fracs 16 (n % 65536)) w) := by
  have HF := Lib.hid (fits_any (-(n : Int)) w true (by simp [fitsB]; omega))
  have HB := Lib.hid (Lib.fresh_isBuilder 96 5 w)
  have hd : decide (0 < n) = true := by simp; omega
  have ha : Go.bits .and .i64 (n : Int) 65535 = ((n % 65536 : Nat) : Int) := by rw [and_65535 _ (by omega) (by omega)]; rfl
  go_enter Tryd.func47, Tryd.ntmps47
  go_wp2_with (go_at_call 63; refine HF.out.mono ?_; rintro e w' ⟨rfl, rfl⟩)
  clear ha HF
  go_loopg [6] 16 (fun k v wr => ∃ f : Nat, v = .int .i64 f ∧ Hid (PartsInv w.heap.size (n % 65536) k f w wr))
  case atStart =>
    exact ⟨n % 65536, rfl, ⟨Nat.le_refl _, by omega, by simp, ⟨[], rfl, by simp, by simpa [Lib.byteCells] using HB.out⟩, (Below.refl _ _).alloc (Nat.le_refl _) _, by simp⟩⟩
  case round =>
    clear HB
    obtain ⟨f, rfl, HI⟩ := hrel
    have hlt : f < 65536 := HI.out.2.1
    have hB := HI.out.2.2.2.2.2
    by_cases hf0 : f = 0
    · subst hf0
      have HD := Lib.hid (digits_any (n / 65536) (n / 65536) wr (Nat.le_refl _) (by omega))
      go_wp2_with fail
      rw [show ((n : Int) / 65536) = ((n / 65536 : Nat) : Int) from by omega]
      refine HD.out.mono ?_
      rintro e w' ⟨rfl, rfl⟩
      obtain ⟨hk, _, _, ⟨pre, hpl, hpre, hbu⟩, hbel, _⟩ := HI.out
      rw [fracs_zero gk, List.append_nil] at hpre
      have HS := Lib.hid (Tryd.Builder_String_any w.heap.size w.heap.size pre wr hbu hB)
      have HP := Lib.hid hpre
      have HL := Lib.hid hbel
      clear hpre hbu hpl hbel HI HD
      go_wp2_with fail
      refine HS.out.mono ?_
      rintro e w2 ⟨rfl, hb2⟩
      go_wp2_with fail
      go_ret3
      exact ⟨by rw [HP.out]; rfl, HL.out.trans hb2⟩
    · have hx : Go.bits .and .i64 ((f : Int) * 10) 65535 = ((f * 10 % 65536 : Nat) : Int) := by rw [and_65535 _ (by omega) (by omega)]; omega
      obtain ⟨hk, _, hdv, ⟨pre, hpl, hpre, hbu⟩, hbel, _⟩ := HI.out
      have hs := frac_step (j := 16 - gk) (k := gk) (by omega) hdv hlt hf0
      obtain ⟨k, rfl⟩ : ∃ k, gk = k + 1 := ⟨gk - 1, by omega⟩
      rw [fracs_succ hf0] at hpre
      have HW := Lib.hid (gb_WriteByte w.heap.size w.heap.size (Lib.byteCells pre) (48 + (f : Int) * 10 / 65536) wr hbu (by rw [Lib.byteCells_length]; omega) hB)
      have HP := Lib.hid (And.intro hpre (And.intro hpl (And.intro hk (And.intro hs.2 hbel))))
      clear hpre hpl hk hdv hbu hbel HI hs
      go_wp2_with fail
      refine HW.out.mono ?_
      rintro e w2 ⟨rfl, hb2, hl2⟩
      have HB2 := Lib.hid hb2
      have HL2 := Lib.hid hl2
      clear hb2 hl2 HW
      go_wp2_with fail
      go_roundg k
      case measure => omega
      case rel =>
        obtain ⟨hpre, hpl, hk, hs, hbel⟩ := HP.out
        refine ⟨f * 10 % 65536, rfl, ⟨by omega, by omega, ?_, ⟨pre ++ [UInt8.ofNat (48 + f * 10 / 65536)], by simp; omega, by simpa using hpre, .inr ?_⟩, hbel.trans HL2.out, ?_⟩⟩
        · rwa [show 16 - k = 16 - (k + 1) + 1 from by omega]
        · have hc : Lib.byteCells (pre ++ [UInt8.ofNat (48 + f * 10 / 65536)]) = Lib.byteCells pre ++ [.int .u8 (48 + (f : Int) * 10 / 65536)] := by
            simp [Lib.byteCells]
            omega
          rw [hc]; exact HB2.out
        · have := HL2.out.size; omega

set_option maxHeartbeats 1000000 in
set_option maxRecDepth 100000 in
theorem parts_bad (z : Int) (hz : fitsB z = false) (w : World) :
    Calls Tryd.prog 47 #[.int .i64 z] w (PartsQ [] (digs 0) (fracs 16 0) w) := by
  have HF := Lib.hid (fits_any z w false hz)
  have HB := Lib.hid (Lib.fresh_isBuilder 96 5 w)
  have ha : Go.bits .and .i64 0 65535 = 0 := by rfl
  clear hz
  go_enter Tryd.func47, Tryd.ntmps47
  go_wp2_with (go_at_call 63; refine HF.out.mono ?_; rintro e w' ⟨rfl, rfl⟩)
  clear ha HF
  go_loopg [6] 16 (fun k v wr => ∃ f : Nat, v = .int .i64 f ∧ Hid (PartsInv w.heap.size 0 k f w wr))
  case atStart =>
    exact ⟨0, rfl, ⟨Nat.le_refl _, by omega, by simp, ⟨[], rfl, by simp, by simpa [Lib.byteCells] using HB.out⟩, (Below.refl _ _).alloc (Nat.le_refl _) _, by simp⟩⟩
  case round =>
    clear HB
    obtain ⟨f, rfl, HI⟩ := hrel
    have hlt : f < 65536 := HI.out.2.1
    have hB := HI.out.2.2.2.2.2
    by_cases hf0 : f = 0
    · subst hf0
      have HD := Lib.hid (digits_any (0) (0) wr (Nat.le_refl _) (by omega))
      go_wp2_with fail
      refine HD.out.mono ?_
      rintro e w' ⟨rfl, rfl⟩
      obtain ⟨hk, _, _, ⟨pre, hpl, hpre, hbu⟩, hbel, _⟩ := HI.out
      rw [fracs_zero gk, List.append_nil] at hpre
      have HS := Lib.hid (Tryd.Builder_String_any w.heap.size w.heap.size pre wr hbu hB)
      have HP := Lib.hid hpre
      have HL := Lib.hid hbel
      clear hpre hbu hpl hbel HI HD
      go_wp2_with fail
      refine HS.out.mono ?_
      rintro e w2 ⟨rfl, hb2⟩
      go_wp2_with fail
      go_ret3
      exact ⟨by rw [HP.out]; rfl, HL.out.trans hb2⟩
    · have hx : Go.bits .and .i64 ((f : Int) * 10) 65535 = ((f * 10 % 65536 : Nat) : Int) := by rw [and_65535 _ (by omega) (by omega)]; omega
      obtain ⟨hk, _, hdv, ⟨pre, hpl, hpre, hbu⟩, hbel, _⟩ := HI.out
      have hs := frac_step (j := 16 - gk) (k := gk) (by omega) hdv hlt hf0
      obtain ⟨k, rfl⟩ : ∃ k, gk = k + 1 := ⟨gk - 1, by omega⟩
      rw [fracs_succ hf0] at hpre
      have HW := Lib.hid (gb_WriteByte w.heap.size w.heap.size (Lib.byteCells pre) (48 + (f : Int) * 10 / 65536) wr hbu (by rw [Lib.byteCells_length]; omega) hB)
      have HP := Lib.hid (And.intro hpre (And.intro hpl (And.intro hk (And.intro hs.2 hbel))))
      clear hpre hpl hk hdv hbu hbel HI hs
      go_wp2_with fail
      refine HW.out.mono ?_
      rintro e w2 ⟨rfl, hb2, hl2⟩
      have HB2 := Lib.hid hb2
      have HL2 := Lib.hid hl2
      clear hb2 hl2 HW
      go_wp2_with fail
      go_roundg k
      case measure => omega
      case rel =>
        obtain ⟨hpre, hpl, hk, hs, hbel⟩ := HP.out
        refine ⟨f * 10 % 65536, rfl, ⟨by omega, by omega, ?_, ⟨pre ++ [UInt8.ofNat (48 + f * 10 / 65536)], by simp; omega, by simpa using hpre, .inr ?_⟩, hbel.trans HL2.out, ?_⟩⟩
        · rwa [show 16 - k = 16 - (k + 1) + 1 from by omega]
        · have hc : Lib.byteCells (pre ++ [UInt8.ofNat (48 + f * 10 / 65536)]) = Lib.byteCells pre ++ [.int .u8 (48 + (f : Int) * 10 / 65536)] := by
            simp [Lib.byteCells]
            omega
          rw [hc]; exact HB2.out
        · have := HL2.out.size; omega


theorem dec_parts.calls (a0 : Int) (r1 r2 r3 : ByteArray) (w : World) (h : dec_parts.f a0 = some (r1, r2, r3)) :
    Calls Tryd.prog 47 #[.int .i64 a0] w fun e w' => e = .returned (.tuple #[.string r1, .string r2, .string r3]) ∧ Below w.heap.size w w' := by
  simp only [dec_parts.f, Option.some.injEq, Prod.mk.injEq] at h
  obtain ⟨rfl, rfl, rfl⟩ := h
  by_cases hf : fitsB a0 = true
  · have hb : -2147483648 ≤ a0 ∧ a0 ≤ 2147483647 := by simpa [fitsB] using hf
    have hc : clip a0 = a0 := by simp [clip, hf]
    rw [hc]
    by_cases h0 : a0 < 0
    · obtain ⟨n, rfl⟩ : ∃ n : Nat, a0 = -(n : Int) := ⟨a0.natAbs, by omega⟩
      refine (parts_neg n (by omega) (by omega) w).mono ?_
      rintro e w' ⟨rfl, hb⟩
      refine ⟨?_, hb⟩
      simp [signL]
      omega
    · obtain ⟨n, rfl⟩ := Int.eq_ofNat_of_zero_le (Int.not_lt.1 h0)
      refine (parts_pos n (by omega) w).mono ?_
      rintro e w' ⟨rfl, hb⟩
      refine ⟨?_, hb⟩
      simp [signL]
  · have hc : clip a0 = 0 := by simp [clip, hf]
    rw [hc]
    refine (parts_bad a0 (by simpa using hf) w).mono ?_
    rintro e w' ⟨rfl, hb⟩
    exact ⟨rfl, hb⟩

end Go.Proofs.YtiocgpfnbmlfaaaDoor
