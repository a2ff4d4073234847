/- Contracts of package strings' Cut at a separator of one byte, Trim and TrimLeft at an ASCII cutset, Repeat, IndexByte, in the printed form. -/
import Derived.Test.YtiocgpfnbmlfaaaDoorShelf
import Derived.Test.YtiocgpfnbmlfaaaDoorGPl
import Derived.Shelf.Strings.SlTrimAscii
import Derived.Shelf.Strings.Repeat
import Derived.Lib.CutLaws
import Derived.Lib.IndexLaws
import Derived.WalkKit
import Derived.BigCall
import Derived.BigGuard
import Derived.Deep.Draws
import Derived.Laws.Strings3
import Derived.RegionTactic
import Derived.Deep.QuietTactic
import Derived.BigQuiet
import Derived.Lib.Hide

import Derived.Test.YtiocgpfnbmlfaaaDoorWWords
namespace Go.Proofs.YtiocgpfnbmlfaaaDoor
open Go Go.RowKit

/-- cut at the first such byte -/
def cut1 (c : UInt8) : List UInt8 → List UInt8 × List UInt8 × Bool
  | [] => ([], [], false)
  | b :: l => if b = c then ([], l, true) else (b :: (cut1 c l).1, (cut1 c l).2.1, (cut1 c l).2.2)

theorem cut1_none (c : UInt8) : ∀ l : List UInt8, Lib.indexByte l c = -1 → cut1 c l = (l, [], false)
  | [], _ => rfl
  | b :: l, h => by
    by_cases hb : b = c
    · subst hb; simp [Lib.indexByte] at h
    · have hl : Lib.indexByte l c = -1 := by
        unfold Lib.indexByte at h
        rw [if_neg (by simpa using hb)] at h
        by_cases h2 : Lib.indexByte l c = -1
        · exact h2
        · rw [if_neg (by simpa using h2)] at h
          have := Lib.indexByte_ge l c
          omega
      rw [cut1, if_neg hb, cut1_none c l hl]

theorem cut1_some (c : UInt8) : ∀ (l : List UInt8) (i : Nat), Lib.indexByte l c = i → i < l.length ∧ cut1 c l = (l.take i, l.drop (i + 1), true)
  | [], i, h => by simp [Lib.indexByte] at h
  | b :: l, i, h => by
    by_cases hb : b = c
    · subst hb
      have : i = 0 := by simp [Lib.indexByte] at h; omega
      subst this
      simp [cut1]
    · unfold Lib.indexByte at h
      rw [if_neg (by simpa using hb)] at h
      by_cases h2 : Lib.indexByte l c = -1
      · rw [h2] at h; simp at h
      · rw [if_neg (by simpa using h2)] at h
        have hge := Lib.indexByte_ge l c
        obtain ⟨j, rfl⟩ : ∃ j, i = j + 1 := ⟨i - 1, by omega⟩
        obtain ⟨h3, h4⟩ := cut1_some c l j (by omega)
        refine ⟨by simp; omega, ?_⟩
        rw [cut1, if_neg hb, h4]
        simp

def strings_Cut.f (a0 a1 : ByteArray) : Option (ByteArray × ByteArray × Bool) :=
  if a1.size = 1 ∧ a0.size ≤ 140737488351232 then some (⟨(cut1 (a1.get! 0) a0.data.toList).1.toArray⟩, ⟨(cut1 (a1.get! 0) a0.data.toList).2.1.toArray⟩, (cut1 (a1.get! 0) a0.data.toList).2.2) else none

theorem one_byte (a : ByteArray) (h : a.size = 1) : a = ⟨#[a.get! 0]⟩ := by
  obtain ⟨d⟩ := a
  obtain ⟨l⟩ := d
  match l, h with
  | [x], _ => rfl

set_option maxHeartbeats 2000000 in
set_option maxRecDepth 100000 in
theorem lite_Cut (s : ByteArray) (c : UInt8) (w : World) (hs : s.size ≤ 140737488351232) :
    Calls Tryd.prog 85 #[.string s, .string ⟨#[c]⟩] w fun e w' => e = .returned (.tuple #[.string ⟨(cut1 c s.data.toList).1.toArray⟩, .string ⟨(cut1 c s.data.toList).2.1.toArray⟩, .bool (cut1 c s.data.toList).2.2]) ∧ ∃ n, w' = w.drewN n := by
  have hge := Lib.indexByte_ge s.data.toList c
  by_cases hix : Lib.indexByte s.data.toList c = -1
  · have hc := cut1_none c _ hix
    rw [hc]
    have hm : (⟨s.data.toList.toArray⟩ : ByteArray) = s := by simp
    simp only [hm]
    clear hc hge
    have HX := Lib.hid hix
    clear hix
    go_enter Tryd.func85, Tryd.ntmps85
    go_wp2_with (go_at_call 107; refine (Tryd.stringslite_Index_one _ _ _).mono ?_; rintro e w' ⟨rfl, rfl⟩; rw [HX.out])
    go_ret3
    exact ⟨rfl, 0, rfl⟩
  · obtain ⟨i, hi⟩ : ∃ i : Nat, Lib.indexByte s.data.toList c = i := ⟨(Lib.indexByte s.data.toList c).toNat, by omega⟩
    obtain ⟨hlt, hc⟩ := cut1_some c _ i hi
    rw [hc]
    have hz : s.data.toList.length = s.size := (Lib.size_eq s).symm
    have hlt' : i < s.size := by omega
    have e1 : (⟨(s.data.toList.take i).toArray⟩ : ByteArray) = s.extract 0 i := by rw [Lib.extract_eq]; simp
    have e2 : (⟨(s.data.toList.drop (i + 1)).toArray⟩ : ByteArray) = s.extract (i + 1) s.size := by
      rw [Lib.extract_eq]
      rw [List.take_of_length_le (by rw [List.length_drop]; omega)]
    simp only [e1, e2]
    clear hc hge e1 e2 hlt hz hix
    have HX := Lib.hid hi
    clear hi
    have c1 : (0 : Int) ≤ ↑i := by omega
    have c2 : (↑i : Int) ≤ ↑s.size := by omega
    have c3 : (0 : Int) ≤ ↑i + 1 := by omega
    have c4 : (↑i + 1 : Int) ≤ ↑s.size := by omega
    go_enter Tryd.func85, Tryd.ntmps85
    go_wp2_with (go_at_call 107; refine (Tryd.stringslite_Index_one _ _ _).mono ?_; rintro e w' ⟨rfl, rfl⟩; rw [HX.out])
    go_quiet (fail)
    go_wp2_with fail
    go_ret3
    exact ⟨rfl, _, rfl⟩

theorem strings_Cut.calls (a0 a1 r1 r2 : ByteArray) (r3 : Bool) (w : World) (h : strings_Cut.f a0 a1 = some (r1, r2, r3)) :
    Calls Tryd.prog 59 #[.string a0, .string a1] w fun e w' => e = .returned (.tuple #[.string r1, .string r2, .bool r3]) ∧ Below w.heap.size w w' := by
  unfold strings_Cut.f at h
  split at h
  · rename_i hh
    obtain ⟨h1, h2⟩ := hh
    simp only [Option.some.injEq, Prod.mk.injEq] at h
    obtain ⟨rfl, rfl, rfl⟩ := h
    have hL := lite_Cut a0 (a1.get! 0) w h2
    rw [← one_byte a1 h1] at hL
    have HL := Lib.hid hL
    clear hL
    go_enter Tryd.func59, Tryd.ntmps59
    go_wp2_with fail
    refine HL.out.mono ?_
    rintro e w' ⟨rfl, n, rfl⟩
    go_wp2_with fail
    go_ret3
    exact ⟨rfl, (Go.Proofs.YtiocgpfnbmlfaaaDoorW.PrintWords.Drawn0.mk ⟨n, rfl⟩).below⟩
  · cases h

def asciiB (c : ByteArray) : Bool := c.data.toList.all (fun b => decide (b.toNat < 128))

def strings_Trim.f (a0 a1 : ByteArray) : Option ByteArray :=
  if asciiB a1 = true ∧ a1.size ≤ 100 ∧ a0.size ≤ 140737488351232 then some ⟨(Lib.trimS a0.data.toList a1.data.toList).toArray⟩ else none

theorem strings_Trim.calls (a0 a1 r : ByteArray) (w : World) (h : strings_Trim.f a0 a1 = some r) :
    Calls Tryd.prog 86 #[.string a0, .string a1] w fun e w' => e = .returned (.string r) ∧ Below w.heap.size w w' := by
  unfold strings_Trim.f at h
  split at h
  · rename_i hh
    obtain ⟨h1, h2, h3⟩ := hh
    simp only [Option.some.injEq] at h
    obtain rfl := h
    exact Any.strings_Trim_laid Tryd.lays160 (by kernel_rfl) a0 a1 w (by omega) (by omega) (ascii_of_all h1)
  · cases h

def strings_TrimLeft.f (a0 a1 : ByteArray) : Option ByteArray :=
  if asciiB a1 = true ∧ a1.size ≤ 100 then some ⟨(Lib.trimLeftS a0.data.toList a1.data.toList).toArray⟩ else none

theorem strings_TrimLeft.calls (a0 a1 r : ByteArray) (w : World) (h : strings_TrimLeft.f a0 a1 = some r) :
    Calls Tryd.prog 61 #[.string a0, .string a1] w fun e w' => e = .returned (.string r) ∧ Below w.heap.size w w' := by
  unfold strings_TrimLeft.f at h
  split at h
  · rename_i hh
    obtain ⟨h1, h2⟩ := hh
    simp only [Option.some.injEq] at h
    obtain rfl := h
    exact Any.strings_TrimLeft_laid Tryd.lays161 (by kernel_rfl) a0 a1 w (by omega) (ascii_of_all h1)
  · cases h

def strings_Repeat.f (a0 : ByteArray) (a1 : Int) : Option ByteArray :=
  if 0 ≤ a1 ∧ a1 ≤ 100000 ∧ a0.size ≤ 1000000 then some ⟨(Lib.repeatL a0.data.toList a1.toNat).toArray⟩ else none

theorem strings_Repeat.calls (a0 : ByteArray) (a1 : Int) (r : ByteArray) (w : World) (h : strings_Repeat.f a0 a1 = some r) :
    Calls Tryd.prog 70 #[.string a0, .int .i64 a1] w fun e w' => e = .returned (.string r) ∧ Below w.heap.size w w' := by
  unfold strings_Repeat.f at h
  split at h
  · rename_i hh
    obtain ⟨h1, h2, h3⟩ := hh
    simp only [Option.some.injEq] at h
    obtain rfl := h
    obtain ⟨n, rfl⟩ := Int.eq_ofNat_of_zero_le h1
    rw [Int.toNat_natCast]
    have hb : a0.size * n ≤ 1000000 * 100000 := Nat.mul_le_mul h3 (by omega)
    exact Tryd.strings_Repeat a0 n w (by omega) (by omega)
  · cases h

def strings_IndexByte.f (a0 : ByteArray) (a1 : Int) : Option Int := some (Lib.indexByte a0.data.toList a1.toNat.toUInt8)

theorem strings_IndexByte.calls (a0 : ByteArray) (a1 r : Int) (w : World) (h : strings_IndexByte.f a0 a1 = some r) :
    Calls Tryd.prog 90 #[.string a0, .int .u8 a1] w fun e w' => e = .returned (.int .i64 r) ∧ Go.Proofs.YtiocgpfnbmlfaaaDoorW.PrintWords.Drawn0 w w' := by
  simp only [strings_IndexByte.f, Option.some.injEq] at h
  obtain rfl := h
  refine (Tryd.strings_IndexByte a0 a1 w).mono ?_
  rintro e w' ⟨rfl, rfl⟩
  exact ⟨rfl, Go.Proofs.YtiocgpfnbmlfaaaDoorW.PrintWords.Drawn0.refl _⟩

end Go.Proofs.YtiocgpfnbmlfaaaDoor
