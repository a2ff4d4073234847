/- dec.radix, dec.whole, dec.power in the printed form. -/
import Derived.Test.YtiocgpfnbmlfaaaDoorGR
namespace Go.Proofs.YtiocgpfnbmlfaaaDoor
open Go Go.RowKit Go.Proofs.YtiocgpfnbmlfaaaDoorW.PrintWords

def radixL (l : List UInt8) : Int × Int × Bool × Int :=
  if (cut1 35 l).2.2 = false ∨ (cut1 35 l).1 = [] ∨ 2 < (cut1 35 l).1.length ∨ (cut1 35 l).1.all isDig = false ∨ (cut1 35 l).2.1 = [] then (0, 0, false, 0)
  else radTail (valD (cut1 35 l).1) (cut1 35 l).2.1

theorem cut1_len (c : UInt8) : ∀ l : List UInt8, (cut1 c l).1.length ≤ l.length ∧ (cut1 c l).2.1.length ≤ l.length
  | [] => by simp [cut1]
  | b :: l => by
    have := cut1_len c l
    unfold cut1
    split <;> simp <;> omega

theorem radix_cases (l : List UInt8) :
    (cut1 35 l).2.2 = false ∧ radixL l = (0, 0, false, 0) ∨
    (cut1 35 l).2.2 = true ∧ ((cut1 35 l).1 = [] ∨ ¬ (cut1 35 l).1 = [] ∧ 2 < (cut1 35 l).1.length) ∧ radixL l = (0, 0, false, 0) ∨
    (cut1 35 l).2.2 = true ∧ ¬ (cut1 35 l).1 = [] ∧ ¬ 2 < (cut1 35 l).1.length ∧ ((cut1 35 l).1.all isDig = false ∨ (cut1 35 l).1.all isDig = true ∧ (cut1 35 l).2.1 = []) ∧ radixL l = (0, 0, false, 0) ∨
    (cut1 35 l).2.2 = true ∧ ¬ (cut1 35 l).1 = [] ∧ ¬ 2 < (cut1 35 l).1.length ∧ (cut1 35 l).1.all isDig = true ∧ ¬ (cut1 35 l).2.1 = [] ∧ radixL l = radTail (valD (cut1 35 l).1) (cut1 35 l).2.1 := by
  unfold radixL
  generalize cut1 35 l = r
  obtain ⟨a, b, f⟩ := r
  simp only
  cases f
  · exact .inl ⟨rfl, by rw [if_pos (.inl rfl)]⟩
  · refine .inr ?_
    by_cases h0 : a = []
    · exact .inl ⟨rfl, .inl h0, by rw [if_pos (.inr (.inl h0))]⟩
    · by_cases h1 : 2 < a.length
      · exact .inl ⟨rfl, .inr ⟨h0, h1⟩, by rw [if_pos (.inr (.inr (.inl h1)))]⟩
      · refine .inr ?_
        cases h2 : a.all isDig
        · exact .inl ⟨rfl, h0, h1, .inl rfl, by rw [if_pos (.inr (.inr (.inr (.inl rfl))))]⟩
        · by_cases h3 : b = []
          · exact .inl ⟨rfl, h0, h1, .inr ⟨rfl, h3⟩, by rw [if_pos (.inr (.inr (.inr (.inr h3))))]⟩
          · refine .inr ⟨rfl, h0, h1, rfl, h3, ?_⟩
            rw [if_neg]
            rintro (h | h | h | h | h)
            · cases h
            · exact h0 h
            · exact h1 h
            · cases h
            · exact h3 h

theorem radix_any (s : ByteArray) (w : World) (hs : s.size ≤ 140737488351232) (k n er : Int) (ok : Bool) (hr : radixL s.data.toList = (k, n, ok, er)) :
    Calls Tryd.prog 38 #[.string s] w (RQ k n ok er w) := by
  have hl := cut1_len 35 s.data.toList
  rw [← Lib.size_eq] at hl
  obtain ⟨a, ha⟩ : ∃ a : ByteArray, a.data.toList = (cut1 35 s.data.toList).1 := ⟨⟨(cut1 35 s.data.toList).1.toArray⟩, by simp⟩
  obtain ⟨b, hb⟩ : ∃ b : ByteArray, b.data.toList = (cut1 35 s.data.toList).2.1 := ⟨⟨(cut1 35 s.data.toList).2.1.toArray⟩, by simp⟩
  have ha0 : a.toList = (cut1 35 s.data.toList).1 := by rw [Lib.toList_data, ha]
  have hb0 : b.toList = (cut1 35 s.data.toList).2.1 := by rw [Lib.toList_data, hb]
  have haz : a.size = (cut1 35 s.data.toList).1.length := by rw [Lib.size_eq, ha]
  have hbz : b.size = (cut1 35 s.data.toList).2.1.length := by rw [Lib.size_eq, hb]
  have hcut : ∀ f, (cut1 35 s.data.toList).2.2 = f → cut1 35 s.data.toList = (a.data.toList, b.data.toList, f) := by
    intro f hf; rw [ha, hb, ← hf]
  rcases radix_cases s.data.toList with ⟨h1, h2⟩ | ⟨h1, h2, h3⟩ | ⟨h1, h2, h3, h4, h5⟩ | ⟨h1, h2, h3, h4, h5, h6⟩
  · rw [h2] at hr
    cases hr
    exact radix_nocut s a b w hs (hcut _ h1)
  · rw [h3] at hr
    cases hr
    refine radix_head s a b w hs (hcut _ h1) ?_
    rw [ha0, haz]
    rcases h2 with h2 | ⟨h2, h4⟩
    · exact .inl (by simp [h2])
    · exact .inr ⟨by simp [h2], by simp [h4], by simp; omega⟩
  · rw [h5] at hr
    cases hr
    refine radix_plain s a b w hs (hcut _ h1) (by rw [ha0]; simp [h2]) (by rw [haz]; simp; omega) _ rfl ?_
    rw [ha, hb0]
    rcases h4 with h4 | ⟨h4, h6⟩
    · exact .inl h4
    · exact .inr ⟨h4, by simp [h6]⟩
  · refine radix_loops s a b w hs (hcut _ h1) (by omega) (by rw [ha0]; simp [h2]) (by rw [haz]; simp; omega) (by rw [ha]; exact h4) (by rw [hb0]; simp [h5]) k n er ok ?_
    rw [ha, hb, ← h6, hr]

def dec_radix.f (a0 : ByteArray) : Option (Int × Int × ByteArray × Bool × Int) :=
  if a0.size ≤ 140737488351232 then some ((radixL a0.data.toList).1, (radixL a0.data.toList).2.1, ⟨#[]⟩, (radixL a0.data.toList).2.2.1, (radixL a0.data.toList).2.2.2) else none
theorem dec_radix.calls (a0 : ByteArray) (r1 r2 : Int) (r3 : ByteArray) (r4 : Bool) (r5 : Int) (w : World) (h : dec_radix.f a0 = some (r1, r2, r3, r4, r5)) :
    Calls Tryd.prog 38 #[.string a0] w fun e w' => e = .returned (.tuple #[.agg #[.int .i64 r1, .int .i64 r2, .string r3], .bool r4, .int .i64 r5]) ∧ Below w.heap.size w w' := by
  unfold dec_radix.f at h
  split at h
  · rename_i hh
    simp only [Option.some.injEq, Prod.mk.injEq] at h
    obtain ⟨rfl, rfl, rfl, rfl, rfl⟩ := h
    exact radix_any a0 w hh _ _ _ _ rfl
  · cases h

def dec_whole.f (a0 : ByteArray) : Option (Int × Bool) := if a0.size ≤ 140737488351232 then some (wholeL a0.data.toList) else none
theorem dec_whole.calls (a0 : ByteArray) (r1 : Int) (r2 : Bool) (w : World) (h : dec_whole.f a0 = some (r1, r2)) :
    Calls Tryd.prog 39 #[.string a0] w fun e w' => e = .returned (.tuple #[.int .i64 r1, .bool r2]) ∧ Below w.heap.size w w' := by
  unfold dec_whole.f at h
  split at h
  · rename_i hh
    have h := Option.some.inj h
    have := dec_whole.calls0 a0 w hh
    rw [h] at this
    exact this
  · cases h

def dec_power.f (a0 : ByteArray) : Option (Int × Bool) := if a0.size ≤ 140737488351232 then some (powL a0.data.toList) else none
theorem dec_power.calls (a0 : ByteArray) (r1 : Int) (r2 : Bool) (w : World) (h : dec_power.f a0 = some (r1, r2)) :
    Calls Tryd.prog 41 #[.string a0] w fun e w' => e = .returned (.tuple #[.int .i64 r1, .bool r2]) ∧ Below w.heap.size w w' := by
  unfold dec_power.f at h
  split at h
  · rename_i hh
    have h := Option.some.inj h
    have := dec_power.calls0 a0 w hh
    rw [h] at this
    exact this
  · cases h

end Go.Proofs.YtiocgpfnbmlfaaaDoor
