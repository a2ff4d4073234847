/- dec.whole. -/
import Derived.Test.YtiocgpfnbmlfaaaDoorGU
import Derived.Test.YtiocgpfnbmlfaaaDoorWMore
namespace Go.Proofs.YtiocgpfnbmlfaaaDoor
open Go Go.RowKit Go.Proofs.YtiocgpfnbmlfaaaDoorW.PrintWords Go.Proofs.YtiocgpfnbmlfaaaDoorW.PrintMore
attribute [local go_sem] max2_int min2_int max_two min_two

def capM : Nat := 1099511627776
def wholeL (l : List UInt8) : Int × Bool :=
  if (sgnL l).2 = [] ∨ (sgnL l).2.all isDig = false then (0, false)
  else ((if (sgnL l).1 then -(min (valD (sgnL l).2) capM : Nat) else (min (valD (sgnL l).2) capM : Nat) : Int),
    decide (-2147483648 ≤ (if (sgnL l).1 then -(min (valD (sgnL l).2) capM : Nat) else (min (valD (sgnL l).2) capM : Nat) : Int)) && decide ((if (sgnL l).1 then -(min (valD (sgnL l).2) capM : Nat) else (min (valD (sgnL l).2) capM : Nat) : Int) ≤ 2147483647))

set_option maxHeartbeats 1000000 in
set_option maxRecDepth 100000 in
theorem whole_bad (s t : ByteArray) (m : Bool) (w : World) (ht : (⟨(sgnL s.data.toList).2.toArray⟩ : ByteArray) = t) (hm : (sgnL s.data.toList).1 = m) (hts : t.size ≤ 140737488351232)
    (h : t.toList = [] ∨ (¬ t.toList = [] ∧ t.data.toList.all isDig = false)) :
    Calls Tryd.prog 39 #[.string s] w (PQ (0, false) w) := by
  have HS := Lib.hid (signed_any s w)
  have HT := Lib.hid (And.intro ht hm)
  clear ht hm
  rcases h with h | ⟨h0, h⟩
  · have hb : (t.toList == []) = true := by simpa using h
    clear h
    go_enter Tryd.func39, Tryd.ntmps39
    go_wp2_with fail
    refine HS.out.mono ?_
    rintro e w1 ⟨rfl, hb1⟩
    rw [HT.out.1, HT.out.2]
    go_wp2_with fail
    go_ret2
    exact ⟨rfl, hb1⟩
  · have hb : (t.toList == []) = false := by simpa using h0
    have HP := Lib.hid h
    clear h h0
    go_enter Tryd.func39, Tryd.ntmps39
    go_wp2_with fail
    refine HS.out.mono ?_
    rintro e w1 ⟨rfl, hb1⟩
    rw [HT.out.1, HT.out.2]
    go_wp2_with fail
    refine (plain_any t w1 hts false HP.out).mono ?_
    rintro e w2 ⟨rfl, hb2⟩
    go_wp2_with fail
    go_ret2
    exact ⟨rfl, hb1.trans (hb2.mono hb1.size)⟩

theorem step_cap (V0 V x : Nat) (hV : min V0 capM = V) (hx : x ≤ 9) : (if 1099511627776 < wrap64 (wrap64 (10 * (V : Int)) + (((48 + x : Nat) : Int) - 48) % 256) then 1099511627776 else wrap64 (wrap64 (10 * (V : Int)) + (((48 + x : Nat) : Int) - 48) % 256)) = ((min (10 * V0 + x) capM : Nat) : Int) := by
  have hc : capM = 1099511627776 := rfl
  have hb : V ≤ 1099511627776 := by rw [← hV, hc]; exact Nat.min_le_right _ _
  rw [step_num V x (by omega) hx]
  by_cases h : V0 ≤ capM
  · have : V0 = V := by rw [← hV]; exact (Nat.min_eq_left h).symm
    subst this
    by_cases h2 : 10 * V0 + x ≤ capM
    · rw [Nat.min_eq_left h2, if_neg (by omega)]
    · rw [Nat.min_eq_right (by omega), if_pos (by omega)]; rfl
  · have : V = capM := by rw [← hV]; exact Nat.min_eq_right (by omega)
    rw [Nat.min_eq_right (by omega)]
    by_cases h2 : (1099511627776 : Int) < ((10 * V + x : Nat) : Int)
    · rw [if_pos h2]; rfl
    · omega

set_option maxHeartbeats 1000000 in
set_option maxRecDepth 100000 in
theorem whole_good (s t : ByteArray) (m : Bool) (w : World) (ht : (⟨(sgnL s.data.toList).2.toArray⟩ : ByteArray) = t) (hm : (sgnL s.data.toList).1 = m) (h0 : ¬ t.toList = []) (hts : t.size ≤ 140737488351232) (h : t.data.toList.all isDig = true)
    (z : Int) (b : Bool) (hz : (z, b) = ((if m then -(min (valD t.data.toList) capM : Nat) else (min (valD t.data.toList) capM : Nat) : Int),
      decide (-2147483648 ≤ (if m then -(min (valD t.data.toList) capM : Nat) else (min (valD t.data.toList) capM : Nat) : Int)) && decide ((if m then -(min (valD t.data.toList) capM : Nat) else (min (valD t.data.toList) capM : Nat) : Int) ≤ 2147483647))) :
    Calls Tryd.prog 39 #[.string s] w (PQ (z, b) w) := by
  have HZ := Lib.hid hz
  clear hz
  have HS := Lib.hid (signed_any s w)
  have HT := Lib.hid (And.intro ht hm)
  clear ht hm
  have hb : (t.toList == []) = false := by simpa using h0
  have HP := Lib.hid h
  clear h h0
  go_enter Tryd.func39, Tryd.ntmps39
  go_wp2_with fail
  refine HS.out.mono ?_
  rintro e w1 ⟨rfl, hb1⟩
  rw [HT.out.1, HT.out.2]
  go_wp2_with fail
  refine (plain_any t w1 (by omega) true HP.out).mono ?_
  rintro e w2 ⟨rfl, hb2⟩
  have HB := Lib.hid (hb1.trans (hb2.mono hb1.size))
  obtain ⟨W, cap, hcv, hcap, hbW, hsz, hcell, _⟩ := conv_bytes w2 t
  have HC := Lib.hid (And.intro hcell hbW)
  clear hcell hbW hsz hb1 hb2 HS
  go_wp2_with fail
  clear hcv
  go_loop [5, 23] (fun n i => ∃ k : Nat, k ≤ t.size ∧ i = .int .i64 k ∧ n = .int .i64 (min (valD (t.data.toList.take k)) capM : Nat)) (fun _ i => t.size - (intOf i).toNat)
  case atStart => exact ⟨0, Nat.zero_le _, rfl, rfl⟩
  case round =>
    obtain ⟨k, hk, rfl, rfl⟩ := hrel
    by_cases hlt : k < t.size
    · have hc := HC.out.1 k hlt
      obtain ⟨x, hx, hxe, htk, hv⟩ := dig_step t k hlt HP.out
      have HV := Lib.hid (And.intro hxe hv)
      clear hxe hv htk
      generalize hV : min (valD (t.data.toList.take k)) capM = V
      have HW := Lib.hid hV
      clear hV
      go_wp2_with fail
      go_round
      case rel =>
        obtain ⟨hxe, hv⟩ := HV.out
        refine ⟨k + 1, by omega, by go_num, ?_⟩
        rw [hxe, hv, step_cap _ V x HW.out hx]
      case measure => simp [intOf]; omega
    · obtain rfl : k = t.size := by omega
      have hall : t.data.toList.take t.size = t.data.toList := List.take_of_length_le (by rw [← Lib.size_eq]; exact Nat.le_refl _)
      rw [hall]
      clear hall
      have hVb : min (valD t.data.toList) capM ≤ 1099511627776 := Nat.min_le_right _ _
      generalize min (valD t.data.toList) capM = V at *
      cases m
      all_goals
        go_wp2_with fail
        all_goals
          go_ret2
          refine ⟨ret2b ?_, HB.out.trans (HC.out.2.mono HB.out.size)⟩
          rw [HZ.out]
          simp
          try omega

theorem wholeL_cases (l : List UInt8) : ((sgnL l).2 = [] ∨ (¬ (sgnL l).2 = [] ∧ (sgnL l).2.all isDig = false)) ∧ wholeL l = (0, false) ∨
    (¬ (sgnL l).2 = [] ∧ (sgnL l).2.all isDig = true) ∧ wholeL l = ((if (sgnL l).1 then -(min (valD (sgnL l).2) capM : Nat) else (min (valD (sgnL l).2) capM : Nat) : Int),
    decide (-2147483648 ≤ (if (sgnL l).1 then -(min (valD (sgnL l).2) capM : Nat) else (min (valD (sgnL l).2) capM : Nat) : Int)) && decide ((if (sgnL l).1 then -(min (valD (sgnL l).2) capM : Nat) else (min (valD (sgnL l).2) capM : Nat) : Int) ≤ 2147483647)) := by
  unfold wholeL
  by_cases h0 : (sgnL l).2 = []
  · exact .inl ⟨.inl h0, by rw [if_pos (.inl h0)]⟩
  · cases h2 : (sgnL l).2.all isDig
    · exact .inl ⟨.inr ⟨h0, rfl⟩, by rw [if_pos (.inr rfl)]⟩
    · exact .inr ⟨⟨h0, rfl⟩, by rw [if_neg (by rintro (h | h); exact h0 h; cases h)]⟩

theorem dec_whole.calls0 (s : ByteArray) (w : World) (hs : s.size ≤ 140737488351232) : Calls Tryd.prog 39 #[.string s] w (PQ (wholeL s.data.toList) w) := by
  have hl := sgnL_len s.data.toList
  rw [← Lib.size_eq] at hl
  have hsz : (⟨(sgnL s.data.toList).2.toArray⟩ : ByteArray).size = (sgnL s.data.toList).2.length := by simp [ByteArray.size]
  have htl : (⟨(sgnL s.data.toList).2.toArray⟩ : ByteArray).toList = (sgnL s.data.toList).2 := by rw [Lib.toList_data]
  rcases wholeL_cases s.data.toList with ⟨h, hr⟩ | ⟨⟨h0, h2⟩, hr⟩
  · rw [hr]
    exact whole_bad s _ _ w rfl rfl (by omega) (by rw [htl]; exact h)
  · rw [hr]
    exact whole_good s _ _ w rfl rfl (by rw [htl]; exact h0) (by omega) h2 _ _ rfl

end Go.Proofs.YtiocgpfnbmlfaaaDoor
