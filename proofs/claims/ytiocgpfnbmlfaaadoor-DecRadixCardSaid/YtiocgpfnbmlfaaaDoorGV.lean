/- dec.signed, dec.plain in list words; []byte(s) as a row that is read; dec.power. -/
import Derived.Test.YtiocgpfnbmlfaaaDoorPRx1
import Derived.Lib.ConvBytes
import Derived.Lib.SlTrimSet
namespace Go.Proofs.YtiocgpfnbmlfaaaDoor
open Go Go.RowKit Go.Proofs.YtiocgpfnbmlfaaaDoorW.PrintWords

def isDig (b : UInt8) : Bool := decide (48 ≤ b.toNat) && decide (b.toNat ≤ 57)
def sgnL : List UInt8 → Bool × List UInt8
  | [] => (false, [])
  | b :: l => if b = 45 then (true, l) else if b = 43 then (false, l) else (false, b :: l)
/-- the number of digits, read from the left -/
def valD (l : List UInt8) : Nat := l.foldl (fun n b => 10 * n + (b.toNat - 48)) 0
theorem valD_snoc (l : List UInt8) (b : UInt8) : valD (l ++ [b]) = 10 * valD l + (b.toNat - 48) := by simp [valD]

theorem ext_list {a b : ByteArray} (h : a.data.toList = b.data.toList) : a = b := by
  apply ByteArray.ext; exact Array.toList_inj.1 h
theorem mk_list (s : ByteArray) : (⟨s.data.toList.toArray⟩ : ByteArray) = s := by simp

theorem bt_nat (s : ByteArray) (i : Nat) (h : i < s.size) : bt s i = ((s.data.toList[i]'(by rw [← Lib.size_eq]; exact h)).toNat : Int) := by
  unfold bt
  rw [dif_pos (by simpa using h)]
  simp
  rfl

theorem signed_f (s : ByteArray) : PR.dec_signed.f s = some ((sgnL s.data.toList).1, ⟨(sgnL s.data.toList).2.toArray⟩) := by
  unfold PR.dec_signed.f
  rw [Lib.toList_data]
  cases hl : s.data.toList with
  | nil =>
    simp only [if_true, sgnL]
    have : s = ⟨#[]⟩ := ext_list (by rw [hl])
    rw [this]
  | cons b l =>
    have hs : s.size = l.length + 1 := by rw [Lib.size_eq, hl]; rfl
    have hb : bt s 0 = (b.toNat : Int) := by
      rw [show (0 : Int) = ((0 : Nat) : Int) from rfl, bt_nat s 0 (by omega)]
      simp [hl]
    have he : s.extract 1 s.size = ⟨l.toArray⟩ := by
      rw [Lib.extract_eq, hl]
      simp [hs]
    rw [if_neg (by simp), if_pos (by omega), hb, he]
    by_cases h1 : b = 45
    · subst h1
      rw [if_pos (by decide), if_pos (by omega)]
      simp [sgnL]
    · have h1' : ¬ ((b.toNat : Int) = 45) := by
        intro h; apply h1; apply UInt8.toNat_inj.1; show b.toNat = 45; omega
      rw [if_neg h1']
      by_cases h2 : b = 43
      · subst h2
        rw [if_pos (by decide), if_pos (by omega)]
        simp [sgnL]
      · have h2' : ¬ ((b.toNat : Int) = 43) := by
          intro h; apply h2; apply UInt8.toNat_inj.1; show b.toNat = 43; omega
        rw [if_neg h2']
        simp [sgnL, h1, h2]
        exact ext_list hl

theorem dropWhile_nil {p : UInt8 → Bool} : ∀ {l : List UInt8}, l.dropWhile p = [] ↔ ∀ x ∈ l, p x = true
  | [] => by simp
  | b :: l => by
    by_cases h : p b = true
    · rw [List.dropWhile_cons, if_pos h, dropWhile_nil]; simp [h]
    · rw [List.dropWhile_cons, if_neg h]; simp [h]

theorem trimS_all (l cs : List UInt8) : (Lib.trimS l cs == []) = l.all (cs.contains ·) := by
  rw [Bool.eq_iff_iff]
  simp only [beq_iff_eq, Lib.trimS, Lib.trimLeftS, Lib.trimRightS, List.all_eq_true]
  constructor
  · intro h x hx
    by_cases hc : cs.contains x = true
    · exact hc
    · exfalso
      have h1 := dropWhile_nil.1 h
      have hne : (l.reverse.dropWhile (cs.contains ·)) ≠ [] := by
        intro e
        have := dropWhile_nil.1 e x (by simpa using hx)
        exact hc this
      obtain ⟨y, t, ht⟩ := List.exists_cons_of_ne_nil hne
      have hy : cs.contains y = false := by
        have := List.head_dropWhile_not (p := (cs.contains ·)) (l := l.reverse) (hne)
        simp only [ht, List.head_cons] at this
        simpa using this
      have := h1 y (by rw [ht]; simp)
      rw [hy] at this
      cases this
  · intro h
    have : l.reverse.dropWhile (cs.contains ·) = [] := dropWhile_nil.2 (fun x hx => h x (by simpa using hx))
    rw [this]; rfl

theorem digits_contains (b : UInt8) : ([48, 49, 50, 51, 52, 53, 54, 55, 56, 57] : List UInt8).contains b = isDig b := by
  rw [Bool.eq_iff_iff]
  simp [isDig]
  constructor
  · rintro (h | h | h | h | h | h | h | h | h | h) <;> subst h <;> decide
  · rintro ⟨h1, h2⟩
    have : b.toNat = 48 ∨ b.toNat = 49 ∨ b.toNat = 50 ∨ b.toNat = 51 ∨ b.toNat = 52 ∨ b.toNat = 53 ∨ b.toNat = 54 ∨ b.toNat = 55 ∨ b.toNat = 56 ∨ b.toNat = 57 := by omega
    rcases this with h | h | h | h | h | h | h | h | h | h <;> simp [← UInt8.toNat_inj, h]

theorem plain_f (s : ByteArray) (hs : s.size ≤ 140737488351232) : PR.dec_plain.f s = some (s.data.toList.all isDig) := by
  unfold PR.dec_plain.f strings_Trim.f
  rw [if_pos ⟨by decide, by decide, hs⟩]
  simp only [Option.bind_some]
  rw [Lib.toList_data]
  have := trimS_all s.data.toList [48, 49, 50, 51, 52, 53, 54, 55, 56, 57]
  simp only [digits_contains] at this
  rw [← this]

theorem signed_any (s : ByteArray) (w : World) :
    Calls Tryd.prog 32 #[.string s] w fun e w' => e = .returned (.tuple #[.bool (sgnL s.data.toList).1, .string ⟨(sgnL s.data.toList).2.toArray⟩]) ∧ Below w.heap.size w w' :=
  (PR.dec_signed.calls s _ _ w (signed_f s)).mono fun _ _ h => ⟨h.1, h.2.below⟩

theorem plain_any (s : ByteArray) (w : World) (hs : s.size ≤ 140737488351232) (b : Bool) (hb : s.data.toList.all isDig = b) :
    Calls Tryd.prog 60 #[.string s] w fun e w' => e = .returned (.bool b) ∧ Below w.heap.size w w' := by
  subst hb
  exact PR.dec_plain.calls s _ w (plain_f s hs)

/-- []byte(s): a new row that reads as the string's bytes -/
theorem conv_bytes (w : World) (s : ByteArray) : ∃ (W : World) (cap : Nat),
    (convert 9 32 (.string s)).run Tryd.prog w = .ok (.slice (some ⟨w.heap.size, 0, none⟩) s.size cap) W ∧ s.size ≤ cap ∧ Below w.heap.size w W ∧ W.heap.size = w.heap.size + 1 ∧
    (∀ j, j < s.size → W.cell? ⟨w.heap.size, j, none⟩ = some (.int .u8 (s.data.toList.getD j 0).toNat)) ∧
    (∃ cs : Array Value, s.size ≤ cs.size ∧ W.heap[w.heap.size]? = some (.cells cs 5 (cs.size, cs.size + 1)) ∧ ∀ j, j < s.size → cs[j]? = some (.int .u8 (s.data.toList.getD j 0).toNat)) := by
  refine ⟨_, _, Lib.run_convert_string_bytes (P := Tryd.prog) w 9 32 5 s Tryd.underlying9 Tryd.underlying32 Tryd.underlying5, ?_, ?_, Lib.bytesWorld_size w _ s, fun j hj => Lib.bytesWorld_cell w _ s j hj, ?_⟩
  · exact grownCap_ge _ _ _ _
  · exact ⟨rfl, rfl, rfl, by rw [Lib.bytesWorld_size]; omega, fun k hk => Lib.bytesWorld_at_old w _ s k hk⟩
  · refine ⟨_, ?_, Lib.bytesWorld_at_new w _ s, ?_⟩
    · have : s.data.size = s.size := rfl
      simp [Lib.bytesCells]
    · intro j hj
      have hl : j < s.data.size := hj
      simp only [Lib.bytesCells, Array.getElem?_append, Array.size_map, if_pos hl, Array.getElem?_map, List.getD, Array.getElem?_toList]
      rw [Array.getElem?_eq_getElem hl]
      rfl

theorem dig_step (t : ByteArray) (k : Nat) (hk : k < t.size) (hd : t.data.toList.all isDig = true) :
    ∃ x : Nat, x ≤ 9 ∧ (t.data[k]'hk).toNat = 48 + x ∧ t.data.toList.take (k + 1) = t.data.toList.take k ++ [t.data[k]'hk] ∧ valD (t.data.toList.take (k + 1)) = 10 * valD (t.data.toList.take k) + x := by
  have hl : k < t.data.toList.length := by rw [← Lib.size_eq]; exact hk
  have ht : t.data.toList.take (k + 1) = t.data.toList.take k ++ [t.data[k]'hk] := by
    rw [List.take_succ_eq_append_getElem hl]; simp
  have hm : isDig (t.data[k]'hk) = true := List.all_eq_true.1 hd _ (by simp)
  simp only [isDig, Bool.and_eq_true, decide_eq_true_eq] at hm
  refine ⟨(t.data[k]'hk).toNat - 48, by omega, by omega, ht, ?_⟩
  rw [ht, valD_snoc]

theorem valD_lt (t : ByteArray) (hd : t.data.toList.all isDig = true) (k : Nat) : k ≤ t.size → valD (t.data.toList.take k) < 10 ^ k := by
  induction k with
  | zero => intro _; simp [valD]
  | succ k ih =>
    intro hk
    obtain ⟨x, hx, _, _, hv⟩ := dig_step t k (by omega) hd
    have := ih (by omega)
    rw [hv, Nat.pow_succ]
    omega

theorem step_num (V x : Nat) (hV : V < 1000000000000000) (hx : x ≤ 9) : wrap64 (wrap64 (10 * (V : Int)) + (((48 + x : Nat) : Int) - 48) % 256) = ((10 * V + x : Nat) : Int) := by
  unfold wrap64
  omega
theorem valD_1000 (t : ByteArray) (hd : t.data.toList.all isDig = true) (h3 : t.size ≤ 3) (k : Nat) (hk : k ≤ t.size) : valD (t.data.toList.take k) < 1000 := by
  have h1 := valD_lt t hd k hk
  have h2 : 10 ^ k ≤ 10 ^ 3 := Nat.pow_le_pow_right (by omega) (by omega)
  exact Nat.lt_of_lt_of_le h1 h2

theorem ret2 {a b : Int} {c d : Bool} (h : a = b) (k : c = d) : Ending.returned (.tuple #[.int .i64 a, .bool c]) = .returned (.tuple #[.int .i64 b, .bool d]) := by rw [h, k]

def powL (l : List UInt8) : Int × Bool :=
  if (sgnL l).2 = [] ∨ 3 < (sgnL l).2.length ∨ (sgnL l).2.all isDig = false then (0, false)
  else (if (sgnL l).1 then -(valD (sgnL l).2 : Int) else valD (sgnL l).2, true)

def PQ (r : Int × Bool) (w : World) (e : Ending) (w' : World) : Prop := e = .returned (.tuple #[.int .i64 r.1, .bool r.2]) ∧ Below w.heap.size w w'

set_option maxHeartbeats 1000000 in
set_option maxRecDepth 100000 in
theorem power_bad (s t : ByteArray) (m : Bool) (w : World) (ht : (⟨(sgnL s.data.toList).2.toArray⟩ : ByteArray) = t) (hm : (sgnL s.data.toList).1 = m) (hts : t.size ≤ 140737488351232)
    (h : t.toList = [] ∨ (¬ t.toList = [] ∧ 3 < t.size) ∨ (¬ t.toList = [] ∧ t.size ≤ 3 ∧ t.data.toList.all isDig = false)) :
    Calls Tryd.prog 41 #[.string s] w (PQ (0, false) w) := by
  have HS := Lib.hid (signed_any s w)
  have HT := Lib.hid (And.intro ht hm)
  clear ht hm
  rcases h with h | ⟨h0, h⟩ | ⟨h0, h3, h⟩
  · have hb : (t.toList == []) = true := by simpa using h
    clear h
    go_enter Tryd.func41, Tryd.ntmps41
    go_wp2_with fail
    refine HS.out.mono ?_
    rintro e w1 ⟨rfl, hb1⟩
    rw [HT.out.1, HT.out.2]
    go_wp2_with fail
    go_ret2
    exact ⟨rfl, hb1⟩
  · have hb : (t.toList == []) = false := by simpa using h0
    have hd : decide ((3 : Int) < (t.size : Int)) = true := by simp; omega
    have hd' : decide (3 < t.size) = true := by simp; omega
    clear h h0
    go_enter Tryd.func41, Tryd.ntmps41
    go_wp2_with fail
    refine HS.out.mono ?_
    rintro e w1 ⟨rfl, hb1⟩
    rw [HT.out.1, HT.out.2]
    go_wp2_with fail
    go_ret2
    exact ⟨rfl, hb1⟩
  · have hb : (t.toList == []) = false := by simpa using h0
    have hd : decide ((3 : Int) < (t.size : Int)) = false := by simp; omega
    have hd' : decide (3 < t.size) = false := by simp; omega
    have HP := Lib.hid h
    clear h h0
    go_enter Tryd.func41, Tryd.ntmps41
    go_wp2_with fail
    refine HS.out.mono ?_
    rintro e w1 ⟨rfl, hb1⟩
    rw [HT.out.1, HT.out.2]
    go_wp2_with fail
    refine (plain_any t w1 hts false HP.out).mono ?_
    rintro e w2 ⟨rfl, hb2⟩
    go_wp2_with fail
    go_ret2
    exact ⟨rfl, hb1.trans (hb2.mono hb1.size)⟩

set_option maxHeartbeats 1000000 in
set_option maxRecDepth 100000 in
theorem power_good (s t : ByteArray) (m : Bool) (w : World) (ht : (⟨(sgnL s.data.toList).2.toArray⟩ : ByteArray) = t) (hm : (sgnL s.data.toList).1 = m) (h0 : ¬ t.toList = []) (h3 : t.size ≤ 3) (h : t.data.toList.all isDig = true)
    (z : Int) (hz : z = if m then -(valD t.data.toList : Int) else valD t.data.toList) : Calls Tryd.prog 41 #[.string s] w (PQ (z, true) w) := by
  have HZ := Lib.hid hz
  clear hz
  have HS := Lib.hid (signed_any s w)
  have HT := Lib.hid (And.intro ht hm)
  clear ht hm
  have hb : (t.toList == []) = false := by simpa using h0
  have hd : decide ((3 : Int) < (t.size : Int)) = false := by simp; omega
  have hd' : decide (3 < t.size) = false := by simp; omega
  have HP := Lib.hid h
  clear h h0
  go_enter Tryd.func41, Tryd.ntmps41
  go_wp2_with fail
  refine HS.out.mono ?_
  rintro e w1 ⟨rfl, hb1⟩
  rw [HT.out.1, HT.out.2]
  go_wp2_with fail
  refine (plain_any t w1 (by omega) true HP.out).mono ?_
  rintro e w2 ⟨rfl, hb2⟩
  have HB := Lib.hid (hb1.trans (hb2.mono hb1.size))
  obtain ⟨W, cap, hcv, hcap, hbW, hsz, hcell, _⟩ := conv_bytes w2 t
  have HC := Lib.hid (And.intro hcell hbW)
  clear hcell hbW hsz hb1 hb2 HS
  go_wp2_with fail
  clear hcv
  go_loop [5, 28] (fun n i => ∃ k : Nat, k ≤ t.size ∧ i = .int .i64 k ∧ n = .int .i64 (valD (t.data.toList.take k))) (fun _ i => t.size - (intOf i).toNat)
  case atStart => exact ⟨0, Nat.zero_le _, rfl, rfl⟩
  case round =>
    obtain ⟨k, hk, rfl, rfl⟩ := hrel
    by_cases hlt : k < t.size
    · have hc := HC.out.1 k hlt
      obtain ⟨x, hx, hxe, htk, hv⟩ := dig_step t k hlt HP.out
      have hb2 := valD_1000 t HP.out h3 k (by omega)
      have HV := Lib.hid (And.intro hxe (And.intro hv hb2))
      clear hxe hv htk hb2
      go_wp2_with fail
      go_round
      case rel =>
        obtain ⟨hxe, hv, hb2⟩ := HV.out
        refine ⟨k + 1, by omega, by go_num, ?_⟩
        rw [hxe, hv, step_num _ x (by omega) hx]
      case measure => simp [intOf]; omega
    · obtain rfl : k = t.size := by omega
      have hb2 := valD_1000 t HP.out h3 t.size (Nat.le_refl _)
      have hall : t.data.toList.take t.size = t.data.toList := List.take_of_length_le (by rw [← Lib.size_eq]; exact Nat.le_refl _)
      rw [hall] at hb2 ⊢
      clear hall
      go_wp2_with fail
      all_goals
        go_ret2
        refine ⟨ret2 ?_ rfl, HB.out.trans (HC.out.2.mono HB.out.size)⟩
        rw [HZ.out]
        simp [*]

theorem sgnL_len (l : List UInt8) : (sgnL l).2.length ≤ l.length := by
  cases l with
  | nil => simp [sgnL]
  | cons b l => simp only [sgnL]; split <;> (try split) <;> simp

theorem powL_cases (l : List UInt8) : ((sgnL l).2 = [] ∨ (¬ (sgnL l).2 = [] ∧ 3 < (sgnL l).2.length) ∨ (¬ (sgnL l).2 = [] ∧ (sgnL l).2.length ≤ 3 ∧ (sgnL l).2.all isDig = false)) ∧ powL l = (0, false) ∨
    (¬ (sgnL l).2 = [] ∧ (sgnL l).2.length ≤ 3 ∧ (sgnL l).2.all isDig = true) ∧ powL l = (if (sgnL l).1 then -(valD (sgnL l).2 : Int) else valD (sgnL l).2, true) := by
  unfold powL
  by_cases h0 : (sgnL l).2 = []
  · exact .inl ⟨.inl h0, by rw [if_pos (.inl h0)]⟩
  · by_cases h1 : 3 < (sgnL l).2.length
    · exact .inl ⟨.inr (.inl ⟨h0, h1⟩), by rw [if_pos (.inr (.inl h1))]⟩
    · cases h2 : (sgnL l).2.all isDig
      · exact .inl ⟨.inr (.inr ⟨h0, by omega, rfl⟩), by rw [if_pos (.inr (.inr rfl))]⟩
      · exact .inr ⟨⟨h0, by omega, rfl⟩, by rw [if_neg (by rintro (h | h | h); exact h0 h; exact h1 h; cases h)]⟩

theorem dec_power.calls0 (s : ByteArray) (w : World) (hs : s.size ≤ 140737488351232) : Calls Tryd.prog 41 #[.string s] w (PQ (powL s.data.toList) w) := by
  have hl := sgnL_len s.data.toList
  rw [← Lib.size_eq] at hl
  have hsz : (⟨(sgnL s.data.toList).2.toArray⟩ : ByteArray).size = (sgnL s.data.toList).2.length := by simp [ByteArray.size]
  have htl : (⟨(sgnL s.data.toList).2.toArray⟩ : ByteArray).toList = (sgnL s.data.toList).2 := by rw [Lib.toList_data]
  rcases powL_cases s.data.toList with ⟨h, hr⟩ | ⟨⟨h0, h1, h2⟩, hr⟩
  · rw [hr]
    exact power_bad s _ _ w rfl rfl (by omega) (by rw [htl, hsz]; exact h)
  · rw [hr]
    exact power_good s _ _ w rfl rfl (by rw [htl]; exact h0) (by omega) h2 _ rfl

end Go.Proofs.YtiocgpfnbmlfaaaDoor
