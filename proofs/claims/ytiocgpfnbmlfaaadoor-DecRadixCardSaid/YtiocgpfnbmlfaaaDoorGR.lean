/- dec.digit and dec.radix. -/
import Derived.Test.YtiocgpfnbmlfaaaDoorGW
import Derived.RowKit3
namespace Go.Proofs.YtiocgpfnbmlfaaaDoor
open Go Go.RowKit Go.Proofs.YtiocgpfnbmlfaaaDoorW.PrintWords

def digV (c : Nat) : Nat := if 48 ≤ c ∧ c ≤ 57 then c - 48 else if 97 ≤ c ∧ c ≤ 122 then c - 97 + 10 else if 65 ≤ c ∧ c ≤ 90 then c - 65 + 10 else 99

theorem digit_fin : ∀ c : Fin 256, PR.dec_digit.f 5 (c.val : Int) = some (digV c.val : Int) := by decide +kernel
theorem digit_any (c : UInt8) (w : World) : Calls Tryd.prog 65 #[.int .u8 c.toNat] w fun e w' => e = .returned (.int .i64 (digV c.toNat : Nat)) ∧ Below w.heap.size w w' := by
  refine (PR.dec_digit.calls 5 _ _ w (digit_fin ⟨c.toNat, c.toNat_lt⟩)).mono ?_
  rintro e w' ⟨rfl, hd⟩
  exact ⟨rfl, by first | exact hd.below | exact hd⟩

theorem cut_any (s : ByteArray) (c : UInt8) (w : World) (hs : s.size ≤ 140737488351232) (a b : ByteArray) (f : Bool) (h : cut1 c s.data.toList = (a.data.toList, b.data.toList, f)) :
    Calls Tryd.prog 59 #[.string s, .string ⟨#[c]⟩] w fun e w' => e = .returned (.tuple #[.string a, .string b, .bool f]) ∧ Below w.heap.size w w' := by
  refine strings_Cut.calls s ⟨#[c]⟩ a b f w ?_
  unfold strings_Cut.f
  rw [if_pos ⟨rfl, hs⟩]
  have : (⟨#[c]⟩ : ByteArray).get! 0 = c := rfl
  rw [this, h]

/-- what radix answers: kind, number, is it one, error -/
def RQ (k n : Int) (ok : Bool) (er : Int) (w : World) (e : Ending) (w' : World) : Prop :=
  e = .returned (.tuple #[.agg #[.int .i64 k, .int .i64 n, .string ⟨#[]⟩], .bool ok, .int .i64 er]) ∧ Below w.heap.size w w'

/-- the result's own block -/
def TokBlk (b : Nat) (w : World) : Prop := w.heap[b]? = some (.cells #[.int .i64 0, .int .i64 0, .string ⟨#[]⟩] 27 (0, 0))
theorem TokBlk.below {b B : Nat} {w w' : World} (h : TokBlk b w) (hb : Below B w w') (hB : b < B) : TokBlk b w' := (hb.block b hB).trans h
theorem TokBlk.lt {b : Nat} {w : World} (h : TokBlk b w) : b < w.heap.size := by
  rcases Nat.lt_or_ge b w.heap.size with h' | h'
  · exact h'
  · simp [TokBlk, Array.getElem?_eq_none h'] at h
theorem TokBlk.facts {b : Nat} {w : World} (h : TokBlk b w) : (w.cell? ⟨b, 0, none⟩ = some (.int .i64 0) ∧ w.cell? ⟨b, 1, none⟩ = some (.int .i64 0) ∧ w.cell? ⟨b, 2, none⟩ = some (.string ⟨#[]⟩)) ∧
    (w.frozen? ⟨b, 0, none⟩ = false ∧ w.frozen? ⟨b, 1, none⟩ = false ∧ w.frozen? ⟨b, 2, none⟩ = false) := by
  refine ⟨⟨?_, ?_, ?_⟩, Lib.frozen_of_heap h 0, Lib.frozen_of_heap h 1, Lib.frozen_of_heap h 2⟩ <;> (rw [Lib.cell_of_heap h]; rfl)
theorem TokBlk.new (w : World) : TokBlk w.heap.size (w.alloc (.cells #[.int .i64 0, .int .i64 0, .string ⟨#[]⟩] 27)) := heap_alloc_new w _

set_option maxHeartbeats 1000000 in
set_option maxRecDepth 100000 in
theorem radix_nocut (s a b : ByteArray) (w : World) (hs : s.size ≤ 140737488351232) (h : cut1 35 s.data.toList = (a.data.toList, b.data.toList, false)) :
    Calls Tryd.prog 38 #[.string s] w (RQ 0 0 false 0 w) := by
  have HC := Lib.hid (fun w => cut_any s 35 w hs a b false h)
  have HT := Lib.hid (TokBlk.new w)
  clear h
  go_enter Tryd.func38, Tryd.ntmps38
  go_wp2_with fail
  refine (HC.out _).mono ?_
  rintro e w1 ⟨rfl, hb1⟩
  have hT1 := HT.out.below hb1 (by simp)
  have hlt := hT1.lt
  obtain ⟨⟨c0, c1, c2⟩, f0, f1, f2⟩ := hT1.facts
  have HB := Lib.hid hb1
  clear hb1 hT1
  go_wp2_with fail
  refine bodyPost_ret (v := .tuple #[.agg #[.int .i64 0, .int .i64 0, .string ⟨#[]⟩], .bool false, .int .i64 0]) (by simp [results, Tryd.results38, go_sem, c0, c1, c2]) rfl ⟨rfl, ?_⟩
  exact (((((Below.refl _ _).alloc (Nat.le_refl _) _).trans (HB.out.mono (by simp))).setCell (Nat.le_refl _) _).setCell (Nat.le_refl _) _).setCell (Nat.le_refl _) _


theorem below_alloc0 {w w1 : World} {o : Obj} (h : Below (w.alloc o).heap.size (w.alloc o) w1) : Below w.heap.size w w1 :=
  ((Below.refl _ _).alloc (Nat.le_refl _) _).trans (h.mono (by simp))

set_option maxHeartbeats 1000000 in
set_option maxRecDepth 100000 in
theorem radix_head (s a b : ByteArray) (w : World) (hs : s.size ≤ 140737488351232) (h : cut1 35 s.data.toList = (a.data.toList, b.data.toList, true))
    (hh : (a.toList == []) = true ∨ (a.toList == []) = false ∧ decide (2 < a.size) = true ∧ decide ((2 : Int) < (a.size : Int)) = true) :
    Calls Tryd.prog 38 #[.string s] w (RQ 0 0 false 0 w) := by
  have HC := Lib.hid (fun w => cut_any s 35 w hs a b true h)
  have HT := Lib.hid (TokBlk.new w)
  clear h
  rcases hh with hh | ⟨hh, h2, h2'⟩
  all_goals
    go_enter Tryd.func38, Tryd.ntmps38
    go_wp2_with fail
    refine (HC.out _).mono ?_
    rintro e w1 ⟨rfl, hb1⟩
    have hT1 := HT.out.below hb1 (by simp)
    have hlt := hT1.lt
    obtain ⟨⟨c0, c1, c2⟩, f0, f1, f2⟩ := hT1.facts
    have HB := Lib.hid (below_alloc0 hb1)
    clear hb1 hT1
    go_wp2_with fail
    refine bodyPost_ret (v := .tuple #[.agg #[.int .i64 0, .int .i64 0, .string ⟨#[]⟩], .bool false, .int .i64 0]) (by simp [results, Tryd.results38, go_sem, c0, c1, c2]) rfl ⟨rfl, ?_⟩
    exact ((HB.out.setCell (Nat.le_refl _) _).setCell (Nat.le_refl _) _).setCell (Nat.le_refl _) _

set_option maxHeartbeats 1000000 in
set_option maxRecDepth 100000 in
theorem radix_plain (s a b : ByteArray) (w : World) (hs : s.size ≤ 140737488351232) (h : cut1 35 s.data.toList = (a.data.toList, b.data.toList, true))
    (h0 : (a.toList == []) = false) (h2 : decide (2 < a.size) = false) (pl : Bool) (hp : a.data.toList.all isDig = pl) (hpb : pl = false ∨ pl = true ∧ (b.toList == []) = true) :
    Calls Tryd.prog 38 #[.string s] w (RQ 0 0 false 0 w) := by
  have HC := Lib.hid (fun w => cut_any s 35 w hs a b true h)
  have HT := Lib.hid (TokBlk.new w)
  have ha : a.size ≤ 2 := by simpa using h2
  have h2' : decide ((2 : Int) < (a.size : Int)) = false := by simp; omega
  have HP := Lib.hid hp
  clear h hp
  rcases hpb with rfl | ⟨rfl, hb⟩
  all_goals
    go_enter Tryd.func38, Tryd.ntmps38
    go_wp2_with fail
    refine (HC.out _).mono ?_
    rintro e w1 ⟨rfl, hb1⟩
    have HT1 := Lib.hid (HT.out.below hb1 (by simp))
    have HB1 := Lib.hid (below_alloc0 hb1)
    clear hb1
    go_wp2_with fail
    refine (plain_any a w1 (by omega) _ HP.out).mono ?_
    rintro e w2 ⟨rfl, hb2⟩
    have hT2 := HT1.out.below hb2 HT1.out.lt
    have hlt := hT2.lt
    obtain ⟨⟨c0, c1, c2⟩, f0, f1, f2⟩ := hT2.facts
    have HB := Lib.hid (HB1.out.trans (hb2.mono HB1.out.size))
    clear hb2 hT2
    go_wp2_with fail
    refine bodyPost_ret (v := .tuple #[.agg #[.int .i64 0, .int .i64 0, .string ⟨#[]⟩], .bool false, .int .i64 0]) (by simp [results, Tryd.results38, go_sem, c0, c1, c2]) rfl ⟨rfl, ?_⟩
    exact ((HB.out.setCell (Nat.le_refl _) _).setCell (Nat.le_refl _) _).setCell (Nat.le_refl _) _

/-- the digits, one by one: the number, is it too great -/
def radStep (base : Nat) (st : Nat × Bool) (c : UInt8) : Nat × Bool := if 4294967296 ≤ st.1 * base + digV c.toNat then (0, true) else (st.1 * base + digV c.toNat, st.2)
def radFold (base : Nat) (l : List UInt8) : Nat × Bool := l.foldl (radStep base) (0, false)
theorem radFold_snoc (base : Nat) (l : List UInt8) (c : UInt8) : radFold base (l ++ [c]) = radStep base (radFold base l) c := by simp [radFold]
theorem radFold_lt (base : Nat) (l : List UInt8) : (radFold base l).1 < 4294967296 := by
  rcases List.eq_nil_or_concat l with rfl | ⟨t, c, rfl⟩
  · simp [radFold]
  · rw [List.concat_eq_append, radFold_snoc]; unfold radStep; split
    · simp
    · simp; omega

/-- the second loop's head -/
def RadInv (w : World) (g base : Nat) (b : ByteArray) (k nk : Nat) (ov : Bool) (wr : World) : Prop :=
  (nk, ov) = radFold base (b.data.toList.take k) ∧ (∀ j, j < k → digV (b.data.toList.getD j 0).toNat < base) ∧ (∀ j, j < b.size → wr.cell? ⟨g, j, none⟩ = some (.int .u8 (b.data.toList.getD j 0).toNat)) ∧ g < wr.heap.size ∧ TokBlk w.heap.size wr ∧ Below w.heap.size w wr

theorem RadInv.below {w : World} {g base : Nat} {b : ByteArray} {k nk : Nat} {ov : Bool} {wr wx : World} (h : RadInv w g base b k nk ov wr) (hb : Below wr.heap.size wr wx) : RadInv w g base b k nk ov wx := by
  obtain ⟨h1, h2, h3, h4, h5, h6⟩ := h
  exact ⟨h1, h2, fun j hj => (hb.cell (p := ⟨g, j, none⟩) h4).trans (h3 j hj), Nat.lt_of_lt_of_le h4 hb.size, h5.below hb h5.lt, h6.trans (hb.mono h6.size)⟩
theorem take_getD (b : ByteArray) (k : Nat) (hk : k < b.size) : b.data.toList.take (k + 1) = b.data.toList.take k ++ [b.data.toList.getD k 0] := by
  have hl : k < b.data.toList.length := by rw [← Lib.size_eq]; exact hk
  rw [List.take_succ_eq_append_getElem hl, List.getD, List.getElem?_eq_getElem hl]
  rfl
theorem RadInv.next {w : World} {g base : Nat} {b : ByteArray} {k nk : Nat} {ov : Bool} {wr : World} (h : RadInv w g base b k nk ov wr) (hk : k < b.size) (hd : digV (b.data.toList.getD k 0).toNat < base)
    {st : Nat × Bool} (hs : radStep base (nk, ov) (b.data.toList.getD k 0) = st) : RadInv w g base b (k + 1) st.1 st.2 wr := by
  obtain ⟨h1, h2, h3⟩ := h
  refine ⟨?_, ?_, h3⟩
  · rw [take_getD b k hk, radFold_snoc, ← h1, hs]
  · intro j hj
    by_cases e : j = k
    · subst e; exact hd
    · exact h2 j (by omega)
theorem digV_le (c : Nat) : digV c ≤ 99 := by unfold digV; split <;> (try split) <;> (try split) <;> omega
theorem prod_le (n base : Nat) (hn : n < 4294967296) (hb : base ≤ 36) : (n : Int) * (base : Int) ≤ 154618822656 := by
  have : n * base ≤ 4294967296 * 36 := Nat.mul_le_mul (by omega) hb
  have h2 : ((n * base : Nat) : Int) = (n : Int) * (base : Int) := by push_cast; rfl
  omega
theorem prod_ge (n base : Nat) : 0 ≤ (n : Int) * (base : Int) := by
  have h2 : ((n * base : Nat) : Int) = (n : Int) * (base : Int) := by push_cast; rfl
  omega
theorem prod_dec_true {n base d : Nat} (h : 4294967296 ≤ n * base + d) : decide ((4294967296 : Int) ≤ (n : Int) * (base : Int) + (d : Int)) = true := by
  have h2 : ((n * base : Nat) : Int) = (n : Int) * (base : Int) := by push_cast; rfl
  simp; omega
theorem prod_dec_false {n base d : Nat} (h : ¬ 4294967296 ≤ n * base + d) : decide ((4294967296 : Int) ≤ (n : Int) * (base : Int) + (d : Int)) = false := by
  have h2 : ((n * base : Nat) : Int) = (n : Int) * (base : Int) := by push_cast; rfl
  simp; omega

def radEnd (st : Nat × Bool) : Int × Int × Bool × Int := if st.2 then (0, 0, true, 9) else (1, if 2147483648 ≤ st.1 then (st.1 : Int) - 4294967296 else st.1, true, 0)
def radTail (base : Nat) (r : List UInt8) : Int × Int × Bool × Int :=
  if base < 2 ∨ 36 < base ∨ r.any (fun c => decide (base ≤ digV c.toNat)) = true then (0, 0, false, 0) else radEnd (radFold base r)

theorem radTail_bad (base : Nat) (b : ByteArray) (j : Nat) (hj : j < b.size) (h : base ≤ digV (b.data.toList.getD j 0).toNat) : radTail base b.data.toList = (0, 0, false, 0) := by
  unfold radTail
  rw [if_pos]
  refine .inr (.inr ?_)
  rw [List.any_eq_true]
  have hl : j < b.data.toList.length := by rw [← Lib.size_eq]; exact hj
  refine ⟨b.data.toList.getD j 0, ?_, by simpa using h⟩
  rw [List.getD, List.getElem?_eq_getElem hl]
  exact List.getElem_mem hl

theorem radTail_ok {base : Nat} {b : ByteArray} {w : World} {g nj : Nat} {oj : Bool} {wr : World} (h : ¬ base < 2 ∧ ¬ 36 < base) (hI : RadInv w g base b b.size nj oj wr) : radTail base b.data.toList = radEnd (nj, oj) := by
  obtain ⟨h1, h2, _⟩ := hI
  have hall : b.data.toList.take b.size = b.data.toList := List.take_of_length_le (by rw [← Lib.size_eq]; exact Nat.le_refl _)
  rw [hall] at h1
  unfold radTail
  rw [if_neg, h1]
  rintro (hh | hh | hh)
  · exact h.1 hh
  · exact h.2 hh
  · rw [List.any_eq_true] at hh
    obtain ⟨c, hc, hcb⟩ := hh
    obtain ⟨j, hj, rfl⟩ := List.mem_iff_getElem.1 hc
    have := h2 j (by rw [Lib.size_eq]; exact hj)
    rw [List.getD, List.getElem?_eq_getElem hj] at this
    simp only [Option.getD_some, decide_eq_true_eq] at this hcb
    omega

set_option maxHeartbeats 2000000 in
set_option maxRecDepth 100000 in
theorem radix_loops (s a b : ByteArray) (w : World) (hs : s.size ≤ 140737488351232) (h : cut1 35 s.data.toList = (a.data.toList, b.data.toList, true)) (hbs : b.size ≤ 140737488351232)
    (h0 : (a.toList == []) = false) (h2 : decide (2 < a.size) = false) (hp : a.data.toList.all isDig = true) (hpb : (b.toList == []) = false)
    (k n er : Int) (ok : Bool) (hr : radTail (valD a.data.toList) b.data.toList = (k, n, ok, er)) :
    Calls Tryd.prog 38 #[.string s] w (RQ k n ok er w) := by
  have HR := Lib.hid hr
  have HC := Lib.hid (fun w => cut_any s 35 w hs a b true h)
  have HT := Lib.hid (TokBlk.new w)
  have ha : a.size ≤ 2 := by simpa using h2
  have h2' : decide ((2 : Int) < (a.size : Int)) = false := by simp; omega
  have HP := Lib.hid hp
  clear h hp hr
  go_enter Tryd.func38, Tryd.ntmps38
  go_wp2_with fail
  refine (HC.out _).mono ?_
  rintro e w1 ⟨rfl, hb1⟩
  have HT1 := Lib.hid (HT.out.below hb1 (by simp))
  have HB1 := Lib.hid (below_alloc0 hb1)
  clear hb1
  go_wp2_with fail
  refine (plain_any a w1 (by omega) _ HP.out).mono ?_
  rintro e w2 ⟨rfl, hb2⟩
  obtain ⟨W, cap, hcv, hcap, hbW, hsz, hcell, -⟩ := conv_bytes w2 a
  have HT2 := Lib.hid ((HT1.out.below hb2 HT1.out.lt).below hbW (HT1.out.below hb2 HT1.out.lt).lt)
  have HB2 := Lib.hid ((HB1.out.trans (hb2.mono HB1.out.size)).trans (hbW.mono (HB1.out.trans (hb2.mono HB1.out.size)).size))
  have HCE := Lib.hid hcell
  clear hb2 hbW hsz hcell HT1 HB1 HT HC
  go_wp2_with fail
  clear hcv
  go_loop [8, 46] (fun n i => ∃ k : Nat, k ≤ a.size ∧ i = .int .i64 k ∧ n = .int .i64 (valD (a.data.toList.take k))) (fun _ i => a.size - (intOf i).toNat)
  case atStart => exact ⟨0, Nat.zero_le _, rfl, rfl⟩
  case round =>
    obtain ⟨k, hk, rfl, rfl⟩ := hrel
    by_cases hlt : k < a.size
    · have hc := HCE.out k hlt
      obtain ⟨x, hx, hxe, -, hv⟩ := dig_step a k hlt HP.out
      have hb2 := valD_1000 a HP.out (by omega) k (by omega)
      have HV := Lib.hid (And.intro hxe (And.intro hv hb2))
      clear hxe hv hb2
      go_wp2_with fail
      go_round
      case rel =>
        obtain ⟨hxe, hv, hb2⟩ := HV.out
        refine ⟨k + 1, by omega, by go_num, ?_⟩
        rw [hxe, hv, step_num _ x (by omega) hx]
      case measure => simp [intOf]; omega
    · obtain rfl : k = a.size := by omega
      have hall : a.data.toList.take a.size = a.data.toList := List.take_of_length_le (by rw [← Lib.size_eq]; exact Nat.le_refl _)
      have hb2 := valD_1000 a HP.out (by omega) a.size (Nat.le_refl _)
      rw [hall] at hb2 ⊢
      clear hall hlt hk HCE
      generalize valD a.data.toList = base at *
      have hlt := HT2.out.lt
      obtain ⟨⟨c0, c1, c2⟩, f0, f1, f2⟩ := HT2.out.facts
      by_cases h1 : base < 2
      · have hd1 : decide ((base : Int) < 2) = true := by simp; omega
        have hrr : (k, n, ok, er) = ((0 : Int), (0 : Int), false, (0 : Int)) := by rw [← HR.out]; unfold radTail; rw [if_pos (.inl h1)]
        cases hrr
        have H1 := Lib.hid h1
        clear h1
        go_wp2_with fail
        refine bodyPost_ret (v := .tuple #[.agg #[.int .i64 0, .int .i64 0, .string ⟨#[]⟩], .bool false, .int .i64 0]) (by simp [results, Tryd.results38, go_sem, c0, c1, c2]) rfl ⟨rfl, ?_⟩
        exact ((HB2.out.setCell (Nat.le_refl _) _).setCell (Nat.le_refl _) _).setCell (Nat.le_refl _) _
      · have hd1 : decide ((base : Int) < 2) = false := by simp; omega
        by_cases h3 : 36 < base
        · have hd3 : decide ((36 : Int) < (base : Int)) = true := by simp; omega
          have hrr : (k, n, ok, er) = ((0 : Int), (0 : Int), false, (0 : Int)) := by rw [← HR.out]; unfold radTail; rw [if_pos (.inr (.inl h3))]
          cases hrr
          have H1 := Lib.hid (And.intro h1 h3)
          clear h1 h3
          go_wp2_with fail
          refine bodyPost_ret (v := .tuple #[.agg #[.int .i64 0, .int .i64 0, .string ⟨#[]⟩], .bool false, .int .i64 0]) (by simp [results, Tryd.results38, go_sem, c0, c1, c2]) rfl ⟨rfl, ?_⟩
          exact ((HB2.out.setCell (Nat.le_refl _) _).setCell (Nat.le_refl _) _).setCell (Nat.le_refl _) _
        · have hd3 : decide ((36 : Int) < (base : Int)) = false := by simp; omega
          have H1 := Lib.hid (And.intro h1 h3)
          clear h1 h3
          obtain ⟨W2, cap2, hcv2, hcap2, hbW2, hsz2, hcell2, -⟩ := conv_bytes W b
          have HI0 := Lib.hid (show RadInv w W.heap.size base b 0 0 false W2 from ⟨rfl, fun _ h => absurd h (Nat.not_lt_zero _), hcell2, by omega, HT2.out.below hbW2 hlt, HB2.out.trans (hbW2.mono HB2.out.size)⟩)
          clear hbW2 hsz2 hcell2 c0 c1 c2 f0 f1 f2
          go_wp2_with fail
          clear hcv2 hlt
          go_loopw [11, 12, 67] (fun n o i wr => ∃ (j nj : Nat) (oj : Bool), j ≤ b.size ∧ nj < 4294967296 ∧ i = .int .i64 j ∧ n = .int .i64 nj ∧ o = .bool oj ∧ Hid (RadInv w W.heap.size base b j nj oj wr)) (fun _ _ i _ => b.size - (intOf i).toNat)
          case atStart => exact ⟨0, 0, false, Nat.zero_le _, by omega, rfl, rfl, rfl, HI0.out⟩
          case round =>
            clear HI0
            obtain ⟨j, nj, oj, hj, hnj, rfl, rfl, rfl, HI⟩ := hrel
            have hlt := HI.out.2.2.2.2.1.lt
            obtain ⟨⟨c0, c1, c2⟩, f0, f1, f2⟩ := HI.out.2.2.2.2.1.facts
            by_cases hjlt : j < b.size
            · have hc := HI.out.2.2.1 j hjlt
              generalize hcc : b.data.toList.getD j 0 = c at *
              have HCC := Lib.hid hcc
              clear hcc c0 c1 c2 f0 f1 f2
              go_wp2_with fail
              refine (digit_any c wr).mono ?_
              rintro e wx ⟨rfl, hbx⟩
              have HIX := Lib.hid (HI.out.below hbx)
              clear hbx hlt
              have hlt := HIX.out.2.2.2.2.1.lt
              obtain ⟨⟨c0, c1, c2⟩, f0, f1, f2⟩ := HIX.out.2.2.2.2.1.facts
              have hd99 := digV_le c.toNat
              have HD := Lib.hid (show digV c.toNat = digV (b.data.toList.getD j 0).toNat by rw [HCC.out])
              generalize digV c.toNat = d at *
              by_cases hge : base ≤ d
              · have hdd : decide ((base : Int) ≤ (d : Int)) = true := by simp; omega
                have hrr : (k, n, ok, er) = ((0 : Int), (0 : Int), false, (0 : Int)) := by rw [← HR.out]; exact radTail_bad base b j hjlt (by rw [← HD.out]; exact hge)
                cases hrr
                go_wp2_with fail
                refine bodyPost_ret (v := .tuple #[.agg #[.int .i64 0, .int .i64 0, .string ⟨#[]⟩], .bool false, .int .i64 0]) (by simp [results, Tryd.results38, go_sem, c0, c1, c2]) rfl ⟨rfl, ?_⟩
                exact ((HIX.out.2.2.2.2.2.setCell (Nat.le_refl _) _).setCell (Nat.le_refl _) _).setCell (Nat.le_refl _) _
              · have hdd : decide ((base : Int) ≤ (d : Int)) = false := by simp; omega
                have hdn : decide (base ≤ d) = false := by simp; omega
                have hpr := prod_le nj base hnj (by have := H1.out; omega)
                have hp0 := prod_ge nj base
                by_cases hbig : 4294967296 ≤ nj * base + d
                · have hbb : decide ((4294967296 : Int) ≤ (nj : Int) * (base : Int) + (d : Int)) = true := prod_dec_true hbig
                  have HN := Lib.hid (HIX.out.next hjlt (by rw [← HD.out]; omega) (st := (0, true)) (by unfold radStep; rw [← HD.out, if_pos hbig]))
                  have HG := Lib.hid (And.intro hbig hge)
                  clear hbig hge
                  go_wp2_with fail
                  go_roundw
                  case rel => exact ⟨j + 1, 0, true, by omega, by omega, by go_num, rfl, rfl, HN.out⟩
                  case measure => simp [intOf]; omega
                · have hbb : decide ((4294967296 : Int) ≤ (nj : Int) * (base : Int) + (d : Int)) = false := prod_dec_false hbig
                  have HN := Lib.hid (HIX.out.next hjlt (by rw [← HD.out]; omega) (st := (nj * base + d, oj)) (by unfold radStep; rw [← HD.out, if_neg hbig]))
                  have HG := Lib.hid (And.intro hbig hge)
                  clear hbig hge
                  go_wp2_with fail
                  go_roundw
                  case rel => exact ⟨j + 1, nj * base + d, oj, by omega, by have := HG.out.1; omega, by go_num, by push_cast; rfl, rfl, HN.out⟩
                  case measure => simp [intOf]; omega
            · obtain rfl : j = b.size := by omega
              have hrr : (k, n, ok, er) = radEnd (nj, oj) := by rw [← HR.out]; exact radTail_ok H1.out HI.out
              cases oj
              · by_cases hbig : 2147483648 ≤ nj
                · have hbb : decide ((2147483648 : Int) ≤ (nj : Int)) = true := by simp; omega
                  have hv : (k, n, ok, er) = ((1 : Int), (nj : Int) - 4294967296, true, (0 : Int)) := by rw [hrr]; simp [radEnd, hbig]
                  cases hv
                  have HG := Lib.hid hbig
                  clear hbig hrr
                  go_wp2_with fail
                  refine bodyPost_ret (v := .tuple #[.agg #[.int .i64 1, .int .i64 ((nj : Int) - 4294967296), .string ⟨#[]⟩], .bool true, .int .i64 0]) (by simp [results, Tryd.results38, go_sem, c0, c1, c2]) rfl ⟨rfl, ?_⟩
                  exact ((HI.out.2.2.2.2.2.setCell (Nat.le_refl _) _).setCell (Nat.le_refl _) _).setCell (Nat.le_refl _) _
                · have hbb : decide ((2147483648 : Int) ≤ (nj : Int)) = false := by simp; omega
                  have hv : (k, n, ok, er) = ((1 : Int), (nj : Int), true, (0 : Int)) := by rw [hrr]; simp [radEnd, hbig]
                  cases hv
                  have HG := Lib.hid hbig
                  clear hbig hrr
                  go_wp2_with fail
                  refine bodyPost_ret (v := .tuple #[.agg #[.int .i64 1, .int .i64 (nj : Int), .string ⟨#[]⟩], .bool true, .int .i64 0]) (by simp [results, Tryd.results38, go_sem, c0, c1, c2]) rfl ⟨rfl, ?_⟩
                  exact ((HI.out.2.2.2.2.2.setCell (Nat.le_refl _) _).setCell (Nat.le_refl _) _).setCell (Nat.le_refl _) _
              · have hv : (k, n, ok, er) = ((0 : Int), (0 : Int), true, (9 : Int)) := by rw [hrr]; rfl
                cases hv
                clear hrr
                go_wp2_with fail
                refine bodyPost_ret (v := .tuple #[.agg #[.int .i64 0, .int .i64 0, .string ⟨#[]⟩], .bool true, .int .i64 9]) (by simp [results, Tryd.results38, go_sem, c0, c1, c2]) rfl ⟨rfl, ?_⟩
                exact ((HI.out.2.2.2.2.2.setCell (Nat.le_refl _) _).setCell (Nat.le_refl _) _).setCell (Nat.le_refl _) _

end Go.Proofs.YtiocgpfnbmlfaaaDoor
