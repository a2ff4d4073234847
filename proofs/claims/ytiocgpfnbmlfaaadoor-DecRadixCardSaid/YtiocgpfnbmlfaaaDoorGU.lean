/- dec.double and dec.value. -/
import Derived.Test.YtiocgpfnbmlfaaaDoorGV
import Derived.Test.YtiocgpfnbmlfaaaDoorGD
namespace Go.Proofs.YtiocgpfnbmlfaaaDoor
open Go Go.RowKit Go.Proofs.YtiocgpfnbmlfaaaDoorW.PrintWords

/-- the cells of a converted row hold these digits -/
def RowIs (g : Nat) (ds : List Nat) (w : World) : Prop :=
  ∃ cs : Array Value, ds.length ≤ cs.size ∧ w.heap[g]? = some (.cells cs 5 (cs.size, cs.size + 1)) ∧ ∀ j, j < ds.length → cs[j]? = some (.int .u8 (ds.getD j 0 : Nat))

theorem RowIs.cell {g : Nat} {ds : List Nat} {w : World} (h : RowIs g ds w) (j : Nat) (hj : j < ds.length) : w.cell? ⟨g, j, none⟩ = some (.int .u8 (ds.getD j 0 : Nat)) := by
  obtain ⟨cs, _, hb, hc⟩ := h
  rw [Lib.cell_of_heap hb]; exact hc j hj
theorem RowIs.frozen {g : Nat} {ds : List Nat} {w : World} (h : RowIs g ds w) (j : Nat) (hj : j < ds.length) : w.frozen? ⟨g, j, none⟩ = false := by
  obtain ⟨cs, hl, hb, _⟩ := h
  simp [World.frozen?, hb]
  omega
theorem RowIs.lt {g : Nat} {ds : List Nat} {w : World} (h : RowIs g ds w) : g < w.heap.size := by
  obtain ⟨cs, _, hb, _⟩ := h
  rcases Nat.lt_or_ge g w.heap.size with h' | h'
  · exact h'
  · simp [Array.getElem?_eq_none h'] at hb
theorem heap_set (w : World) (g j : Nat) (cs : Array Value) (t : TypeId) (fr : Nat × Nat) (v : Value) (hg : w.heap[g]? = some (.cells cs t fr)) :
    (w.setCell ⟨g, j, none⟩ v).heap[g]? = some (.cells (cs.setIfInBounds j v) t fr) := by
  simp [World.setCell, Array.getElem?_modify, hg]
theorem RowIs.set {g : Nat} {ds : List Nat} {w : World} (h : RowIs g ds w) (j v : Nat) (hj : j < ds.length) : RowIs g (ds.set j v) (w.setCell ⟨g, j, none⟩ (.int .u8 v)) := by
  have hlt := h.lt
  obtain ⟨cs, hl, hb, hc⟩ := h
  refine ⟨cs.setIfInBounds j (.int .u8 v), by simpa using hl, ?_, ?_⟩
  · rw [heap_set w g j cs _ _ _ hb]
    simp
  · intro i hi
    have hi' : i < ds.length := by simpa using hi
    by_cases hij : j = i
    · subst hij
      have : j < cs.size := by omega
      simp [this, List.getD, hi']
    · rw [Array.getElem?_setIfInBounds, if_neg hij, hc i hi']
      simp [List.getD, hij]

/-- digits, doubled; what goes over -/
def dbl : List Nat → Nat × List Nat
  | [] => (0, [])
  | d :: ds => ((2 * d + (dbl ds).1) / 10, (2 * d + (dbl ds).1) % 10 :: (dbl ds).2)
theorem dbl_len : ∀ ds, (dbl ds).2.length = ds.length
  | [] => rfl
  | d :: ds => by simp [dbl, dbl_len ds]
theorem dbl_le : ∀ ds, (∀ d ∈ ds, d ≤ 9) → (dbl ds).1 ≤ 1 ∧ ∀ d ∈ (dbl ds).2, d ≤ 9
  | [], _ => by simp [dbl]
  | d :: ds, h => by
    have ih := dbl_le ds (fun x hx => h x (by simp [hx]))
    have hd := h d (by simp)
    refine ⟨by simp only [dbl]; omega, ?_⟩
    intro x hx
    simp only [dbl, List.mem_cons] at hx
    rcases hx with rfl | hx
    · omega
    · exact ih.2 x hx

/-- what the row holds when the digits from place k on are done -/
def mid (ds : List Nat) (k : Nat) : List Nat := ds.take k ++ (dbl (ds.drop k)).2
theorem mid_len (ds : List Nat) (k : Nat) (hk : k ≤ ds.length) : (mid ds k).length = ds.length := by simp [mid, dbl_len]; omega
theorem mid_all (ds : List Nat) : mid ds ds.length = ds := by simp [mid, dbl]
theorem mid_zero (ds : List Nat) : mid ds 0 = (dbl ds).2 := by simp [mid]
theorem mid_step (ds : List Nat) (m : Nat) (hm : m < ds.length) : (mid ds (m + 1)).getD m 0 = ds[m] ∧
    (dbl (ds.drop m)).1 = (2 * ds[m] + (dbl (ds.drop (m + 1))).1) / 10 ∧ (mid ds (m + 1)).set m ((2 * ds[m] + (dbl (ds.drop (m + 1))).1) % 10) = mid ds m := by
  have hd : ds.drop m = ds[m] :: ds.drop (m + 1) := List.drop_eq_getElem_cons hm
  have ht : ds.take (m + 1) = ds.take m ++ [ds[m]] := by rw [List.take_succ_eq_append_getElem hm]
  have hl : (ds.take m).length = m := by simp; omega
  refine ⟨?_, ?_, ?_⟩
  · unfold mid
    rw [ht, List.append_assoc, List.getD, List.getElem?_append_right (by omega), hl, Nat.sub_self]
    rfl
  · rw [hd]; rfl
  · unfold mid
    rw [ht, hd, List.append_assoc, List.set_append_right _ _ (by omega)]
    simp [hl, dbl]

def DblInv (w0 : World) (B g : Nat) (ds : List Nat) (k : Nat) (wr : World) : Prop := RowIs g (mid ds k) wr ∧ Below B w0 wr

def DQ (w0 : World) (B g : Nat) (r : Nat × List Nat) (e : Ending) (w' : World) : Prop := e = .returned (.int .i64 (r.1 : Nat)) ∧ RowIs g r.2 w' ∧ Below B w0 w'

set_option maxHeartbeats 1000000 in
set_option maxRecDepth 100000 in
theorem double_any (w0 w : World) (B g n cap : Nat) (ds : List Nat) (hn : ds.length = n) (hd : ∀ d ∈ ds, d ≤ 9) (hr : RowIs g ds w) (hB : B ≤ g) (hbel : Below B w0 w) (hnb : n ≤ 140737488351232) :
    Calls Tryd.prog 62 #[.slice (some ⟨g, 0, none⟩) n cap] w (DQ w0 B g (dbl ds)) := by
  have HH := Lib.hid (And.intro hn (And.intro hd (And.intro hr hbel)))
  clear hn hd hr hbel
  go_enter Tryd.func62, Tryd.ntmps62
  go_wp2_with fail
  go_loopw [3, 4] (fun c i wr => ∃ k : Nat, k ≤ n ∧ i = .int .i64 ((k : Int) - 1) ∧ c = .int .u8 ((dbl (ds.drop k)).1 : Nat) ∧ Hid (DblInv w0 B g ds k wr)) (fun _ i _ => (intOf i + 1).toNat)
  case atStart =>
    obtain ⟨hn, hd, hr, hbel⟩ := HH.out
    have hdn : ds.drop n = [] := List.drop_eq_nil_of_le (by omega)
    refine ⟨n, Nat.le_refl _, rfl, by rw [hdn]; rfl, ⟨?_, hbel⟩⟩
    rw [← hn, mid_all]; exact hr
  case round =>
    obtain ⟨k, hk, hi, rfl, HI⟩ := hrel
    cases k with
    | zero =>
      rw [show (((0 : Nat) : Int) - 1) = -1 from rfl] at hi
      subst hi
      have hle := (dbl_le ds HH.out.2.1).1
      go_wp2_with fail
      go_ret
      refine ⟨?_, by have := HI.out.1; rw [mid_zero] at this; exact this, HI.out.2⟩
      rfl
    | succ m =>
      rw [show (((m + 1 : Nat) : Int) - 1) = (m : Int) from by omega] at hi
      subst hi
      have hm : m < ds.length := by have := HH.out.1; omega
      obtain ⟨h1, h2, h3⟩ := mid_step ds m hm
      have hlen := mid_len ds (m + 1) hm
      have hc := HI.out.1.cell m (by omega)
      have hf := HI.out.1.frozen m (by omega)
      rw [h1] at hc
      have hx : ds[m] ≤ 9 := HH.out.2.1 _ (by simp)
      have hy := (dbl_le (ds.drop (m + 1)) (fun d hd => HH.out.2.1 d (List.mem_of_mem_drop hd))).1
      generalize hX : ds[m] = X at *
      generalize hY : (dbl (ds.drop (m + 1))).1 = Y at *
      have H3 := Lib.hid (And.intro h2 (And.intro h3 hlen))
      clear h1 h2 h3 hlen hX hY hm
      go_wp2_with fail
      go_roundw
      case rel =>
        obtain ⟨h2, h3, hlen⟩ := H3.out
        refine ⟨m, by omega, rfl, by rw [h2]; rfl, ⟨?_, HI.out.2.setCell (p := ⟨g, m, none⟩) hB _⟩⟩
        rw [← h3]
        have := HI.out.1.set m ((2 * X + Y) % 10) (by rw [hlen]; have := HH.out.1; omega)
        exact this
      case measure => simp [intOf]

def iterD : Nat → Nat → List Nat → Nat × List Nat
  | 0, n, ds => (n, ds)
  | k + 1, n, ds => iterD k (2 * n + (dbl ds).1) (dbl ds).2
theorem iterD_succ (k : Nat) : ∀ n ds, iterD (k + 1) n ds = (2 * (iterD k n ds).1 + (dbl (iterD k n ds).2).1, (dbl (iterD k n ds).2).2) := by
  induction k with
  | zero => intro n ds; rfl
  | succ k ih => intro n ds; rw [iterD, ih]; rfl
theorem iterD_ok (k : Nat) (n : Nat) (ds : List Nat) (hd : ∀ d ∈ ds, d ≤ 9) : (iterD k n ds).2.length = ds.length ∧ (∀ d ∈ (iterD k n ds).2, d ≤ 9) ∧ (iterD k n ds).1 + 1 ≤ (n + 1) * 2 ^ k := by
  induction k with
  | zero => exact ⟨rfl, hd, by simp [iterD]⟩
  | succ k ih =>
    obtain ⟨h1, h2, h3⟩ := ih
    have h4 := dbl_le _ h2
    rw [iterD_succ]
    refine ⟨by simp [dbl_len, h1], h4.2, ?_⟩
    have : (n + 1) * 2 ^ (k + 1) = 2 * ((n + 1) * 2 ^ k) := by rw [Nat.pow_succ]; ac_rfl
    rw [this]
    have := h4.1
    show 2 * (iterD k n ds).1 + (dbl (iterD k n ds).2).1 + 1 ≤ _
    omega

theorem ret2b {a b : Int} {c d : Bool} (h : (a, c) = (b, d)) : Ending.returned (.tuple #[.int .i64 a, .bool c]) = .returned (.tuple #[.int .i64 b, .bool d]) := by cases h; rfl

def digsOf (l : List UInt8) : List Nat := l.map (fun c => c.toNat - 48)
def strip0 (l : List UInt8) : List UInt8 := Lib.trimLeftS l [48]
def magL (a b : List UInt8) : Nat := (iterD 16 (valD (strip0 a)) (digsOf b)).1 + (dbl (iterD 16 (valD (strip0 a)) (digsOf b)).2).1
def valueL (m : Bool) (a b : List UInt8) : Int × Bool :=
  if 5 < (strip0 a).length then (0, false) else (if m then -(magL a b : Int) else magL a b, fitsB (if m then -(magL a b : Int) else magL a b))

theorem valD_100000 (t : ByteArray) (hd : t.data.toList.all isDig = true) (h3 : t.size ≤ 5) (k : Nat) (hk : k ≤ t.size) : valD (t.data.toList.take k) < 100000 := by
  have h1 := valD_lt t hd k hk
  have h2 : 10 ^ k ≤ 10 ^ 5 := Nat.pow_le_pow_right (by omega) (by omega)
  exact Nat.lt_of_lt_of_le h1 h2

theorem trimLeft_any (s : ByteArray) (w : World) (t : ByteArray) (ht : (⟨(strip0 s.data.toList).toArray⟩ : ByteArray) = t) :
    Calls Tryd.prog 61 #[.string s, .string ⟨#[48]⟩] w fun e w' => e = .returned (.string t) ∧ Below w.heap.size w w' := by
  subst ht
  refine strings_TrimLeft.calls s ⟨#[48]⟩ _ w ?_
  unfold strings_TrimLeft.f
  rw [if_pos ⟨by decide, by decide⟩]
  rfl

set_option maxHeartbeats 1000000 in
set_option maxRecDepth 100000 in
theorem value_long (m : Bool) (a b t : ByteArray) (w : World) (ht : (⟨(strip0 a.data.toList).toArray⟩ : ByteArray) = t) (h5 : 5 < t.size) :
    Calls Tryd.prog 34 #[.bool m, .string a, .string b] w (PQ (0, false) w) := by
  have HT := Lib.hid (trimLeft_any a w t ht)
  clear ht
  have hd : decide ((5 : Int) < (t.size : Int)) = true := by simp; omega
  have hd' : decide (5 < t.size) = true := by simp; omega
  go_enter Tryd.func34, Tryd.ntmps34
  go_wp2_with fail
  refine HT.out.mono ?_
  rintro e w1 ⟨rfl, hb1⟩
  go_wp2_with fail
  go_ret2
  exact ⟨rfl, hb1⟩

/-- the second loop: what the row holds when k digits have been lowered -/
def low (l : List UInt8) (k : Nat) : List Nat := (l.take k).map (fun c => c.toNat - 48) ++ (l.drop k).map (fun c => c.toNat)
theorem low_len (l : List UInt8) (k : Nat) : (low l k).length = l.length := by simp [low]; omega
theorem low_zero (l : List UInt8) : low l 0 = l.map (fun c => c.toNat) := by simp [low]
theorem low_all (l : List UInt8) : low l l.length = digsOf l := by simp [low, digsOf]
theorem low_step (l : List UInt8) (k : Nat) (hk : k < l.length) : (low l k).getD k 0 = l[k].toNat ∧ (low l k).set k (l[k].toNat - 48) = low l (k + 1) := by
  have hd : l.drop k = l[k] :: l.drop (k + 1) := List.drop_eq_getElem_cons hk
  have ht : l.take (k + 1) = l.take k ++ [l[k]] := by rw [List.take_succ_eq_append_getElem hk]
  have hl : ((l.take k).map (fun c => c.toNat - 48)).length = k := by simp; omega
  refine ⟨?_, ?_⟩
  · unfold low
    rw [hd, List.getD, List.getElem?_append_right (by omega), hl, Nat.sub_self]
    rfl
  · unfold low
    rw [hd, List.set_append_right _ _ (by omega), ht, hl, Nat.sub_self, List.map_cons, List.set_cons_zero, List.map_append, List.append_assoc]
    rfl

theorem digsOf_ok (b : ByteArray) (h : b.data.toList.all isDig = true) : (digsOf b.data.toList).length = b.size ∧ ∀ d ∈ digsOf b.data.toList, d ≤ 9 := by
  refine ⟨by rw [Lib.size_eq]; simp [digsOf], ?_⟩
  intro d hd
  simp only [digsOf, List.mem_map] at hd
  obtain ⟨c, hc, rfl⟩ := hd
  have := List.all_eq_true.1 h c hc
  simp only [isDig, Bool.and_eq_true, decide_eq_true_eq] at this
  omega

def MagIs (M N : Nat) (ds0 : List Nat) : Prop := M = (iterD 16 N ds0).1 + (dbl (iterD 16 N ds0).2).1

/-- the third loop's head -/
def IterInv (w : World) (g n N : Nat) (ds0 : List Nat) (k nk : Nat) (dk : List Nat) (wr : World) : Prop :=
  (nk, dk) = iterD k N ds0 ∧ dk.length = n ∧ (∀ d ∈ dk, d ≤ 9) ∧ RowIs g dk wr ∧ Below w.heap.size w wr
theorem IterInv.le {w : World} {g n N : Nat} {ds0 : List Nat} {k nk : Nat} {dk : List Nat} {wr : World} (h : IterInv w g n N ds0 k nk dk wr) : (dbl dk).1 ≤ 1 := (dbl_le _ h.2.2.1).1
theorem IterInv.call {N : Nat} {ds0 : List Nat} {k nk : Nat} {dk : List Nat} {wr : World} (w : World) (g n cap : Nat) (hB : w.heap.size ≤ g) (hn : n ≤ 1000000) (h : IterInv w g n N ds0 k nk dk wr) :
    Calls Tryd.prog 62 #[.slice (some ⟨g, 0, none⟩) n cap] wr (DQ w w.heap.size g (dbl dk)) :=
  double_any w wr w.heap.size g n cap dk h.2.1 h.2.2.1 h.2.2.2.1 hB h.2.2.2.2 (by omega)
theorem iter_bound (k N : Nat) (ds0 : List Nat) (hN : N < 100000) (hk : k ≤ 16) (hd : ∀ d ∈ ds0, d ≤ 9) : (iterD k N ds0).1 ≤ 6553600000 := by
  obtain ⟨_, _, h3⟩ := iterD_ok k N ds0 hd
  have h4 : (N + 1) * 2 ^ k ≤ 100000 * 2 ^ 16 := Nat.mul_le_mul (by omega) (Nat.pow_le_pow_right (by omega) hk)
  have h5 : (100000 : Nat) * 2 ^ 16 = 6553600000 := rfl
  omega
theorem IterInv.bound {w : World} {g n N : Nat} {ds0 : List Nat} {k nk : Nat} {dk : List Nat} {wr : World} (h : IterInv w g n N ds0 k nk dk wr) (hN : N < 100000) (hk : k ≤ 16) (hd : ∀ d ∈ ds0, d ≤ 9) : nk ≤ 6553600000 := by
  have := iter_bound k N ds0 hN hk hd
  rw [← h.1] at this
  exact this
theorem IterInv.mag {w : World} {g n N M : Nat} {ds0 : List Nat} {nk : Nat} {dk : List Nat} {wr : World} (h : IterInv w g n N ds0 16 nk dk wr) (hM : MagIs M N ds0) : M = nk + (dbl dk).1 := by
  unfold MagIs at hM
  rw [← h.1] at hM
  exact hM
theorem IterInv.next {w : World} {g n N : Nat} {ds0 : List Nat} {k nk : Nat} {dk : List Nat} {wr wx : World} (h : IterInv w g n N ds0 k nk dk wr) (_ : k < 16) (_ : k + 1 ≤ 16)
    (hr : RowIs g (dbl dk).2 wx) (hb : Below w.heap.size w wx) : IterInv w g n N ds0 (k + 1) (2 * nk + (dbl dk).1) (dbl dk).2 wx := by
  obtain ⟨h1, h2, h3, _, _⟩ := h
  refine ⟨?_, by rw [dbl_len, h2], (dbl_le _ h3).2, hr, hb⟩
  rw [iterD_succ, ← h1]

set_option maxHeartbeats 2000000 in
set_option maxRecDepth 100000 in
theorem value_good (m : Bool) (a b t : ByteArray) (w : World) (ht : (⟨(strip0 a.data.toList).toArray⟩ : ByteArray) = t) (h5 : t.size ≤ 5) (hda : t.data.toList.all isDig = true) (hdb : b.data.toList.all isDig = true) (hsb : b.size ≤ 1000000)
    (z : Int) (f : Bool) (hz : (z, f) = (if m then -(magL a.data.toList b.data.toList : Int) else magL a.data.toList b.data.toList, fitsB (if m then -(magL a.data.toList b.data.toList : Int) else magL a.data.toList b.data.toList))) :
    Calls Tryd.prog 34 #[.bool m, .string a, .string b] w (PQ (z, f) w) := by
  have HZ := Lib.hid (And.intro hz ht)
  have HT := Lib.hid (trimLeft_any a w t ht)
  have HP := Lib.hid (And.intro hda hdb)
  clear ht hz hda hdb
  have hd : decide ((5 : Int) < (t.size : Int)) = false := by simp; omega
  have hd' : decide (5 < t.size) = false := by simp; omega
  go_enter Tryd.func34, Tryd.ntmps34
  go_wp2_with fail
  refine HT.out.mono ?_
  rintro e w1 ⟨rfl, hb1⟩
  obtain ⟨W, cap, hcv, hcap, hbW, hsz, hcell, -⟩ := conv_bytes w1 t
  have HC := Lib.hid (And.intro hcell (hb1.trans (hbW.mono hb1.size)))
  clear hcell hbW hsz hb1 HT
  go_wp2_with fail
  clear hcv
  go_loop [8, 21] (fun n i => ∃ k : Nat, k ≤ t.size ∧ i = .int .i64 k ∧ n = .int .i64 (valD (t.data.toList.take k))) (fun _ i => t.size - (intOf i).toNat)
  case atStart => exact ⟨0, Nat.zero_le _, rfl, rfl⟩
  case round =>
    obtain ⟨k, hk, rfl, rfl⟩ := hrel
    by_cases hlt : k < t.size
    · have hc := HC.out.1 k hlt
      obtain ⟨x, hx, hxe, htk, hv⟩ := dig_step t k hlt HP.out.1
      have hb2 := valD_100000 t HP.out.1 h5 k (by omega)
      have HV := Lib.hid (And.intro hxe (And.intro hv hb2))
      clear hxe hv htk hb2
      go_wp2_with fail
      go_round
      case rel =>
        obtain ⟨hxe, hv, hb2⟩ := HV.out
        refine ⟨k + 1, by omega, by go_num, ?_⟩
        rw [hxe, hv, step_num _ x (by omega) hx]
      case measure => simp [intOf]; omega
    · obtain rfl : k = t.size := by omega
      have hall : t.data.toList.take t.size = t.data.toList := List.take_of_length_le (by rw [← Lib.size_eq]; exact Nat.le_refl _)
      have hb2 := valD_100000 t HP.out.1 h5 t.size (Nat.le_refl _)
      rw [hall] at hb2 ⊢
      clear hall
      have hN : valD t.data.toList = valD (strip0 a.data.toList) := by rw [← HZ.out.2]
      have HN := Lib.hid hN
      clear hN
      generalize valD t.data.toList = N at *
      obtain ⟨W2, cap2, hcv2, hcap2, hbW2, hsz2, -, hrow2⟩ := conv_bytes W b
      have hrow : RowIs W.heap.size (low b.data.toList 0) W2 := by
        obtain ⟨cs, h1, h2, h3⟩ := hrow2
        refine ⟨cs, by rw [low_len, ← Lib.size_eq]; exact h1, h2, fun j hj => ?_⟩
        rw [low_len, ← Lib.size_eq] at hj
        rw [h3 j hj, low_zero]
        simp [List.getD, List.getElem?_map]
        cases b.data[j]? <;> rfl
      have hB : w.heap.size ≤ W.heap.size := HC.out.2.size
      have HR := Lib.hid (And.intro hrow (HC.out.2.trans (hbW2.mono hB)))
      clear hrow hrow2 hbW2 hsz2 HC
      go_wp2_with fail
      clear hcv2
      go_loopw [36] (fun i wr => ∃ k : Nat, k ≤ b.size ∧ i = .int .i64 k ∧ Hid (RowIs W.heap.size (low b.data.toList k) wr ∧ Below w.heap.size w wr)) (fun i _ => b.size - (intOf i).toNat)
      case atStart => exact ⟨0, Nat.zero_le _, rfl, HR.out⟩
      case round =>
        obtain ⟨k, hk2, rfl, HI⟩ := hrel
        by_cases hlt2 : k < b.size
        · have hlt3 : k < b.data.toList.length := by rw [← Lib.size_eq]; exact hlt2
          obtain ⟨h1, h2⟩ := low_step b.data.toList k hlt3
          obtain ⟨x, hx, hxe, -, -⟩ := dig_step b k hlt2 HP.out.2
          have hxe' : b.data.toList[k].toNat = 48 + x := by rw [← hxe]; simp
          have hc := HI.out.1.cell k (by rw [low_len]; exact hlt3)
          have hf := HI.out.1.frozen k (by rw [low_len]; exact hlt3)
          rw [h1, hxe'] at hc
          rw [hxe', show 48 + x - 48 = x from by omega] at h2
          have H2 := Lib.hid h2
          clear h1 h2 hxe hxe' hlt3
          go_wp2_with fail
          go_roundw
          case rel =>
            refine ⟨k + 1, by omega, by go_num, ?_, HI.out.2.setCell (p := ⟨W.heap.size, k, none⟩) hB _⟩
            rw [← H2.out, show (48 + (x : Int) - 48) = (x : Int) from by omega]
            exact HI.out.1.set k x (by rw [low_len, ← Lib.size_eq]; exact hlt2)
          case measure => simp [intOf]; omega
        · obtain rfl : k = b.size := by omega
          have hds : low b.data.toList b.size = digsOf b.data.toList := by rw [Lib.size_eq, low_all]
          obtain ⟨ds0, h0⟩ : ∃ ds, ds = digsOf b.data.toList := ⟨_, rfl⟩
          have hd0 := digsOf_ok b HP.out.2
          rw [hds, ← h0] at HI
          rw [← h0] at hd0
          have HM : MagIs (magL a.data.toList b.data.toList) N ds0 := by rw [HN.out, h0]; rfl
          have HD := Lib.hid hd0
          clear hds hd0 h0
          obtain ⟨wo, rfl⟩ : ∃ wo : World, wo = wr := ⟨_, rfl⟩
          go_wp2_with fail
          go_loopw [8, 46] (fun n i wr => ∃ (k nk : Nat) (dk : List Nat), k ≤ 16 ∧ i = .int .i64 k ∧ n = .int .i64 nk ∧ Hid (IterInv w W.heap.size b.size N ds0 k nk dk wr)) (fun _ i _ => 16 - (intOf i).toNat)
          case atStart => exact ⟨0, N, ds0, by omega, rfl, rfl, rfl, HD.out.1, HD.out.2, HI.out⟩
          case round =>
            clear HI
            obtain ⟨k, nk, dk, hk3, rfl, rfl, HI⟩ := hrel
            have hnk : nk ≤ 6553600000 := HI.out.bound (by omega) hk3 HD.out.2
            have HX := Lib.hid (HI.out.call w W.heap.size b.size cap2 hB hsb)
            have hle := HI.out.le
            by_cases hlt4 : k < 16
            · have hdk : decide ((k : Int) < 16) = true := by simp; omega
              have HK := Lib.hid hlt4
              clear hlt4
              go_wp2_with fail
              refine HX.out.mono ?_
              rintro e wx ⟨rfl, hrx, hbx⟩
              have HY := Lib.hid (HI.out.next HK.out (by have := HK.out; omega) hrx hbx)
              clear hrx hbx
              go_wp2_with fail
              go_roundw
              case rel =>
                have := HK.out
                exact ⟨k + 1, 2 * nk + (dbl dk).1, (dbl dk).2, by omega, by go_num, by go_num, HY.out⟩
              case measure => have := HK.out; simp [intOf]; omega
            · obtain rfl : k = 16 := by omega
              have HMM := HI.out.mag HM
              have HMx := Lib.hid HMM
              have hZ := HZ.out.1
              rw [HMM] at hZ
              have HZ2 := Lib.hid hZ
              clear HMM hZ HZ hk3
              go_wp2_with fail
              refine HX.out.mono ?_
              rintro e wx ⟨rfl, hrx, hbx⟩
              have HBX := Lib.hid hbx
              clear hrx hbx HI HM HMx HX
              generalize (dbl dk).1 = dd at *
              cases m
              · go_wp2_with fail
                refine (fits_any ((nk : Int) + (dd : Int)) wx _ rfl).mono ?_
                rintro e w' ⟨rfl, rfl⟩
                go_wp2_with fail
                go_ret2
                refine ⟨ret2b ?_, HBX.out⟩
                rw [HZ2.out]
                simp
              · go_wp2_with fail
                refine (fits_any (-((nk : Int) + (dd : Int))) wx _ rfl).mono ?_
                rintro e w' ⟨rfl, rfl⟩
                go_wp2_with fail
                go_ret2
                refine ⟨ret2b ?_, HBX.out⟩
                rw [HZ2.out]
                simp

theorem strip0_all (l : List UInt8) (h : l.all isDig = true) : (strip0 l).all isDig = true := by
  rw [List.all_eq_true] at h ⊢
  intro x hx
  exact h x (by unfold strip0 Lib.trimLeftS at hx; exact (List.dropWhile_sublist _).subset hx)

def dec_value.f (a0 : Bool) (a1 a2 : ByteArray) : Option (Int × Bool) :=
  if a1.data.toList.all isDig = true ∧ a2.data.toList.all isDig = true ∧ a2.size ≤ 1000000 then some (valueL a0 a1.data.toList a2.data.toList) else none

theorem dec_value.calls (a0 : Bool) (a1 a2 : ByteArray) (r1 : Int) (r2 : Bool) (w : World) (h : dec_value.f a0 a1 a2 = some (r1, r2)) :
    Calls Tryd.prog 34 #[.bool a0, .string a1, .string a2] w fun e w' => e = .returned (.tuple #[.int .i64 r1, .bool r2]) ∧ Below w.heap.size w w' := by
  unfold dec_value.f at h
  split at h
  · rename_i hh
    obtain ⟨h1, h2, h3⟩ := hh
    have h4 := Option.some.inj h
    clear h
    have hsz : (⟨(strip0 a1.data.toList).toArray⟩ : ByteArray).size = (strip0 a1.data.toList).length := by simp [ByteArray.size]
    by_cases h5 : 5 < (strip0 a1.data.toList).length
    · have hv : valueL a0 a1.data.toList a2.data.toList = (0, false) := by unfold valueL; rw [if_pos h5]
      rw [hv] at h4
      cases h4
      exact value_long a0 a1 a2 _ w rfl (by omega)
    · have hv : valueL a0 a1.data.toList a2.data.toList = (if a0 then -(magL a1.data.toList a2.data.toList : Int) else magL a1.data.toList a2.data.toList, fitsB (if a0 then -(magL a1.data.toList a2.data.toList : Int) else magL a1.data.toList a2.data.toList)) := by
        unfold valueL; rw [if_neg h5]
      rw [hv] at h4
      exact value_good a0 a1 a2 _ w rfl (by omega) (strip0_all _ h1) h2 h3 r1 r2 h4.symm
  · cases h

end Go.Proofs.YtiocgpfnbmlfaaaDoor
