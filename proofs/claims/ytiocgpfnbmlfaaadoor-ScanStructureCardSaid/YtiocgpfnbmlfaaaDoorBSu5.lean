/- The law ScanStructure in plain words: the fields between ends of lines, found rune by rune, are those found byte by byte. The law ScanStructure: what the reference's Structure and Texts answer. The law ScanStructure, plain: at every input its function answers true. -/
import Derived.Test.YtiocgpfnbmlfaaaDoorBSu4
import Derived.Lib.MapLaws

/-! ## ZB -/
namespace Go.Proofs.YtiocgpfnbmlfaaaDoor.SC
open Go Go.RowKit Go.ChangeShapes Go.Proofs Go.Proofs.YtiocgpfnbmlfaaaDoor Go.Proofs.YtiocgpfnbmlfaaaDoor.PS1 Go.Proofs.YtiocgpfnbmlfaaaDoor.QD Go.Proofs.YtiocgpfnbmlfaaaDoorW.PrintWords Go.Proofs.YtiocgpfnbmlfaaaDoorW.PrintLast

def nlB (c : UInt8) : Bool := isNL c.toNat
/-- what a line gives -/
def lineL (p : List UInt8) : List ByteArray := if Lib.hasPrefix p [37, 37] = true ∨ Lib.hasPrefix p [37, 33] = true then [S (p.drop 2)] else []
/-- what the lines give, of the first of which these bytes are read -/
def goL (cur : List UInt8) : List UInt8 → List ByteArray
  | [] => lineL cur
  | c :: t => if nlB c = true then lineL cur ++ goL [] t else goL (cur ++ [c]) t

theorem S_cut (xs : List UInt8) (a b : Nat) : (S xs).extract a b = S ((xs.take b).drop a) := by
  apply ByteArray.ext
  apply Array.ext'
  simp [S, List.drop_take]
theorem lineB_S (p : List UInt8) : lineB (S p) = lineL p := by
  unfold lineB lineL pre1 pre2
  rw [S_data, S_cut, S_size, List.take_length]
theorem lineL_nil : lineL [] = [] := rfl

theorem get_at (xs : List UInt8) (j : Nat) (c : UInt8) (h : xs[j]? = some c) : (S xs).get! j = c := by
  have hj : j < xs.length := by
    rcases Nat.lt_or_ge j xs.length with h' | h'
    · exact h'
    · rw [List.getElem?_eq_none h'] at h; cases h
  show (S xs).data[j]! = c
  rw [List.getElem?_eq_getElem hj] at h
  have : (S xs).data = xs.toArray := rfl
  rw [this]
  simp [hj, Option.some.inj h]
theorem high_nl (c : UInt8) (h : 128 ≤ c.toNat) : nlB c = false := by
  unfold nlB isNL
  simp
  omega
theorem high_isNL (x : Nat) (h : 128 ≤ x) : isNL x = false := by
  unfold isNL
  simp
  omega

set_option maxHeartbeats 1000000 in
/-- a rune at a place: the end of a line, one byte; or no byte of it ends a line -/
theorem decode_nl (xs : List UInt8) (pos : Nat) (h : pos < xs.length) :
    ((∃ c, xs[pos]? = some c ∧ nlB c = true) ∧ isNL (Utf8.decode (S xs) pos).1 = true ∧ (Utf8.decode (S xs) pos).2 = 1) ∨
    (isNL (Utf8.decode (S xs) pos).1 = false ∧ 1 ≤ (Utf8.decode (S xs) pos).2 ∧ pos + (Utf8.decode (S xs) pos).2 ≤ xs.length ∧ ∀ j c, pos ≤ j → j < pos + (Utf8.decode (S xs) pos).2 → xs[j]? = some c → nlB c = false) := by
  rw [Lib.decode_at, S_size]
  obtain ⟨c0, hc0⟩ : ∃ c, xs[pos]? = some c := ⟨_, List.getElem?_eq_getElem h⟩
  have g0 := get_at xs pos c0 hc0
  have g1 : ∀ c, xs[pos + 1]? = some c → (S xs).get! (pos + 1) = c := get_at xs (pos + 1)
  have g2 : ∀ c, xs[pos + 2]? = some c → (S xs).get! (pos + 2) = c := get_at xs (pos + 2)
  have g3 : ∀ c, xs[pos + 3]? = some c → (S xs).get! (pos + 3) = c := get_at xs (pos + 3)
  rw [g0]
  generalize (S xs).get! (pos + 1) = d1 at *
  generalize (S xs).get! (pos + 2) = d2 at *
  generalize (S xs).get! (pos + 3) = d3 at *
  have one : ∀ j c, nlB c0 = false → pos ≤ j → j < pos + 1 → xs[j]? = some c → nlB c = false := by
    intro j c hn h1 h2 hc
    obtain rfl : j = pos := by omega
    rw [hc0] at hc
    rw [← Option.some.inj hc]
    exact hn
  by_cases hlow : c0.toNat < 128
  · have e : Lib.decodeN (xs.length - pos) c0.toNat d1.toNat d2.toNat d3.toNat = (c0.toNat, 1) := by unfold Lib.decodeN; rw [if_pos hlow]
    rw [e]
    by_cases hn : nlB c0 = true
    · exact .inl ⟨⟨c0, hc0, hn⟩, hn, rfl⟩
    · have hn' : nlB c0 = false := Bool.eq_false_iff.2 hn
      exact .inr ⟨hn', Nat.le_refl _, by show pos + 1 ≤ _; omega, fun j c h1 h2 hc => one j c hn' h1 h2 hc⟩
  · have hn0 := high_nl c0 (by omega)
    refine .inr ?_
    rcases Lib.decodeN_shape (xs.length - pos) c0.toNat d1.toNat d2.toNat d3.toNat with ⟨a1, _⟩ | ⟨a1, a2, a3, a4, e⟩ | ⟨a1, a2, a3, a4, a5, a6, e⟩ | ⟨a1, a2, a3, a4, a5, a6, a7, e⟩ | e
    · exact absurd a1 hlow
    · rw [e]
      refine ⟨high_isNL _ a4, by show 1 ≤ 2; omega, by show pos + 2 ≤ _; omega, fun j c h1 h2 hc => ?_⟩
      have h2 : j < pos + 2 := h2
      rcases Nat.lt_or_ge j (pos + 1) with h3 | h3
      · exact one j c hn0 h1 h3 hc
      · obtain rfl : j = pos + 1 := by omega
        rw [g1 c hc] at a3
        exact high_nl c (by omega)
    · rw [e]
      refine ⟨high_isNL _ (by omega), by show 1 ≤ 3; omega, by show pos + 3 ≤ _; omega, fun j c h1 h2 hc => ?_⟩
      have h2 : j < pos + 3 := h2
      rcases Nat.lt_or_ge j (pos + 1) with h3 | h3
      · exact one j c hn0 h1 h3 hc
      · rcases Nat.lt_or_ge j (pos + 2) with h4 | h4
        · obtain rfl : j = pos + 1 := by omega
          rw [g1 c hc] at a3
          exact high_nl c (by omega)
        · obtain rfl : j = pos + 2 := by omega
          rw [g2 c hc] at a4
          exact high_nl c (by omega)
    · rw [e]
      refine ⟨high_isNL _ (by omega), by show 1 ≤ 4; omega, by show pos + 4 ≤ _; omega, fun j c h1 h2 hc => ?_⟩
      have h2 : j < pos + 4 := h2
      rcases Nat.lt_or_ge j (pos + 1) with h3 | h3
      · exact one j c hn0 h1 h3 hc
      · rcases Nat.lt_or_ge j (pos + 2) with h4 | h4
        · obtain rfl : j = pos + 1 := by omega
          rw [g1 c hc] at a3
          exact high_nl c (by omega)
        · rcases Nat.lt_or_ge j (pos + 3) with h5 | h5
          · obtain rfl : j = pos + 2 := by omega
            rw [g2 c hc] at a4
            exact high_nl c (by omega)
          · obtain rfl : j = pos + 3 := by omega
            rw [g3 c hc] at a5
            exact high_nl c (by omega)
    · rw [e]
      exact ⟨by decide, Nat.le_refl _, by show pos + 1 ≤ _; omega, fun j c h1 h2 hc => one j c hn0 h1 h2 hc⟩

theorem goL_skip : ∀ (k : Nat) (cur l : List UInt8), (∀ c ∈ l.take k, nlB c = false) → goL cur l = goL (cur ++ l.take k) (l.drop k)
  | 0, cur, l, _ => by simp
  | k + 1, cur, [], _ => by simp
  | k + 1, cur, c :: t, h => by
    have hc : nlB c = false := h c (by simp)
    rw [goL, if_neg (by rw [hc]; decide), goL_skip k (cur ++ [c]) t (fun d hd => h d (by simp [hd]))]
    simp

/-- what is read of the field that is open -/
def curOf (xs : List UInt8) (st : Option Nat) (pos : Nat) : List UInt8 := match st with | none => [] | some a => (xs.take pos).drop a
def ext2 (xs : List UInt8) (x : Nat × Nat) : ByteArray := (S xs).extract x.1 x.2
theorem linesB_snoc (A : List ByteArray) (l : ByteArray) : linesB (A ++ [l]) = linesB A ++ lineB l := by simp [linesB]
theorem close_goL (xs : List UInt8) (st : Option Nat) (acc : List (Nat × Nat)) :
    linesB ((Lib.closeSpans (S xs) (acc, st)).map (ext2 xs)) = linesB (acc.map (ext2 xs)) ++ goL (curOf xs st xs.length) [] := by
  cases st with
  | none => simp [Lib.closeSpans, curOf, goL, lineL_nil]
  | some a =>
    show linesB ((acc ++ [(a, (S xs).size)]).map (ext2 xs)) = _
    rw [List.map_append, List.map_singleton, linesB_snoc]
    congr 1
    show lineB ((S xs).extract a (S xs).size) = _
    rw [S_cut, lineB_S, S_size]
    rfl

theorem spans_goL (xs : List UInt8) : ∀ (f pos : Nat) (st : Option Nat) (acc : List (Nat × Nat)), pos ≤ xs.length → xs.length ≤ pos + f → (∀ a, st = some a → a ≤ pos) →
    linesB ((Lib.closeSpans (S xs) (Lib.spansFromP isNL (S xs) f pos st acc)).map (ext2 xs)) = linesB (acc.map (ext2 xs)) ++ goL (curOf xs st pos) (xs.drop pos)
  | 0, pos, st, acc, h1, h2, _ => by
    obtain rfl : pos = xs.length := by omega
    rw [List.drop_length]
    exact close_goL xs st acc
  | f + 1, pos, st, acc, h1, h2, hst => by
    by_cases hp : pos < xs.length
    · have hp' : pos < (S xs).size := by rw [S_size]; exact hp
      unfold Lib.spansFromP
      rw [if_pos hp']
      rcases decode_nl xs pos hp with ⟨⟨c, hc, hn⟩, hd, hw⟩ | ⟨hd, hw1, hw2, hall⟩
      · rw [if_pos hd, hw]
        have hdr : xs.drop pos = c :: xs.drop (pos + 1) := by
          rw [List.drop_eq_getElem_cons hp]
          rw [List.getElem?_eq_getElem hp] at hc
          rw [Option.some.inj hc]
        rw [hdr, goL, if_pos hn]
        cases st with
        | none =>
          show linesB ((Lib.closeSpans (S xs) (Lib.spansFromP isNL (S xs) f (pos + 1) none acc)).map (ext2 xs)) = _
          rw [spans_goL xs f (pos + 1) none acc (by omega) (by omega) (fun a h => by cases h)]
          rfl
        | some a =>
          show linesB ((Lib.closeSpans (S xs) (Lib.spansFromP isNL (S xs) f (pos + 1) none (acc ++ [(a, pos)]))).map (ext2 xs)) = _
          rw [spans_goL xs f (pos + 1) none (acc ++ [(a, pos)]) (by omega) (by omega) (fun a h => by cases h), List.map_append, List.map_singleton, linesB_snoc, List.append_assoc]
          congr 2
          show lineB ((S xs).extract a pos) = _
          rw [S_cut, lineB_S]
          rfl
      · rw [if_neg (by rw [hd]; decide)]
        generalize (Utf8.decode (S xs) pos).2 = k at *
        have hskip := goL_skip k (curOf xs st pos) (xs.drop pos) (by
          intro c hc
          obtain ⟨i, hi, e⟩ := List.getElem_of_mem hc
          have hi2 : i < k := by have := List.length_take (i := k) (l := xs.drop pos); omega
          have hi3 : pos + i < xs.length := by omega
          rw [List.getElem_take, List.getElem_drop] at e
          exact hall (pos + i) c (by omega) (by omega) (by rw [List.getElem?_eq_getElem hi3, e]))
        rw [hskip, List.drop_drop]
        cases st with
        | none =>
          show linesB ((Lib.closeSpans (S xs) (Lib.spansFromP isNL (S xs) f (pos + k) (some pos) acc)).map (ext2 xs)) = _
          rw [spans_goL xs f (pos + k) (some pos) acc (by omega) (by omega) (fun a h => by cases h; omega)]
          congr 2
          show (xs.take (pos + k)).drop pos = [] ++ (xs.drop pos).take k
          rw [List.nil_append, List.drop_take]
          congr 1
          omega
        | some a =>
          have ha := hst a rfl
          show linesB ((Lib.closeSpans (S xs) (Lib.spansFromP isNL (S xs) f (pos + k) (some a) acc)).map (ext2 xs)) = _
          rw [spans_goL xs f (pos + k) (some a) acc (by omega) (by omega) (fun b h => by cases h; omega)]
          congr 2
          show (xs.take (pos + k)).drop a = (xs.take pos).drop a ++ (xs.drop pos).take k
          rw [List.take_add, List.drop_append_of_le_length (by rw [List.length_take]; omega)]
    · obtain rfl : pos = xs.length := by omega
      rw [Lib.spansFromP_end isNL (S xs) (f + 1) xs.length st acc (by rw [S_size]; omega), List.drop_length]
      exact close_goL xs st acc

theorem fields_goL (xs : List UInt8) : linesB (Lib.goFieldsP isNL (S xs)) = goL [] xs := by
  have := spans_goL xs (S xs).size 0 none [] (by omega) (by rw [S_size]; omega) (fun a h => by cases h)
  unfold Lib.goFieldsP Lib.spansOfP
  exact this

end Go.Proofs.YtiocgpfnbmlfaaaDoor.SC

/-! ## ZD -/
namespace Go.Proofs.YtiocgpfnbmlfaaaDoor.SC
open Go Go.RowKit Go.ChangeShapes Go.Proofs Go.Proofs.YtiocgpfnbmlfaaaDoor Go.Proofs.YtiocgpfnbmlfaaaDoor.QD Go.Proofs.YtiocgpfnbmlfaaaDoorW.PrintWords Go.Proofs.YtiocgpfnbmlfaaaDoorW.PrintLast

theorem lineL_two (p q : UInt8) (r : List UInt8) : lineL (p :: q :: r) = if p = 37 ∧ (q = 37 ∨ q = 33) then [S r] else [] := by
  unfold lineL
  have e1 : (Lib.hasPrefix (p :: q :: r) [37, 37] = true) ↔ (p = 37 ∧ q = 37) := by
    simp [Lib.hasPrefix, List.isPrefixOf]
    exact ⟨fun h => ⟨h.1.symm, h.2.symm⟩, fun h => ⟨h.1.symm, h.2.symm⟩⟩
  have e2 : (Lib.hasPrefix (p :: q :: r) [37, 33] = true) ↔ (p = 37 ∧ q = 33) := by
    simp [Lib.hasPrefix, List.isPrefixOf]
    exact ⟨fun h => ⟨h.1.symm, h.2.symm⟩, fun h => ⟨h.1.symm, h.2.symm⟩⟩
  by_cases h : p = 37 ∧ (q = 37 ∨ q = 33)
  · rw [if_pos h, if_pos]
    · rfl
    · rcases h with ⟨h1, h2 | h2⟩
      · exact .inl (e1.2 ⟨h1, h2⟩)
      · exact .inr (e2.2 ⟨h1, h2⟩)
  · rw [if_neg h, if_neg]
    rintro (h' | h')
    · exact h ⟨(e1.1 h').1, .inl (e1.1 h').2⟩
    · exact h ⟨(e2.1 h').1, .inr (e2.1 h').2⟩
theorem lineL_short (p : List UInt8) (h : p.length < 2) : lineL p = [] := by
  match p, h with
  | [], _ => rfl
  | [a], _ => unfold lineL; rw [if_neg (by simp [Lib.hasPrefix, List.isPrefixOf])]
theorem rd_nat (xs : List UInt8) (i : Nat) (c : UInt8) (h : xs[i]? = some c) : rd (bI xs) (i : Int) = (c.toNat : Int) := by
  simp [rd, bI, List.getD, h]
theorem toNat_k (c : UInt8) (d : UInt8) (z : Int) (hz : (d.toNat : Int) = z) : ((c.toNat : Int) = z) = (c = d) :=
  propext ⟨fun h => UInt8.toNat_inj.1 (by omega), fun h => by rw [h, hz]⟩
theorem strOf_cut (xs : List UInt8) (a b : Nat) : strOfNums (((bI xs).take b).drop a) = S ((xs.take b).drop a) := by
  rw [← bI_str]
  simp [bI, List.map_take, List.map_drop]

theorem ref_close (xs : List UInt8) (hx : xs.length ≤ 100000) (k : Nat) (acc : List ByteArray) (hacc : acc.length < 1000000) (a i : Nat) (h : a ≤ i) (hi : i ≤ xs.length) :
    PS4.mezzotintref04_Structure.j1 (k + 1) (bI xs) acc (a : Int) (i : Int) false = PS4.mezzotintref04_Structure.l0 k (bI xs) (acc ++ lineL ((xs.take i).drop a)) ((i + 1 : Nat) : Int) ((i + 1 : Nat) : Int) := by
  have w1 : wrap64 ((i : Int) + 1) = ((i + 1 : Nat) : Int) := by rw [w64 _ (by omega) (by omega)]; rfl
  have w2 : wrap64 ((i : Int) - (a : Int)) = ((i - a : Nat) : Int) := by rw [w64 _ (by omega) (by omega)]; omega
  have w3 : wrap64 ((a : Int) + 1) = ((a + 1 : Nat) : Int) := by rw [w64 _ (by omega) (by omega)]; rfl
  have w4 : wrap64 ((a : Int) + 2) = ((a + 2 : Nat) : Int) := by rw [w64 _ (by omega) (by omega)]; rfl
  unfold PS4.mezzotintref04_Structure.j1
  simp only [w1, w2, w3, w4, bI_len]
  rw [if_neg (by decide)]
  by_cases h2 : 2 ≤ i - a
  · obtain ⟨p, hp⟩ : ∃ c, xs[a]? = some c := ⟨_, List.getElem?_eq_getElem (by omega)⟩
    obtain ⟨q, hq⟩ : ∃ c, xs[a + 1]? = some c := ⟨_, List.getElem?_eq_getElem (by omega)⟩
    have hcut : (xs.take i).drop a = p :: q :: (xs.take i).drop (a + 2) := by
      have ha : a < (xs.take i).length := by rw [List.length_take]; omega
      have ha1 : a + 1 < (xs.take i).length := by rw [List.length_take]; omega
      rw [List.drop_eq_getElem_cons ha, List.drop_eq_getElem_cons ha1, List.getElem_take, List.getElem_take]
      rw [List.getElem?_eq_getElem (by omega)] at hp hq
      rw [Option.some.inj hp, Option.some.inj hq]
    rw [hcut, lineL_two, rd_nat xs a p hp, rd_nat xs (a + 1) q hq]
    simp only [toNat_k p 37 37 rfl, toNat_k q 37 37 rfl, toNat_k q 33 33 rfl, Int.toNat_natCast, strOf_cut]
    rw [if_pos (by omega), if_pos (by omega), if_pos (by omega)]
    by_cases c1 : p = 37
    · rw [if_pos c1, if_pos (by omega), if_pos (by omega)]
      by_cases c2 : q = 37
      · rw [if_pos c2, if_pos (by omega), if_pos (by omega), if_pos (by omega), if_pos (by omega), if_pos ⟨c1, .inl c2⟩]
      · rw [if_neg c2]
        by_cases c3 : q = 33
        · rw [if_pos c3, if_pos (by omega), if_pos (by omega), if_pos (by omega), if_pos (by omega), if_pos ⟨c1, .inr c3⟩]
        · rw [if_neg c3, if_neg (fun h => h.2.elim c2 c3), List.append_nil]
    · rw [if_neg c1, if_neg (fun h => c1 h.1), List.append_nil]
  · rw [if_neg (by omega), lineL_short _ (by rw [List.length_drop, List.length_take]; omega), List.append_nil]

theorem ref_on (xs : List UInt8) (hx : xs.length ≤ 100000) (k : Nat) (acc : List ByteArray) (a i : Nat) (hi : i ≤ xs.length) :
    PS4.mezzotintref04_Structure.j1 (k + 1) (bI xs) acc (a : Int) (i : Int) true = PS4.mezzotintref04_Structure.l0 k (bI xs) acc (a : Int) ((i + 1 : Nat) : Int) := by
  have w1 : wrap64 ((i : Int) + 1) = ((i + 1 : Nat) : Int) := by rw [w64 _ (by omega) (by omega)]; rfl
  unfold PS4.mezzotintref04_Structure.j1
  rw [if_pos rfl, w1]

theorem lineL_len (p : List UInt8) : (lineL p).length ≤ 1 := by unfold lineL; split <;> simp
theorem goL_len : ∀ (l cur : List UInt8), (goL cur l).length ≤ l.length + 1
  | [], cur => lineL_len cur
  | c :: t, cur => by
    rw [goL]
    split
    · have := goL_len t []
      have := lineL_len cur
      simp only [List.length_append, List.length_cons]
      omega
    · have := goL_len t (cur ++ [c])
      simp only [List.length_cons]
      omega

theorem ref_go (xs : List UInt8) (hx : xs.length ≤ 100000) (e : Nat) : ∀ (n a i : Nat) (acc : List ByteArray), i + n = xs.length → a ≤ i → acc.length + n + 1 < 1000000 →
    PS4.mezzotintref04_Structure.l0 (2 * n + 3 + e) (bI xs) acc (a : Int) (i : Int) = some (acc ++ goL ((xs.take i).drop a) (xs.drop i))
  | 0, a, i, acc, hi, ha, hacc => by
    rw [show 2 * 0 + 3 + e = ((1 + e) + 1) + 1 by omega]
    unfold PS4.mezzotintref04_Structure.l0
    simp only [bI_len]
    rw [if_pos (by omega), if_neg (by omega), ref_close xs hx (1 + e) acc (by omega) a i ha (by omega), show 1 + e = e + 1 by omega]
    unfold PS4.mezzotintref04_Structure.l0
    simp only [bI_len]
    rw [if_neg (by omega), show xs.drop i = [] from List.drop_of_length_le (by omega)]
    rfl
  | n + 1, a, i, acc, hi, ha, hacc => by
    have hil : i < xs.length := by omega
    obtain ⟨c, hc⟩ : ∃ c, xs[i]? = some c := ⟨_, List.getElem?_eq_getElem hil⟩
    have hdr : xs.drop i = c :: xs.drop (i + 1) := by
      rw [List.drop_eq_getElem_cons hil]
      rw [List.getElem?_eq_getElem hil] at hc
      rw [Option.some.inj hc]
    rw [show 2 * (n + 1) + 3 + e = ((2 * n + 3 + e) + 1) + 1 by omega]
    unfold PS4.mezzotintref04_Structure.l0
    simp only [bI_len]
    rw [if_pos (by omega), if_pos (by omega), if_pos (by omega), rd_nat xs i c hc, hdr, goL]
    have hclose : nlB c = true → PS4.mezzotintref04_Structure.j1 ((2 * n + 3 + e) + 1) (bI xs) acc (a : Int) (i : Int) false = some (acc ++ (lineL ((xs.take i).drop a) ++ goL [] (xs.drop (i + 1)))) := by
      intro hn
      have hl := lineL_len ((xs.take i).drop a)
      rw [ref_close xs hx _ acc (by omega) a i ha (by omega), ref_go xs hx e n (i + 1) (i + 1) _ (by omega) (Nat.le_refl _) (by rw [List.length_append]; omega)]
      rw [show (xs.take (i + 1)).drop (i + 1) = [] from List.drop_of_length_le (by rw [List.length_take]; omega), List.append_assoc]
    by_cases c1 : (c.toNat : Int) = 10
    · have hn : nlB c = true := by unfold nlB isNL; simp; omega
      rw [if_pos c1, if_pos hn, hclose hn]
    · rw [if_neg c1]
      by_cases c2 : (c.toNat : Int) = 13
      · have hn : nlB c = true := by unfold nlB isNL; simp; omega
        rw [show ((c.toNat : Int) != 13) = false by simp [c2], if_pos hn, hclose hn]
      · have hn : ¬ nlB c = true := by unfold nlB isNL; simp; omega
        rw [show ((c.toNat : Int) != 13) = true by simp [c2], if_neg hn, ref_on xs hx _ acc a i (by omega), ref_go xs hx e n a (i + 1) acc (by omega) (by omega) (by omega)]
        congr 3
        rw [List.take_add_one, hc, List.drop_append_of_le_length (by rw [List.length_take]; omega)]
        rfl

theorem texts_same (L : List ByteArray) (hL : L.length ≤ 1000000) (e : Nat) : ∀ (n i : Nat), i + n = L.length → PS4.mezzotintref01_Texts.l0 (n + 1 + e) L L (i : Int) = some true
  | 0, i, h => by
    rw [show 0 + 1 + e = e + 1 by omega]
    unfold PS4.mezzotintref01_Texts.l0
    rw [if_neg (by omega)]
  | n + 1, i, h => by
    have w1 : wrap64 ((i : Int) + 1) = ((i + 1 : Nat) : Int) := by rw [w64 _ (by omega) (by omega)]; rfl
    rw [show n + 1 + 1 + e = (n + 1 + e) + 1 by omega]
    unfold PS4.mezzotintref01_Texts.l0
    rw [if_pos (by omega), if_pos (by omega), if_pos (by omega), if_pos rfl, w1]
    exact texts_same L hL e n (i + 1) (by omega)

theorem structure_pure : PS4.mezzotintlaw04_ScanStructure.Pure := by
  intro l0 _ hb hw
  have hB : isB l0 := by
    intro x hx
    have h := hw x hx
    simp [Lit.wf, IntKind.min, IntKind.max, IntKind.signed, IntKind.bits] at h
    omega
  by_cases hl : (l0.length : Int) > 20000
  · refine ⟨0, ?_⟩
    unfold PS4.mezzotintlaw04_ScanStructure.f
    rw [if_pos hl]
    rfl
  · obtain ⟨xs, rfl⟩ : ∃ xs, bI xs = l0 := ⟨unI l0, bI_un l0 hB⟩
    rw [bI_len] at hl
    have hx : xs.length ≤ 20000 := by omega
    refine ⟨2 * xs.length + 3 + (xs.length + 2), ?_⟩
    have hS : scan_Structure.f (bI xs) = some (goL [] xs) := by
      unfold scan_Structure.f
      rw [if_pos ⟨hB, by rw [bI_len]; omega⟩, un_bI, fields_goL]
    have hR : PS4.mezzotintref04_Structure.f (2 * xs.length + 3 + (xs.length + 2)) (bI xs) = some (goL [] xs) := by
      unfold PS4.mezzotintref04_Structure.f
      have := ref_go xs (by omega) (xs.length + 2) xs.length 0 0 [] (by omega) (Nat.le_refl _) (by simp only [List.length_nil]; omega)
      exact this
    have hT : PS4.mezzotintref01_Texts.f (2 * xs.length + 3 + (xs.length + 2)) (goL [] xs) (goL [] xs) = some true := by
      unfold PS4.mezzotintref01_Texts.f
      have hgl := goL_len xs []
      rw [if_pos rfl]
      have := texts_same (goL [] xs) (by omega) (2 * xs.length + 3 + (xs.length + 2) - ((goL [] xs).length + 1)) (goL [] xs).length 0 (by omega)
      rw [show (goL [] xs).length + 1 + (2 * xs.length + 3 + (xs.length + 2) - ((goL [] xs).length + 1)) = 2 * xs.length + 3 + (xs.length + 2) by omega] at this
      exact this
    unfold PS4.mezzotintlaw04_ScanStructure.f
    rw [bI_len, if_neg (by omega)]
    simp only [mezzotintlaw04_answers.f, Option.bind_some, List.length_nil, List.nil_append, Nat.zero_add, if_true]
    rw [if_pos (by omega), hS, Option.bind_some, hR, Option.bind_some, hT]
    rfl

end Go.Proofs.YtiocgpfnbmlfaaaDoor.SC

/-! ## PureScanStructure -/
namespace Go.Proofs.YtiocgpfnbmlfaaaDoor.Pure
theorem ScanStructure : Go.Proofs.YtiocgpfnbmlfaaaDoor.PS4.mezzotintlaw04_ScanStructure.Pure := Go.Proofs.YtiocgpfnbmlfaaaDoor.SC.structure_pure

end Go.Proofs.YtiocgpfnbmlfaaaDoor.Pure
