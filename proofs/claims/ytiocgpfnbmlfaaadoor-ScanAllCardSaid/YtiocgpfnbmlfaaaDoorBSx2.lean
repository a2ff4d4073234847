/- Own texts of this claim, one behind the other (wip/prune.py). -/
import Derived.Test.YtiocgpfnbmlfaaaDoorBSx1
import Derived.Test.YtiocgpfnbmlfaaaDoorProg
import Derived.Below
import Derived.Deep.Draws
import Derived.Deep.AppendLies
import Derived.Maps.AppendAt
import Derived.OwnWalk
import Derived.Laws.BytesArg
import Derived.Laws.MakeOwn
import Derived.Laws.OwnMore
import Derived.Deep.OwnRows
import Derived.Tactics
import Derived.Lib.ConvBytes
import Derived.Laws.Slices
import Derived.WalkKit
import Derived.KernelRfl
import Derived.RowKit3
import Derived.Deep.LoopGhost
import Derived.Deep.QuietTactic
import Derived.BigQuiet
import Derived.WideLaws
import Derived.Deep.DeepCutAuto
import Derived.Deep.CutBlock
import Derived.Deep.RegionHeld3
import Derived.Laws.Rows
import Derived.Lib.AppendStr
import Derived.ArgAppend
import Derived.Laws.IdiomCopy
import Derived.OrdersHeld
import Derived.Laws.BitsLemmas
import Derived.RowKit
import Derived.Test.YtiocgpfnbmlfaaaDoorBSx0
import Derived.Test.YtiocgpfnbmlfaaaDoorWWords
import Derived.Test.YtiocgpfnbmlfaaaDoorWLast
import Derived.Test.YtiocgpfnbmlfaaaDoorWEqStruct
import Derived.Test.YtiocgpfnbmlfaaaDoorWRepsOne
import Derived.Test.YtiocgpfnbmlfaaaDoorWGuard
import Derived.Deep.RegionWith

/-! ## RX -/
namespace Go.Proofs.YtiocgpfnbmlfaaaDoor.QT
open Go Go.RowKit Go.Proofs.YtiocgpfnbmlfaaaDoor Go.Proofs.YtiocgpfnbmlfaaaDoor.PT Go.Proofs.YtiocgpfnbmlfaaaDoor.QD Go.Proofs.YtiocgpfnbmlfaaaDoorW.PrintWords Go.Proofs.YtiocgpfnbmlfaaaDoorW.PrintLast

theorem isE_iff (c : UInt8) : ([101, 69] : List UInt8).contains c = IsE c := by
  unfold IsE
  simp only [List.contains_cons, List.contains_nil, Bool.or_false]
theorem noAny_find (r : List UInt8) : ∀ n, n ≤ r.findIdx IsE → Lib.NoAny r [101, 69] n := by
  intro n hn j hj x hx
  obtain ⟨hlt, rfl⟩ := List.getElem?_eq_some_iff.1 hx
  rw [isE_iff]
  have := List.not_of_lt_findIdx (p := IsE) (xs := r) (i := j) (by omega)
  simpa using this
theorem index_find (r : List UInt8) : (r.findIdx IsE < r.length → Lib.indexAny r [101, 69] = (r.findIdx IsE : Nat)) ∧ (r.findIdx IsE = r.length → Lib.indexAny r [101, 69] = -1) := by
  refine ⟨fun h => ?_, fun h => ?_⟩
  · exact Lib.indexAny_hit (noAny_find r _ (Nat.le_refl _)) (List.getElem?_eq_getElem h) (by rw [isE_iff]; exact List.findIdx_getElem)
  · exact Lib.indexAny_none (by rw [← h]; exact noAny_find r _ (Nat.le_refl _))

/-- a text by its sign and the rest -/
theorem sgn_parts (l : List UInt8) : ∃ g : List UInt8, l = g ++ (sgnL l).2 ∧ (∀ c ∈ g, c = 45 ∨ c = 43) ∧ g.length ≤ 1 ∧ ∀ n, sgnL (g ++ (sgnL l).2.take n) = ((sgnL l).1, (sgnL l).2.take n) := by
  match l with
  | [] => exact ⟨[], rfl, by simp, by simp, fun n => by simp [sgnL]⟩
  | b :: t =>
    by_cases h1 : b = 45
    · subst h1
      exact ⟨[45], rfl, by simp, by simp, fun n => by simp [sgnL]⟩
    · by_cases h2 : b = 43
      · subst h2
        exact ⟨[43], rfl, by simp, by simp, fun n => by simp [sgnL]⟩
      · have hs : sgnL (b :: t) = (false, b :: t) := by simp [sgnL, h1, h2]
        refine ⟨[], by rw [hs]; rfl, by simp, by simp, fun n => ?_⟩
        rw [hs, List.nil_append]
        cases n with
        | zero => simp [sgnL]
        | succ n => simp [sgnL, h1, h2]
theorem firstE (l : List UInt8) : FirstE (S l) (l.findIdx IsE) := by
  refine ⟨?_, ?_, ?_⟩
  · intro j h hj
    have := List.not_of_lt_findIdx (p := IsE) (xs := l) (i := j) hj
    have h2 : IsE (l[j]'(by rw [S_size] at h; exact h)) = false := this
    exact h2
  · intro h
    exact List.findIdx_getElem (p := IsE) (xs := l) (w := by rw [S_size] at h; exact h)
  · rw [S_size]; exact List.findIdx_le_length
theorem find_app (g r : List UInt8) (h : ∀ c ∈ g, c = 45 ∨ c = 43) : (g ++ r).findIdx IsE = g.length + r.findIdx IsE := by
  induction g with
  | nil => simp
  | cons c g ih =>
    have hc : IsE c = false := by rcases h c (by simp) with rfl | rfl <;> decide
    rw [List.cons_append, List.findIdx_cons, hc, ih (fun x hx => h x (by simp [hx]))]
    simp; omega

/-! ### sums of bounded numbers -/
theorem plainL_dig (r : List UInt8) : (plainL r).1.all isDig = true ∧ (plainL r).1.length ≤ r.length ∧ (plainL r).2.1 ≤ r.length := by
  have h1 := takeW_all r
  have hr := (List.takeWhile_append_dropWhile (p := isDig) (l := r)).symm
  have hl : r.length = (r.takeWhile isDig).length + (r.dropWhile isDig).length := by rw [← List.length_append, ← hr]
  have hp : ∀ q : List UInt8, (ptL q).2.length ≤ q.length := by
    intro q
    cases q with
    | nil => simp [ptL]
    | cons c q => simp only [ptL]; split <;> simp
  have := hp (r.dropWhile isDig)
  have ht := (List.takeWhile_sublist (p := isDig) (l := (ptL (r.dropWhile isDig)).2)).length_le
  unfold plainL
  split
  · refine ⟨?_, ?_, ?_⟩
    · simp only [List.all_append, h1, takeW_all, Bool.and_self]
    · simp only [List.length_append]; omega
    · simp only; omega
  · exact ⟨h1, by simp only; omega, by simp only; omega⟩
theorem scl_bound (a b : List UInt8) (hb : b.all isDig = true) : -1000000000000 < (sclL a b).1 ∧ (sclL a b).1 < 1000000000000 := by
  unfold sclL
  have := (iterD_ok 17 0 (digsOf b) (digs9 b hb)).2.2
  split
  · simp
  · simp only
    have : (0 + 1) * 2 ^ 17 = 131072 := rfl
    omega

theorem tail_is (m : Bool) (r : List UInt8) (k : Int) :
    TailIs (plainL r).2.2.2 (sclL (aOf (plainL r).1 (((plainL r).2.1 : Int) + k).toNat) (bOf (plainL r).1 (((plainL r).2.1 : Int) + k))).2
      (sgnR (sclL (aOf (plainL r).1 (((plainL r).2.1 : Int) + k).toNat) (bOf (plainL r).1 (((plainL r).2.1 : Int) + k))).1 m).2
      (sgnR (sclL (aOf (plainL r).1 (((plainL r).2.1 : Int) + k).toNat) (bOf (plainL r).1 (((plainL r).2.1 : Int) + k))).1 m).1
      ((realL m r k).1, (realL m r k).2.1, (realL m r k).2.2.1, (realL m r k).2.2.2) := by
  obtain ⟨h1, h2⟩ := plain_mant r
  unfold realL
  rw [h1]
  cases hm : (mantL r).2.2.2 with
  | false => exact .inl ⟨rfl, rfl⟩
  | true =>
    obtain ⟨g1, g2, g3, g4, _⟩ := h2 hm
    rw [g1, g2, if_pos rfl]
    have hD : ((mantL r).1 ++ (mantL r).2.1).all isDig = true := by rw [List.all_append, g3, g4]; rfl
    have hv := val_agree m (shiftL (mantL r).1 (mantL r).2.1 k).1 (shiftL (mantL r).1 (mantL r).2.1 k).2 (aOf_all _ _ hD) (bOf_all _ _ hD)
    change TailIs true (sclL (shiftL (mantL r).1 (mantL r).2.1 k).1 (shiftL (mantL r).1 (mantL r).2.1 k).2).2 (sgnR (sclL (shiftL (mantL r).1 (mantL r).2.1 k).1 (shiftL (mantL r).1 (mantL r).2.1 k).2).1 m).2 (sgnR (sclL (shiftL (mantL r).1 (mantL r).2.1 k).1 (shiftL (mantL r).1 (mantL r).2.1 k).2).1 m).1 _
    generalize sclL (shiftL (mantL r).1 (mantL r).2.1 k).1 (shiftL (mantL r).1 (mantL r).2.1 k).2 = sc at *
    generalize valueL m (shiftL (mantL r).1 (mantL r).2.1 k).1 (shiftL (mantL r).1 (mantL r).2.1 k).2 = vl at *
    obtain ⟨sv, sok⟩ := sc
    obtain ⟨vv, vok⟩ := vl
    cases sok with
    | false =>
      cases vok with
      | false => exact .inr (.inl ⟨rfl, rfl, rfl⟩)
      | true => simp at hv
    | true =>
      simp only [if_true] at hv ⊢
      cases vok with
      | false =>
        simp only [Bool.false_eq_true, if_false] at hv
        rw [← hv]
        exact .inr (.inr (.inl ⟨rfl, rfl, rfl, rfl⟩))
      | true =>
        simp only [if_true] at hv
        rw [← hv]
        exact .inr (.inr (.inr ⟨rfl, rfl, rfl, rfl⟩))

theorem whole_same (l : List UInt8) : (wholeR l).2 = (wholeL l).2 ∧ ((wholeL l).2 = true → (wholeR l).1 = (wholeL l).1) := by
  unfold wholeR wholeL
  by_cases hb : (sgnL l).2 = [] ∨ (sgnL l).2.all isDig = false
  · rw [if_pos hb, if_pos hb]; simp
  · rw [if_neg hb, if_neg hb]
    unfold wholeE fitsB capM
    generalize valD (sgnL l).2 = V
    by_cases hV : 4294967296 < V
    · rw [if_pos hV]
      have hm : ∃ M : Nat, min V 1099511627776 = M ∧ 4294967296 < M := ⟨_, rfl, by omega⟩
      obtain ⟨M, hM, hM2⟩ := hm
      rw [hM]
      have h2 : ((decide (-2147483648 ≤ (if (sgnL l).1 then -(M : Int) else (M : Int))) && decide ((if (sgnL l).1 then -(M : Int) else (M : Int)) ≤ 2147483647))) = false := by
        cases (sgnL l).1
        · simp; omega
        · simp; omega
      simp only [h2]
      simp
    · rw [if_neg hV]
      have hm : min V 1099511627776 = V := by omega
      rw [hm]
      exact ⟨rfl, fun _ => rfl⟩

/-! ### digits, a #, and no number with a base -/
theorem cut1_mem (x : List UInt8) (c : UInt8) (hc : c ≠ 46) (h : c ∈ x) : c ∈ (cut1 46 x).1 ∨ c ∈ (cut1 46 x).2.1 := by
  induction x with
  | nil => cases h
  | cons b x ih =>
    rw [cut1]
    by_cases hb : b = 46
    · rw [if_pos hb]
      rcases List.mem_cons.1 h with e | e
      · exact absurd (e.trans hb) hc
      · exact .inr e
    · rw [if_neg hb]
      rcases List.mem_cons.1 h with e | e
      · exact .inl (by rw [e]; simp)
      · rcases ih e with h1 | h1
        · exact .inl (List.mem_cons_of_mem _ h1)
        · exact .inr h1
theorem mant_no (x : List UInt8) (c : UInt8) (hc : c ≠ 46) (hd : isDig c = false) (h : c ∈ x) : (mantL x).2.2.2 = false := by
  have hall : ∀ l : List UInt8, c ∈ l → l.all isDig = false := by
    intro l hl
    rw [List.all_eq_false]
    exact ⟨c, hl, by rw [hd]; decide⟩
  unfold mantL
  rcases cut1_mem x c hc h with h1 | h1
  · simp only [hall _ h1, Bool.false_and]
  · simp only [hall _ h1, Bool.false_and, Bool.and_false]
theorem real_no (m : Bool) (x : List UInt8) (k : Int) (h : (mantL x).2.2.2 = false) : realL m x k = (0, 0, false, 0) := by
  unfold realL
  rw [h, if_neg Bool.false_ne_true]
theorem sgn_dig (c : UInt8) (t : List UInt8) (h : isDig c = true) : sgnL (c :: t) = (false, c :: t) := by
  have := (isDig_iff c).1 h
  have h1 : c ≠ 45 := fun e => by rw [e] at this; revert this; decide
  have h2 : c ≠ 43 := fun e => by rw [e] at this; revert this; decide
  simp [sgnL, h1, h2]
theorem dig_notE (c : UInt8) (h : isDig c = true) : IsE c = false := by
  have := (isDig_iff c).1 h
  have h1 : c ≠ 101 := fun e => by rw [e] at this; revert this; decide
  have h2 : c ≠ 69 := fun e => by rw [e] at this; revert this; decide
  simp [IsE, h1, h2]
theorem find_dig (h r : List UInt8) (hd : h.all isDig = true) : (h ++ r).findIdx IsE = h.length + r.findIdx IsE := by
  induction h with
  | nil => simp
  | cons c g ih =>
    simp only [List.all_cons, Bool.and_eq_true] at hd
    rw [List.cons_append, List.findIdx_cons, dig_notE c hd.1, ih hd.2]
    simp; omega
theorem tok_norad (l h r : List UInt8) (hl : l = h ++ 35 :: r) (hs : ¬ 64 < l.length) (hd : h.all isDig = true) (h0 : h ≠ []) (hno : (radixL l).2.2.1 = false) : tokL l = (0, 0, false, 0) := by
  have hsg : sgnL l = (false, l) := by
    obtain ⟨c, t, rfl⟩ := List.exists_cons_of_ne_nil h0
    simp only [List.all_cons, Bool.and_eq_true] at hd
    rw [hl, List.cons_append, sgn_dig c _ hd.1]
  have h35 : isDig 35 = false := by decide
  have hmem : (35 : UInt8) ∈ l := by rw [hl]; simp
  have hw : (wholeL l).2 = false := by
    unfold wholeL
    rw [hsg, if_pos (.inr (by rw [List.all_eq_false]; exact ⟨35, hmem, by decide⟩))]
  unfold tokL
  rw [if_neg hs, hno, hw, hsg]
  simp only [Bool.false_eq_true, if_false]
  obtain ⟨f1, f2⟩ := index_find l
  have hfl : l.findIdx IsE ≤ l.length := List.findIdx_le_length
  have hfi : h.length + 1 ≤ l.findIdx IsE := by
    rw [hl, find_dig h _ hd, List.findIdx_cons, show IsE 35 = false from rfl]
    simp
  by_cases hlt : l.findIdx IsE < l.length
  · have he : expL l = (l.take (l.findIdx IsE), (powL (l.drop (l.findIdx IsE + 1))).1, (powL (l.drop (l.findIdx IsE + 1))).2) := by
      unfold expL
      rw [f1 hlt, if_neg (by omega), Int.toNat_natCast]
    rw [he]
    split
    · refine real_no _ _ _ (mant_no _ 35 (by decide) (by decide) ?_)
      rw [hl] at hfi ⊢
      rw [List.take_append, List.take_of_length_le (by omega)]
      refine List.mem_append_right _ ?_
      obtain ⟨n, hn⟩ : ∃ n, List.findIdx IsE (h ++ 35 :: r) - h.length = n + 1 := ⟨List.findIdx IsE (h ++ 35 :: r) - h.length - 1, by omega⟩
      rw [hn, List.take_succ_cons]
      exact List.mem_cons_self
    · rfl
  · have he : expL l = (l, 0, true) := by
      unfold expL
      rw [f2 (by omega), if_pos (by omega)]
    rw [he]
    simp only [if_true]
    exact real_no _ _ _ (mant_no _ 35 (by decide) (by decide) hmem)
theorem cut35 (h r : List UInt8) (hd : h.all isDig = true) : cut1 35 (h ++ 35 :: r) = (h, r, true) := by
  induction h with
  | nil => simp [cut1]
  | cons c a ih =>
    simp only [List.all_cons, Bool.and_eq_true] at hd
    have hc : c ≠ 35 := fun e => by have h1 := hd.1; rw [e] at h1; revert h1; decide
    rw [List.cons_append, cut1, if_neg hc, ih hd.2]
theorem rad_end (base : Nat) (r : List UInt8) : (radTail base r).2.2.1 = true ∨ radTail base r = (0, 0, false, 0) := by
  unfold radTail radEnd
  split
  · exact .inr rfl
  · split <;> exact .inl rfl
theorem tok_rad (l h r : List UInt8) (hl : l = h ++ 35 :: r) (hs : ¬ 64 < l.length) (hd : h.all isDig = true) (h0 : h ≠ []) (h2 : h.length ≤ 2) (hr : r ≠ []) : tokL l = radTail (valD h) r := by
  have hrad : radixL l = radTail (valD h) r := by
    unfold radixL
    rw [hl, cut35 h r hd]
    refine if_neg ?_
    rintro (e | e | e | e | e)
    · cases e
    · exact h0 e
    · simp only at e; omega
    · rw [hd] at e; cases e
    · exact hr e
  rcases rad_end (valD h) r with e | e
  · unfold tokL
    rw [if_neg hs, hrad, if_pos e, ← e]
  · rw [e]
    exact tok_norad l h r hl hs hd h0 (by rw [hrad, e])
/-- where the reference reads no number with a base, the program reads none -/
theorem no_rad (l : List UInt8) (hno : ¬ (1 ≤ (l.takeWhile isDig).length ∧ (l.takeWhile isDig).length ≤ 2 ∧ (l.takeWhile isDig).length + 1 < l.length ∧ l[(l.takeWhile isDig).length]? = some 35)) : (radixL l).2.2.1 = false := by
  rcases radix_cases l with ⟨_, h⟩ | ⟨_, _, h⟩ | ⟨_, _, _, _, h⟩ | ⟨h1, h2, h3, h4, h5, h⟩
  · rw [h]
  · rw [h]
  · rw [h]
  · exfalso
    have hsplit : l = (cut1 35 l).1 ++ 35 :: (cut1 35 l).2.1 := by
      clear hno h h2 h3 h4 h5
      induction l with
      | nil => simp [cut1] at h1
      | cons c l ih =>
        rw [cut1] at h1 ⊢
        by_cases hc : c = 35
        · rw [if_pos hc]; simp [hc]
        · rw [if_neg hc] at h1 ⊢
          simp only at h1 ⊢
          rw [List.cons_append, ← ih h1]
    generalize (cut1 35 l).1 = a at *
    generalize (cut1 35 l).2.1 = b at *
    have ht : l.takeWhile isDig = a := by
      rw [hsplit, List.takeWhile_append_of_pos (fun x hx => List.all_eq_true.1 h4 x hx), List.takeWhile_cons, if_neg (by decide), List.append_nil]
    have hbl := List.length_pos_iff.2 h5
    have hal := List.length_pos_iff.2 h2
    refine hno ?_
    rw [ht]
    refine ⟨by omega, by omega, ?_, ?_⟩
    · rw [hsplit]; simp; omega
    · rw [hsplit]; simp

theorem digits_call (l : List UInt8) (n : Nat) (hl : l.length ≤ 100) (hn : (l.takeWhile isDig).length = n) (w : World) :
    Calls Tryd.prog 43 #[.string (S l)] w fun e w' => e = .returned (.int .i64 (n : Int)) ∧ Below w.heap.size w w' := by
  refine (QE.Digits_any (S l) n (by rw [S_size]; omega) (by rw [S_data]; exact hn) w).mono ?_
  rintro e w' ⟨he, hd⟩
  exact ⟨he, hd.below⟩
theorem plain_call (l : List UInt8) (m : Bool) (r : List UInt8) (hl : l.length ≤ 100) (hs : sgnL l = (m, r)) (w : World) :
    Calls Tryd.prog 35 #[.string (S l)] w fun e w' =>
      e = .returned (.tuple #[.bool m, .string (S (plainL r).1), .int .i64 ((plainL r).2.1 : Int), .bool (plainL r).2.2.1, .bool (plainL r).2.2.2]) ∧ Below w.heap.size w w' := by
  refine (QE.plain_any l (by omega) w).mono ?_
  rintro e w' ⟨he, hd⟩
  rw [hs] at he
  exact ⟨he, hd.below⟩

theorem refTok_any (l : List UInt8) (w : World) : Calls Tryd.prog 18 #[.string (S l)] w (RQ (tokL l).1 (tokL l).2.1 (tokL l).2.2.1 (tokL l).2.2.2 w) := by
  by_cases hlong : 64 < l.length
  · rw [show tokL l = (0, 0, false, 0) from by unfold tokL; rw [if_pos hlong]]
    exact rt_long (S l) w (by rw [S_size]; exact hlong)
  have hs : (S l).size ≤ 64 := by rw [S_size]; omega
  have hsplit := (List.takeWhile_append_dropWhile (p := isDig) (l := l)).symm
  have hD := digits_call l _ (by omega) rfl
  have hal : (l.takeWhile isDig).length ≤ l.length := (List.takeWhile_sublist _).length_le
  by_cases hrad : 1 ≤ (l.takeWhile isDig).length ∧ (l.takeWhile isDig).length ≤ 2 ∧ (l.takeWhile isDig).length + 1 < l.length ∧ l[(l.takeWhile isDig).length]? = some 35
  · -- a base
    obtain ⟨h1, h2, h3, h4⟩ := hrad
    have hall := takeW_all l
    generalize hh : l.takeWhile isDig = h at *
    have hlr : l = h ++ 35 :: l.drop (h.length + 1) := by
      have hlt : h.length < l.length := by omega
      have e1 : l.drop h.length = 35 :: l.drop (h.length + 1) := by
        rw [List.drop_eq_getElem_cons hlt]
        congr 1
        rw [List.getElem?_eq_getElem hlt] at h4
        exact Option.some.inj h4
      have e2 : l.take h.length = h := by
        have := (QE.split_at l).2.1
        rw [hh] at this
        exact this
      rw [← e1, ← e2, List.length_take, Nat.min_eq_left (by omega), List.take_append_drop]
    have hne : h ≠ [] := fun e => by rw [e] at h1; simp at h1
    have hrn : l.drop (h.length + 1) ≠ [] := fun e => by
      have := congrArg List.length e
      simp at this; omega
    have htok := tok_rad l h _ hlr hlong hall hne h2 hrn
    have hrl : (l.drop (h.length + 1)).length + (h.length + 1) = (S l).size := by rw [S_size, List.length_drop]; omega
    have hdig : ∀ j (hj : j < h.length), ∃ c : UInt8, l[j]? = some c ∧ h[j] = c ∧ 48 ≤ c.toNat ∧ c.toNat ≤ 57 := by
      intro j hj
      refine ⟨h[j], ?_, rfl, (isDig_iff _).1 (List.all_eq_true.1 hall _ (List.getElem_mem hj))⟩
      rw [hlr, List.getElem?_append_left hj, List.getElem?_eq_getElem hj]
    have hget : ∀ j (hj : j < (S l).size) c, l[j]? = some c → (S l)[j]'hj = c := by
      intro j hj c hc
      have hj' : j < l.length := by rw [S_size] at hj; exact hj
      rw [List.getElem?_eq_getElem hj'] at hc
      exact Option.some.inj hc
    obtain ⟨c0, g1, g2, g3, g4⟩ := hdig 0 (by omega)
    have hrs : ∀ j, j < (l.drop (h.length + 1)).length → ∀ hb : h.length + 1 + j < (S l).size, ((S l)[h.length + 1 + j]'hb) = (l.drop (h.length + 1)).getD j 0 := by
      intro j hj hb
      refine hget _ _ _ ?_
      rw [List.getD, List.getElem?_drop, List.getElem?_eq_getElem (by rw [S_size] at hb; exact hb)]
      rfl
    have hbase : (h.length = 1 ∧ valD h = c0.toNat - 48) ∨ (h.length = 2 ∧ ∃ (hb : 1 < (S l).size) (c1 : UInt8) (b1 : Nat), ((S l)[1]'hb) = c1 ∧ ((c1.toNat : Int) - 48) % 256 = (b1 : Int) ∧ b1 ≤ 9 ∧ valD h = 10 * (c0.toNat - 48) + b1) := by
      match h, h1, h2, hdig, g2 with
      | [x], _, _, _, g2 =>
        left
        simp only [List.getElem_cons_zero] at g2
        exact ⟨rfl, by rw [g2]; simp [valD]⟩
      | [x, y], _, _, hdig, g2 =>
        right
        simp only [List.getElem_cons_zero] at g2
        obtain ⟨c1, k1, k2, k3, k4⟩ := hdig 1 (by simp)
        simp only [List.getElem_cons_succ, List.getElem_cons_zero] at k2
        exact ⟨rfl, by rw [S_size]; simp at h3; omega, c1, c1.toNat - 48, hget _ _ _ k1, by omega, by omega, by rw [g2, k2]; simp [valD]⟩
    rw [htok]
    exact rt_radix (S l) w hs h.length h1 h2 hD (by rw [S_size]; exact h3) (by rw [S_size]; omega) (hget _ _ _ h4) (by rw [S_size]; omega) c0 (hget _ _ _ g1) (c0.toNat - 48) (valD h) (by omega) (by omega) hbase
      (l.drop (h.length + 1)) hrl hrs _ _ _ _ rfl
  · have hno : NoRad (S l) (l.takeWhile isDig).length := by
      unfold NoRad
      by_cases e1 : (l.takeWhile isDig).length < 1
      · exact .inl e1
      by_cases e2 : 2 < (l.takeWhile isDig).length
      · exact .inr (.inl e2)
      by_cases e3 : (S l).size ≤ (l.takeWhile isDig).length + 1
      · exact .inr (.inr (.inl ⟨by omega, by omega, e3⟩))
      rw [S_size] at e3
      refine .inr (.inr (.inr ⟨by omega, by omega, by rw [S_size]; omega, by rw [S_size]; omega, ?_⟩))
      refine beq_eq_false_iff_ne.2 fun e => hrad ⟨by omega, by omega, by omega, ?_⟩
      have hlt : (l.takeWhile isDig).length < l.length := by omega
      rw [List.getElem?_eq_getElem hlt]
      congr 1
      exact UInt8.toNat_inj.1 (by have h2 : ((l[(l.takeWhile isDig).length]'hlt).toNat : Int) = 35 := e; show _ = 35; omega)
    have hnr := no_rad l hrad
    have hW := whole_call l (by omega)
    obtain ⟨hw1, hw2⟩ := whole_same l
    have htok : tokL l = if (wholeL l).2 = true then (1, (wholeL l).1, true, 0)
        else if (expL (sgnL l).2).2.2 = true then realL (sgnL l).1 (expL (sgnL l).2).1 (expL (sgnL l).2).2.1 else (0, 0, false, 0) := by
      unfold tokL; rw [if_neg hlong, hnr, if_neg Bool.false_ne_true]
    rw [htok]
    clear hrad htok
    cases hokw : (wholeL l).2 with
    | true =>
      rw [hw2 hokw, hw1, hokw] at hW
      exact rt_whole (S l) w hs _ (by omega) hD hno _ hW
    | false =>
    rw [hw1, hokw] at hW
    rw [if_neg Bool.false_ne_true]
    -- the e
    obtain ⟨g, hg1, hg2, hg3, hg4⟩ := sgn_parts l
    have hE := firstE l
    obtain ⟨f1, f2⟩ := index_find (sgnL l).2
    have hlr : l.length = g.length + (sgnL l).2.length := by rw [← List.length_append, ← hg1]
    have hfind : l.findIdx IsE = g.length + (sgnL l).2.findIdx IsE := (congrArg (List.findIdx IsE) hg1).trans (find_app g _ hg2)
    have hfl : (sgnL l).2.findIdx IsE ≤ (sgnL l).2.length := List.findIdx_le_length
    generalize (wholeR l).1 = nw at hW
    generalize hm : (sgnL l).1 = m at *
    generalize hr : (sgnL l).2 = r at *
    generalize hj : r.findIdx IsE = j at *
    have hslm : sgnL l = (m, r) := by rw [← hm, ← hr]
    by_cases hje : j = r.length
    · -- none
      have he : expL r = (r, 0, true) := by
        unfold expL
        rw [f2 hje, if_pos (by omega)]
      rw [he, if_pos rfl]
      obtain ⟨p1, p2, p3⟩ := plainL_dig r
      have hP := plain_call l m r (by omega) hslm
      have hx : (S l).extract 0 (l.findIdx IsE) = S l := by rw [S_to, List.take_of_length_le (by omega)]
      have hSc := scaled_call (plainL r).1 ((plainL r).2.1 : Int) p1 (by omega) (by omega) (by omega)
      have hBall : (bOf (plainL r).1 ((plainL r).2.1 : Int)).all isDig = true := bOf_all _ _ p1
      obtain ⟨b1, b2⟩ := scl_bound (aOf (plainL r).1 ((plainL r).2.1 : Int).toNat) _ hBall
      have hSg := signed_call (sclL (aOf (plainL r).1 ((plainL r).2.1 : Int).toNat) (bOf (plainL r).1 ((plainL r).2.1 : Int))).1 m b1 b2
      have hT := tail_is m r 0
      rw [Int.add_zero] at hT
      exact rt_noexp (S l) w hs _ (by omega) hD hno nw hW _ hE (S l) _ hx m _ _ _ (by omega) (by omega) hP _ _ _ _ hSc hSg _ _ _ _ hT (by rw [S_size]; omega)
    · have hjlt : j < r.length := by omega
      have he : expL r = (r.take j, (powL (r.drop (j + 1))).1, (powL (r.drop (j + 1))).2) := by
        unfold expL
        rw [f1 hjlt, if_neg (by omega), Int.toNat_natCast]
      rw [he]
      have hp : (S l).extract (l.findIdx IsE + 1) (S l).size = S (r.drop (j + 1)) := by
        rw [S_from, hfind]
        conv => lhs; rw [hg1]
        rw [show g.length + j + 1 = g.length + (j + 1) from by omega, List.drop_append, List.drop_eq_nil_of_le (by omega), Nat.add_sub_cancel_left]
        rfl
      have hx : (S l).extract 0 (l.findIdx IsE) = S (g ++ r.take j) := by
        rw [S_to, hfind]
        conv => lhs; rw [hg1]
        rw [List.take_append, List.take_of_length_le (by omega), Nat.add_sub_cancel_left]
      have hil : l.findIdx IsE < (S l).size := by rw [S_size]; omega
      have hsgn : ∃ sg : Bool, SignAt (S (r.drop (j + 1))) (S (sgnL (r.drop (j + 1))).2) (sgnL (r.drop (j + 1))).1 sg := by
        rcases QE.signIs (r.drop (j + 1)) with ⟨h1, h2, h3⟩ | ⟨h1, h2, h3, h4⟩ | ⟨h1, h2, h3, h4⟩ | ⟨h1, x, h2, h3, h4, h5, h6⟩
        · exact ⟨false, .inl ⟨h1, h2, h3, rfl⟩⟩
        · exact ⟨true, .inr (.inl ⟨h1, h2, h3, h4, rfl⟩)⟩
        · exact ⟨true, .inr (.inr (.inl ⟨h1, h2, h3, h4, rfl⟩))⟩
        · exact ⟨false, .inr (.inr (.inr ⟨h1, x, h2, h3, h4, h5, h6, rfl⟩))⟩
      obtain ⟨sg, hsg⟩ := hsgn
      have hql := sgnL_len (r.drop (j + 1))
      rw [List.length_drop] at hql
      obtain ⟨k1, k2⟩ := powL_bound (r.drop (j + 1))
      have hpc := powL_cases (r.drop (j + 1))
      generalize r.drop (j + 1) = p at *
      generalize hq : (sgnL p).2 = q at *
      generalize (sgnL p).1 = mp at *
      have hQ := digits_call q _ (by omega) rfl
      rcases hpc with ⟨hbad, hpw⟩ | ⟨⟨c1, c2, c3⟩, hpw⟩
      · rw [hpw, if_neg Bool.false_ne_true]
        refine rt_badexp (S l) w hs _ (by omega) hD hno nw hW _ (S p) (S q) mp sg hil hp hsg hE _ hQ ?_
        rw [S_size]
        rcases hbad with e | ⟨e1, e2⟩ | ⟨e1, e2, e3⟩
        · exact .inl (by rw [e]; simp)
        · exact .inr (.inl ⟨List.length_pos_iff.2 e1, e2⟩)
        · refine .inr (.inr ⟨List.length_pos_iff.2 e1, e2, fun e => ?_⟩)
          have hw : q.takeWhile isDig = q := List.IsPrefix.eq_of_length (List.takeWhile_prefix _) (by omega)
          have := takeW_all q
          rw [hw, e3] at this
          cases this
      · rw [hpw, if_pos rfl]
        rw [hpw] at k1 k2
        rw [takeW_id q c3] at hQ
        simp only at k1 k2
        have hsl : sgnL (g ++ r.take j) = (m, r.take j) := hg4 j
        have htl : (r.take j).length ≤ 64 := by rw [List.length_take]; omega
        have hP := plain_call (g ++ r.take j) m (r.take j) (by rw [List.length_append, List.length_take]; omega) hsl
        obtain ⟨p1, p2, p3⟩ := plainL_dig (r.take j)
        generalize hpv : (if mp = true then -(valD q : Int) else (valD q : Int)) = pw at *
        have hT := tail_is m (r.take j) pw
        have hSc := scaled_call (plainL (r.take j)).1 (((plainL (r.take j)).2.1 : Int) + pw) p1 (by omega) (by omega) (by omega)
        have hBall : (bOf (plainL (r.take j)).1 (((plainL (r.take j)).2.1 : Int) + pw)).all isDig = true := bOf_all _ _ p1
        obtain ⟨b1, b2⟩ := scl_bound (aOf (plainL (r.take j)).1 (((plainL (r.take j)).2.1 : Int) + pw).toNat) _ hBall
        have hSg := signed_call (sclL (aOf (plainL (r.take j)).1 (((plainL (r.take j)).2.1 : Int) + pw).toNat) (bOf (plainL (r.take j)).1 (((plainL (r.take j)).2.1 : Int) + pw))).1 m b1 b2
        exact rt_exp (S l) w hs _ (by omega) hD hno nw hW _ hE (S (g ++ r.take j)) _ hx m _ _ _ pw (by omega) (by omega) hP k1 k2 _ _ _ _ hSc hSg _ _ _ _ hT hil (S p) (S q) mp sg hp hsg (by rw [S_size]; exact hQ) (by rw [S_size]; exact List.length_pos_iff.2 c1) (by rw [S_size]; exact c2) (by rw [S_data]; exact c3) (by rw [S_data]; exact hpv)

end Go.Proofs.YtiocgpfnbmlfaaaDoor.QT
namespace Go.Proofs.YtiocgpfnbmlfaaaDoor
open Go Go.RowKit Go.Proofs.YtiocgpfnbmlfaaaDoorW.PrintWords

def mezzotintref01_Token.f (a0 : ByteArray) : Option (Int × Int × ByteArray × Bool × Int) :=
  some ((QD.tokL a0.data.toList).1, (QD.tokL a0.data.toList).2.1, ⟨#[]⟩, (QD.tokL a0.data.toList).2.2.1, (QD.tokL a0.data.toList).2.2.2)
theorem mezzotintref01_Token.calls (a0 : ByteArray) (r1 r2 : Int) (r3 : ByteArray) (r4 : Bool) (r5 : Int) (w : World) (h : mezzotintref01_Token.f a0 = some (r1, r2, r3, r4, r5)) :
    Calls Tryd.prog 18 #[.string a0] w fun e w' => e = .returned (.tuple #[.agg #[.int .i64 r1, .int .i64 r2, .string r3], .bool r4, .int .i64 r5]) ∧ Below w.heap.size w w' := by
  unfold mezzotintref01_Token.f at h
  simp only [Option.some.injEq, Prod.mk.injEq] at h
  obtain ⟨rfl, rfl, rfl, rfl, rfl⟩ := h
  have := QT.refTok_any a0.data.toList w
  rw [← QD.S_of] at this
  exact this

end Go.Proofs.YtiocgpfnbmlfaaaDoor

/-! ## PS1x0 -/
namespace Go.Proofs.YtiocgpfnbmlfaaaDoor.PS1
open Go.RowKit Go.Proofs.YtiocgpfnbmlfaaaDoorW.PrintWords Go.Proofs.YtiocgpfnbmlfaaaDoorW.PrintLast Go.Proofs.YtiocgpfnbmlfaaaDoorW.PrintMore
attribute [local go_sem] max2_int min2_int max_two min_two max_three min_three max_four min_four   -- for this text's walks alone
set_option linter.unusedVariables false
set_option linter.unusedSimpArgs false



def errW : Option Int → Value
 | none => .nilIface
 | some c => .iface 0 (.int .i64 c)
theorem errW_none : errW none = .nilIface := rfl
theorem errW_some (c : Int) : errW (some c) = .iface 0 (.int .i64 c) := rfl

-- the values' own types

end Go.Proofs.YtiocgpfnbmlfaaaDoor.PS1

/-! ## PS1x1 -/
namespace Go.Proofs.YtiocgpfnbmlfaaaDoor.PS1
open Go.RowKit Go.Proofs.YtiocgpfnbmlfaaaDoorW.PrintWords Go.Proofs.YtiocgpfnbmlfaaaDoorW.PrintLast Go.Proofs.YtiocgpfnbmlfaaaDoorW.PrintMore
attribute [local go_sem] max2_int min2_int max_two min_two max_three min_three max_four min_four   -- for this text's walks alone
set_option linter.unusedVariables false
set_option linter.unusedSimpArgs false

/-- A state of type 71 at block g of W; what its slices lead to came in by w0. -/
def IsS71 (w0 W : World) (g : Nat) (f0 : List Int) (f1 : Int) : Prop := ∃ A0 c0, W.heap[g]? = some (.cells #[.slice A0 f0.length c0, .int .i64 f1] 71 (0, 0)) ∧ w0.heap.size ≤ g ∧ Kd.C (Kd.int .u8) w0 A0 f0.length f0
theorem IsS71.grown {w0 W : World} {g : Nat} {f0 : List Int} {f1 : Int} {W1 : World} {row : Option Nat} (h : IsS71 w0 W g f0 f1) (hw : W.grownBy W1 row) (hne : some g ≠ row) : IsS71 w0 W1 g f0 f1 := by
 obtain ⟨A0, c0, hb, hg, hr0⟩ := h
 exact ⟨A0, c0, blk_grown hb hw hne, hg, hr0⟩
theorem IsS71.fresh {w0 W : World} {g : Nat} {f0 : List Int} {f1 : Int} (h : IsS71 w0 W g f0 f1) : ∀ k, W.heap.size ≤ k → k ≠ g := by
 obtain ⟨A0, c0, hb, hg, hr0⟩ := h
 exact Kd.freshB hb
theorem IsS71.below {w0 W : World} {g : Nat} {f0 : List Int} {f1 : Int} {W1 : World} (h : IsS71 w0 W g f0 f1) (hw : Below W.heap.size W W1) : IsS71 w0 W1 g f0 f1 := h.grown (grown_of_below hw none) (by simp)
theorem IsS71.alloc {w0 W : World} {g : Nat} {f0 : List Int} {f1 : Int} (h : IsS71 w0 W g f0 f1) (o : Obj) : IsS71 w0 (W.alloc o) g f0 f1 := h.below (below_alloc (Below.refl _ _) o)
theorem IsS71.drewN {w0 W : World} {g : Nat} {f0 : List Int} {f1 : Int} (h : IsS71 w0 W g f0 f1) (m : Nat) : IsS71 w0 (W.drewN m) g f0 f1 := h
theorem IsS71.drew {w0 W : World} {g : Nat} {f0 : List Int} {f1 : Int} (h : IsS71 w0 W g f0 f1) : IsS71 w0 W.drew g f0 f1 := h
theorem IsS71.at_ {w0 W : World} {g : Nat} {f0 : List Int} {f1 : Int} {w' : World} {m : Nat} (hq : W.drewN m = w') (h : IsS71 w0 W g f0 f1) : IsS71 w0 w' g f0 f1 := by subst hq; exact IsS71.drewN h m
theorem IsS71.apart {w0 W : World} {g : Nat} {f0 : List Int} {f1 : Int} {α : Type} {d : Kd α} {e : Nat} {base : Nat} {ok : Nat → Prop} {v : Value} {xs : List α} (h : IsS71 w0 W g f0 f1) (ho : d.R e W base ok v xs) (ht : ∀ q, q ∈ e :: d.E → q ≠ 71) : d.R e W base (fun k => ok k ∧ k ≠ g) v xs := by
 obtain ⟨A0, c0, hb, hg, hr0⟩ := h
 exact Kd.R_types ho hb ht
theorem IsS71.own_ne {w0 W : World} {g : Nat} {f0 : List Int} {f1 : Int} {α : Type} {d : Kd α} {e : Nat} {base : Nat} {ok : Nat → Prop} {v : Value} {xs : List α} (h : IsS71 w0 W g f0 f1) (ho : d.R e W base ok v xs) (ht : e ≠ 71) : some g ≠ v.ownBlock := by
 obtain ⟨A0, c0, hb, hg, hr0⟩ := h
 exact Kd.R_ne ho hb ht
theorem IsS71.apartQ {w0 W : World} {g : Nat} {f0 : List Int} {f1 : Int} {α : Type} {d : Kd α} {e : Nat} {base : Nat} {ok : Nat → Prop} {v : Value} {xs : List α} (h : IsS71 w0 W g f0 f1) (ho : d.Q e W base ok v xs) (ht : ∀ q, q ∈ e :: d.E → q ≠ 71) : d.Q e W base (fun k => ok k ∧ k ≠ g) v xs := by
 obtain ⟨A0, c0, hb, hg, hr0⟩ := h
 exact Kd.Q_types ho hb ht
theorem IsS71.own_neQ {w0 W : World} {g : Nat} {f0 : List Int} {f1 : Int} {α : Type} {d : Kd α} {e : Nat} {base : Nat} {ok : Nat → Prop} {v : Value} {xs : List α} (h : IsS71 w0 W g f0 f1) (ho : d.Q e W base ok v xs) (ht : e ≠ 71) : some g ≠ v.ownBlock := by
 obtain ⟨A0, c0, hb, hg, hr0⟩ := h
 exact Kd.Q_ne ho hb ht
theorem IsS71.lt {w0 W : World} {g : Nat} {f0 : List Int} {f1 : Int} (h : IsS71 w0 W g f0 f1) : g < W.heap.size := by
 obtain ⟨A0, c0, hb, hg, hr0⟩ := h
 exact blk_lt hb
theorem IsS71.ge {w0 W : World} {g : Nat} {f0 : List Int} {f1 : Int} (h : IsS71 w0 W g f0 f1) : w0.heap.size ≤ g := by
 obtain ⟨A0, c0, hb, hg, hr0⟩ := h
 exact hg
theorem IsS71.ne_blk {w0 W : World} {g : Nat} {f0 : List Int} {f1 : Int} {a : Nat} {cs : Array Value} {t : TypeId} {fr : Nat × Nat} (h : IsS71 w0 W g f0 f1) (hb2 : W.heap[a]? = some (.cells cs t fr)) (ht : t ≠ 71) : g ≠ a := by
 obtain ⟨A0, c0, hb, hg, hr0⟩ := h
 rintro rfl
 rw [hb] at hb2
 injection hb2 with hb2
 injection hb2 with _ ht2
 exact ht ht2.symm
theorem IsS71.far {w0 W : World} {g : Nat} {f0 : List Int} {f1 : Int} {p : Addr} (h : IsS71 w0 W g f0 f1) (hne : g ≠ p.block) (u : Value) : IsS71 w0 (W.setCell p u) g f0 f1 := by
 obtain ⟨A0, c0, hb, hg, hr0⟩ := h
 exact ⟨A0, c0, blk_far hb hne u, hg, hr0⟩
theorem cellS71_0 {W : World} {g : Nat} {A0 : Option Addr} {c0 : Nat} {f0 : List Int} {f1 : Int} (h : W.heap[g]? = some (.cells #[.slice A0 f0.length c0, .int .i64 f1] 71 (0, 0))) : W.cell? ⟨g, 0, none⟩ = some (.slice A0 f0.length c0) := (blk_cell h 0).trans rfl
theorem cellS71_1 {W : World} {g : Nat} {A0 : Option Addr} {c0 : Nat} {f0 : List Int} {f1 : Int} (h : W.heap[g]? = some (.cells #[.slice A0 f0.length c0, .int .i64 f1] 71 (0, 0))) : W.cell? ⟨g, 1, none⟩ = some (.int .i64 f1) := (blk_cell h 1).trans rfl
theorem IsS71.set_1 {w0 W : World} {g : Nat} {f0 : List Int} {f1 : Int} (h : IsS71 w0 W g f0 f1) (x : Int) : IsS71 w0 (W.setCell ⟨g, 1, none⟩ (.int .i64 x)) g f0 x := by
 obtain ⟨A0, c0, hb, hg, hr0⟩ := h
 exact ⟨A0, c0, by simpa using blk_set hb 1 (.int .i64 x), hg, hr0⟩
theorem IsS71.new (w0 W : World) (A0 : Option Addr) (c0 : Nat) (f0 : List Int) (f1 : Int) (hB : Below w0.heap.size w0 W) (hr0 : Kd.C (Kd.int .u8) w0 A0 f0.length f0) : IsS71 w0 (W.alloc (.cells #[.slice A0 f0.length c0, .int .i64 f1] 71)) W.heap.size f0 f1 := ⟨A0, c0, by simpa using heap_alloc_new W _, hB.size, hr0⟩

/-! ### scan_reader_more: function 76 -/
def scan_reader_more.f (s0_0 : List Int) (s0_1 : Int) : Option (Bool × Int) := some (decide (s0_1 < (s0_0.length : Int)), s0_1)

-- given: function 90 (strings_IndexByte)

/-! ### scan_blank: function 99 -/
def scan_blank.f (a0 : Int) : Option (Bool) := (strings_IndexByte.f (⟨#[0, 9, 10, 12, 13, 32]⟩ : ByteArray) a0).bind fun t101 => (some (decide (t101 ≥ 0)))
set_option maxHeartbeats 8000000 in
set_option maxRecDepth 100000 in
theorem scan_blank.calls (a0 : Int) (r : Bool) (w : World) (h : scan_blank.f a0 = some r) :
  Calls Tryd.prog 99 #[.int .u8 a0] w fun e w' => e = .returned (.bool r) ∧ Drawn0 w w' := by
 have H : ((strings_IndexByte.f (⟨#[0, 9, 10, 12, 13, 32]⟩ : ByteArray) a0).bind fun t101 => (some (decide (t101 ≥ 0)))) = some r := h
 clear h
 replace H := Option.bind_eq_some_iff.mp H
 obtain ⟨t101, A20, H⟩ := H
 replace H : (some (decide (t101 ≥ 0))) = some r := H
 have A2 := Aside0.mk A20
 clear A20
 obtain rfl := Option.some.inj H
 go_enter Tryd.func99, Tryd.ntmps99
 go_wp2_with (first | ((with_reducible refine gate_callee (f := 90) rfl ?_); refine goesL_ (some 4) rfl rfl Tryd.func90 (by kernel_rfl) rfl #[.string (⟨#[0, 9, 10, 12, 13, 32]⟩ : ByteArray), .int .u8 a0] rfl (by (try simp only [List.map_toArray, List.map_cons, List.map_nil]); first | done | rfl | (simp only [List.length_drop, List.length_take]; rfl)) ?_; (with_reducible refine (strings_IndexByte.calls (⟨#[0, 9, 10, 12, 13, 32]⟩ : ByteArray) a0 t101 _ A2.out).mono ?_); rintro e w' ⟨rfl, ⟨nd, rfl⟩⟩; refine ⟨_, rfl, ?_⟩))
 go_ret
 exact ⟨by first | rfl | (simp; done) | (simp [*]; done), by repeat (first | exact Drawn0.refl _ | apply Drawn0.step)⟩

/-- THE ONE PURE STATEMENT of scan_blank: yours. -/
def scan_blank.Pure : Prop := ∀ (a0 : Int), (Lit.int .u8 a0).wf = true → scan_blank.f a0 = some true
theorem scan_blank.walk (P : scan_blank.Pure) (a0 : Int) (w : World) (w0 : (Lit.int .u8 a0).wf = true) :
  Calls Tryd.prog 99 #[.int .u8 a0] w fun e w' => e = .returned (.bool true) ∧ Below w.heap.size w w' := by
 have h := P a0 w0
 refine (scan_blank.calls a0 true w h).mono ?_
 rintro e w' ⟨rfl, hd⟩
 exact ⟨rfl, hd.below⟩

/-! ### scan_regular: function 105 -/
def scan_regular.f (a0 : Int) : Option (Bool) := (scan_blank.f a0).bind fun t102 => (if t102 = true then (some false) else ((strings_IndexByte.f (⟨#[40, 41, 60, 62, 91, 93, 123, 125, 47, 37]⟩ : ByteArray) a0).bind fun t103 => (some (decide (t103 < 0)))))
set_option maxHeartbeats 8000000 in
set_option maxRecDepth 100000 in
theorem scan_regular.calls (a0 : Int) (r : Bool) (w : World) (h : scan_regular.f a0 = some r) :
  Calls Tryd.prog 105 #[.int .u8 a0] w fun e w' => e = .returned (.bool r) ∧ Drawn0 w w' := by
 have H : ((scan_blank.f a0).bind fun t102 => (if t102 = true then (some false) else ((strings_IndexByte.f (⟨#[40, 41, 60, 62, 91, 93, 123, 125, 47, 37]⟩ : ByteArray) a0).bind fun t103 => (some (decide (t103 < 0)))))) = some r := h
 clear h
 replace H := Option.bind_eq_some_iff.mp H
 obtain ⟨t102, A20, H⟩ := H
 replace H : (if t102 = true then (some false) else ((strings_IndexByte.f (⟨#[40, 41, 60, 62, 91, 93, 123, 125, 47, 37]⟩ : ByteArray) a0).bind fun t103 => (some (decide (t103 < 0))))) = some r := H
 have A2 := Aside0.mk A20
 clear A20
 by_cases c3 : t102 = true
 ·subst c3
  have H1 : (some false) = some r := by rw [if_pos rfl] at H; exact H
  clear H
  have H := H1
  clear H1
  obtain rfl := Option.some.inj H
  go_enter Tryd.func105, Tryd.ntmps105
  go_wp2_with (first | ((with_reducible refine gate_callee (f := 99) rfl ?_); refine goesL_ (some 4) rfl rfl Tryd.func99 (by kernel_rfl) rfl #[.int .u8 a0] rfl (by (try simp only [List.map_toArray, List.map_cons, List.map_nil]); first | done | rfl | (simp only [List.length_drop, List.length_take]; rfl)) ?_; (with_reducible refine (scan_blank.calls a0 true _ A2.out).mono ?_); rintro e w' ⟨rfl, ⟨nd, rfl⟩⟩; refine ⟨_, rfl, ?_⟩))
  go_ret
  exact ⟨by first | rfl | (simp; done) | (simp [*]; done), by repeat (first | exact Drawn0.refl _ | apply Drawn0.step)⟩
 ·replace c3 := Bool.eq_false_iff.mpr c3
  subst c3
  have H1 : ((strings_IndexByte.f (⟨#[40, 41, 60, 62, 91, 93, 123, 125, 47, 37]⟩ : ByteArray) a0).bind fun t103 => (some (decide (t103 < 0)))) = some r := by rw [if_neg (show ¬ (false = true) by decide)] at H; exact H
  clear H
  have H := H1
  clear H1
  replace H := Option.bind_eq_some_iff.mp H
  obtain ⟨t103, A40, H⟩ := H
  replace H : (some (decide (t103 < 0))) = some r := H
  have A4 := Aside0.mk A40
  clear A40
  obtain rfl := Option.some.inj H
  go_enter Tryd.func105, Tryd.ntmps105
  go_wp2_with (first | ((with_reducible refine gate_callee (f := 99) rfl ?_); refine goesL_ (some 4) rfl rfl Tryd.func99 (by kernel_rfl) rfl #[.int .u8 a0] rfl (by (try simp only [List.map_toArray, List.map_cons, List.map_nil]); first | done | rfl | (simp only [List.length_drop, List.length_take]; rfl)) ?_; (with_reducible refine (scan_blank.calls a0 false _ A2.out).mono ?_); rintro e w' ⟨rfl, ⟨nd, rfl⟩⟩; refine ⟨_, rfl, ?_⟩) | (go_at_call 90; (with_reducible refine (strings_IndexByte.calls (⟨#[40, 41, 60, 62, 91, 93, 123, 125, 47, 37]⟩ : ByteArray) a0 t103 _ A4.out).mono ?_); rintro e w' ⟨rfl, ⟨nd, rfl⟩⟩))
  go_ret
  exact ⟨by first | rfl | (simp; done) | (simp [*]; done), by repeat (first | exact Drawn0.refl _ | apply Drawn0.step)⟩

/-- THE ONE PURE STATEMENT of scan_regular: yours. -/
def scan_regular.Pure : Prop := ∀ (a0 : Int), (Lit.int .u8 a0).wf = true → scan_regular.f a0 = some true
theorem scan_regular.walk (P : scan_regular.Pure) (a0 : Int) (w : World) (w0 : (Lit.int .u8 a0).wf = true) :
  Calls Tryd.prog 105 #[.int .u8 a0] w fun e w' => e = .returned (.bool true) ∧ Below w.heap.size w w' := by
 have h := P a0 w0
 refine (scan_regular.calls a0 true w h).mono ?_
 rintro e w' ⟨rfl, hd⟩
 exact ⟨rfl, hd.below⟩

/-! ### scan_digit: function 118 -/
mutual
def scan_digit.j0 : Nat → Int → Bool → Option (Int)
 | 0, _, _ => none
 | k + 1, x0, x3 => if x3 = true then (some ((x0 - 48) % 256)) else (if x0 ≥ 97 then (scan_digit.j1 k x0 (decide (x0 ≤ 102))) else (scan_digit.j1 k x0 false))
def scan_digit.j1 : Nat → Int → Bool → Option (Int)
 | 0, _, _ => none
 | k + 1, x0, x13 => if x13 = true then (some (((x0 - 97) % 256) + 10)) else (if x0 ≥ 65 then (if x0 ≤ 70 then (some (((x0 - 65) % 256) + 10)) else (some (-1))) else (some (-1)))
end
def scan_digit.f (k : Nat) (a0 : Int) : Option (Int) := if a0 ≥ 48 then (scan_digit.j0 k a0 (decide (a0 ≤ 57))) else (scan_digit.j0 k a0 false)
set_option maxHeartbeats 8000000 in
set_option maxRecDepth 100000 in
theorem scan_digit.calls (k : Nat) (a0 : Int) (r : Int) (w : World) (h : scan_digit.f k a0 = some r) :
  Calls Tryd.prog 118 #[.int .u8 a0] w fun e w' => e = .returned (.int .i64 r) ∧ Drawn0 w w' := by
 have H : (if a0 ≥ 48 then (scan_digit.j0 k a0 (decide (a0 ≤ 57))) else (scan_digit.j0 k a0 false)) = some r := h
 clear h
 have HC2 := Aside0.mk H
 clear H
 go_enter Tryd.func118, Tryd.ntmps118
 go_upto_region 1 with (fail)
 go_cut [3] (fun v3 wc => ∃ (kq : Nat) (x3_1 : Bool), v3 = .bool x3_1 ∧ Aside0 (scan_digit.j0 kq a0 x3_1 = some r) ∧ Aside0 (kq ≤ k) ∧ Drawn0 w wc)
 case first =>
  have H := HC2.out
  clear HC2
  by_cases c3 : a0 ≥ 48
  ·rw [if_pos c3] at H
   have c3b0 : decide (48 ≤ a0) = true := decide_eq_true c3
   clear c3
   (first | rw [c3b0] | (simp only [i64_w, i32_w]; rw [c3b0]) | skip)
   have H' := Aside0.mk H
   clear H
   go_wp2
   go_meet
   case rel => exact ⟨_, (decide (a0 ≤ 57)), (by first | rfl | (simp; done) | (simp [*]; done)), H', ⟨by first | omega | exact Nat.le_refl _⟩, by repeat (first | exact Drawn0.refl _ | apply Drawn0.step)⟩
  ·rw [if_neg c3] at H
   have c3b0 : decide (48 ≤ a0) = false := decide_eq_false c3
   clear c3
   (first | rw [c3b0] | (simp only [i64_w, i32_w]; rw [c3b0]) | skip)
   have H' := Aside0.mk H
   clear H
   go_wp2
   go_meet
   case rel => exact ⟨_, (false), (by first | rfl | (simp; done) | (simp [*]; done)), H', ⟨by first | omega | exact Nat.le_refl _⟩, by repeat (first | exact Drawn0.refl _ | apply Drawn0.step)⟩
 case rest =>
  clear HC2
  try clear c1
  try clear p2
  try clear c3
  try clear c3b0
  obtain ⟨kq, x3_1, rfl, HA, HJ1, ⟨mc1, rfl⟩⟩ := hcut
  cases kq with
  | zero => exact absurd HA.out (by simp [scan_digit.j0])
  | succ kj1 =>
   have H := HA.out
   clear HA
   simp only [scan_digit.j0] at H
   by_cases c4 : x3_1 = true
   ·subst c4
    have H1 : (some ((a0 - 48) % 256)) = some r := by rw [if_pos rfl] at H; exact H
    clear H
    have H := H1
    clear H1
    obtain rfl := Option.some.inj H
    go_wp2
    go_ret
    exact ⟨by first | rfl | (simp; done) | (simp [*]; done), by repeat (first | exact Drawn0.refl _ | apply Drawn0.step)⟩
   ·replace c4 := Bool.eq_false_iff.mpr c4
    subst c4
    have H1 : (if a0 ≥ 97 then (scan_digit.j1 kj1 a0 (decide (a0 ≤ 102))) else (scan_digit.j1 kj1 a0 false)) = some r := by rw [if_neg (show ¬ (false = true) by decide)] at H; exact H
    clear H
    have H := H1
    clear H1
    have HC5 := Aside0.mk H
    clear H
    go_upto_region 3 with (fail)
    go_cut [13] (fun v13 wc => ∃ (kq : Nat) (x13_4 : Bool), v13 = .bool x13_4 ∧ Aside0 (scan_digit.j1 kq a0 x13_4 = some r) ∧ Aside0 (kq ≤ kj1) ∧ Drawn0 w wc)
    case first =>
     have H := HC5.out
     clear HC5
     by_cases c6 : a0 ≥ 97
     ·rw [if_pos c6] at H
      have c6b0 : decide (97 ≤ a0) = true := decide_eq_true c6
      clear c6
      (first | rw [c6b0] | (simp only [i64_w, i32_w]; rw [c6b0]) | skip)
      have H' := Aside0.mk H
      clear H
      go_wp2
      go_meet
      case rel => exact ⟨_, (decide (a0 ≤ 102)), (by first | rfl | (simp; done) | (simp [*]; done)), H', ⟨by have := HJ1.out; first | omega | exact Nat.le_refl _⟩, by repeat (first | exact Drawn0.refl _ | apply Drawn0.step)⟩
     ·rw [if_neg c6] at H
      have c6b0 : decide (97 ≤ a0) = false := decide_eq_false c6
      clear c6
      (first | rw [c6b0] | (simp only [i64_w, i32_w]; rw [c6b0]) | skip)
      have H' := Aside0.mk H
      clear H
      go_wp2
      go_meet
      case rel => exact ⟨_, (false), (by first | rfl | (simp; done) | (simp [*]; done)), H', ⟨by have := HJ1.out; first | omega | exact Nat.le_refl _⟩, by repeat (first | exact Drawn0.refl _ | apply Drawn0.step)⟩
    case rest =>
     clear HC5
     try clear c1
     try clear p2
     try clear c3
     try clear c3b0
     try clear c4
     try clear c6
     try clear c6b0
     try clear p2
     obtain ⟨kq, x13_4, rfl, HA, HJ4, ⟨mc4, rfl⟩⟩ := hcut
     cases kq with
     | zero => exact absurd HA.out (by simp [scan_digit.j1])
     | succ kj4 =>
      have H := HA.out
      clear HA
      simp only [scan_digit.j1] at H
      by_cases c7 : x13_4 = true
      ·subst c7
       have H1 : (some (((a0 - 97) % 256) + 10)) = some r := by rw [if_pos rfl] at H; exact H
       clear H
       have H := H1
       clear H1
       obtain rfl := Option.some.inj H
       go_wp2
       go_ret
       exact ⟨by first | rfl | (simp; done) | (simp [*]; done), by repeat (first | exact Drawn0.refl _ | apply Drawn0.step)⟩
      ·replace c7 := Bool.eq_false_iff.mpr c7
       subst c7
       have H1 : (if a0 ≥ 65 then (if a0 ≤ 70 then (some (((a0 - 65) % 256) + 10)) else (some (-1))) else (some (-1))) = some r := by rw [if_neg (show ¬ (false = true) by decide)] at H; exact H
       clear H
       have H := H1
       clear H1
       by_cases c8 : a0 ≥ 65
       ·rw [if_pos c8] at H
        have c8b0 : decide (65 ≤ a0) = true := decide_eq_true c8
        clear c8
        by_cases c9 : a0 ≤ 70
        ·rw [if_pos c9] at H
         have c9b0 : decide (a0 ≤ 70) = true := decide_eq_true c9
         clear c9
         obtain rfl := Option.some.inj H
         go_wp2
         go_ret
         exact ⟨by first | rfl | (simp; done) | (simp [*]; done), by repeat (first | exact Drawn0.refl _ | apply Drawn0.step)⟩
        ·rw [if_neg c9] at H
         have c9b0 : decide (a0 ≤ 70) = false := decide_eq_false c9
         clear c9
         obtain rfl := Option.some.inj H
         go_wp2
         go_ret
         exact ⟨by first | rfl | (simp; done) | (simp [*]; done), by repeat (first | exact Drawn0.refl _ | apply Drawn0.step)⟩
       ·rw [if_neg c8] at H
        have c8b0 : decide (65 ≤ a0) = false := decide_eq_false c8
        clear c8
        obtain rfl := Option.some.inj H
        go_wp2
        go_ret
        exact ⟨by first | rfl | (simp; done) | (simp [*]; done), by repeat (first | exact Drawn0.refl _ | apply Drawn0.step)⟩

end Go.Proofs.YtiocgpfnbmlfaaaDoor.PS1

/-! ## SA -/
namespace Go.Proofs.YtiocgpfnbmlfaaaDoor.SC
open Go Go.RowKit Go.Proofs.YtiocgpfnbmlfaaaDoor Go.Proofs.YtiocgpfnbmlfaaaDoor.PS1 Go.Proofs.YtiocgpfnbmlfaaaDoor.QD Go.Proofs.YtiocgpfnbmlfaaaDoorW.PrintWords Go.Proofs.YtiocgpfnbmlfaaaDoorW.PrintLast

/-! ### the world but for one block -/
/-- below b, but for block g, all is as it was -/
structure Kb (g b : Nat) (w w' : World) : Prop where
  os : w'.os = w.os
  tape : w'.tape = w.tape
  output : w'.output = w.output
  size : w.heap.size ≤ w'.heap.size
  block : ∀ k, k < b → k ≠ g → w'.heap[k]? = w.heap[k]?
theorem Kb.refl (g b : Nat) (w : World) : Kb g b w w := ⟨rfl, rfl, rfl, Nat.le_refl _, fun _ _ _ => rfl⟩
theorem Kb.trans {g b : Nat} {w1 w2 w3 : World} (h : Kb g b w1 w2) (k : Kb g b w2 w3) : Kb g b w1 w3 :=
  ⟨k.os.trans h.os, k.tape.trans h.tape, k.output.trans h.output, Nat.le_trans h.size k.size, fun i hi hg => (k.block i hi hg).trans (h.block i hi hg)⟩
theorem Kb.mono {g b b' : Nat} {w w' : World} (h : Kb g b w w') (hb : b' ≤ b) : Kb g b' w w' := ⟨h.os, h.tape, h.output, h.size, fun i hi hg => h.block i (by omega) hg⟩
theorem Kb.of_below {g b : Nat} {w w' : World} (h : Below b w w') : Kb g b w w' := ⟨h.os, h.tape, h.output, h.size, fun i hi _ => h.block i hi⟩
theorem Kb.below {g b B : Nat} {w w' : World} (h : Kb g b w w') (hg : B ≤ g) (hB : B ≤ b) : Below B w w' := ⟨h.os, h.tape, h.output, h.size, fun i hi => h.block i (by omega) (by omega)⟩
theorem Kb.set (g b : Nat) (w : World) (o : Nat) (u : Value) : Kb g b w (w.setCell ⟨g, o, none⟩ u) :=
  ⟨rfl, rfl, rfl, by simp [World.setCell], fun i _ hg => Below.heap_setCell w ⟨g, o, none⟩ u i hg⟩
/-- a step behind another, told of its own first world -/
theorem Kb.then_ {g b : Nat} {w1 w2 w3 : World} (h : Kb g b w1 w2) (hb : b ≤ w2.heap.size) (k : Kb g w2.heap.size w2 w3) : Kb g b w1 w3 := h.trans (k.mono hb)
theorem Kb.belows {g b b' : Nat} {w1 w2 w3 : World} (h : Kb g b w1 w2) (k : Below b' w2 w3) (hb : b ≤ b') : Kb g b w1 w3 := h.trans (Kb.of_below (k.mono hb))
theorem drewN_below (w : World) (m : Nat) : Below w.heap.size w (w.drewN m) := (Drawn0.mk ⟨m, rfl⟩).below
theorem drewN_heap (w : World) (m : Nat) : (w.drewN m).heap = w.heap := by
  have h := drewN_below w m
  induction m with
  | zero => rfl
  | succ m ih => rw [← World.drew_drewN]; exact ih (drewN_below w m)

/-! ### the reader: a block of two cells -/
def Rd (w : World) (g : Nat) (A : Option Addr) (n cap p : Nat) : Prop := w.heap[g]? = some (.cells #[.slice A n cap, .int .i64 (p : Int)] 71 (0, 0))
structure St (w0 w : World) (g : Nat) (A : Option Addr) (n cap p : Nat) : Prop where
  blk : Rd w g A n cap p
  ge : w0.heap.size ≤ g
  below : Below w0.heap.size w0 w
/-- bytes as numbers -/
def bI (l : List UInt8) : List Int := l.map fun c => (c.toNat : Int)
theorem bI_len (l : List UInt8) : (bI l).length = l.length := by simp [bI]
theorem bI_str (l : List UInt8) : strOfNums (bI l) = S l := by
  unfold strOfNums bI S
  congr 2
  rw [List.map_map]
  refine List.map_id'' ?_ l
  intro c
  apply UInt8.toNat_inj.1
  simp
/-- the bytes that it reads -/
def Src (w : World) (A : Option Addr) (B : List UInt8) : Prop := ∀ (i : Nat) (c : UInt8), B[i]? = some c → ∃ ad, A = some ad ∧ w.cell? (ad.add i) = some (.int .u8 (c.toNat : Int))

theorem src_of {w : World} {A : Option Addr} {B : List UInt8} (h : (Kd.int .u8).C w A B.length (bI B)) : Src w A B := by
  intro i c hc
  obtain ⟨hlt, rfl⟩ := List.getElem?_eq_some_iff.1 hc
  obtain ⟨ad, e, hx⟩ := Kd.at_int h (i : Int) (by omega) (by omega)
  refine ⟨ad, e, ?_⟩
  rw [Int.toNat_natCast] at hx
  rw [hx]
  unfold rd bI
  rw [Int.toNat_natCast]
  simp [List.getD, hlt]
theorem Rd.lt {w : World} {g n cap p : Nat} {A : Option Addr} (h : Rd w g A n cap p) : g < w.heap.size := by
  rcases Nat.lt_or_ge g w.heap.size with h' | h'
  · exact h'
  · simp [Rd, Array.getElem?_eq_none h'] at h
theorem Rd.facts {w : World} {g n cap p : Nat} {A : Option Addr} (h : Rd w g A n cap p) : (w.cell? ⟨g, 0, none⟩ = some (.slice A n cap) ∧ w.cell? ⟨g, 1, none⟩ = some (.int .i64 (p : Int))) ∧ (w.frozen? ⟨g, 0, none⟩ = false ∧ w.frozen? ⟨g, 1, none⟩ = false) := by
  refine ⟨⟨?_, ?_⟩, Lib.frozen_of_heap h 0, Lib.frozen_of_heap h 1⟩ <;> (rw [Lib.cell_of_heap h]; rfl)
theorem Rd.set {w : World} {g n cap p : Nat} {A : Option Addr} (h : Rd w g A n cap p) (q : Nat) (z : Int) (hz : z = (q : Int)) : Rd (w.setCell ⟨g, 1, none⟩ (.int .i64 z)) g A n cap q := by
  subst hz
  unfold Rd at *
  simp only [World.setCell, Array.getElem?_modify, if_true, h]
  rfl
theorem St.drewN {w0 w : World} {g n cap p : Nat} {A : Option Addr} (h : St w0 w g A n cap p) (m : Nat) : St w0 (w.drewN m) g A n cap p :=
  ⟨by unfold Rd; rw [drewN_heap]; exact h.blk, h.ge, h.below.trans ((drewN_below w m).mono h.below.size)⟩
theorem St.set {w0 w : World} {g n cap p : Nat} {A : Option Addr} (h : St w0 w g A n cap p) (q : Nat) (z : Int) (hz : z = (q : Int)) : St w0 (w.setCell ⟨g, 1, none⟩ (.int .i64 z)) g A n cap q :=
  ⟨h.blk.set q z hz, h.ge, h.below.setCell h.ge _⟩
theorem St.step {w0 w w' : World} {g n cap p b : Nat} {A : Option Addr} (h : St w0 w g A n cap p) (hb : Below b w w') (hg : g < b) : St w0 w' g A n cap p :=
  ⟨(hb.block g hg).trans h.blk, h.ge, h.below.trans (hb.mono (by have := h.ge; omega))⟩
theorem St.byte {w0 w : World} {g n cap p : Nat} {A : Option Addr} {B : List UInt8} (h : St w0 w g A n cap p) (hs : Src w0 A B) {i : Nat} {c : UInt8} (hc : B[i]? = some c) :
    ∃ ad, A = some ad ∧ w.cell? (ad.add i) = some (.int .u8 (c.toNat : Int)) := by
  obtain ⟨ad, e, hx⟩ := hs i c hc
  exact ⟨ad, e, (h.below.cell (World.block_lt_of_cell? w0 _ hx)).trans hx⟩

theorem add_block (ad : Addr) (p : Nat) : (ad.add p).block = ad.block := by
  unfold Addr.add
  split <;> rfl

/-! ### more -/
def QuietQ (v : Value) (w : World) (e : Ending) (w' : World) : Prop := e = .returned v ∧ ∃ m, w' = w.drewN m

set_option maxHeartbeats 1000000 in
set_option maxRecDepth 100000 in
theorem more_is (b : Bool) {w0 w : World} {g n cap p : Nat} {A : Option Addr} (h : St w0 w g A n cap p) (hp : decide (p < n) = b) :
    Calls Tryd.prog 76 #[.pointer (some ⟨g, 0, none⟩)] w fun e w' => e = .returned (.bool b) ∧ ∃ m, w' = w.drewN m := by
  obtain ⟨⟨c0, c1⟩, f0, f1⟩ := h.blk.facts
  have HP := Lib.hid hp
  clear h hp
  go_enter Tryd.func76, Tryd.ntmps76
  go_wp2_with fail
  go_quiet (fail)
  go_wp2_with fail
  go_ret
  exact ⟨congrArg (fun b => Ending.returned (.bool b)) HP.out, _, rfl⟩

/-! ### the reader by what it has still to read -/
structure At (w0 w : World) (g : Nat) (A : Option Addr) (cap : Nat) (B l : List UInt8) : Prop where
  st : St w0 w g A B.length cap (B.length - l.length)
  row : (Kd.int .u8).C w0 A B.length (bI B)
  suf : l <:+ B
  small : B.length ≤ 140737488351232
  capl : B.length ≤ cap
section
variable {w0 w w' : World} {g cap : Nat} {A : Option Addr} {B l t : List UInt8} {c : UInt8}
theorem At.drewN (h : At w0 w g A cap B l) (m : Nat) : At w0 (w.drewN m) g A cap B l := ⟨h.st.drewN m, h.row, h.suf, h.small, h.capl⟩
theorem At.row_at (h : At w0 w g A cap B l) : (Kd.int .u8).C w A B.length (bI B) := Kd.C_below h.row h.st.below
theorem At.src (h : At w0 w g A cap B l) : Src w0 A B := src_of h.row
theorem At.step {b : Nat} (h : At w0 w g A cap B l) (hb : Below b w w') (hg : g < b) : At w0 w' g A cap B l := ⟨h.st.step hb hg, h.row, h.suf, h.small, h.capl⟩
theorem At.len (h : At w0 w g A cap B l) : l.length ≤ B.length := h.suf.length_le
theorem At.cons (h : At w0 w g A cap B (c :: t)) : ∃ p : Nat, B.length - (c :: t).length = p ∧ p < B.length ∧ B.length - t.length = p + 1 ∧ B[p]? = some c := by
  obtain ⟨a, ha⟩ := h.suf
  refine ⟨a.length, ?_, ?_, ?_, ?_⟩
  · rw [← ha]; simp
  · rw [← ha]; simp
  · rw [← ha]; simp; omega
  · rw [← ha]; simp
/-- all that a walk wants to know where a byte is left -/
theorem At.head (h : At w0 w g A cap B (c :: t)) : ∃ (n p : Nat) (ad : Addr), A = some ad ∧ B.length = n ∧ p < n ∧ n ≤ 140737488351232 ∧ B.length - t.length = p + 1 ∧ w.cell? ⟨g, 0, none⟩ = some (.slice A n cap) ∧ w.cell? ⟨g, 1, none⟩ = some (.int .i64 (p : Int)) ∧
    w.frozen? ⟨g, 0, none⟩ = false ∧ w.frozen? ⟨g, 1, none⟩ = false ∧ w.cell? (ad.add p) = some (.int .u8 (c.toNat : Int)) ∧ ad.block ≠ g := by
  obtain ⟨p, hp, hlt, hp1, hc⟩ := h.cons
  have hst := h.st
  rw [hp] at hst
  obtain ⟨ad, e, hx⟩ := hst.byte h.src hc
  obtain ⟨⟨c0, c1⟩, f0, f1⟩ := hst.blk.facts
  refine ⟨B.length, p, ad, e, rfl, hlt, h.small, hp1, c0, c1, f0, f1, hx, fun hb => ?_⟩
  obtain ⟨ad', e', hx'⟩ := h.src p c hc
  rw [e] at e'
  cases e'
  have h1 := World.block_lt_of_cell? w0 _ hx'
  have h2 := h.st.ge
  have h3 := add_block ad p
  omega
theorem cell_set_far {w : World} {ad : Addr} {g o p : Nat} {u v : Value} (h : w.cell? (ad.add p) = some v) (hne : ad.block ≠ g) : (w.setCell ⟨g, o, none⟩ u).cell? (ad.add p) = some v :=
  (World.cell?_of_block (w := w) (w' := w.setCell ⟨g, o, none⟩ u) (a := ad.add p) (Below.heap_setCell w ⟨g, o, none⟩ u (ad.add p).block (by rw [add_block]; exact hne))).trans h
theorem At.set (h : At w0 w g A cap B (c :: t)) (z : Int) (hz : z = ((B.length - t.length : Nat) : Int)) : At w0 (w.setCell ⟨g, 1, none⟩ (.int .i64 z)) g A cap B t :=
  ⟨h.st.set _ z hz, h.row, (List.suffix_cons c t).trans h.suf, h.small, h.capl⟩
theorem At.lt (h : At w0 w g A cap B l) : g < w.heap.size := h.st.blk.lt
theorem At.keep {w'' : World} (h : At w0 w g A cap B l) (hk : Kb g w.heap.size w w'') (hb : w''.heap[g]? = w.heap[g]?) : At w0 w'' g A cap B l :=
  ⟨⟨hb.trans h.st.blk, h.st.ge, h.st.below.trans (hk.below h.st.ge h.st.below.size)⟩, h.row, h.suf, h.small, h.capl⟩
end

/-! ### next -/
def NextQ (b : Bool) (w0 w : World) (g : Nat) (A : Option Addr) (cap : Nat) (B l : List UInt8) (e : Ending) (w' : World) : Prop := e = .returned (.bool b) ∧ At w0 w' g A cap B l ∧ Kb g w.heap.size w w'

set_option maxHeartbeats 1000000 in
set_option maxRecDepth 100000 in
theorem next_yes {w0 w : World} {g cap : Nat} {A : Option Addr} {B t : List UInt8} {c : UInt8} (h : At w0 w g A cap B (c :: t)) (z : Int) (hz : z = (c.toNat : Int)) :
    Calls Tryd.prog 102 #[.pointer (some ⟨g, 0, none⟩), .int .u8 z] w (NextQ true w0 w g A cap B t) := by
  subst hz
  obtain ⟨n, p, ad, rfl, hn, hlt, hsm, hp1, c0, c1, f0, f1, hx, hne⟩ := h.head
  have H := Lib.hid h
  have HP := Lib.hid hp1
  have HM := Lib.hid (fun m => more_is true (h.st.drewN m) (decide_eq_true (show B.length - (c :: t).length < B.length by have := h.len; simp only [List.length_cons] at this ⊢; omega)))
  have g1 : (0 : Int) ≤ (p : Int) := by omega
  have g2 : (p : Int) < (n : Int) := by omega
  have g3 : (n : Int) ≤ 140737488351232 := by omega
  clear h hp1 hn
  go_enter Tryd.func102, Tryd.ntmps102
  go_wp2_with fail
  go_quiet ((go_at_call 76; exact (HM.out _).mono fun e w2 ⟨he, m, hm⟩ => ⟨he, _, hm.trans (World.drewN_drewN ..)⟩))
  go_wp2_with fail
  go_ret
  exact ⟨rfl, (H.out.drewN _).set _ (by rw [HP.out]; push_cast; rfl), (Kb.of_below (drewN_below _ _)).trans (Kb.set _ _ _ _ _)⟩

set_option maxHeartbeats 1000000 in
set_option maxRecDepth 100000 in
theorem next_end {w0 w : World} {g cap : Nat} {A : Option Addr} {B : List UInt8} (h : At w0 w g A cap B []) (z : Int) :
    Calls Tryd.prog 102 #[.pointer (some ⟨g, 0, none⟩), .int .u8 z] w (NextQ false w0 w g A cap B []) := by
  have hst := h.st
  obtain ⟨⟨c0, c1⟩, f0, f1⟩ := hst.blk.facts
  have HM := Lib.hid (fun m => more_is false (hst.drewN m) (decide_eq_false (by simp)))
  have H := Lib.hid h
  clear h hst
  go_enter Tryd.func102, Tryd.ntmps102
  go_wp2_with fail
  go_quiet ((go_at_call 76; exact (HM.out _).mono fun e w2 ⟨he, m, hm⟩ => ⟨he, _, hm.trans (World.drewN_drewN ..)⟩))
  go_wp2_with fail
  go_ret
  exact ⟨rfl, H.out.drewN _, Kb.of_below (drewN_below _ _)⟩

set_option maxHeartbeats 1000000 in
set_option maxRecDepth 100000 in
theorem next_other {w0 w : World} {g cap : Nat} {A : Option Addr} {B t : List UInt8} {c : UInt8} (h : At w0 w g A cap B (c :: t)) (z : Int) (hz : ((c.toNat : Int) == z) = false) :
    Calls Tryd.prog 102 #[.pointer (some ⟨g, 0, none⟩), .int .u8 z] w (NextQ false w0 w g A cap B (c :: t)) := by
  obtain ⟨n, p, ad, rfl, hn, hlt, hsm, hp1, c0, c1, f0, f1, hx, hne⟩ := h.head
  have H := Lib.hid h
  have HP := Lib.hid hp1
  have HM := Lib.hid (fun m => more_is true (h.st.drewN m) (decide_eq_true (show B.length - (c :: t).length < B.length by have := h.len; simp only [List.length_cons] at this ⊢; omega)))
  have g1 : (0 : Int) ≤ (p : Int) := by omega
  have g2 : (p : Int) < (n : Int) := by omega
  have g3 : (n : Int) ≤ 140737488351232 := by omega
  clear h hp1 hn
  go_enter Tryd.func102, Tryd.ntmps102
  go_wp2_with fail
  go_quiet ((go_at_call 76; exact (HM.out _).mono fun e w2 ⟨he, m, hm⟩ => ⟨he, _, hm.trans (World.drewN_drewN ..)⟩))
  go_wp2_with fail
  go_ret
  exact ⟨rfl, H.out.drewN _, Kb.of_below (drewN_below _ _)⟩

/-! ### take -/
def TakeQ (c : UInt8) (w0 w : World) (g : Nat) (A : Option Addr) (cap : Nat) (B l : List UInt8) (e : Ending) (w' : World) : Prop := e = .returned (.int .u8 (c.toNat : Int)) ∧ At w0 w' g A cap B l ∧ Kb g w.heap.size w w'
/-- the panic that scan gives up with -/
def GaveUp (er : Int) (g : Nat) (w : World) (e : Ending) (w' : World) : Prop := e = .panicked [{ v := .iface 28 (.int .i64 er), recovered := false }] ∧ Kb g w.heap.size w w'

set_option maxHeartbeats 1000000 in
set_option maxRecDepth 100000 in
theorem take_yes {w0 w : World} {g cap : Nat} {A : Option Addr} {B t : List UInt8} {c : UInt8} (h : At w0 w g A cap B (c :: t)) :
    Calls Tryd.prog 100 #[.pointer (some ⟨g, 0, none⟩)] w (TakeQ c w0 w g A cap B t) := by
  obtain ⟨n, p, ad, rfl, hn, hlt, hsm, hp1, c0, c1, f0, f1, hx, hne⟩ := h.head
  have H := Lib.hid h
  have HP := Lib.hid hp1
  have HM := Lib.hid (fun m => more_is true (h.st.drewN m) (decide_eq_true (show B.length - (c :: t).length < B.length by have := h.len; simp only [List.length_cons] at this ⊢; omega)))
  have g1 : (0 : Int) ≤ (p : Int) := by omega
  have g2 : (p : Int) < (n : Int) := by omega
  have g3 : (n : Int) ≤ 140737488351232 := by omega
  clear h hp1 hn
  go_enter Tryd.func100, Tryd.ntmps100
  go_wp2_with fail
  refine (HM.out 0).mono ?_
  rintro e w1 ⟨rfl, m, hm⟩
  have HK := Lib.hid (show Kb g w.heap.size w w1 by rw [hm]; exact Kb.of_below (drewN_below w m))
  have H1 := Lib.hid (show At w0 w1 g (some ad) cap B (c :: t) by rw [hm]; exact H.out.drewN m)
  have e1 : w1.heap = w.heap := by rw [hm]; exact drewN_heap w m
  have k0 : w1.cell? ⟨g, 0, none⟩ = some (.slice (some ad) n cap) := (World.cell?_of_block (w := w) (by rw [e1])).trans c0
  have k1 : w1.cell? ⟨g, 1, none⟩ = some (.int .i64 (p : Int)) := (World.cell?_of_block (w := w) (by rw [e1])).trans c1
  have kf : w1.frozen? ⟨g, 1, none⟩ = false := (World.frozen?_of_block (w := w) (by rw [e1])).trans f1
  have kx : (w1.setCell ⟨g, 1, none⟩ (.int .i64 ((p : Int) + 1))).cell? (ad.add p) = some (.int .u8 (c.toNat : Int)) := cell_set_far ((World.cell?_of_block (w := w) (by rw [e1])).trans hx) hne
  clear hm e1 c0 c1 f0 f1 hx HM H
  go_wp2_with fail
  go_quiet (fail)
  go_wp2_with fail
  go_ret
  exact ⟨rfl, (H1.out.set _ (by rw [HP.out]; push_cast; rfl)).drewN _, (HK.out.trans (Kb.set _ _ _ _ _)).belows (drewN_below _ _) (by have := HK.out.size; simpa [World.setCell] using this)⟩

set_option maxHeartbeats 1000000 in
set_option maxRecDepth 100000 in
theorem take_end {w0 w : World} {g cap : Nat} {A : Option Addr} {B : List UInt8} (h : At w0 w g A cap B []) :
    Calls Tryd.prog 100 #[.pointer (some ⟨g, 0, none⟩)] w (GaveUp 14 g w) := by
  have HM := Lib.hid (fun m => more_is false (h.st.drewN m) (decide_eq_false (by simp)))
  clear h
  go_enter Tryd.func100, Tryd.ntmps100
  go_wp2_with fail
  refine (HM.out 0).mono ?_
  rintro e w1 ⟨rfl, m, rfl⟩
  go_wp2_with fail
  exact ⟨rfl, rfl, Kb.of_below (drewN_below w m)⟩

end Go.Proofs.YtiocgpfnbmlfaaaDoor.SC

/-! ## SB -/
namespace Go.Proofs.YtiocgpfnbmlfaaaDoor.SC
open Go Go.RowKit Go.Proofs.YtiocgpfnbmlfaaaDoor Go.Proofs.YtiocgpfnbmlfaaaDoor.PS1 Go.Proofs.YtiocgpfnbmlfaaaDoor.QD Go.Proofs.YtiocgpfnbmlfaaaDoorW.PrintWords Go.Proofs.YtiocgpfnbmlfaaaDoorW.PrintLast

/-! ### bytes -/
def blankN (c : Nat) : Bool := c == 0 || c == 9 || c == 10 || c == 12 || c == 13 || c == 32
def delimN (c : Nat) : Bool := c == 40 || c == 41 || c == 60 || c == 62 || c == 91 || c == 93 || c == 123 || c == 125 || c == 47 || c == 37
def regN (c : Nat) : Bool := !blankN c && !delimN c
def endN (c : Nat) : Bool := c == 10 || c == 12 || c == 13
def hexN (c : Nat) : Int := if 48 ≤ c ∧ c ≤ 57 then (c : Int) - 48 else if 97 ≤ c ∧ c ≤ 102 then (c : Int) - 97 + 10 else if 65 ≤ c ∧ c ≤ 70 then (c : Int) - 65 + 10 else -1
def blankB (c : UInt8) : Bool := blankN c.toNat
def regB (c : UInt8) : Bool := regN c.toNat
def endB (c : UInt8) : Bool := endN c.toNat
def hexI (c : UInt8) : Int := hexN c.toNat

theorem blank_fin : ∀ c : Fin 256, scan_blank.f (c.val : Int) = some (blankN c.val) := by decide +kernel
theorem reg_fin : ∀ c : Fin 256, scan_regular.f (c.val : Int) = some (regN c.val) := by decide +kernel
theorem hex_fin : ∀ c : Fin 256, scan_digit.f 5 (c.val : Int) = some (hexN c.val) := by decide +kernel
theorem end_fin : ∀ c : Fin 256, (endN c.val = false → strings_IndexByte.f ⟨#[10, 12, 13]⟩ (c.val : Int) = some (-1)) ∧ (endN c.val = true → ∃ z : Fin 3, strings_IndexByte.f ⟨#[10, 12, 13]⟩ (c.val : Int) = some (z.val : Int)) := by decide +kernel

theorem blank_is (c : UInt8) (b : Bool) (h : blankB c = b) (w : World) : Calls Tryd.prog 99 #[.int .u8 (c.toNat : Int)] w fun e w' => e = .returned (.bool b) ∧ ∃ m, w' = w.drewN m := by
  subst h
  refine (scan_blank.calls _ _ w (blank_fin ⟨c.toNat, c.toNat_lt⟩)).mono ?_
  rintro e w' ⟨he, hd⟩
  exact ⟨he, hd.out⟩
theorem reg_is (c : UInt8) (b : Bool) (h : regB c = b) (w : World) : Calls Tryd.prog 105 #[.int .u8 (c.toNat : Int)] w fun e w' => e = .returned (.bool b) ∧ ∃ m, w' = w.drewN m := by
  subst h
  refine (scan_regular.calls _ _ w (reg_fin ⟨c.toNat, c.toNat_lt⟩)).mono ?_
  rintro e w' ⟨he, hd⟩
  exact ⟨he, hd.out⟩
theorem hex_is (c : UInt8) (d : Int) (h : hexI c = d) (w : World) : Calls Tryd.prog 118 #[.int .u8 (c.toNat : Int)] w fun e w' => e = .returned (.int .i64 d) ∧ ∃ m, w' = w.drewN m := by
  subst h
  refine (scan_digit.calls 5 _ _ w (hex_fin ⟨c.toNat, c.toNat_lt⟩)).mono ?_
  rintro e w' ⟨he, hd⟩
  exact ⟨he, hd.out⟩
theorem end_no (c : UInt8) (h : endB c = false) (w : World) : Calls Tryd.prog 90 #[.string ⟨#[10, 12, 13]⟩, .int .u8 (c.toNat : Int)] w fun e w' => e = .returned (.int .i64 (-1)) ∧ ∃ m, w' = w.drewN m := by
  refine (strings_IndexByte.calls _ _ _ w ((end_fin ⟨c.toNat, c.toNat_lt⟩).1 h)).mono ?_
  rintro e w' ⟨he, hd⟩
  exact ⟨he, hd.out⟩
theorem end_yes (c : UInt8) (h : endB c = true) : ∃ z : Int, 0 ≤ z ∧ ∀ w, Calls Tryd.prog 90 #[.string ⟨#[10, 12, 13]⟩, .int .u8 (c.toNat : Int)] w fun e w' => e = .returned (.int .i64 z) ∧ ∃ m, w' = w.drewN m := by
  obtain ⟨z, hz⟩ := (end_fin ⟨c.toNat, c.toNat_lt⟩).2 h
  refine ⟨(z.val : Int), by omega, fun w => ?_⟩
  refine (strings_IndexByte.calls _ _ _ w hz).mono ?_
  rintro e w' ⟨he, hd⟩
  exact ⟨he, hd.out⟩

/-- a contract that only draws, as a region that draws wants it -/
theorem quiet_at {f : FuncId} {args : Array Value} {v : Value} {w : World} {k : Nat} (h : Calls Tryd.prog f args (w.drewN k) fun e w' => e = .returned v ∧ ∃ m, w' = (w.drewN k).drewN m) :
    Calls Tryd.prog f args (w.drewN k) fun e w'' => e = .returned v ∧ ∃ m, w'' = w.drewN m :=
  h.mono fun _ _ ⟨he, m, hm⟩ => ⟨he, k + m, by rw [hm, World.drewN_drewN]⟩

section
variable {w0 w w' : World} {g cap : Nat} {A : Option Addr} {B l t : List UInt8} {c : UInt8}
theorem more_cons (h : At w0 w g A cap B (c :: t)) : Calls Tryd.prog 76 #[.pointer (some ⟨g, 0, none⟩)] w fun e w' => e = .returned (.bool true) ∧ ∃ m, w' = w.drewN m :=
  more_is true h.st (decide_eq_true (by have := h.len; simp only [List.length_cons] at this ⊢; omega))
theorem more_nil (h : At w0 w g A cap B []) : Calls Tryd.prog 76 #[.pointer (some ⟨g, 0, none⟩)] w fun e w' => e = .returned (.bool false) ∧ ∃ m, w' = w.drewN m :=
  more_is false h.st (decide_eq_false (by simp))
theorem Kb.drewN {b : Nat} {w2 : World} (h : Kb g b w w2) (hb : b ≤ w2.heap.size) (m : Nat) : Kb g b w (w2.drewN m) := h.belows (drewN_below w2 m) hb
end

theorem end_blankN : ∀ c : Fin 256, endN c.val = true → blankN c.val = true := by decide +kernel
theorem end_blank (c : UInt8) (h : endB c = true) : blankB c = true := end_blankN ⟨c.toNat, c.toNat_lt⟩ h

/-! ### skip -/
/-- blanks and comments are passed; in a comment? -/
def skipL : Bool → List UInt8 → List UInt8
  | _, [] => []
  | true, c :: t => skipL (!endB c) t
  | false, c :: t => if blankB c = true then skipL false t else if c = 37 then skipL true t else c :: t
def SkipQ (w0 w : World) (g : Nat) (A : Option Addr) (cap : Nat) (B l : List UInt8) (e : Ending) (w' : World) : Prop := e = .returned (.tuple #[]) ∧ At w0 w' g A cap B l ∧ Kb g w.heap.size w w'

set_option maxHeartbeats 2000000 in
set_option maxRecDepth 100000 in
theorem skip_any {w0 w : World} {g cap : Nat} {A : Option Addr} {B l : List UInt8} (h : At w0 w g A cap B l) :
    Calls Tryd.prog 75 #[.pointer (some ⟨g, 0, none⟩)] w (SkipQ w0 w g A cap B (skipL false l)) := by
  have H := Lib.hid h
  have HK := Lib.hid (Kb.refl g w.heap.size w)
  clear h
  go_enter Tryd.func75, Tryd.ntmps75
  go_wp2_with fail
  go_loopg [] l.length (fun gk wx => ∃ s : List UInt8, s.length ≤ gk ∧ Hid (skipL false s = skipL false l) ∧ Hid (At w0 wx g A cap B s) ∧ Hid (Kb g w.heap.size w wx))
  case atStart => exact ⟨l, Nat.le_refl _, rfl, H, HK⟩
  case round =>
    clear H HK
    obtain ⟨s, hs, HS, H, HK⟩ := hrel
    cases s with
    | nil =>
      go_wp2_with fail
      refine (more_nil H.out).mono ?_
      rintro e w1 ⟨rfl, m, rfl⟩
      go_wp2_with fail
      go_end0
      exact ⟨rfl, by rw [← HS.out]; exact H.out.drewN m, HK.out.drewN HK.out.size m⟩
    | cons c t =>
      go_wp2_with fail
      refine (more_cons H.out).mono ?_
      rintro e w1 ⟨rfl, m, hm⟩
      replace HK := Lib.hid (show Kb g w.heap.size w w1 by rw [hm]; exact HK.out.drewN HK.out.size m)
      replace H := Lib.hid (show At w0 w1 g A cap B (c :: t) by rw [hm]; exact H.out.drewN m)
      clear hm
      obtain ⟨n, p, ad, rfl, hn, hlt, hsm, hp1, c0, c1, f0, f1, hx, hne⟩ := H.out.head
      have HP := Lib.hid hp1
      have g1 : (0 : Int) ≤ (p : Int) := by omega
      have g2 : (p : Int) < (n : Int) := by omega
      have g3 : (n : Int) ≤ 140737488351232 := by omega
      have HL := Lib.hid hs
      clear hn hp1 hs hlt hsm
      go_wp2_with fail
      go_quiet (fail)
      by_cases hb : blankB c = true
      · have HT := Lib.hid (show skipL false t = skipL false l by rw [← HS.out, skipL, if_pos hb])
        go_wp2_with fail
        refine (blank_is c true hb _).mono ?_
        rintro e w2 ⟨rfl, m2, hm2⟩
        have H2 := Lib.hid (show At w0 w2 g (some ad) cap B (c :: t) by rw [hm2]; exact (H.out.drewN _).drewN m2)
        have HK2 := Lib.hid (show Kb g w.heap.size w w2 by rw [hm2]; exact (HK.out.drewN HK.out.size _).drewN (HK.out.drewN HK.out.size _).size m2)
        clear hm2 c0 c1 f0 f1 hx H HK hb
        obtain ⟨⟨c0, c1⟩, f0, f1⟩ := H2.out.st.blk.facts
        have hpp : B.length - (c :: t).length = p := by have := HP.out; have := H2.out.len; simp only [List.length_cons] at this ⊢; omega
        rw [hpp] at c1
        clear hpp
        go_wp2_with fail
        go_roundg t.length
        case measure => have := HL.out; simp only [List.length_cons] at this; omega
        case rel => exact ⟨t, Nat.le_refl _, HT, H2.out.set _ (by rw [HP.out]; push_cast; rfl), HK2.out.trans (Kb.set _ _ _ _ _)⟩
      · have hb' : blankB c = false := by simpa using hb
        by_cases h37 : c = 37
        · have HT := Lib.hid (show skipL true (c :: t) = skipL false l by rw [← HS.out, skipL, skipL, if_neg hb, if_pos h37, h37]; rfl)
          have H37 := Lib.hid h37
          clear h37
          go_wp2_with fail
          refine (blank_is c false hb' _).mono ?_
          rintro e w2 ⟨rfl, m2, hm2⟩
          have H2 := Lib.hid (show At w0 w2 g (some ad) cap B (c :: t) by rw [hm2]; exact (H.out.drewN _).drewN m2)
          have HK2 := Lib.hid (show Kb g w.heap.size w w2 by rw [hm2]; exact (HK.out.drewN HK.out.size _).drewN (HK.out.drewN HK.out.size _).size m2)
          clear hm2 c0 c1 f0 f1 hx H HK hb hb' HP hne g1 g2
          have hd : ((c.toNat : Int) == 37) = true := by rw [H37.out]; rfl
          go_wp2_with fail
          clear hd
          go_loopg [] (c :: t).length (fun gk wx => ∃ s : List UInt8, s.length ≤ gk ∧ Hid (s = c :: t ∨ s.length ≤ t.length) ∧ Hid (skipL true s = skipL false l) ∧ Hid (At w0 wx g (some ad) cap B s) ∧ Hid (Kb g w.heap.size w wx))
          case atStart => exact ⟨c :: t, Nat.le_refl _, .inl rfl, HT, H2, HK2⟩
          case round =>
            clear H2 HK2 HT HS
            obtain ⟨s, hs, HC, HS, H, HK⟩ := hrel
            cases s with
            | nil =>
              go_wp2_with fail
              go_quiet ((go_at_call 76; exact quiet_at (more_nil (H.out.drewN _))))
              go_wp2_with fail
              go_roundg 0
              case measure => have := HL.out; simp only [List.length_cons] at this; omega
              case rel => exact ⟨[], Nat.le_refl _, HS.out, H.out.drewN _, HK.out.drewN HK.out.size _⟩
            | cons d t2 =>
              obtain ⟨n, p, ad', e', hn, hlt, hsm, hp1, c0, c1, f0, f1, hx, hne⟩ := H.out.head
              cases e'
              have HP := Lib.hid hp1
              have g1 : (0 : Int) ≤ (p : Int) := by omega
              have g2 : (p : Int) < (n : Int) := by omega
              have g3 : (n : Int) ≤ 140737488351232 := by omega
              have HL2 := Lib.hid hs
              clear hn hp1 hs hlt hsm
              cases hb : endB d with
              | true =>
                obtain ⟨z, hz, hE⟩ := end_yes d hb
                have HE := Lib.hid hE
                have HB := Lib.hid hb
                clear hE hb
                go_wp2_with fail
                go_quiet ((first | (go_at_call 76; exact quiet_at (more_cons (H.out.drewN _))) | (go_at_call 90; exact quiet_at (HE.out _))))
                go_wp2_with fail
                have hlen : (d :: t2).length ≤ t.length := by
                  rcases HC.out with e | e
                  · injection e with e1 e2
                    have := HB.out
                    rw [e1, H37.out] at this
                    cases this
                  · exact e
                have HLL := Lib.hid hlen
                clear hlen
                go_roundg (d :: t2).length
                case measure => have := HL.out; have := HLL.out; simp only [List.length_cons] at *; omega
                case rel =>
                  refine ⟨d :: t2, Nat.le_refl _, ?_, H.out.drewN _, HK.out.drewN HK.out.size _⟩
                  have h1 := HS.out
                  rw [skipL, HB.out] at h1
                  show skipL false (d :: t2) = skipL false l
                  rw [skipL, if_pos (end_blank d HB.out), ← h1]
                  rfl
              | false =>
                have HE := Lib.hid (end_no d hb)
                have HB := Lib.hid hb
                clear hb
                go_wp2_with fail
                go_quiet ((first | (go_at_call 76; exact quiet_at (more_cons (H.out.drewN _))) | (go_at_call 90; exact quiet_at (HE.out _))))
                go_wp2_with fail
                go_roundg t2.length
                case measure => have := HL2.out; simp only [List.length_cons] at this; omega
                case rel =>
                  refine ⟨t2, Nat.le_refl _, ?_, ?_, (H.out.drewN _).set _ (by rw [HP.out]; push_cast; rfl), (HK.out.drewN HK.out.size _).trans (Kb.set _ _ _ _ _)⟩
                  · rcases HC.out with e | e
                    · injection e with e1 e2
                      exact .inr (by rw [e2]; exact Nat.le_refl _)
                    · exact .inr (by simp only [List.length_cons] at e; omega)
                  · have h1 := HS.out
                    rw [skipL, HB.out] at h1
                    exact h1
        · have hd : ((c.toNat : Int) == 37) = false := beq_eq_false_iff_ne.2 (fun e => h37 (UInt8.toNat_inj.1 (by show c.toNat = 37; omega)))
          have HT := Lib.hid (show c :: t = skipL false l by rw [← HS.out, skipL, if_neg hb, if_neg h37])
          go_wp2_with fail
          refine (blank_is c false hb' _).mono ?_
          rintro e w2 ⟨rfl, m2, hm2⟩
          have H2 := Lib.hid (show At w0 w2 g (some ad) cap B (c :: t) by rw [hm2]; exact (H.out.drewN _).drewN m2)
          have HK2 := Lib.hid (show Kb g w.heap.size w w2 by rw [hm2]; exact (HK.out.drewN HK.out.size _).drewN (HK.out.drewN HK.out.size _).size m2)
          clear hm2 c0 c1 f0 f1 hx H HK hb hb' h37 hne g1 g2
          go_wp2_with fail
          refine bodyPost_ret (results_none rfl _ _ _) rfl ?_
          exact ⟨rfl, by rw [← HT.out]; exact H2.out, HK2.out⟩

end Go.Proofs.YtiocgpfnbmlfaaaDoor.SC

/-! ## SC -/
namespace Go.Proofs.YtiocgpfnbmlfaaaDoor.SC
open Go Go.RowKit Go.Proofs.YtiocgpfnbmlfaaaDoor Go.Proofs.YtiocgpfnbmlfaaaDoor.PS1 Go.Proofs.YtiocgpfnbmlfaaaDoor.QD Go.Proofs.YtiocgpfnbmlfaaaDoorW.PrintWords Go.Proofs.YtiocgpfnbmlfaaaDoorW.PrintLast

/-! ### word -/
def WordQ (w0 w : World) (g : Nat) (A : Option Addr) (cap : Nat) (B x l : List UInt8) (e : Ending) (w' : World) : Prop := e = .returned (.string (S x)) ∧ At w0 w' g A cap B l ∧ Kb g w.heap.size w w'

theorem mid_bytes {B l s x : List UInt8} (hl : l <:+ B) (hx : l = x ++ s) : ((bI B).take ((B.length - s.length : Nat) : Int).toNat).drop ((B.length - l.length : Nat) : Int).toNat = bI x := by
  obtain ⟨a, ha⟩ := hl
  subst hx
  have h1 : B.length - s.length = (a ++ x).length := by rw [← ha]; simp; omega
  have h2 : B.length - (x ++ s).length = a.length := by rw [← ha]; simp
  rw [Int.toNat_natCast, Int.toNat_natCast, h1, h2, ← ha, ← List.append_assoc]
  unfold bI
  rw [List.map_append, List.take_left' (by simp), List.map_append, List.drop_left' (by simp)]

theorem infoU8 : (Tryd.prog.info? 5).map (fun i => (i.zero, i.size, i.bytes)) = some (some (.int .u8 0), 1, 1) := by kernel_rfl
/-- the bytes from one place to another, as a string -/
theorem cut_str {w : World} {A : Option Addr} {cap n : Nat} {B l s x : List UInt8} (hrow : (Kd.int .u8).C w A B.length (bI B)) (hcap : B.length ≤ cap) (hn : B.length = n) (hl : l <:+ B) (hx : l = x ++ s) (a b : Nat) (ha : B.length - l.length = a) (hb : B.length - s.length = b) :
    ∃ A' k c', (∀ W : World, (Instr.slice 32 (.slice A n cap) (some (.int .i64 (a : Int))) (some (.int .i64 (b : Int))) none).run Tryd.prog W = .ok (.slice A' k c') W) ∧
      ∀ m, (convert 32 9 (.slice A' k c')).run Tryd.prog (w.drewN m) = .ok (.string (S x)) (w.drewN m) := by
  obtain ⟨i0, hi, _, hsz, _⟩ := info_parts infoU8
  have hll : l.length ≤ B.length := hl.length_le
  have hsl : s.length ≤ l.length := by rw [hx]; simp
  obtain ⟨A', hcut, hA, hC⟩ := print_mid_of (P := Tryd.prog) (Value.int .u8) 0 32 5 .i64 .i64 Tryd.underlying32 hi hsz A cap (bI B) (a : Int) (b : Int) (by omega) (by omega) (by rw [bI_len]; omega) (by rw [bI_len]; exact hcap)
  have hmid := mid_bytes hl hx
  rw [hb, ha] at hmid
  rw [hmid] at hcut hA
  rw [bI_len B, hn] at hcut
  refine ⟨A', _, _, hcut, fun m => ?_⟩
  have hr : (Kd.int .u8).C w A (bI B).length (bI B) := by rw [bI_len]; exact hrow
  have h1 := Kd.C_of_reads (h1 := fun _ => rfl) (hA _ (Kd.reads_of_C hr))
  have h2 := Kd.C_drewN h1 m
  have h3 := Kd.C_string (P := Tryd.prog) (A := A') (c := cap - (a : Int).toNat) Tryd.underlying32 Tryd.underlying5 Tryd.underlying9 h2
  rw [bI_str] at h3
  exact h3

set_option maxHeartbeats 2000000 in
set_option maxRecDepth 100000 in
theorem word_any {w0 w : World} {g cap : Nat} {A : Option Addr} {B l : List UInt8} (h : At w0 w g A cap B l) :
    Calls Tryd.prog 80 #[.pointer (some ⟨g, 0, none⟩)] w (WordQ w0 w g A cap B (l.takeWhile regB) (l.dropWhile regB)) := by
  have H := Lib.hid h
  have HK := Lib.hid (Kb.refl g w.heap.size w)
  have HS0 := Lib.hid h.suf
  obtain ⟨⟨c0, c1⟩, f0, f1⟩ := h.st.blk.facts
  clear h
  obtain ⟨p0, hp0⟩ : ∃ p0, B.length - l.length = p0 := ⟨_, rfl⟩
  have HP0 := Lib.hid hp0
  rw [hp0] at c1
  clear hp0
  go_enter Tryd.func80, Tryd.ntmps80
  go_wp2_with fail
  clear c0 c1 f0 f1
  go_loopg [] l.length (fun gk wx => ∃ s x : List UInt8, s.length ≤ gk ∧ Hid (l = x ++ s ∧ x.all regB = true) ∧ Hid (At w0 wx g A cap B s) ∧ Hid (Kb g w.heap.size w wx))
  case atStart => exact ⟨l, [], Nat.le_refl _, ⟨rfl, rfl⟩, H, HK⟩
  case round =>
    clear H HK
    obtain ⟨s, x, hs, HX, H, HK⟩ := hrel
    have fin : ∀ (wx : World) (s x : List UInt8), l = x ++ s → x.all regB = true → (∀ c t, s = c :: t → regB c = false) → l.takeWhile regB = x ∧ l.dropWhile regB = s := by
      intro wx s x e1 e2 e3
      subst e1
      have hz : s.takeWhile regB = [] ∧ s.dropWhile regB = s := by
        cases s with
        | nil => exact ⟨rfl, rfl⟩
        | cons c t => simp [e3 c t rfl]
      rw [List.takeWhile_append_of_pos (fun y hy => List.all_eq_true.1 e2 y hy), List.dropWhile_append_of_pos (fun y hy => List.all_eq_true.1 e2 y hy), hz.1, hz.2, List.append_nil]
      exact ⟨rfl, rfl⟩
    cases s with
    | nil =>
      have HF := Lib.hid (fin wr [] x HX.out.1 HX.out.2 (fun c t e => by cases e))
      obtain ⟨⟨c0, c1⟩, f0, f1⟩ := H.out.st.blk.facts
      obtain ⟨b1, hb1⟩ : ∃ b1, B.length - ([] : List UInt8).length = b1 := ⟨_, rfl⟩
      rw [hb1] at c1
      obtain ⟨A', k, c', hcut, hcv⟩ := cut_str (H.out.row_at) H.out.capl rfl HS0.out HX.out.1 p0 b1 HP0.out hb1
      clear fin hb1
      go_wp2_with fail
      go_quiet ((go_at_call 76; exact quiet_at (more_nil (H.out.drewN _))))
      go_wp2_with fail
      go_quiet (fail)
      go_wp2_with fail
      go_ret
      exact ⟨by rw [HF.out.1]; rfl, by rw [HF.out.2]; exact (H.out.drewN _).drewN _, (HK.out.drewN HK.out.size _).drewN (HK.out.drewN HK.out.size _).size _⟩
    | cons c t =>
      obtain ⟨n, p, ad, rfl, hn, hlt, hsm, hp1, c0, c1, f0, f1, hx, hne⟩ := H.out.head
      have HP := Lib.hid hp1
      have g1 : (0 : Int) ≤ (p : Int) := by omega
      have g2 : (p : Int) < (n : Int) := by omega
      have g3 : (n : Int) ≤ 140737488351232 := by omega
      have HL := Lib.hid hs
      cases hr : regB c with
      | true =>
        have HR := Lib.hid hr
        clear hn hp1 hs hlt hsm fin hr
        go_wp2_with fail
        go_quiet ((first | (go_at_call 76; exact quiet_at (more_cons (H.out.drewN _))) | (go_at_call 105; exact quiet_at (reg_is c true HR.out _))))
        go_wp2_with fail
        go_roundg t.length
        case measure => have := HL.out; simp only [List.length_cons] at this; omega
        case rel =>
          refine ⟨t, x ++ [c], Nat.le_refl _, ⟨?_, ?_⟩, (H.out.drewN _).set _ (by rw [HP.out]; push_cast; rfl), (HK.out.drewN HK.out.size _).trans (Kb.set _ _ _ _ _)⟩
          · rw [HX.out.1]; simp
          · rw [List.all_append, HX.out.2]; simp [HR.out]
      | false =>
        have HF := Lib.hid (fin wr (c :: t) x HX.out.1 HX.out.2 (fun c' t' e => by injection e with e1 e2; rw [← e1]; exact hr))
        have HR := Lib.hid hr
        obtain ⟨A', k, c', hcut, hcv⟩ := cut_str (H.out.row_at) H.out.capl hn HS0.out HX.out.1 p0 p HP0.out (by have := H.out.len; simp only [List.length_cons] at this ⊢; omega)
        clear hn hp1 hs hlt hsm fin hr
        go_wp2_with fail
        go_quiet ((first | (go_at_call 76; exact quiet_at (more_cons (H.out.drewN _))) | (go_at_call 105; exact quiet_at (reg_is c false HR.out _))))
        go_wp2_with fail
        go_quiet (fail)
        go_wp2_with fail
        go_ret
        exact ⟨by rw [HF.out.1]; rfl, by rw [HF.out.2]; exact (H.out.drewN _).drewN _, (HK.out.drewN HK.out.size _).drewN (HK.out.drewN HK.out.size _).size _⟩

/-! ### name, text -/
def NameQ (k : Int) (s : ByteArray) (w : World) (e : Ending) (w' : World) : Prop := e = .returned (.agg #[.int .i64 k, .int .i64 0, .string s]) ∧ Below w.heap.size w w'
def GaveUpB (er : Int) (w : World) (e : Ending) (w' : World) : Prop := e = .panicked [{ v := .iface 28 (.int .i64 er), recovered := false }] ∧ Below w.heap.size w w'

set_option maxHeartbeats 2000000 in
set_option maxRecDepth 100000 in
theorem name_ok (k : Int) (s : ByteArray) (w : World) (hs : s.size ≤ 127) : Calls Tryd.prog 81 #[.int .i64 k, .string s] w (NameQ k s w) := by
  have hsz : ¬ ((127 : Int) < (s.size : Int)) := by omega
  clear hs
  go_enter Tryd.func81, Tryd.ntmps81
  go_wp2_with fail
  refine bodyPost_ret (v := .agg #[.int .i64 k, .int .i64 0, .string s]) (by simp [results, Tryd.results81, go_sem]) rfl ⟨rfl, ?_⟩
  exact (Below.refl _ _).alloc (Nat.le_refl _) _

set_option maxHeartbeats 2000000 in
set_option maxRecDepth 100000 in
theorem name_long (k : Int) (s : ByteArray) (w : World) (hs : 127 < s.size) : Calls Tryd.prog 81 #[.int .i64 k, .string s] w (GaveUpB 9 w) := by
  have hsz : (127 : Int) < (s.size : Int) := by omega
  clear hs
  go_enter Tryd.func81, Tryd.ntmps81
  go_wp2_with fail
  exact ⟨rfl, rfl, (Below.refl _ _).alloc (Nat.le_refl _) _⟩

set_option maxHeartbeats 2000000 in
set_option maxRecDepth 100000 in
theorem text_ok (A : Option Addr) (k c : Nat) (o : List UInt8) (w : World) (hr : (Kd.int .u8).C w A k (bI o)) (hs : k ≤ 65535) : Calls Tryd.prog 103 #[.slice A k c] w (NameQ 6 (S o) w) := by
  have hsz : ¬ ((65535 : Int) < (k : Int)) := by omega
  have hcv := Kd.C_string (P := Tryd.prog) (A := A) (c := c) Tryd.underlying32 Tryd.underlying5 Tryd.underlying9 (Kd.C_alloc hr (.cells #[.int .i64 0, .int .i64 0, .string ⟨#[]⟩] 27))
  rw [bI_str] at hcv
  clear hs hr
  go_enter Tryd.func103, Tryd.ntmps103
  go_wp2_with fail
  refine bodyPost_ret (v := .agg #[.int .i64 6, .int .i64 0, .string (S o)]) (by simp [results, Tryd.results103, go_sem]) rfl ⟨rfl, ?_⟩
  exact (Below.refl _ _).alloc (Nat.le_refl _) _

set_option maxHeartbeats 2000000 in
set_option maxRecDepth 100000 in
theorem text_long (A : Option Addr) (k c : Nat) (w : World) (hs : 65535 < k) : Calls Tryd.prog 103 #[.slice A k c] w (GaveUpB 9 w) := by
  have hsz : (65535 : Int) < (k : Int) := by omega
  clear hs
  go_enter Tryd.func103, Tryd.ntmps103
  go_wp2_with fail
  exact ⟨rfl, rfl, (Below.refl _ _).alloc (Nat.le_refl _) _⟩

end Go.Proofs.YtiocgpfnbmlfaaaDoor.SC

/-! ## SD -/
namespace Go.Proofs.YtiocgpfnbmlfaaaDoor.SC
open Go Go.RowKit Go.Proofs.YtiocgpfnbmlfaaaDoor Go.Proofs.YtiocgpfnbmlfaaaDoor.PS1 Go.Proofs.YtiocgpfnbmlfaaaDoor.QD Go.Proofs.YtiocgpfnbmlfaaaDoorW.PrintWords Go.Proofs.YtiocgpfnbmlfaaaDoorW.PrintLast

def dropLF : List UInt8 → List UInt8
  | [] => []
  | c :: t => if c = 10 then t else c :: t
def NextLF (w0 w : World) (g : Nat) (A : Option Addr) (cap : Nat) (B l : List UInt8) (e : Ending) (w' : World) : Prop := (∃ b, e = .returned (.bool b)) ∧ At w0 w' g A cap B l ∧ Kb g w.heap.size w w'
theorem next_lf {w0 w : World} {g cap : Nat} {A : Option Addr} {B l : List UInt8} (h : At w0 w g A cap B l) :
    Calls Tryd.prog 102 #[.pointer (some ⟨g, 0, none⟩), .int .u8 10] w (NextLF w0 w g A cap B (dropLF l)) := by
  cases l with
  | nil => exact (next_end h 10).mono fun e w' ⟨h1, h2, h3⟩ => ⟨⟨_, h1⟩, h2, h3⟩
  | cons c t =>
    by_cases hc : c = 10
    · rw [dropLF, if_pos hc]
      exact (next_yes h 10 (by rw [hc]; rfl)).mono fun e w' ⟨h1, h2, h3⟩ => ⟨⟨_, h1⟩, h2, h3⟩
    · rw [dropLF, if_neg hc]
      exact (next_other h 10 (beq_eq_false_iff_ne.2 (fun e => hc (UInt8.toNat_inj.1 (by show c.toNat = 10; omega))))).mono fun e w' ⟨h1, h2, h3⟩ => ⟨⟨_, h1⟩, h2, h3⟩

/-- bytes of the call's own -/
def Own (w : World) (b : Nat) (v : Value) (xs : List UInt8) : Prop := Kd.R (Kd.int .u8) 5 w b (fun _ => True) v (bI xs)
theorem Own.snoc {w : World} {b : Nat} {v : Value} {xs : List UInt8} {z : Int} (h : Kd.R (Kd.int .u8) 5 w b (fun _ => True) v (bI xs ++ [z])) (c : UInt8) (hz : z = (c.toNat : Int)) : Own w b v (xs ++ [c]) := by
  subst hz
  unfold Own bI at *
  simpa using h
theorem Own.step {w w' : World} {b : Nat} {v : Value} {xs : List UInt8} (h : Own w b v xs) (hb : Below w.heap.size w w') : Own w' b v xs := Kd.R_below h hb
theorem Own.kept {w w' : World} {g b : Nat} {v : Value} {xs : List UInt8} (h : Own w b v xs) (hk : Kb g w.heap.size w w') (hg : g < b) : Own w' b v xs := by
  refine Kd.R_mono (Kd.R_step (Kd.R_bound h) (fun k hk1 hk2 => ?_)) (fun _ _ => trivial)
  exact hk.block k hk2 (by have := hk1.2.1; omega)

/-! ### escape -/
def isOct (c : UInt8) : Bool := decide (48 ≤ c.toNat) && decide (c.toNat ≤ 55)
/-- up to k digits more of a number -/
def octL : Nat → Nat → List UInt8 → List UInt8 × List UInt8
  | 0, n, l => ([UInt8.ofNat n], l)
  | _ + 1, n, [] => ([UInt8.ofNat n], [])
  | k + 1, n, d :: t => if isOct d = true then octL k (8 * n + (d.toNat - 48)) t else ([UInt8.ofNat n], d :: t)
/-- the bytes that stand for it, and the rest -/
def escL (c : UInt8) (l : List UInt8) : List UInt8 × List UInt8 :=
  if c = 110 then ([10], l) else if c = 114 then ([13], l) else if c = 116 then ([9], l) else if c = 98 then ([8], l) else if c = 102 then ([12], l) else if c = 10 then ([], l) else if c = 13 then ([], dropLF l)
  else if isOct c = true then octL 2 (c.toNat - 48) l else ([c], l)
def EscQ (w0 w : World) (g : Nat) (A : Option Addr) (cap : Nat) (B : List UInt8) (b : Nat) (xs l : List UInt8) (e : Ending) (w' : World) : Prop :=
  ∃ v', e = .returned v' ∧ Own w' b v' xs ∧ At w0 w' g A cap B l ∧ Kb g b w w'

set_option maxHeartbeats 2000000 in
set_option maxRecDepth 100000 in
theorem esc_110 {w0 w : World} {g cap b : Nat} {A : Option Addr} {B l xs : List UInt8} {v : Value} (h : At w0 w g A cap B l) (ho : Own w b v xs) (hg : g < b) (hb : b ≤ w.heap.size) (hx : xs.length ≤ 140737488351232) :
    Calls Tryd.prog 101 #[.pointer (some ⟨g, 0, none⟩), v, .int .u8 110] w (EscQ w0 w g A cap B b (xs ++ [10]) l) := by
  have H := Lib.hid h
  have HO := Lib.hid ho
  have HG := Lib.hid hg
  have HB := Lib.hid hb
  have HL := Lib.hid hx
  clear h ho hg hb hx
  go_enter Tryd.func101, Tryd.ntmps101
  go_wp2_with (at_builtin; refine Kd.R_append (Kd.int .u8) (w0 := w) b rfl (.tmp 12) (.tmp 13) 32 5 (.int .u8 0) 1 rfl Tryd.underlying32 infoU8 rfl (by decide) (by omega) v (bI xs) (10) [.int .u8 (10)] (fun _ => True) (fun _ => False) rfl rfl ?aP (fun _ hk => hk.elim) ?aF HO.out (Below.refl _ _) ?aS ?aL ?_; (case aP => exact rfl); (case aF => exact (fun _ _ => trivial)); (case aS => exact HB.out); (case aL => rw [bI_len]; have := HL.out; omega); intro v1 w1 ho hb hg hat)
  have HO1 := Lib.hid ho
  have HB1 := Lib.hid hb
  clear ho hb hg hat
  go_wp2_with fail
  go_ret
  exact ⟨_, rfl, Own.snoc HO1.out 10 rfl, H.out.step HB1.out HG.out, Kb.of_below HB1.out⟩

set_option maxHeartbeats 2000000 in
set_option maxRecDepth 100000 in
theorem esc_114 {w0 w : World} {g cap b : Nat} {A : Option Addr} {B l xs : List UInt8} {v : Value} (h : At w0 w g A cap B l) (ho : Own w b v xs) (hg : g < b) (hb : b ≤ w.heap.size) (hx : xs.length ≤ 140737488351232) :
    Calls Tryd.prog 101 #[.pointer (some ⟨g, 0, none⟩), v, .int .u8 114] w (EscQ w0 w g A cap B b (xs ++ [13]) l) := by
  have H := Lib.hid h
  have HO := Lib.hid ho
  have HG := Lib.hid hg
  have HB := Lib.hid hb
  have HL := Lib.hid hx
  clear h ho hg hb hx
  go_enter Tryd.func101, Tryd.ntmps101
  go_wp2_with (at_builtin; refine Kd.R_append (Kd.int .u8) (w0 := w) b rfl (.tmp 17) (.tmp 18) 32 5 (.int .u8 0) 1 rfl Tryd.underlying32 infoU8 rfl (by decide) (by omega) v (bI xs) (13) [.int .u8 (13)] (fun _ => True) (fun _ => False) rfl rfl ?aP (fun _ hk => hk.elim) ?aF HO.out (Below.refl _ _) ?aS ?aL ?_; (case aP => exact rfl); (case aF => exact (fun _ _ => trivial)); (case aS => exact HB.out); (case aL => rw [bI_len]; have := HL.out; omega); intro v1 w1 ho hb hg hat)
  have HO1 := Lib.hid ho
  have HB1 := Lib.hid hb
  clear ho hb hg hat
  go_wp2_with fail
  go_ret
  exact ⟨_, rfl, Own.snoc HO1.out 13 rfl, H.out.step HB1.out HG.out, Kb.of_below HB1.out⟩

set_option maxHeartbeats 2000000 in
set_option maxRecDepth 100000 in
theorem esc_116 {w0 w : World} {g cap b : Nat} {A : Option Addr} {B l xs : List UInt8} {v : Value} (h : At w0 w g A cap B l) (ho : Own w b v xs) (hg : g < b) (hb : b ≤ w.heap.size) (hx : xs.length ≤ 140737488351232) :
    Calls Tryd.prog 101 #[.pointer (some ⟨g, 0, none⟩), v, .int .u8 116] w (EscQ w0 w g A cap B b (xs ++ [9]) l) := by
  have H := Lib.hid h
  have HO := Lib.hid ho
  have HG := Lib.hid hg
  have HB := Lib.hid hb
  have HL := Lib.hid hx
  clear h ho hg hb hx
  go_enter Tryd.func101, Tryd.ntmps101
  go_wp2_with (at_builtin; refine Kd.R_append (Kd.int .u8) (w0 := w) b rfl (.tmp 22) (.tmp 23) 32 5 (.int .u8 0) 1 rfl Tryd.underlying32 infoU8 rfl (by decide) (by omega) v (bI xs) (9) [.int .u8 (9)] (fun _ => True) (fun _ => False) rfl rfl ?aP (fun _ hk => hk.elim) ?aF HO.out (Below.refl _ _) ?aS ?aL ?_; (case aP => exact rfl); (case aF => exact (fun _ _ => trivial)); (case aS => exact HB.out); (case aL => rw [bI_len]; have := HL.out; omega); intro v1 w1 ho hb hg hat)
  have HO1 := Lib.hid ho
  have HB1 := Lib.hid hb
  clear ho hb hg hat
  go_wp2_with fail
  go_ret
  exact ⟨_, rfl, Own.snoc HO1.out 9 rfl, H.out.step HB1.out HG.out, Kb.of_below HB1.out⟩

set_option maxHeartbeats 2000000 in
set_option maxRecDepth 100000 in
theorem esc_98 {w0 w : World} {g cap b : Nat} {A : Option Addr} {B l xs : List UInt8} {v : Value} (h : At w0 w g A cap B l) (ho : Own w b v xs) (hg : g < b) (hb : b ≤ w.heap.size) (hx : xs.length ≤ 140737488351232) :
    Calls Tryd.prog 101 #[.pointer (some ⟨g, 0, none⟩), v, .int .u8 98] w (EscQ w0 w g A cap B b (xs ++ [8]) l) := by
  have H := Lib.hid h
  have HO := Lib.hid ho
  have HG := Lib.hid hg
  have HB := Lib.hid hb
  have HL := Lib.hid hx
  clear h ho hg hb hx
  go_enter Tryd.func101, Tryd.ntmps101
  go_wp2_with (at_builtin; refine Kd.R_append (Kd.int .u8) (w0 := w) b rfl (.tmp 27) (.tmp 28) 32 5 (.int .u8 0) 1 rfl Tryd.underlying32 infoU8 rfl (by decide) (by omega) v (bI xs) (8) [.int .u8 (8)] (fun _ => True) (fun _ => False) rfl rfl ?aP (fun _ hk => hk.elim) ?aF HO.out (Below.refl _ _) ?aS ?aL ?_; (case aP => exact rfl); (case aF => exact (fun _ _ => trivial)); (case aS => exact HB.out); (case aL => rw [bI_len]; have := HL.out; omega); intro v1 w1 ho hb hg hat)
  have HO1 := Lib.hid ho
  have HB1 := Lib.hid hb
  clear ho hb hg hat
  go_wp2_with fail
  go_ret
  exact ⟨_, rfl, Own.snoc HO1.out 8 rfl, H.out.step HB1.out HG.out, Kb.of_below HB1.out⟩

set_option maxHeartbeats 2000000 in
set_option maxRecDepth 100000 in
theorem esc_102 {w0 w : World} {g cap b : Nat} {A : Option Addr} {B l xs : List UInt8} {v : Value} (h : At w0 w g A cap B l) (ho : Own w b v xs) (hg : g < b) (hb : b ≤ w.heap.size) (hx : xs.length ≤ 140737488351232) :
    Calls Tryd.prog 101 #[.pointer (some ⟨g, 0, none⟩), v, .int .u8 102] w (EscQ w0 w g A cap B b (xs ++ [12]) l) := by
  have H := Lib.hid h
  have HO := Lib.hid ho
  have HG := Lib.hid hg
  have HB := Lib.hid hb
  have HL := Lib.hid hx
  clear h ho hg hb hx
  go_enter Tryd.func101, Tryd.ntmps101
  go_wp2_with (at_builtin; refine Kd.R_append (Kd.int .u8) (w0 := w) b rfl (.tmp 32) (.tmp 33) 32 5 (.int .u8 0) 1 rfl Tryd.underlying32 infoU8 rfl (by decide) (by omega) v (bI xs) (12) [.int .u8 (12)] (fun _ => True) (fun _ => False) rfl rfl ?aP (fun _ hk => hk.elim) ?aF HO.out (Below.refl _ _) ?aS ?aL ?_; (case aP => exact rfl); (case aF => exact (fun _ _ => trivial)); (case aS => exact HB.out); (case aL => rw [bI_len]; have := HL.out; omega); intro v1 w1 ho hb hg hat)
  have HO1 := Lib.hid ho
  have HB1 := Lib.hid hb
  clear ho hb hg hat
  go_wp2_with fail
  go_ret
  exact ⟨_, rfl, Own.snoc HO1.out 12 rfl, H.out.step HB1.out HG.out, Kb.of_below HB1.out⟩

set_option maxHeartbeats 2000000 in
set_option maxRecDepth 100000 in
theorem esc_10 {w0 w : World} {g cap b : Nat} {A : Option Addr} {B l xs : List UInt8} {v : Value} (h : At w0 w g A cap B l) (ho : Own w b v xs) (hg : g < b) (hb : b ≤ w.heap.size) (hx : xs.length ≤ 140737488351232) :
    Calls Tryd.prog 101 #[.pointer (some ⟨g, 0, none⟩), v, .int .u8 10] w (EscQ w0 w g A cap B b xs l) := by
  have H := Lib.hid h
  have HO := Lib.hid ho
  have HG := Lib.hid hg
  have HB := Lib.hid hb
  have HL := Lib.hid hx
  clear h ho hg hb hx
  clear HB HL
  go_enter Tryd.func101, Tryd.ntmps101
  go_wp2_with fail
  go_ret
  exact ⟨_, rfl, HO.out, H.out, Kb.refl _ _ _⟩

set_option maxHeartbeats 2000000 in
set_option maxRecDepth 100000 in
theorem esc_13 {w0 w : World} {g cap b : Nat} {A : Option Addr} {B l xs : List UInt8} {v : Value} (h : At w0 w g A cap B l) (ho : Own w b v xs) (hg : g < b) (hb : b ≤ w.heap.size) (hx : xs.length ≤ 140737488351232) :
    Calls Tryd.prog 101 #[.pointer (some ⟨g, 0, none⟩), v, .int .u8 13] w (EscQ w0 w g A cap B b xs (dropLF l)) := by
  have H := Lib.hid h
  have HO := Lib.hid ho
  have HG := Lib.hid hg
  have HB := Lib.hid hb
  have HL := Lib.hid hx
  clear h ho hg hb hx
  clear HL
  have HN := Lib.hid (next_lf H.out)
  go_enter Tryd.func101, Tryd.ntmps101
  go_wp2_with fail
  refine HN.out.mono ?_
  rintro e w1 ⟨⟨bb, rfl⟩, hA, hK⟩
  have HA := Lib.hid hA
  have HK := Lib.hid hK
  clear hA hK HN
  go_wp2_with fail
  go_ret
  exact ⟨_, rfl, HO.out.kept HK.out HG.out, HA.out, HK.out.mono HB.out⟩

set_option maxHeartbeats 2000000 in
set_option maxRecDepth 100000 in
theorem esc_self {w0 w : World} {g cap b : Nat} {A : Option Addr} {B l xs : List UInt8} {v : Value} (h : At w0 w g A cap B l) (ho : Own w b v xs) (hg : g < b) (hb : b ≤ w.heap.size) (hx : xs.length ≤ 140737488351232) (c : UInt8) (n1 : ((c.toNat : Int) == 110) = false) (n2 : ((c.toNat : Int) == 114) = false) (n3 : ((c.toNat : Int) == 116) = false) (n4 : ((c.toNat : Int) == 98) = false) (n5 : ((c.toNat : Int) == 102) = false) (n6 : ((c.toNat : Int) == 10) = false) (n7 : ((c.toNat : Int) == 13) = false) (hc : isOct c = false) :
    Calls Tryd.prog 101 #[.pointer (some ⟨g, 0, none⟩), v, .int .u8 (c.toNat : Int)] w (EscQ w0 w g A cap B b (xs ++ [c]) l) := by
  have H := Lib.hid h
  have HO := Lib.hid ho
  have HG := Lib.hid hg
  have HB := Lib.hid hb
  have HL := Lib.hid hx
  clear h ho hg hb hx
  have hway : (decide ((c.toNat : Int) < 48) = true) ∨ (decide ((c.toNat : Int) < 48) = false ∧ decide ((55 : Int) < (c.toNat : Int)) = true) := by
    unfold isOct at hc
    by_cases h1 : 48 ≤ c.toNat
    · by_cases h2 : c.toNat ≤ 55
      · simp [h1, h2] at hc
      · exact .inr ⟨decide_eq_false (by omega), decide_eq_true (by omega)⟩
    · exact .inl (decide_eq_true (by omega))
  clear hc
  rcases hway with k1 | ⟨k1, k2⟩
  all_goals
    go_enter Tryd.func101, Tryd.ntmps101
    go_wp2_with (at_builtin; refine Kd.R_append (Kd.int .u8) (w0 := w) b rfl (.tmp 49) (.tmp 51) 32 5 (.int .u8 0) 1 rfl Tryd.underlying32 infoU8 rfl (by decide) (by omega) v (bI xs) ((c.toNat : Int)) [.int .u8 ((c.toNat : Int))] (fun _ => True) (fun _ => False) rfl rfl ?aP (fun _ hk => hk.elim) ?aF HO.out (Below.refl _ _) ?aS ?aL ?_; (case aP => exact rfl); (case aF => exact (fun _ _ => trivial)); (case aS => exact HB.out); (case aL => rw [bI_len]; have := HL.out; omega); intro v1 w1 ho hb hg hat)
    have HO1 := Lib.hid ho
    have HB1 := Lib.hid hb
    clear ho hb hg hat
    go_wp2_with fail
    go_ret
    exact ⟨_, rfl, Own.snoc HO1.out c rfl, H.out.step HB1.out HG.out, Kb.of_below HB1.out⟩

set_option maxHeartbeats 2000000 in
set_option maxRecDepth 100000 in
theorem esc_oct {w0 w : World} {g cap b : Nat} {A : Option Addr} {B l xs : List UInt8} {v : Value} (h : At w0 w g A cap B l) (ho : Own w b v xs) (hg : g < b) (hb : b ≤ w.heap.size) (hx : xs.length ≤ 140737488351232) (c : UInt8) (n1 : ((c.toNat : Int) == 110) = false) (n2 : ((c.toNat : Int) == 114) = false) (n3 : ((c.toNat : Int) == 116) = false) (n4 : ((c.toNat : Int) == 98) = false) (n5 : ((c.toNat : Int) == 102) = false) (n6 : ((c.toNat : Int) == 10) = false) (n7 : ((c.toNat : Int) == 13) = false) (hc : isOct c = true) :
    Calls Tryd.prog 101 #[.pointer (some ⟨g, 0, none⟩), v, .int .u8 (c.toNat : Int)] w (EscQ w0 w g A cap B b (xs ++ (octL 2 (c.toNat - 48) l).1) (octL 2 (c.toNat - 48) l).2) := by
  have H := Lib.hid h
  have HO := Lib.hid ho
  have HG := Lib.hid hg
  have HB := Lib.hid hb
  have HL := Lib.hid hx
  clear h ho hg hb hx
  have hco : 48 ≤ c.toNat ∧ c.toNat ≤ 55 := by
    unfold isOct at hc
    simpa using hc
  have k1 : decide ((c.toNat : Int) < 48) = false := decide_eq_false (by omega)
  have k2 : decide ((55 : Int) < (c.toNat : Int)) = false := decide_eq_false (by omega)
  obtain ⟨N0, hN0⟩ : ∃ N0, c.toNat - 48 = N0 := ⟨_, rfl⟩
  have k3 : ((c.toNat : Int) - 48) % 256 = (N0 : Int) := by omega
  have hN1 : N0 ≤ 7 := by omega
  rw [hN0]
  clear hc hco hN0
  go_enter Tryd.func101, Tryd.ntmps101
  go_upto_block 1 with fail
  clear k1 k2 k3 n1 n2 n3 n4 n5 n6 n7
  go_cut [7] (fun v7 wx => (∃ (N : Nat) (s : List UInt8), v7 = .int .i64 (N : Int) ∧ Hid (octL 2 N0 l = ([UInt8.ofNat N], s)) ∧ Hid (At w0 wx g A cap B s)) ∧ Hid (Kb g w.heap.size w wx))
  case first => as_aux_lemma =>
    have HK := Lib.hid (Kb.refl g w.heap.size w)
    go_wp2_with fail
    go_loopg [7, 8] 2 (fun gk v7 v8 wx => ∃ (k N : Nat) (s : List UInt8), k + gk = 2 ∧ v7 = .int .i64 (N : Int) ∧ v8 = .int .i64 (k : Int) ∧ N < 8 ^ (k + 1) ∧ Hid (octL 2 N0 l = octL gk N s) ∧ Hid (At w0 wx g A cap B s) ∧ Hid (Kb g w.heap.size w wx))
    case atStart => exact ⟨0, N0, l, rfl, rfl, rfl, by omega, rfl, H, HK⟩
    case round =>
      clear H HK HO HL HB hN1
      obtain ⟨k, N, s, hkg, rfl, rfl, hN, HS, H, HK⟩ := hrel
      have hN3 : N ≤ 511 := by
        have : 8 ^ (k + 1) ≤ 8 ^ 3 := Nat.pow_le_pow_right (by omega) (by omega)
        omega
      have HN := Lib.hid hN
      clear hN
      cases gk with
      | zero =>
        have hd : decide ((k : Int) < 2) = false := decide_eq_false (by omega)
        have hd' : decide (k < 2) = false := decide_eq_false (by omega)
        clear hkg
        go_wp2_with fail
        go_quiet (fail)
        go_wp2_with fail
        go_meet
        exact ⟨⟨N, s, rfl, HS.out, H.out.drewN _⟩, HK.out.drewN HK.out.size _⟩
      | succ q =>
        have hd : decide ((k : Int) < 2) = true := decide_eq_true (by omega)
        have hd' : decide (k < 2) = true := decide_eq_true (by omega)
        have HKG := Lib.hid hkg
        have hk1 : (k : Int) ≤ 1 := by omega
        clear hkg
        cases s with
        | nil =>
          go_wp2_with fail
          go_quiet ((go_at_call 76; exact quiet_at (more_nil (H.out.drewN _))))
          go_wp2_with fail
          go_meet
          exact ⟨⟨N, [], rfl, HS.out, H.out.drewN _⟩, HK.out.drewN HK.out.size _⟩
        | cons d t =>
          obtain ⟨n, p, ad, rfl, hn, hlt, hsm, hp1, c0, c1, f0, f1, hx, hne⟩ := H.out.head
          have HP := Lib.hid hp1
          have g1 : (0 : Int) ≤ (p : Int) := by omega
          have g2 : (p : Int) < (n : Int) := by omega
          have g3 : (n : Int) ≤ 140737488351232 := by omega
          clear hn hp1 hlt hsm
          by_cases e1 : 48 ≤ d.toNat
          · have d1 : decide ((48 : Int) ≤ (d.toNat : Int)) = true := decide_eq_true (by omega)
            by_cases e2 : d.toNat ≤ 55
            · have d2 : decide ((d.toNat : Int) ≤ 55) = true := decide_eq_true (by omega)
              have HD := Lib.hid (And.intro e1 e2)
              clear e1 e2
              go_wp2_with fail
              go_quiet ((go_at_call 76; exact quiet_at (more_cons (H.out.drewN _))))
              go_wp2_with fail
              refine (take_yes (H.out.drewN _)).mono ?_
              rintro e w1 ⟨rfl, hA, hK⟩
              have HA := Lib.hid hA
              have HK2 := Lib.hid ((HK.out.drewN HK.out.size _).then_ (HK.out.drewN HK.out.size _).size hK)
              have hdb := HD.out
              have hs1 : (((d.toNat : Int)) - 48) % 256 = ((d.toNat - 48 : Nat) : Int) := by omega
              clear hA hK c0 c1 f0 f1 hx d1 d2 hd hd'
              obtain ⟨x, hx⟩ : ∃ x, d.toNat - 48 = x := ⟨_, rfl⟩
              rw [hx] at hs1
              have HX := Lib.hid hx
              have hx7 : x ≤ 7 := by omega
              clear hx hdb
              go_wp2_with fail
              go_roundg q
              case measure => omega
              case rel =>
                have hkq := HKG.out
                refine ⟨k + 1, 8 * N + x, t, by omega, by push_cast; rfl, by go_num, ?_, ?_, HA.out, HK2.out⟩
                · have h1 := HN.out
                  have h2 : 8 ^ (k + 1 + 1) = 8 ^ (k + 1) * 8 := Nat.pow_succ ..
                  omega
                · show octL 2 N0 l = octL q (8 * N + x) t
                  rw [HS.out, octL, if_pos (by unfold isOct; rw [decide_eq_true HD.out.1, decide_eq_true HD.out.2]; rfl), HX.out]
            · have d2 : decide ((d.toNat : Int) ≤ 55) = false := decide_eq_false (by omega)
              have HD := Lib.hid (show isOct d = false by unfold isOct; rw [decide_eq_false e2, Bool.and_false])
              clear e1 e2
              go_wp2_with fail
              go_quiet ((go_at_call 76; exact quiet_at (more_cons (H.out.drewN _))))
              go_wp2_with fail
              go_meet
              exact ⟨⟨N, d :: t, rfl, by show octL 2 N0 l = _; rw [HS.out, octL, if_neg (by rw [HD.out]; exact Bool.false_ne_true)], H.out.drewN _⟩, HK.out.drewN HK.out.size _⟩
          · have d1 : decide ((48 : Int) ≤ (d.toNat : Int)) = false := decide_eq_false (by omega)
            have HD := Lib.hid (show isOct d = false by unfold isOct; rw [decide_eq_false e1, Bool.false_and])
            clear e1
            go_wp2_with fail
            go_quiet ((go_at_call 76; exact quiet_at (more_cons (H.out.drewN _))))
            go_wp2_with fail
            go_meet
            exact ⟨⟨N, d :: t, rfl, by show octL 2 N0 l = _; rw [HS.out, octL, if_neg (by rw [HD.out]; exact Bool.false_ne_true)], H.out.drewN _⟩, HK.out.drewN HK.out.size _⟩
  obtain ⟨⟨N, s, rfl, HS, HA⟩, HK⟩ := hcut
  have HO2 := HO.out.kept HK.out HG.out
  replace HO := Lib.hid HO2
  have HBW := HB
  replace HB := Lib.hid (Nat.le_trans HB.out HK.out.size)
  clear HO2 H
  go_wp2_with (at_builtin; refine Kd.R_append (Kd.int .u8) (w0 := wc) b rfl (.tmp 97) (.tmp 100) 32 5 (.int .u8 0) 1 rfl Tryd.underlying32 infoU8 rfl (by decide) (by omega) v (bI xs) ((N : Int) % 256) [.int .u8 ((N : Int) % 256)] (fun _ => True) (fun _ => False) rfl rfl ?aP (fun _ hk => hk.elim) ?aF HO.out (Below.refl _ _) ?aS ?aL ?_; (case aP => exact rfl); (case aF => exact (fun _ _ => trivial)); (case aS => exact HB.out); (case aL => rw [bI_len]; have := HL.out; omega); intro v1 w1 ho hb hg hat)
  have HO1 := Lib.hid ho
  have HB1 := Lib.hid hb
  clear ho hb hg hat
  go_wp2_with fail
  go_ret
  rw [HS.out]
  exact ⟨_, rfl, Own.snoc HO1.out (UInt8.ofNat N) (by rw [UInt8.toNat_ofNat']; omega), HA.out.step HB1.out HG.out, (HK.out.mono HBW.out).belows HB1.out (Nat.le_refl _)⟩

end Go.Proofs.YtiocgpfnbmlfaaaDoor.SC

/-! ## SE -/
namespace Go.Proofs.YtiocgpfnbmlfaaaDoor.SC
open Go Go.RowKit Go.Proofs.YtiocgpfnbmlfaaaDoor Go.Proofs.YtiocgpfnbmlfaaaDoor.PS1 Go.Proofs.YtiocgpfnbmlfaaaDoor.QD Go.Proofs.YtiocgpfnbmlfaaaDoorW.PrintWords Go.Proofs.YtiocgpfnbmlfaaaDoorW.PrintLast

theorem ne_of (c : UInt8) (k : Nat) (hk : k < 256) (h : ¬ c = UInt8.ofNat k) : ((c.toNat : Int) == (k : Int)) = false := by
  refine beq_eq_false_iff_ne.2 (fun e => h (UInt8.toNat_inj.1 ?_))
  rw [UInt8.toNat_ofNat']
  omega
theorem esc_any {w0 w : World} {g cap b : Nat} {A : Option Addr} {B l xs : List UInt8} {v : Value} (h : At w0 w g A cap B l) (ho : Own w b v xs) (hg : g < b) (hb : b ≤ w.heap.size) (hx : xs.length ≤ 140737488351232) (c : UInt8) :
    Calls Tryd.prog 101 #[.pointer (some ⟨g, 0, none⟩), v, .int .u8 (c.toNat : Int)] w (EscQ w0 w g A cap B b (xs ++ (escL c l).1) (escL c l).2) := by
  unfold escL
  by_cases h1 : c = 110
  · rw [if_pos h1, h1]; exact esc_110 h ho hg hb hx
  by_cases h2 : c = 114
  · rw [if_neg h1, if_pos h2, h2]; exact esc_114 h ho hg hb hx
  by_cases h3 : c = 116
  · rw [if_neg h1, if_neg h2, if_pos h3, h3]; exact esc_116 h ho hg hb hx
  by_cases h4 : c = 98
  · rw [if_neg h1, if_neg h2, if_neg h3, if_pos h4, h4]; exact esc_98 h ho hg hb hx
  by_cases h5 : c = 102
  · rw [if_neg h1, if_neg h2, if_neg h3, if_neg h4, if_pos h5, h5]; exact esc_102 h ho hg hb hx
  by_cases h6 : c = 10
  · rw [if_neg h1, if_neg h2, if_neg h3, if_neg h4, if_neg h5, if_pos h6, h6]
    have := esc_10 h ho hg hb hx
    simpa using this
  by_cases h7 : c = 13
  · rw [if_neg h1, if_neg h2, if_neg h3, if_neg h4, if_neg h5, if_neg h6, if_pos h7, h7]
    have := esc_13 h ho hg hb hx
    simpa using this
  rw [if_neg h1, if_neg h2, if_neg h3, if_neg h4, if_neg h5, if_neg h6, if_neg h7]
  have n1 := ne_of c 110 (by omega) h1
  have n2 := ne_of c 114 (by omega) h2
  have n3 := ne_of c 116 (by omega) h3
  have n4 := ne_of c 98 (by omega) h4
  have n5 := ne_of c 102 (by omega) h5
  have n6 := ne_of c 10 (by omega) h6
  have n7 := ne_of c 13 (by omega) h7
  cases hc : isOct c with
  | true => rw [if_pos rfl]; exact esc_oct h ho hg hb hx c n1 n2 n3 n4 n5 n6 n7 hc
  | false => rw [if_neg Bool.false_ne_true]; exact esc_self h ho hg hb hx c n1 n2 n3 n4 n5 n6 n7 hc

theorem dropLF_len (l : List UInt8) : (dropLF l).length ≤ l.length := by
  cases l with
  | nil => exact Nat.le_refl _
  | cons c t => rw [dropLF]; split <;> simp
theorem oct_len : ∀ (k n : Nat) (l : List UInt8), (octL k n l).1.length = 1 ∧ (octL k n l).2.length ≤ l.length
  | 0, n, l => by simp [octL]
  | k + 1, n, [] => by simp [octL]
  | k + 1, n, d :: t => by
    rw [octL]
    split
    · have := oct_len k (8 * n + (d.toNat - 48)) t
      simp only [List.length_cons]; omega
    · simp
theorem esc_len (c : UInt8) (l : List UInt8) : (escL c l).1.length ≤ 1 ∧ (escL c l).2.length ≤ l.length := by
  have h1 := dropLF_len l
  have h2 := oct_len 2 (c.toNat - 48) l
  unfold escL
  repeat' split
  all_goals first | (simp; done) | (simp; omega) | omega

/-- a string in round brackets, d of them open: what it holds, and what stands behind -/
def rnd (d : Nat) (l : List UInt8) : Option (List UInt8 × List UInt8) :=
  match l with
  | [] => none
  | c :: t =>
    if c = 41 ∧ d = 1 then some ([], t)
    else if c = 92 then
      match t with
      | [] => none
      | e :: u => (rnd d (escL e u).2).map fun p => ((escL e u).1 ++ p.1, p.2)
    else if c = 13 then (rnd d (dropLF t)).map fun p => (10 :: p.1, p.2)
    else (rnd (if c = 40 then d + 1 else if c = 41 then d - 1 else d) t).map fun p => (c :: p.1, p.2)
  termination_by l.length
  decreasing_by
    · have := (esc_len e u).2; simp only [List.length_cons]; omega
    · have := dropLF_len t; simp only [List.length_cons]; omega
    · simp

theorem rnd_nil (d : Nat) : rnd d [] = none := by rw [rnd.eq_def]
theorem rnd_close (t : List UInt8) : rnd 1 (41 :: t) = some ([], t) := by rw [rnd.eq_def]; exact if_pos ⟨rfl, rfl⟩
theorem not41 (c : UInt8) (d : Nat) (h : c ≠ 41) : ¬ (c = 41 ∧ d = 1) := fun e => h e.1
theorem rnd_esc0 (d : Nat) : rnd d [92] = none := by rw [rnd.eq_def]; exact (if_neg (not41 _ _ (by decide))).trans (if_pos rfl)
theorem rnd_esc (d : Nat) (e : UInt8) (u : List UInt8) : rnd d (92 :: e :: u) = (rnd d (escL e u).2).map fun p => ((escL e u).1 ++ p.1, p.2) := by rw [rnd.eq_def]; exact (if_neg (not41 _ _ (by decide))).trans (if_pos rfl)
theorem rnd_cr (d : Nat) (t : List UInt8) : rnd d (13 :: t) = (rnd d (dropLF t)).map fun p => ([10] ++ p.1, p.2) := by rw [rnd.eq_def]; exact ((if_neg (not41 _ _ (by decide))).trans (if_neg (by decide))).trans (if_pos rfl)
theorem rnd_put (d : Nat) (c : UInt8) (t : List UInt8) (h1 : ¬ (c = 41 ∧ d = 1)) (h2 : c ≠ 92) (h3 : c ≠ 13) : rnd d (c :: t) = (rnd (if c = 40 then d + 1 else if c = 41 then d - 1 else d) t).map fun p => ([c] ++ p.1, p.2) := by rw [rnd.eq_def]; exact ((if_neg h1).trans (if_neg h2)).trans (if_neg h3)
theorem rnd_next {R : Option (List UInt8 × List UInt8)} {d d' : Nat} {s s' xs ys : List UInt8} (h : R = (rnd d s).map fun p => (xs ++ p.1, p.2)) (e : rnd d s = (rnd d' s').map fun p => (ys ++ p.1, p.2)) : R = (rnd d' s').map fun p => ((xs ++ ys) ++ p.1, p.2) := by
  rw [h, e]
  cases rnd d' s' <;> simp

/-- what a string comes to -/
def StrQ (r : Option (List UInt8 × List UInt8)) (w0 w : World) (g : Nat) (A : Option Addr) (cap : Nat) (B : List UInt8) (e : Ending) (w' : World) : Prop :=
  match r with
  | none => GaveUp 14 g w e w'
  | some (o, s) => if 65535 < o.length then GaveUp 9 g w e w' else e = .returned (.agg #[.int .i64 6, .int .i64 0, .string (S o)]) ∧ At w0 w' g A cap B s ∧ Kb g w.heap.size w w'

theorem StrQ.none_ {r : Option (List UInt8 × List UInt8)} {w0 w w' : World} {g cap : Nat} {A : Option Addr} {B : List UInt8} {e : Ending} (hr : r = none) (h : GaveUp 14 g w e w') : StrQ r w0 w g A cap B e w' := by subst hr; exact h
theorem StrQ.long {r : Option (List UInt8 × List UInt8)} {w0 w w' : World} {g cap : Nat} {A : Option Addr} {B o s : List UInt8} {e : Ending} (hr : r = some (o, s)) (hl : 65535 < o.length) (h : GaveUp 9 g w e w') : StrQ r w0 w g A cap B e w' := by
  subst hr; unfold StrQ; simp only [if_pos hl]; exact h
theorem StrQ.ok {r : Option (List UInt8 × List UInt8)} {w0 w w' : World} {g cap : Nat} {A : Option Addr} {B o s : List UInt8} {e : Ending} (hr : r = some (o, s)) (hl : ¬ 65535 < o.length) (h : e = .returned (.agg #[.int .i64 6, .int .i64 0, .string (S o)])) (ha : At w0 w' g A cap B s ∧ Kb g w.heap.size w w') : StrQ r w0 w g A cap B e w' := by
  subst hr; unfold StrQ; simp only [if_neg hl]; exact ⟨h, ha⟩

/-- what the loop of a string in brackets keeps: own bytes, the result's block, the reader -/
structure Lp (w0 w wx : World) (g : Nat) (A : Option Addr) (cap : Nat) (B s xs : List UInt8) (v : Value) : Prop where
  own : Own wx (w.heap.size + 1) v xs
  at_ : At w0 wx g A cap B s
  blk : TokBlk w.heap.size wx
  kb : Kb g w.heap.size w wx
  gl : g < w.heap.size
theorem Lp.size {w0 w wx : World} {g cap : Nat} {A : Option Addr} {B s xs : List UInt8} {v : Value} (h : Lp w0 w wx g A cap B s xs v) : w.heap.size + 1 ≤ wx.heap.size := by have := h.blk.lt; omega
/-- a step that leaves the bytes alone -/
theorem Lp.read {w0 w wx wy : World} {g cap : Nat} {A : Option Addr} {B s s' xs : List UInt8} {v : Value} (h : Lp w0 w wx g A cap B s xs v) (ha : At w0 wy g A cap B s') (hk : Kb g wx.heap.size wx wy) : Lp w0 w wy g A cap B s' xs v :=
  ⟨h.own.kept hk (by have := h.gl; omega), ha, (hk.block _ h.blk.lt (by have := h.gl; omega)).trans h.blk, h.kb.then_ (by have := h.size; omega) hk, h.gl⟩
/-- a byte more -/
theorem Lp.put {w0 w wx wy : World} {g cap : Nat} {A : Option Addr} {B s xs : List UInt8} {v v' : Value} {z : Int} (h : Lp w0 w wx g A cap B s xs v) (c : UInt8) (ho : Kd.R (Kd.int .u8) 5 wy (w.heap.size + 1) (fun _ => True) v' (bI xs ++ [z])) (hz : z = (c.toNat : Int)) (hb : Below (w.heap.size + 1) wx wy) : Lp w0 w wy g A cap B s (xs ++ [c]) v' :=
  ⟨Own.snoc ho c hz, h.at_.step hb (by have := h.gl; omega), (hb.block _ (by omega)).trans h.blk, h.kb.belows hb (by omega), h.gl⟩
theorem Lp.esc {w0 w wx wy : World} {g cap : Nat} {A : Option Addr} {B s s' xs ys : List UInt8} {v v' : Value} (h : Lp w0 w wx g A cap B s xs v) (ho : Own wy (w.heap.size + 1) v' ys) (ha : At w0 wy g A cap B s') (hk : Kb g (w.heap.size + 1) wx wy) : Lp w0 w wy g A cap B s' ys v' :=
  ⟨ho, ha, (hk.block _ (by omega) (by have := h.gl; omega)).trans h.blk, h.kb.trans (hk.mono (by omega)), h.gl⟩
theorem Lp.out {w0 w wx : World} {g cap : Nat} {A : Option Addr} {B s xs : List UInt8} {v u0 u1 u2 : Value} (h : Lp w0 w wx g A cap B s xs v) :
    At w0 (((wx.setCell ⟨w.heap.size, 0, none⟩ u0).setCell ⟨w.heap.size, 1, none⟩ u1).setCell ⟨w.heap.size, 2, none⟩ u2) g A cap B s ∧ Kb g w.heap.size w (((wx.setCell ⟨w.heap.size, 0, none⟩ u0).setCell ⟨w.heap.size, 1, none⟩ u1).setCell ⟨w.heap.size, 2, none⟩ u2) := by
  have hb : Below w.heap.size wx (((wx.setCell ⟨w.heap.size, 0, none⟩ u0).setCell ⟨w.heap.size, 1, none⟩ u1).setCell ⟨w.heap.size, 2, none⟩ u2) :=
    (((Below.refl w.heap.size wx).setCell (p := ⟨w.heap.size, 0, none⟩) (Nat.le_refl _) u0).setCell (p := ⟨w.heap.size, 1, none⟩) (Nat.le_refl _) u1).setCell (p := ⟨w.heap.size, 2, none⟩) (Nat.le_refl _) u2
  exact ⟨h.at_.step hb h.gl, h.kb.belows hb (Nat.le_refl _)⟩
theorem Lp.start {w0 w : World} {g cap : Nat} {A : Option Addr} {B s : List UInt8} (h : At w0 w g A cap B s) : Lp w0 w (w.alloc (.cells #[.int .i64 0, .int .i64 0, .string ⟨#[]⟩] 27)) g A cap B s [] (.slice none 0 0) :=
  ⟨Kd.R_nil _ _ _ _ _, h.step ((Below.refl _ _).alloc (Nat.le_refl _) _) h.lt, TokBlk.new w, Kb.of_below ((Below.refl _ _).alloc (Nat.le_refl _) _), h.lt⟩

set_option maxHeartbeats 4000000 in
set_option maxRecDepth 100000 in
theorem round_any {w0 w : World} {g cap : Nat} {A : Option Addr} {B l : List UInt8} (h : At w0 w g A cap B l) :
    Calls Tryd.prog 77 #[.pointer (some ⟨g, 0, none⟩)] w (StrQ (rnd 1 l) w0 w g A cap B) := by
  have HP := Lib.hid (Lp.start h)
  have HBL := Lib.hid (show l.length ≤ 140737488351232 from Nat.le_trans h.len h.small)
  clear h
  go_enter Tryd.func77, Tryd.ntmps77
  go_wp2_with fail
  go_loopg [3, 4] l.length (fun gk v3 v4 wx => ∃ (d : Nat) (s xs : List UInt8) (v : Value), v = v3 ∧ 1 ≤ d ∧ s.length ≤ gk ∧ d + s.length ≤ l.length + 1 ∧ xs.length + s.length ≤ l.length ∧ v4 = .int .i64 (d : Int) ∧ Hid (rnd 1 l = (rnd d s).map fun p => (xs ++ p.1, p.2)) ∧ Hid (Lp w0 w wx g A cap B s xs v))
  case atStart => exact ⟨1, l, [], _, rfl, Nat.le_refl _, Nat.le_refl _, by omega, by simp, rfl, by cases rnd 1 l <;> rfl, HP⟩
  case round =>
    clear HP
    obtain ⟨d, s, xs, v, rfl, hd, hs, hds, hxs, rfl, HS, HP⟩ := hrel
    have HD := Lib.hid (And.intro hd hds)
    have HL := Lib.hid hs
    have HX := Lib.hid hxs
    have hd0 : (1 : Int) ≤ (d : Int) := by omega
    have hd1 : (d : Int) ≤ 140737488351233 := by have := HBL.out; omega
    clear hs hds hxs
    cases s with
    | nil =>
      have HR := Lib.hid (show rnd 1 l = none by rw [HS.out, rnd_nil]; rfl)
      go_wp2_with fail
      refine (take_end HP.out.at_).mono ?_
      rintro e w1 ⟨rfl, hk⟩
      have HK := Lib.hid (HP.out.kb.then_ (by have := HP.out.size; omega) hk)
      clear hk
      go_wp2_with fail
      exact ⟨rfl, StrQ.none_ HR.out ⟨rfl, HK.out⟩⟩
    | cons c t =>
      go_wp2_with fail
      refine (take_yes HP.out.at_).mono ?_
      rintro e w1 ⟨rfl, hA, hK⟩
      replace HP := Lib.hid (HP.out.read hA hK)
      clear hA hK
      by_cases h41 : c = 41
      · have HC := Lib.hid h41
        by_cases hd2 : d = 1
        · have HD2 := Lib.hid hd2
          have HR := Lib.hid (show rnd 1 l = some (xs, t) by rw [HS.out, HC.out, HD2.out, rnd_close]; simp)
          obtain ⟨AA, cc, rfl, hcl, hrow⟩ := Kd.R_reads HP.out.own
          rw [bI_len] at hrow
          have HROW := Lib.hid hrow
          have n0 : ((c.toNat : Int) == 40) = false := ne_of c 40 (by omega) (by rw [h41]; decide)
          have n1 : ((c.toNat : Int) == 41) = true := by rw [h41]; rfl
          have n2 : ((d : Int) - 1 == 0) = true := by rw [hd2]; rfl
          obtain ⟨⟨c0, c1, c2⟩, f0, f1, f2⟩ := HP.out.blk.facts
          have hlt := HP.out.blk.lt
          clear h41 hd2 hcl hrow
          by_cases hlong : 65535 < xs.length
          · have HLG := Lib.hid hlong
            go_wp2_with fail
            rw [bI_len]
            refine (text_long AA xs.length cc _ HLG.out).mono ?_
            rintro e w2 ⟨rfl, hb⟩
            have HK := Lib.hid (HP.out.kb.belows hb (by have := HP.out.size; omega))
            clear hb
            go_wp2_with fail
            exact ⟨rfl, StrQ.long HR.out HLG.out ⟨rfl, HK.out⟩⟩
          · have HLG := Lib.hid hlong
            go_wp2_with fail
            rw [bI_len]
            refine (text_ok AA xs.length cc xs _ HROW.out (by have := HLG.out; omega)).mono ?_
            rintro e w2 ⟨rfl, hb⟩
            have HP2 := Lib.hid (HP.out.read (HP.out.at_.step hb HP.out.at_.lt) (Kb.of_below hb))
            clear hb c0 c1 c2 f0 f1 f2 hlt hlong
            obtain ⟨⟨c0, c1, c2⟩, f0, f1, f2⟩ := HP2.out.blk.facts
            have hlt := HP2.out.blk.lt
            go_wp2_with fail
            refine bodyPost_ret (v := .agg #[.int .i64 6, .int .i64 0, .string (S xs)]) (by simp [results, Tryd.results77, go_sem, c0, c1, c2]) rfl ?_
            exact StrQ.ok HR.out HLG.out rfl HP2.out.out
        · have HS2 := Lib.hid (rnd_next HS.out (rnd_put d c t (fun e => hd2 e.2) (by rw [h41]; decide) (by rw [h41]; decide)))
          have n0 : ((c.toNat : Int) == 40) = false := ne_of c 40 (by omega) (by rw [h41]; decide)
          have n1 : ((c.toNat : Int) == 41) = true := by rw [h41]; rfl
          have n2 : ((d : Int) - 1 == 0) = false := beq_eq_false_iff_ne.2 (by omega)
          have HD2 := Lib.hid (show (if c = 40 then d + 1 else if c = 41 then d - 1 else d) = d - 1 by rw [h41]; rfl)
          have HD3 := Lib.hid (show 2 ≤ d by omega)
          have HRL := Lib.hid (Nat.le_refl t.length)
          replace HS2 := Lib.hid (show rnd 1 l = (rnd (d - 1) t).map fun p => ((xs ++ [c]) ++ p.1, p.2) by rw [← HD2.out]; exact HS2.out)
          clear h41 hd2
          have HC := HC
          go_wp2_with (at_builtin; refine Kd.R_append (Kd.int .u8) (w0 := w1) (w.heap.size + 1) rfl (.tmp 32) (.tmp 34) 32 5 (.int .u8 0) 1 rfl Tryd.underlying32 infoU8 rfl (by decide) (by omega) v (bI xs) ((c.toNat : Int)) [.int .u8 ((c.toNat : Int))] (fun _ => True) (fun _ => False) rfl rfl ?aP (fun _ hk => hk.elim) ?aF HP.out.own (Below.refl _ _) ?aS ?aL ?_; (case aP => exact rfl); (case aF => exact (fun _ _ => trivial)); (case aS => exact HP.out.size); (case aL => rw [bI_len]; have := HX.out; have := HBL.out; omega); intro v1 w2 ho hb hg hat)
          have HP2 := Lib.hid (HP.out.put c ho rfl hb)
          clear ho hb hg hat
          go_wp2_with fail
          go_roundg (t).length
          case measure => have := HL.out; have := HRL.out; simp only [List.length_cons] at *; omega
          case rel =>
            have e1 := HD.out
            have e2 := HL.out
            have e3 := HX.out
            have e4 := HRL.out
            simp only [List.length_cons] at e1 e2 e3
            refine ⟨(d - 1), t, xs ++ [c], _, rfl, by have := HD3.out; omega, Nat.le_refl _, by omega, by simp only [List.length_append, List.length_cons, List.length_nil]; omega, by have := HD3.out; rw [show ((d - 1 : Nat) : Int) = (d : Int) - 1 from by omega], HS2.out, HP2.out⟩
      · by_cases h92 : c = 92
        · have HC := Lib.hid h92
          have n0 : ((c.toNat : Int) == 40) = false := ne_of c 40 (by omega) (by rw [h92]; decide)
          have n1 : ((c.toNat : Int) == 41) = false := ne_of c 41 (by omega) (by rw [h92]; decide)
          have n3 : ((c.toNat : Int) == 92) = true := by rw [h92]; rfl
          clear h41 h92
          cases t with
          | nil =>
            have HR := Lib.hid (show rnd 1 l = none by rw [HS.out, HC.out, rnd_esc0]; rfl)
            go_wp2_with fail
            refine (take_end HP.out.at_).mono ?_
            rintro e w2 ⟨rfl, hk⟩
            have HK := Lib.hid (HP.out.kb.then_ (by have := HP.out.size; omega) hk)
            clear hk
            go_wp2_with fail
            exact ⟨rfl, StrQ.none_ HR.out ⟨rfl, HK.out⟩⟩
          | cons e u =>
            have HS2 := Lib.hid (rnd_next HS.out (by rw [HC.out]; exact rnd_esc d e u))
            have HEL := Lib.hid (esc_len e u)
            go_wp2_with fail
            refine (take_yes HP.out.at_).mono ?_
            rintro ee w2 ⟨rfl, hA, hK⟩
            have HP2 := Lib.hid (HP.out.read hA hK)
            clear hA hK
            go_wp2_with fail
            refine (esc_any HP2.out.at_ HP2.out.own (by have := HP2.out.gl; omega) HP2.out.size (by have := HX.out; have := HBL.out; omega) e).mono ?_
            rintro ee w3 ⟨v3, rfl, ho, ha, hk⟩
            have HP3 := Lib.hid (HP2.out.esc ho ha hk)
            clear ho ha hk
            go_wp2_with fail
            go_roundg (escL e u).2.length
            case measure => have := HL.out; have := HEL.out; simp only [List.length_cons] at *; omega
            case rel =>
              have e1 := HD.out
              have e2 := HL.out
              have e3 := HX.out
              have e4 := HEL.out
              simp only [List.length_cons] at e1 e2 e3
              exact ⟨d, (escL e u).2, xs ++ (escL e u).1, _, rfl, by omega, Nat.le_refl _, by omega, by simp only [List.length_append]; omega, rfl, HS2.out, HP3.out⟩
        · by_cases h13 : c = 13
          · have HC := Lib.hid h13
            have n0 : ((c.toNat : Int) == 40) = false := ne_of c 40 (by omega) (by rw [h13]; decide)
            have n1 : ((c.toNat : Int) == 41) = false := ne_of c 41 (by omega) (by rw [h13]; decide)
            have n3 : ((c.toNat : Int) == 92) = false := ne_of c 92 (by omega) (by rw [h13]; decide)
            have n4 : ((c.toNat : Int) == 13) = true := by rw [h13]; rfl
            have n2 : ((d : Int) == 0) = false := beq_eq_false_iff_ne.2 (by omega)
            have HS2 := Lib.hid (rnd_next HS.out (by rw [HC.out]; exact rnd_cr d t))
            have HRL := Lib.hid (dropLF_len t)
            clear h41 h92 h13
            go_wp2_with fail
            refine (next_lf HP.out.at_).mono ?_
            rintro e w2 ⟨⟨bb, rfl⟩, hA, hK⟩
            replace HP := Lib.hid (HP.out.read hA hK)
            clear hA hK
            go_wp2_with (at_builtin; refine Kd.R_append (Kd.int .u8) (w0 := w2) (w.heap.size + 1) rfl (.tmp 32) (.tmp 34) 32 5 (.int .u8 0) 1 rfl Tryd.underlying32 infoU8 rfl (by decide) (by omega) v (bI xs) (10) [.int .u8 (10)] (fun _ => True) (fun _ => False) rfl rfl ?aP (fun _ hk => hk.elim) ?aF HP.out.own (Below.refl _ _) ?aS ?aL ?_; (case aP => exact rfl); (case aF => exact (fun _ _ => trivial)); (case aS => exact HP.out.size); (case aL => rw [bI_len]; have := HX.out; have := HBL.out; omega); intro v1 w3 ho hb hg hat)
            have HP2 := Lib.hid (HP.out.put 10 ho rfl hb)
            clear ho hb hg hat
            go_wp2_with fail
            go_roundg (dropLF t).length
            case measure => have := HL.out; have := HRL.out; simp only [List.length_cons] at *; omega
            case rel =>
              have e1 := HD.out
              have e2 := HL.out
              have e3 := HX.out
              have e4 := HRL.out
              simp only [List.length_cons] at e1 e2 e3
              refine ⟨d, dropLF t, xs ++ [10], _, rfl, by skip; omega, Nat.le_refl _, by omega, by simp only [List.length_append, List.length_cons, List.length_nil]; omega, rfl, HS2.out, HP2.out⟩
          · by_cases h40 : c = 40
            · have HC := Lib.hid h40
              have n0 : ((c.toNat : Int) == 40) = true := by rw [h40]; rfl
              have n2 : ((d : Int) + 1 == 0) = false := beq_eq_false_iff_ne.2 (by omega)
              have HS2 := Lib.hid (rnd_next HS.out (show rnd d (c :: t) = (rnd (d + 1) t).map _ from (rnd_put d c t (not41 _ _ h41) h92 h13).trans (by rw [if_pos h40])))
              have HRL := Lib.hid (Nat.le_refl t.length)
              clear h41 h92 h13 h40
              go_wp2_with (at_builtin; refine Kd.R_append (Kd.int .u8) (w0 := w1) (w.heap.size + 1) rfl (.tmp 32) (.tmp 34) 32 5 (.int .u8 0) 1 rfl Tryd.underlying32 infoU8 rfl (by decide) (by omega) v (bI xs) ((c.toNat : Int)) [.int .u8 ((c.toNat : Int))] (fun _ => True) (fun _ => False) rfl rfl ?aP (fun _ hk => hk.elim) ?aF HP.out.own (Below.refl _ _) ?aS ?aL ?_; (case aP => exact rfl); (case aF => exact (fun _ _ => trivial)); (case aS => exact HP.out.size); (case aL => rw [bI_len]; have := HX.out; have := HBL.out; omega); intro v1 w2 ho hb hg hat)
              have HP2 := Lib.hid (HP.out.put c ho rfl hb)
              clear ho hb hg hat
              go_wp2_with fail
              go_roundg (t).length
              case measure => have := HL.out; have := HRL.out; simp only [List.length_cons] at *; omega
              case rel =>
                have e1 := HD.out
                have e2 := HL.out
                have e3 := HX.out
                have e4 := HRL.out
                simp only [List.length_cons] at e1 e2 e3
                refine ⟨(d + 1), t, xs ++ [c], _, rfl, by skip; omega, Nat.le_refl _, by omega, by simp only [List.length_append, List.length_cons, List.length_nil]; omega, by push_cast; rfl, HS2.out, HP2.out⟩
            · have n0 := ne_of c 40 (by omega) h40
              have n1 := ne_of c 41 (by omega) h41
              have n3 := ne_of c 92 (by omega) h92
              have n4 := ne_of c 13 (by omega) h13
              have n2 : ((d : Int) == 0) = false := beq_eq_false_iff_ne.2 (by omega)
              have HS2 := Lib.hid (rnd_next HS.out (show rnd d (c :: t) = (rnd d t).map _ from (rnd_put d c t (not41 _ _ h41) h92 h13).trans (by rw [if_neg h40, if_neg h41])))
              have HRL := Lib.hid (Nat.le_refl t.length)
              clear h41 h92 h13 h40
              go_wp2_with (at_builtin; refine Kd.R_append (Kd.int .u8) (w0 := w1) (w.heap.size + 1) rfl (.tmp 32) (.tmp 34) 32 5 (.int .u8 0) 1 rfl Tryd.underlying32 infoU8 rfl (by decide) (by omega) v (bI xs) ((c.toNat : Int)) [.int .u8 ((c.toNat : Int))] (fun _ => True) (fun _ => False) rfl rfl ?aP (fun _ hk => hk.elim) ?aF HP.out.own (Below.refl _ _) ?aS ?aL ?_; (case aP => exact rfl); (case aF => exact (fun _ _ => trivial)); (case aS => exact HP.out.size); (case aL => rw [bI_len]; have := HX.out; have := HBL.out; omega); intro v1 w2 ho hb hg hat)
              have HP2 := Lib.hid (HP.out.put c ho rfl hb)
              clear ho hb hg hat
              go_wp2_with fail
              go_roundg (t).length
              case measure => have := HL.out; have := HRL.out; simp only [List.length_cons] at *; omega
              case rel =>
                have e1 := HD.out
                have e2 := HL.out
                have e3 := HX.out
                have e4 := HRL.out
                simp only [List.length_cons] at e1 e2 e3
                refine ⟨d, t, xs ++ [c], _, rfl, by skip; omega, Nat.le_refl _, by omega, by simp only [List.length_append, List.length_cons, List.length_nil]; omega, rfl, HS2.out, HP2.out⟩

end Go.Proofs.YtiocgpfnbmlfaaaDoor.SC

/-! ## SF -/
namespace Go.Proofs.YtiocgpfnbmlfaaaDoor.SC
open Go Go.RowKit Go.Proofs.YtiocgpfnbmlfaaaDoor Go.Proofs.YtiocgpfnbmlfaaaDoor.PS1 Go.Proofs.YtiocgpfnbmlfaaaDoor.QD Go.Proofs.YtiocgpfnbmlfaaaDoorW.PrintWords Go.Proofs.YtiocgpfnbmlfaaaDoorW.PrintLast

/-- a string in pointed brackets, half a byte open or none: what it holds, and what stands behind -/
def hx : Option Nat → List UInt8 → Option (List UInt8 × List UInt8)
  | _, [] => none
  | o, c :: t =>
    if blankB c = true then hx o t
    else if c = 62 then some (match o with | none => [] | some v => [UInt8.ofNat (16 * v)], t)
    else if hexI c < 0 then none
    else match o with
      | none => hx (some (hexI c).toNat) t
      | some v => (hx none t).map fun p => ([UInt8.ofNat (16 * v + (hexI c).toNat)] ++ p.1, p.2)
theorem hex_rangeN : ∀ c : Fin 256, -1 ≤ hexN c.val ∧ hexN c.val ≤ 15 := by decide +kernel
theorem hex_range (c : UInt8) : -1 ≤ hexI c ∧ hexI c ≤ 15 := hex_rangeN ⟨c.toNat, c.toNat_lt⟩
theorem or_fin : ∀ v d : Fin 16, bits BinOp.or IntKind.i64 ((v.val : Int) * 16) (d.val : Int) = ((16 * v.val + d.val : Nat) : Int) := by decide +kernel
def Odd (o : Option Nat) (z : Int) : Prop := (o = none ∧ z = -1) ∨ ∃ v : Nat, v ≤ 15 ∧ o = some v ∧ z = (v : Int)
theorem hx_next {R : Option (List UInt8 × List UInt8)} {o o' : Option Nat} {s s' xs ys : List UInt8} (h : R = (hx o s).map fun p => (xs ++ p.1, p.2)) (e : hx o s = (hx o' s').map fun p => (ys ++ p.1, p.2)) : R = (hx o' s').map fun p => ((xs ++ ys) ++ p.1, p.2) := by
  rw [h, e]
  cases hx o' s' <;> simp
theorem hx_same {R : Option (List UInt8 × List UInt8)} {o o' : Option Nat} {s s' xs : List UInt8} (h : R = (hx o s).map fun p => (xs ++ p.1, p.2)) (e : hx o s = hx o' s') : R = (hx o' s').map fun p => (xs ++ p.1, p.2) := by rw [h, e]
theorem hx_blank (o : Option Nat) (c : UInt8) (t : List UInt8) (h : blankB c = true) : hx o (c :: t) = hx o t := by rw [hx.eq_def]; exact if_pos h
theorem hx_end (o : Option Nat) (t : List UInt8) : hx o (62 :: t) = some (match o with | none => [] | some v => [UInt8.ofNat (16 * v)], t) := by rw [hx.eq_def]; exact (if_neg (by decide)).trans (if_pos rfl)
theorem hx_nil (o : Option Nat) : hx o [] = none := by rw [hx]
theorem hx_bad (o : Option Nat) (c : UInt8) (t : List UInt8) (h : ¬ blankB c = true) (h2 : c ≠ 62) (h3 : hexI c < 0) : hx o (c :: t) = none := by rw [hx.eq_def]; exact ((if_neg h).trans (if_neg h2)).trans (if_pos h3)
theorem hx_half (c : UInt8) (t : List UInt8) (h : ¬ blankB c = true) (h2 : c ≠ 62) (h3 : ¬ hexI c < 0) : hx none (c :: t) = hx (some (hexI c).toNat) t := by rw [hx.eq_def]; exact ((if_neg h).trans (if_neg h2)).trans (if_neg h3)
theorem hx_full (v : Nat) (c : UInt8) (t : List UInt8) (h : ¬ blankB c = true) (h2 : c ≠ 62) (h3 : ¬ hexI c < 0) : hx (some v) (c :: t) = (hx none t).map fun p => ([UInt8.ofNat (16 * v + (hexI c).toNat)] ++ p.1, p.2) := by rw [hx.eq_def]; exact ((if_neg h).trans (if_neg h2)).trans (if_neg h3)

set_option maxHeartbeats 4000000 in
set_option maxRecDepth 100000 in
theorem hex_any {w0 w : World} {g cap : Nat} {A : Option Addr} {B l : List UInt8} (h : At w0 w g A cap B l) :
    Calls Tryd.prog 104 #[.pointer (some ⟨g, 0, none⟩)] w (StrQ (hx none l) w0 w g A cap B) := by
  have HP := Lib.hid (Lp.start h)
  have HBL := Lib.hid (show l.length ≤ 140737488351232 from Nat.le_trans h.len h.small)
  clear h
  go_enter Tryd.func104, Tryd.ntmps104
  go_wp2_with fail
  go_loopg [3, 4] l.length (fun gk v3 v4 wx => ∃ (z : Int) (o : Option Nat) (s xs : List UInt8) (v : Value), v = v3 ∧ s.length ≤ gk ∧ xs.length + s.length ≤ l.length ∧ v4 = .int .i64 z ∧ Hid (Odd o z) ∧ Hid (hx none l = (hx o s).map fun p => (xs ++ p.1, p.2)) ∧ Hid (Lp w0 w wx g A cap B s xs v))
  case atStart => exact ⟨-1, none, l, [], _, rfl, Nat.le_refl _, by simp, rfl, .inl ⟨rfl, rfl⟩, by cases hx none l <;> rfl, HP⟩
  case round =>
    clear HP
    obtain ⟨z, o, s, xs, v, rfl, hs, hxs, rfl, HO, HS, HP⟩ := hrel
    have HL := Lib.hid hs
    have HX := Lib.hid hxs
    clear hs hxs
    cases s with
    | nil =>
      have HR := Lib.hid (show hx none l = none by rw [HS.out, hx_nil]; rfl)
      go_wp2_with fail
      refine (take_end HP.out.at_).mono ?_
      rintro e w1 ⟨rfl, hk⟩
      have HK := Lib.hid (HP.out.kb.then_ (by have := HP.out.size; omega) hk)
      clear hk
      go_wp2_with fail
      exact ⟨rfl, StrQ.none_ HR.out ⟨rfl, HK.out⟩⟩
    | cons c t =>
      go_wp2_with fail
      refine (take_yes HP.out.at_).mono ?_
      rintro e w1 ⟨rfl, hA, hK⟩
      replace HP := Lib.hid (HP.out.read hA hK)
      clear hA hK
      by_cases hb : blankB c = true
      · have HS2 := Lib.hid (hx_same HS.out (hx_blank o c t hb))
        have HB := Lib.hid hb
        clear hb
        go_wp2_with fail
        refine (blank_is c true HB.out _).mono ?_
        rintro e w2 ⟨rfl, m, rfl⟩
        replace HP := Lib.hid (HP.out.read (HP.out.at_.drewN m) (Kb.of_below (drewN_below _ m)))
        go_wp2_with fail
        go_roundg t.length
        case measure => have := HL.out; simp only [List.length_cons] at *; omega
        case rel =>
          have e2 := HX.out
          simp only [List.length_cons] at e2
          exact ⟨z, o, t, xs, _, rfl, Nat.le_refl _, by omega, rfl, HO.out, HS2.out, HP.out⟩
      · have HB := Lib.hid hb
        go_wp2_with fail
        refine (blank_is c false (by simpa using HB.out) _).mono ?_
        rintro e w2 ⟨rfl, m, rfl⟩
        replace HP := Lib.hid (HP.out.read (HP.out.at_.drewN m) (Kb.of_below (drewN_below _ m)))
        by_cases h62 : c = 62
        · have HC := Lib.hid h62
          have n1 : ((c.toNat : Int) == 62) = true := by rw [h62]; rfl
          clear h62 hb
          rcases HO.out with ⟨ho, hz⟩ | ⟨vv, hv, ho, hz⟩
          · have HR := Lib.hid (show hx none l = some (xs, t) by rw [HS.out, HC.out, hx_end, ho]; simp)
            subst hz
            clear ho
            obtain ⟨AA, cc, rfl, hcl, hrow⟩ := Kd.R_reads HP.out.own
            rw [bI_len] at hrow
            have HROW := Lib.hid hrow
            obtain ⟨⟨c0, c1, c2⟩, f0, f1, f2⟩ := HP.out.blk.facts
            have hlt := HP.out.blk.lt
            clear hcl hrow
            by_cases hlong : 65535 < (xs).length
            · have HLG := Lib.hid hlong
              go_wp2_with fail
              rw [bI_len]
              refine (text_long AA (xs).length cc _ HLG.out).mono ?_
              rintro e w3 ⟨rfl, hb⟩
              have HK := Lib.hid (HP.out.kb.belows hb (by have := HP.out.size; omega))
              clear hb
              go_wp2_with fail
              exact ⟨rfl, StrQ.long HR.out HLG.out ⟨rfl, HK.out⟩⟩
            · have HLG := Lib.hid hlong
              go_wp2_with fail
              rw [bI_len]
              refine (text_ok AA (xs).length cc (xs) _ HROW.out (by have := HLG.out; omega)).mono ?_
              rintro e w3 ⟨rfl, hb⟩
              have HP2 := Lib.hid (HP.out.read (HP.out.at_.step hb HP.out.at_.lt) (Kb.of_below hb))
              clear hb c0 c1 c2 f0 f1 f2 hlt hlong
              obtain ⟨⟨c0, c1, c2⟩, f0, f1, f2⟩ := HP2.out.blk.facts
              have hlt := HP2.out.blk.lt
              go_wp2_with fail
              refine bodyPost_ret (v := .agg #[.int .i64 6, .int .i64 0, .string (S (xs))]) (by simp [results, Tryd.results104, go_sem, c0, c1, c2]) rfl ?_
              exact StrQ.ok HR.out HLG.out rfl HP2.out.out
          · have HR := Lib.hid (show hx none l = some (xs ++ [UInt8.ofNat (16 * vv)], t) by rw [HS.out, HC.out, hx_end, ho]; rfl)
            subst hz
            clear ho
            have hv0 : (0 : Int) ≤ (vv : Int) := by omega
            have hv1 : (vv : Int) ≤ 15 := by omega
            have HV := Lib.hid hv
            go_wp2_with (at_builtin; refine Kd.R_append (Kd.int .u8) (w0 := w1.drewN m) (w.heap.size + 1) rfl (.tmp 33) (.tmp 37) 32 5 (.int .u8 0) 1 rfl Tryd.underlying32 infoU8 rfl (by decide) (by omega) v (bI xs) ((vv : Int) * 16) [.int .u8 ((vv : Int) * 16)] (fun _ => True) (fun _ => False) rfl rfl ?aP (fun _ hk => hk.elim) ?aF HP.out.own (Below.refl _ _) ?aS ?aL ?_; (case aP => exact rfl); (case aF => exact (fun _ _ => trivial)); (case aS => exact HP.out.size); (case aL => rw [bI_len]; have := HX.out; have := HBL.out; omega); intro v1 w3 ho hb hg hat)
            replace HP := Lib.hid (HP.out.put (UInt8.ofNat (16 * vv)) ho (by have := HV.out; rw [UInt8.toNat_ofNat']; omega) hb)
            clear ho hb hg hat
            rename_i v_
            obtain ⟨AA, cc, rfl, hcl, hrow⟩ := Kd.R_reads HP.out.own
            rw [bI_len] at hrow
            have HROW := Lib.hid hrow
            obtain ⟨⟨c0, c1, c2⟩, f0, f1, f2⟩ := HP.out.blk.facts
            have hlt := HP.out.blk.lt
            clear hcl hrow
            by_cases hlong : 65535 < (xs ++ [UInt8.ofNat (16 * vv)]).length
            · have HLG := Lib.hid hlong
              go_wp2_with fail
              rw [bI_len]
              refine (text_long AA (xs ++ [UInt8.ofNat (16 * vv)]).length cc _ HLG.out).mono ?_
              rintro e w4 ⟨rfl, hb⟩
              have HK := Lib.hid (HP.out.kb.belows hb (by have := HP.out.size; omega))
              clear hb
              go_wp2_with fail
              exact ⟨rfl, StrQ.long HR.out HLG.out ⟨rfl, HK.out⟩⟩
            · have HLG := Lib.hid hlong
              go_wp2_with fail
              rw [bI_len]
              refine (text_ok AA (xs ++ [UInt8.ofNat (16 * vv)]).length cc (xs ++ [UInt8.ofNat (16 * vv)]) _ HROW.out (by have := HLG.out; omega)).mono ?_
              rintro e w4 ⟨rfl, hb⟩
              have HP2 := Lib.hid (HP.out.read (HP.out.at_.step hb HP.out.at_.lt) (Kb.of_below hb))
              clear hb c0 c1 c2 f0 f1 f2 hlt hlong
              obtain ⟨⟨c0, c1, c2⟩, f0, f1, f2⟩ := HP2.out.blk.facts
              have hlt := HP2.out.blk.lt
              go_wp2_with fail
              refine bodyPost_ret (v := .agg #[.int .i64 6, .int .i64 0, .string (S (xs ++ [UInt8.ofNat (16 * vv)]))]) (by simp [results, Tryd.results104, go_sem, c0, c1, c2]) rfl ?_
              exact StrQ.ok HR.out HLG.out rfl HP2.out.out
        · obtain ⟨r1, r2⟩ := hex_range c
          by_cases hneg : hexI c < 0
          · have HR := Lib.hid (show hx none l = none by rw [HS.out, hx_bad o c t hb h62 hneg]; rfl)
            have n1 := ne_of c 62 (by omega) h62
            obtain ⟨dd, hdd⟩ : ∃ dd, hexI c = dd := ⟨_, rfl⟩
            have hd1 : dd < 0 := by omega
            have HD := Lib.hid hdd
            clear h62 hb r1 r2 hneg hdd
            go_wp2_with fail
            refine (hex_is c dd HD.out _).mono ?_
            rintro e w3 ⟨rfl, m2, rfl⟩
            have HK := Lib.hid (HP.out.kb.belows (drewN_below _ m2) (by have := HP.out.size; omega))
            go_wp2_with fail
            exact ⟨rfl, StrQ.none_ HR.out ⟨rfl, by rw [← World.drewN_drewN]; exact HK.out⟩⟩
          · obtain ⟨dd, hdd⟩ : ∃ dd : Nat, hexI c = (dd : Int) := ⟨(hexI c).toNat, by omega⟩
            have hdt : (hexI c).toNat = dd := by omega
            have n1 := ne_of c 62 (by omega) h62
            have hd0 : (0 : Int) ≤ (dd : Int) := by omega
            have hd1 : (dd : Int) ≤ 15 := by omega
            have HD := Lib.hid hdd
            rcases HO.out with ⟨ho, hz⟩ | ⟨vv, hv, ho, hz⟩
            · have HS2 := Lib.hid (hx_same HS.out (show hx o (c :: t) = hx (some dd) t from by rw [ho, hx_half c t hb h62 hneg, hdt]))
              subst hz
              clear ho h62 hb r1 r2 hneg hdd hdt
              go_wp2_with fail
              refine (hex_is c (dd : Int) HD.out _).mono ?_
              rintro e w3 ⟨rfl, m2, rfl⟩
              replace HP := Lib.hid (show Lp w0 w (w1.drewN (m + m2)) g A cap B t xs v by rw [← World.drewN_drewN]; exact HP.out.read (HP.out.at_.drewN m2) (Kb.of_below (drewN_below _ m2)))
              go_wp2_with fail
              go_roundg t.length
              case measure => have := HL.out; simp only [List.length_cons] at *; omega
              case rel =>
                have e2 := HX.out
                simp only [List.length_cons] at e2
                exact ⟨(dd : Int), some dd, t, xs, _, rfl, Nat.le_refl _, by omega, rfl, .inr ⟨dd, by omega, rfl, rfl⟩, HS2.out, HP.out⟩
            · have HS2 := Lib.hid (hx_next HS.out (by rw [ho]; exact hx_full vv c t hb h62 hneg))
              rw [hdt] at HS2
              subst hz
              have hv0 : (0 : Int) ≤ (vv : Int) := by omega
              have hv1 : (vv : Int) ≤ 15 := by omega
              have HV := Lib.hid (And.intro hv (show dd ≤ 15 by omega))
              obtain ⟨x, hx⟩ : ∃ x, 16 * vv + dd = x := ⟨_, rfl⟩
              have hor : bits BinOp.or IntKind.i64 ((vv : Int) * 16) (dd : Int) = (x : Int) := by
                rw [← hx]
                exact or_fin ⟨vv, by omega⟩ ⟨dd, by omega⟩
              have hx0 : (0 : Int) ≤ (x : Int) := by omega
              have hx1 : (x : Int) ≤ 255 := by omega
              have HXX := Lib.hid hx
              clear ho h62 hb r1 r2 hneg hdd hdt hv hx
              go_wp2_with fail
              refine (hex_is c (dd : Int) HD.out _).mono ?_
              rintro e w3 ⟨rfl, m2, rfl⟩
              replace HP := Lib.hid (show Lp w0 w (w1.drewN (m + m2)) g A cap B t xs v by rw [← World.drewN_drewN]; exact HP.out.read (HP.out.at_.drewN m2) (Kb.of_below (drewN_below _ m2)))
              go_wp2_with (at_builtin; refine Kd.R_append (Kd.int .u8) (w0 := w1.drewN (m + m2)) (w.heap.size + 1) rfl (.tmp 15) (.tmp 21) 32 5 (.int .u8 0) 1 rfl Tryd.underlying32 infoU8 rfl (by decide) (by omega) v (bI xs) ((x : Int)) [.int .u8 ((x : Int))] (fun _ => True) (fun _ => False) rfl rfl ?aP (fun _ hk => hk.elim) ?aF HP.out.own (Below.refl _ _) ?aS ?aL ?_; (case aP => exact rfl); (case aF => exact (fun _ _ => trivial)); (case aS => exact HP.out.size); (case aL => rw [bI_len]; have := HX.out; have := HBL.out; omega); intro v1 w4 ho hb hg hat)
              have HP2 := Lib.hid (HP.out.put (UInt8.ofNat (16 * vv + dd)) ho (by have := HV.out; have := HXX.out; rw [UInt8.toNat_ofNat']; omega) hb)
              clear ho hb hg hat
              go_wp2_with fail
              go_roundg t.length
              case measure => have := HL.out; simp only [List.length_cons] at *; omega
              case rel =>
                have e2 := HX.out
                simp only [List.length_cons] at e2
                exact ⟨-1, none, t, xs ++ [UInt8.ofNat (16 * vv + dd)], _, rfl, Nat.le_refl _, by simp only [List.length_append, List.length_cons, List.length_nil]; omega, rfl, .inl ⟨rfl, rfl⟩, HS2.out, HP2.out⟩

end Go.Proofs.YtiocgpfnbmlfaaaDoor.SC

/-! ## SG -/
namespace Go.Proofs.YtiocgpfnbmlfaaaDoor.SC
open Go Go.RowKit Go.Proofs.YtiocgpfnbmlfaaaDoor Go.Proofs.YtiocgpfnbmlfaaaDoor.PS1 Go.Proofs.YtiocgpfnbmlfaaaDoor.QD Go.Proofs.YtiocgpfnbmlfaaaDoorW.PrintWords Go.Proofs.YtiocgpfnbmlfaaaDoorW.PrintLast

/-- an error, or kind, number, text, and what stands behind -/
abbrev TkR := Sum Int (Int × Int × List UInt8 × List UInt8)
def TkQ (r : TkR) (w0 w : World) (g : Nat) (A : Option Addr) (cap : Nat) (B : List UInt8) (e : Ending) (w' : World) : Prop :=
  match r with
  | .inl er => GaveUp er g w e w'
  | .inr (k, n, x, s) => e = .returned (.agg #[.int .i64 k, .int .i64 n, .string (S x)]) ∧ At w0 w' g A cap B s ∧ Kb g w.heap.size w w'
theorem TkQ.err {r : TkR} {er : Int} {w0 w w' : World} {g cap : Nat} {A : Option Addr} {B : List UInt8} {e : Ending} (hr : r = .inl er) (h : GaveUp er g w e w') : TkQ r w0 w g A cap B e w' := by subst hr; exact h
theorem TkQ.ok {r : TkR} {k n : Int} {x s : List UInt8} {w0 w w' : World} {g cap : Nat} {A : Option Addr} {B : List UInt8} {e : Ending} (hr : r = .inr (k, n, x, s)) (h : e = .returned (.agg #[.int .i64 k, .int .i64 n, .string (S x)])) (ha : At w0 w' g A cap B s ∧ Kb g w.heap.size w w') : TkQ r w0 w g A cap B e w' := by subst hr; exact ⟨h, ha⟩
def strL (r : Option (List UInt8 × List UInt8)) : TkR :=
  match r with
  | none => .inl 14
  | some (o, s) => if 65535 < o.length then .inl 9 else .inr (6, 0, o, s)
def nameL (k : Int) (x s : List UInt8) : TkR := if 127 < x.length then .inl 9 else .inr (k, 0, x, s)
theorem StrQ.tk {r : Option (List UInt8 × List UInt8)} {w0 w w' : World} {g cap : Nat} {A : Option Addr} {B : List UInt8} {e : Ending} (h : StrQ r w0 w g A cap B e w') : TkQ (strL r) w0 w g A cap B e w' := by
  unfold StrQ at h
  unfold strL
  match r, h with
  | none, h => exact h
  | some (o, s), h =>
    simp only at h ⊢
    by_cases hl : 65535 < o.length
    · rw [if_pos hl] at h ⊢; exact h
    · rw [if_neg hl] at h ⊢; exact h

theorem strQ_cases {r : Option (List UInt8 × List UInt8)} {w0 w w' : World} {g cap : Nat} {A : Option Addr} {B : List UInt8} {e : Ending} (h : StrQ r w0 w g A cap B e w') :
    (strL r = .inl 14 ∧ e = .panicked [{ v := .iface 28 (.int .i64 14), recovered := false }] ∧ Kb g w.heap.size w w') ∨ (strL r = .inl 9 ∧ e = .panicked [{ v := .iface 28 (.int .i64 9), recovered := false }] ∧ Kb g w.heap.size w w') ∨
    (∃ o s, strL r = .inr (6, 0, o, s) ∧ e = .returned (.agg #[.int .i64 6, .int .i64 0, .string (S o)]) ∧ At w0 w' g A cap B s ∧ Kb g w.heap.size w w') := by
  unfold StrQ at h
  unfold strL
  match r, h with
  | none, h => exact .inl ⟨rfl, h.1, h.2⟩
  | some (o, s), h =>
    simp only at h ⊢
    by_cases hl : 65535 < o.length
    · rw [if_pos hl] at h ⊢; exact .inr (.inl ⟨rfl, h.1, h.2⟩)
    · rw [if_neg hl] at h ⊢; exact .inr (.inr ⟨o, s, rfl, h⟩)

/-- the result's block and the reader -/
structure Tp (w0 w wx : World) (g : Nat) (A : Option Addr) (cap : Nat) (B s : List UInt8) : Prop where
  at_ : At w0 wx g A cap B s
  blk : TokBlk w.heap.size wx
  kb : Kb g w.heap.size w wx
  gl : g < w.heap.size
section
variable {w0 w wx wy : World} {g cap : Nat} {A : Option Addr} {B s s' : List UInt8}
theorem Tp.size (h : Tp w0 w wx g A cap B s) : w.heap.size ≤ wx.heap.size := by have := h.blk.lt; omega
theorem Tp.read (h : Tp w0 w wx g A cap B s) (ha : At w0 wy g A cap B s') (hk : Kb g wx.heap.size wx wy) : Tp w0 w wy g A cap B s' :=
  ⟨ha, (hk.block _ h.blk.lt (by have := h.gl; omega)).trans h.blk, h.kb.then_ h.size hk, h.gl⟩
theorem Tp.below (h : Tp w0 w wx g A cap B s) (hb : Below wx.heap.size wx wy) : Tp w0 w wy g A cap B s := h.read (h.at_.step hb h.at_.lt) (Kb.of_below hb)
theorem Tp.out {u0 u1 u2 : Value} (h : Tp w0 w wx g A cap B s) :
    At w0 (((wx.setCell ⟨w.heap.size, 0, none⟩ u0).setCell ⟨w.heap.size, 1, none⟩ u1).setCell ⟨w.heap.size, 2, none⟩ u2) g A cap B s ∧ Kb g w.heap.size w (((wx.setCell ⟨w.heap.size, 0, none⟩ u0).setCell ⟨w.heap.size, 1, none⟩ u1).setCell ⟨w.heap.size, 2, none⟩ u2) := by
  have hb : Below w.heap.size wx (((wx.setCell ⟨w.heap.size, 0, none⟩ u0).setCell ⟨w.heap.size, 1, none⟩ u1).setCell ⟨w.heap.size, 2, none⟩ u2) :=
    (((Below.refl w.heap.size wx).setCell (p := ⟨w.heap.size, 0, none⟩) (Nat.le_refl _) u0).setCell (p := ⟨w.heap.size, 1, none⟩) (Nat.le_refl _) u1).setCell (p := ⟨w.heap.size, 2, none⟩) (Nat.le_refl _) u2
  exact ⟨h.at_.step hb h.gl, h.kb.belows hb (Nat.le_refl _)⟩
theorem Tp.outA {u0 u1 u2 : Value} (h : Tp w0 w wx g A cap B s) (o : Obj) :
    At w0 ((((wx.setCell ⟨w.heap.size, 0, none⟩ u0).setCell ⟨w.heap.size, 1, none⟩ u1).setCell ⟨w.heap.size, 2, none⟩ u2).alloc o) g A cap B s ∧ Kb g w.heap.size w ((((wx.setCell ⟨w.heap.size, 0, none⟩ u0).setCell ⟨w.heap.size, 1, none⟩ u1).setCell ⟨w.heap.size, 2, none⟩ u2).alloc o) := by
  obtain ⟨h1, h2⟩ := h.out (u0 := u0) (u1 := u1) (u2 := u2)
  exact ⟨h1.step ((Below.refl _ _).alloc (Nat.le_refl _) o) h1.lt, h2.belows ((Below.refl _ _).alloc (Nat.le_refl _) o) h2.size⟩
theorem Tp.start (h : At w0 w g A cap B s) : Tp w0 w (w.alloc (.cells #[.int .i64 0, .int .i64 0, .string ⟨#[]⟩] 27)) g A cap B s :=
  ⟨h.step ((Below.refl _ _).alloc (Nat.le_refl _) _) h.lt, TokBlk.new w, Kb.of_below ((Below.refl _ _).alloc (Nat.le_refl _) _), h.lt⟩
theorem Tp.gave {er : Int} {e : Ending} (h : Tp w0 w wx g A cap B s) (hg : GaveUp er g wx e wy) : GaveUp er g w e wy := ⟨hg.1, h.kb.then_ h.size hg.2⟩
theorem Tp.gaveB {er : Int} {e : Ending} (h : Tp w0 w wx g A cap B s) (hg : GaveUpB er wx e wy) : GaveUp er g w e wy := ⟨hg.1, h.kb.belows hg.2 h.size⟩
end

/-- bytes just made, as a string -/
theorem str_fresh (W : World) (l : List UInt8) (hl : l.length ≤ 1000) : (convert 32 9 (.slice (some ⟨W.heap.size, 0, none⟩) l.length l.length)).run Tryd.prog (W.alloc (.cells ((bI l).map (Value.int .u8)).toArray 5)) = .ok (.string (S l)) (W.alloc (.cells ((bI l).map (Value.int .u8)).toArray 5)) := by
  have h := string_of_reads (P := Tryd.prog) (w := W.alloc (.cells ((bI l).map (Value.int .u8)).toArray 5)) (A := some ⟨W.heap.size, 0, none⟩) (n := l.length) (c := l.length) (xs := bI l) Tryd.underlying32 Tryd.underlying5 Tryd.underlying9 ?_
  · rw [bI_str] at h; exact h
  · refine ⟨bI_len l, by omega, fun _ => ⟨_, rfl, fun j hj => ?_⟩⟩
    have hb := heap_alloc_new W (.cells ((bI l).map (Value.int .u8)).toArray 5)
    have ha : (⟨W.heap.size, 0, none⟩ : Addr).add j = ⟨W.heap.size, 0 + j, none⟩ := by
      simp [Addr.add]
      intro h; exact h.symm
    rw [ha, Lib.cell_of_heap hb, Nat.zero_add]
    have hj' : j < (bI l).length := by rw [bI_len]; exact hj
    simp [List.getD, hj']

/-! ### slash -/
def slashL (l : List UInt8) : TkR :=
  match l with
  | [] => nameL 4 [] []
  | c :: t => if c = 47 then nameL 5 (t.takeWhile regB) (t.dropWhile regB) else nameL 4 ((c :: t).takeWhile regB) ((c :: t).dropWhile regB)

set_option maxHeartbeats 4000000 in
set_option maxRecDepth 100000 in
theorem slash_any {w0 w : World} {g cap : Nat} {A : Option Addr} {B l : List UInt8} (h : At w0 w g A cap B l) :
    Calls Tryd.prog 79 #[.pointer (some ⟨g, 0, none⟩)] w (TkQ (slashL l) w0 w g A cap B) := by
  have HP := Lib.hid (Tp.start h)
  clear h
  cases l with
  | nil =>
    go_enter Tryd.func79, Tryd.ntmps79
    go_wp2_with fail
    refine (next_end HP.out.at_ 47).mono ?_
    rintro e w1 ⟨rfl, hA, hK⟩
    replace HP := Lib.hid (HP.out.read hA hK)
    clear hA hK
    go_wp2_with fail
    refine (word_any HP.out.at_).mono ?_
    rintro e w2 ⟨rfl, hA, hK⟩
    replace HP := Lib.hid (HP.out.read hA hK)
    clear hA hK
    go_wp2_with fail
    refine (name_ok 4 (S []) _ (by rw [S_size]; simp)).mono ?_
    rintro e w3 ⟨rfl, hb⟩
    have HP2 := Lib.hid (HP.out.below hb)
    clear hb
    obtain ⟨⟨c0, c1, c2⟩, f0, f1, f2⟩ := HP2.out.blk.facts
    have hlt := HP2.out.blk.lt
    go_wp2_with fail
    refine bodyPost_ret (v := .agg #[.int .i64 4, .int .i64 0, .string (S [])]) (by simp [results, Tryd.results79, go_sem, c0, c1, c2]) rfl ?_
    exact TkQ.ok rfl rfl HP2.out.out
  | cons c t =>
    by_cases h47 : c = 47
    · have HC := Lib.hid h47
      clear h47
      go_enter Tryd.func79, Tryd.ntmps79
      go_wp2_with fail
      refine (next_yes HP.out.at_ 47 (by rw [HC.out]; rfl)).mono ?_
      rintro e w1 ⟨rfl, hA, hK⟩
      replace HP := Lib.hid (HP.out.read hA hK)
      clear hA hK
      go_wp2_with fail
      refine (word_any HP.out.at_).mono ?_
      rintro e w2 ⟨rfl, hA, hK⟩
      replace HP := Lib.hid (HP.out.read hA hK)
      clear hA hK
      by_cases hlong : 127 < (t.takeWhile regB).length
      · have HLG := Lib.hid hlong
        have HR := Lib.hid (show slashL (c :: t) = .inl 9 by rw [slashL, if_pos HC.out]; unfold nameL; rw [if_pos hlong])
        clear hlong
        go_wp2_with fail
        refine (name_long 5 (S (t.takeWhile regB)) _ (by rw [S_size]; exact HLG.out)).mono ?_
        rintro e w3 ⟨rfl, hb⟩
        have HK := Lib.hid (HP.out.kb.belows hb HP.out.size)
        clear hb
        go_wp2_with fail
        exact ⟨rfl, TkQ.err HR.out ⟨rfl, HK.out⟩⟩
      · have HLG := Lib.hid hlong
        have HR := Lib.hid (show slashL (c :: t) = .inr (5, 0, t.takeWhile regB, t.dropWhile regB) by rw [slashL, if_pos HC.out]; unfold nameL; rw [if_neg hlong])
        clear hlong
        go_wp2_with fail
        refine (name_ok 5 (S (t.takeWhile regB)) _ (by rw [S_size]; have := HLG.out; omega)).mono ?_
        rintro e w3 ⟨rfl, hb⟩
        have HP2 := Lib.hid (HP.out.below hb)
        clear hb
        obtain ⟨⟨c0, c1, c2⟩, f0, f1, f2⟩ := HP2.out.blk.facts
        have hlt := HP2.out.blk.lt
        go_wp2_with fail
        refine bodyPost_ret (v := .agg #[.int .i64 5, .int .i64 0, .string (S (t.takeWhile regB))]) (by simp [results, Tryd.results79, go_sem, c0, c1, c2]) rfl ?_
        exact TkQ.ok HR.out rfl HP2.out.out
    · have HC := Lib.hid h47
      clear h47
      go_enter Tryd.func79, Tryd.ntmps79
      go_wp2_with fail
      refine (next_other HP.out.at_ 47 (ne_of c 47 (by omega) HC.out)).mono ?_
      rintro e w1 ⟨rfl, hA, hK⟩
      replace HP := Lib.hid (HP.out.read hA hK)
      clear hA hK
      go_wp2_with fail
      refine (word_any HP.out.at_).mono ?_
      rintro e w2 ⟨rfl, hA, hK⟩
      replace HP := Lib.hid (HP.out.read hA hK)
      clear hA hK
      by_cases hlong : 127 < ((c :: t).takeWhile regB).length
      · have HLG := Lib.hid hlong
        have HR := Lib.hid (show slashL (c :: t) = .inl 9 by rw [slashL, if_neg HC.out]; unfold nameL; rw [if_pos hlong])
        clear hlong
        go_wp2_with fail
        refine (name_long 4 (S ((c :: t).takeWhile regB)) _ (by rw [S_size]; exact HLG.out)).mono ?_
        rintro e w3 ⟨rfl, hb⟩
        have HK := Lib.hid (HP.out.kb.belows hb HP.out.size)
        clear hb
        go_wp2_with fail
        exact ⟨rfl, TkQ.err HR.out ⟨rfl, HK.out⟩⟩
      · have HLG := Lib.hid hlong
        have HR := Lib.hid (show slashL (c :: t) = .inr (4, 0, (c :: t).takeWhile regB, (c :: t).dropWhile regB) by rw [slashL, if_neg HC.out]; unfold nameL; rw [if_neg hlong])
        clear hlong
        go_wp2_with fail
        refine (name_ok 4 (S ((c :: t).takeWhile regB)) _ (by rw [S_size]; have := HLG.out; omega)).mono ?_
        rintro e w3 ⟨rfl, hb⟩
        have HP2 := Lib.hid (HP.out.below hb)
        clear hb
        obtain ⟨⟨c0, c1, c2⟩, f0, f1, f2⟩ := HP2.out.blk.facts
        have hlt := HP2.out.blk.lt
        go_wp2_with fail
        refine bodyPost_ret (v := .agg #[.int .i64 4, .int .i64 0, .string (S ((c :: t).takeWhile regB))]) (by simp [results, Tryd.results79, go_sem, c0, c1, c2]) rfl ?_
        exact TkQ.ok HR.out rfl HP2.out.out

/-! ### angle -/
def angleL (c : UInt8) (l : List UInt8) : TkR :=
  match l with
  | [] => if c = 60 then strL (hx none []) else .inl 14
  | d :: t => if d = c then .inr (3, 0, [c, c], t) else if c = 60 then strL (hx none (d :: t)) else .inl 14

set_option maxHeartbeats 4000000 in
set_option maxRecDepth 100000 in
theorem angle_60 {w0 w : World} {g cap : Nat} {A : Option Addr} {B l : List UInt8} (h : At w0 w g A cap B l) :
    Calls Tryd.prog 78 #[.pointer (some ⟨g, 0, none⟩), .int .u8 60] w (TkQ (angleL 60 l) w0 w g A cap B) := by
  have HP := Lib.hid (Tp.start h)
  clear h
  cases l with
  | nil =>
    have HR := Lib.hid (show angleL 60 [] = strL (hx none []) from rfl)
    go_enter Tryd.func78, Tryd.ntmps78
    go_wp2_with fail
    refine (next_end HP.out.at_ 60).mono ?_
    rintro e w1 ⟨rfl, hA, hK⟩
    replace HP := Lib.hid (HP.out.read hA hK)
    clear hA hK
    go_wp2_with fail
    refine (hex_any HP.out.at_).mono ?_
    rintro e w2 hq
    rcases strQ_cases hq with ⟨hr, rfl, hk⟩ | ⟨hr, rfl, hk⟩ | ⟨o, s, hr, rfl, ha, hk⟩
    · have HK := Lib.hid (HP.out.kb.then_ HP.out.size hk)
      have HRR := Lib.hid (HR.out.trans hr)
      clear hr hk hq
      go_wp2_with fail
      exact ⟨rfl, TkQ.err HRR.out ⟨rfl, HK.out⟩⟩
    · have HK := Lib.hid (HP.out.kb.then_ HP.out.size hk)
      have HRR := Lib.hid (HR.out.trans hr)
      clear hr hk hq
      go_wp2_with fail
      exact ⟨rfl, TkQ.err HRR.out ⟨rfl, HK.out⟩⟩
    · have HP2 := Lib.hid (HP.out.read ha hk)
      have HRR := Lib.hid (HR.out.trans hr)
      clear hr ha hk hq
      obtain ⟨⟨c0, c1, c2⟩, f0, f1, f2⟩ := HP2.out.blk.facts
      have hlt := HP2.out.blk.lt
      go_wp2_with fail
      refine bodyPost_ret (v := .agg #[.int .i64 6, .int .i64 0, .string (S o)]) (by simp [results, Tryd.results78, go_sem, c0, c1, c2]) rfl ?_
      exact TkQ.ok HRR.out rfl HP2.out.out
  | cons d t =>
    by_cases hd : d = 60
    · have HC := Lib.hid hd
      have HR := Lib.hid (show angleL 60 (d :: t) = .inr (3, 0, [60, 60], t) by rw [angleL, if_pos hd])
      clear hd
      have hcv : ∀ W : World, (convert 32 9 (.slice (some ⟨W.heap.size, 0, none⟩) 2 2)).run Tryd.prog (W.alloc (.cells #[.int .u8 60, .int .u8 60] 5)) = .ok (.string (S [60, 60])) (W.alloc (.cells #[.int .u8 60, .int .u8 60] 5)) := fun W => str_fresh W [60, 60] (by decide)
      go_enter Tryd.func78, Tryd.ntmps78
      go_wp2_with fail
      refine (next_yes HP.out.at_ 60 (by rw [HC.out]; rfl)).mono ?_
      rintro e w1 ⟨rfl, hA, hK⟩
      replace HP := Lib.hid (HP.out.read hA hK)
      clear hA hK
      obtain ⟨⟨c0, c1, c2⟩, f0, f1, f2⟩ := HP.out.blk.facts
      have hlt := HP.out.blk.lt
      go_wp2_with fail
      refine bodyPost_ret (v := .agg #[.int .i64 3, .int .i64 0, .string (S [60, 60])]) (by simp [results, Tryd.results78, go_sem, c0, c1, c2, hlt]) rfl ?_
      exact TkQ.ok HR.out rfl (HP.out.outA _)
    · have HC := Lib.hid hd
      have HR := Lib.hid (show angleL 60 (d :: t) = strL (hx none (d :: t)) by rw [angleL, if_neg hd]; rfl)
      clear hd
      go_enter Tryd.func78, Tryd.ntmps78
      go_wp2_with fail
      refine (next_other HP.out.at_ 60 (ne_of d 60 (by omega) HC.out)).mono ?_
      rintro e w1 ⟨rfl, hA, hK⟩
      replace HP := Lib.hid (HP.out.read hA hK)
      clear hA hK
      go_wp2_with fail
      refine (hex_any HP.out.at_).mono ?_
      rintro e w2 hq
      rcases strQ_cases hq with ⟨hr, rfl, hk⟩ | ⟨hr, rfl, hk⟩ | ⟨o, s, hr, rfl, ha, hk⟩
      · have HK := Lib.hid (HP.out.kb.then_ HP.out.size hk)
        have HRR := Lib.hid (HR.out.trans hr)
        clear hr hk hq
        go_wp2_with fail
        exact ⟨rfl, TkQ.err HRR.out ⟨rfl, HK.out⟩⟩
      · have HK := Lib.hid (HP.out.kb.then_ HP.out.size hk)
        have HRR := Lib.hid (HR.out.trans hr)
        clear hr hk hq
        go_wp2_with fail
        exact ⟨rfl, TkQ.err HRR.out ⟨rfl, HK.out⟩⟩
      · have HP2 := Lib.hid (HP.out.read ha hk)
        have HRR := Lib.hid (HR.out.trans hr)
        clear hr ha hk hq
        obtain ⟨⟨c0, c1, c2⟩, f0, f1, f2⟩ := HP2.out.blk.facts
        have hlt := HP2.out.blk.lt
        go_wp2_with fail
        refine bodyPost_ret (v := .agg #[.int .i64 6, .int .i64 0, .string (S o)]) (by simp [results, Tryd.results78, go_sem, c0, c1, c2]) rfl ?_
        exact TkQ.ok HRR.out rfl HP2.out.out
set_option maxHeartbeats 4000000 in
set_option maxRecDepth 100000 in
theorem angle_62 {w0 w : World} {g cap : Nat} {A : Option Addr} {B l : List UInt8} (h : At w0 w g A cap B l) :
    Calls Tryd.prog 78 #[.pointer (some ⟨g, 0, none⟩), .int .u8 62] w (TkQ (angleL 62 l) w0 w g A cap B) := by
  have HP := Lib.hid (Tp.start h)
  clear h
  cases l with
  | nil =>
    have HR := Lib.hid (show angleL 62 [] = .inl 14 from rfl)
    go_enter Tryd.func78, Tryd.ntmps78
    go_wp2_with fail
    refine (next_end HP.out.at_ 62).mono ?_
    rintro e w1 ⟨rfl, hA, hK⟩
    replace HP := Lib.hid (HP.out.read hA hK)
    clear hA hK
    go_wp2_with fail
    exact ⟨rfl, TkQ.err HR.out ⟨rfl, HP.out.kb⟩⟩
  | cons d t =>
    by_cases hd : d = 62
    · have HC := Lib.hid hd
      have HR := Lib.hid (show angleL 62 (d :: t) = .inr (3, 0, [62, 62], t) by rw [angleL, if_pos hd])
      clear hd
      have hcv : ∀ W : World, (convert 32 9 (.slice (some ⟨W.heap.size, 0, none⟩) 2 2)).run Tryd.prog (W.alloc (.cells #[.int .u8 62, .int .u8 62] 5)) = .ok (.string (S [62, 62])) (W.alloc (.cells #[.int .u8 62, .int .u8 62] 5)) := fun W => str_fresh W [62, 62] (by decide)
      go_enter Tryd.func78, Tryd.ntmps78
      go_wp2_with fail
      refine (next_yes HP.out.at_ 62 (by rw [HC.out]; rfl)).mono ?_
      rintro e w1 ⟨rfl, hA, hK⟩
      replace HP := Lib.hid (HP.out.read hA hK)
      clear hA hK
      obtain ⟨⟨c0, c1, c2⟩, f0, f1, f2⟩ := HP.out.blk.facts
      have hlt := HP.out.blk.lt
      go_wp2_with fail
      refine bodyPost_ret (v := .agg #[.int .i64 3, .int .i64 0, .string (S [62, 62])]) (by simp [results, Tryd.results78, go_sem, c0, c1, c2, hlt]) rfl ?_
      exact TkQ.ok HR.out rfl (HP.out.outA _)
    · have HC := Lib.hid hd
      have HR := Lib.hid (show angleL 62 (d :: t) = .inl 14 by rw [angleL, if_neg hd]; rfl)
      clear hd
      go_enter Tryd.func78, Tryd.ntmps78
      go_wp2_with fail
      refine (next_other HP.out.at_ 62 (ne_of d 62 (by omega) HC.out)).mono ?_
      rintro e w1 ⟨rfl, hA, hK⟩
      replace HP := Lib.hid (HP.out.read hA hK)
      clear hA hK
      go_wp2_with fail
      exact ⟨rfl, TkQ.err HR.out ⟨rfl, HP.out.kb⟩⟩

end Go.Proofs.YtiocgpfnbmlfaaaDoor.SC

/-! ## SH -/
namespace Go.Proofs.YtiocgpfnbmlfaaaDoor.SC
open Go Go.RowKit Go.Proofs.YtiocgpfnbmlfaaaDoor Go.Proofs.YtiocgpfnbmlfaaaDoor.PS1 Go.Proofs.YtiocgpfnbmlfaaaDoor.QD Go.Proofs.YtiocgpfnbmlfaaaDoorW.PrintWords Go.Proofs.YtiocgpfnbmlfaaaDoorW.PrintLast

/-- a word: a number, or a name -/
def wordL (x s : List UInt8) : TkR :=
  if (tokL x).2.2.2 = 0 then (if (tokL x).2.2.1 = true then .inr ((tokL x).1, (tokL x).2.1, [], s) else nameL 3 x s) else .inl (tokL x).2.2.2
/-- behind blanks and comments -/
def tokenC (c : UInt8) (t : List UInt8) : TkR :=
  if c = 40 then strL (rnd 1 t) else if c = 41 then .inl 14 else if c = 60 ∨ c = 62 then angleL c t else if c = 123 then .inr (7, 0, [], t) else if c = 125 then .inr (8, 0, [], t)
  else if c = 91 ∨ c = 93 then .inr (3, 0, [c], t) else if c = 47 then slashL t else wordL ((c :: t).takeWhile regB) ((c :: t).dropWhile regB)
def tokenL (l : List UInt8) : TkR :=
  match skipL false l with
  | [] => .inr (0, 0, [], [])
  | c :: t => tokenC c t

theorem tkQ_cases {r : TkR} {w0 w w' : World} {g cap : Nat} {A : Option Addr} {B : List UInt8} {e : Ending} (h : TkQ r w0 w g A cap B e w') :
    (∃ er, r = .inl er ∧ e = .panicked [{ v := .iface 28 (.int .i64 er), recovered := false }] ∧ Kb g w.heap.size w w') ∨
    (∃ k n o s, r = .inr (k, n, o, s) ∧ e = .returned (.agg #[.int .i64 k, .int .i64 n, .string (S o)]) ∧ At w0 w' g A cap B s ∧ Kb g w.heap.size w w') := by
  match r, h with
  | .inl er, h => exact .inl ⟨er, rfl, h.1, h.2⟩
  | .inr (k, n, o, s), h => exact .inr ⟨k, n, o, s, rfl, h⟩

set_option maxHeartbeats 4000000 in
set_option maxRecDepth 100000 in
theorem token_nil {w0 w : World} {g cap : Nat} {A : Option Addr} {B l : List UInt8} (h : At w0 w g A cap B l) (hl : skipL false l = []) :
    Calls Tryd.prog 49 #[.pointer (some ⟨g, 0, none⟩)] w (TkQ (.inr (0, 0, [], [])) w0 w g A cap B) := by
  have HP := Lib.hid (Tp.start h)
  clear h
  go_enter Tryd.func49, Tryd.ntmps49
  go_wp2_with fail
  refine (skip_any HP.out.at_).mono ?_
  rintro e w1 ⟨rfl, hA, hK⟩
  rw [hl] at hA
  replace HP := Lib.hid (HP.out.read hA hK)
  have HL := Lib.hid hl
  clear hA hK hl
  go_wp2_with fail
  refine (more_nil HP.out.at_).mono ?_
  rintro e w2 ⟨rfl, m, hm⟩
  replace HP := Lib.hid (show Tp w0 w w2 g A cap B [] by rw [hm]; exact HP.out.read (HP.out.at_.drewN m) (Kb.of_below (drewN_below _ m)))
  clear hm
  obtain ⟨⟨c0, c1, c2⟩, f0, f1, f2⟩ := HP.out.blk.facts
  have hlt := HP.out.blk.lt
  go_wp2_with fail
  refine bodyPost_ret (v := .agg #[.int .i64 0, .int .i64 0, .string (S [])]) (by simp [results, Tryd.results49, go_sem, c0, c1, c2, S]) rfl ?_
  exact TkQ.ok rfl rfl HP.out.out

set_option maxHeartbeats 4000000 in
set_option maxRecDepth 100000 in
theorem token_40 {w0 w : World} {g cap : Nat} {A : Option Addr} {B l t : List UInt8} (h : At w0 w g A cap B l) (hl : skipL false l = 40 :: t) :
    Calls Tryd.prog 49 #[.pointer (some ⟨g, 0, none⟩)] w (TkQ (strL (rnd 1 t)) w0 w g A cap B) := by
  have HP := Lib.hid (Tp.start h)
  clear h
  go_enter Tryd.func49, Tryd.ntmps49
  go_wp2_with fail
  refine (skip_any HP.out.at_).mono ?_
  rintro e w1 ⟨rfl, hA, hK⟩
  rw [hl] at hA
  replace HP := Lib.hid (HP.out.read hA hK)
  have HL := Lib.hid hl
  clear hA hK hl
  go_wp2_with fail
  refine (more_cons HP.out.at_).mono ?_
  rintro e w2 ⟨rfl, m, hm⟩
  replace HP := Lib.hid (show Tp w0 w w2 g A cap B (40 :: t) by rw [hm]; exact HP.out.read (HP.out.at_.drewN m) (Kb.of_below (drewN_below _ m)))
  clear hm
  obtain ⟨n, p, ad, rfl, hn, hlt, hsm, hp1, c0, c1, f0, f1, hx, hne⟩ := HP.out.at_.head
  have HPP := Lib.hid hp1
  have g1 : (0 : Int) ≤ (p : Int) := by omega
  have g2 : (p : Int) < (n : Int) := by omega
  have g3 : (n : Int) ≤ 140737488351232 := by omega
  have hx2 : w2.cell? (ad.add p) = some (.int .u8 40) := hx
  clear hx
  clear hn hp1 hlt hsm
  go_wp2_with fail
  go_quiet (fail)
  have HA2 := Lib.hid (show At w0 ((w2.drewN nq).setCell ⟨g, 1, none⟩ (.int .i64 ((p : Int) + 1))) g (some ad) cap B t from (HP.out.at_.drewN nq).set _ (by rw [HPP.out]; push_cast; rfl))
  have HP3 := Lib.hid (show Tp w0 w ((w2.drewN nq).setCell ⟨g, 1, none⟩ (.int .i64 ((p : Int) + 1))) g (some ad) cap B t from HP.out.read HA2.out ((Kb.of_below (drewN_below w2 nq)).trans (Kb.set _ _ _ _ _)))
  go_wp2_with fail
  refine (Calls.mono (round_any HA2.out) (fun e w h => h.tk)).mono ?_
  rintro e w3 hq
  rcases tkQ_cases hq with ⟨er, hr, rfl, hk⟩ | ⟨k, n2, o, s, hr, rfl, ha, hk⟩
  · have HK := Lib.hid (HP3.out.kb.then_ HP3.out.size hk)
    have HR := Lib.hid hr
    clear hr hk hq
    go_wp2_with fail
    exact ⟨rfl, TkQ.err HR.out ⟨rfl, HK.out⟩⟩
  · have HP4 := Lib.hid (HP3.out.read ha hk)
    have HR := Lib.hid hr
    clear hr ha hk hq c0 c1 f0 f1 hx2
    obtain ⟨⟨c0, c1, c2⟩, f0, f1, f2⟩ := HP4.out.blk.facts
    have hlt := HP4.out.blk.lt
    go_wp2_with fail
    refine bodyPost_ret (v := .agg #[.int .i64 k, .int .i64 n2, .string (S o)]) (by simp [results, Tryd.results49, go_sem, c0, c1, c2]) rfl ?_
    exact TkQ.ok HR.out rfl HP4.out.out

set_option maxHeartbeats 4000000 in
set_option maxRecDepth 100000 in
theorem token_41 {w0 w : World} {g cap : Nat} {A : Option Addr} {B l t : List UInt8} (h : At w0 w g A cap B l) (hl : skipL false l = 41 :: t) :
    Calls Tryd.prog 49 #[.pointer (some ⟨g, 0, none⟩)] w (TkQ (.inl 14) w0 w g A cap B) := by
  have HP := Lib.hid (Tp.start h)
  clear h
  go_enter Tryd.func49, Tryd.ntmps49
  go_wp2_with fail
  refine (skip_any HP.out.at_).mono ?_
  rintro e w1 ⟨rfl, hA, hK⟩
  rw [hl] at hA
  replace HP := Lib.hid (HP.out.read hA hK)
  have HL := Lib.hid hl
  clear hA hK hl
  go_wp2_with fail
  refine (more_cons HP.out.at_).mono ?_
  rintro e w2 ⟨rfl, m, hm⟩
  replace HP := Lib.hid (show Tp w0 w w2 g A cap B (41 :: t) by rw [hm]; exact HP.out.read (HP.out.at_.drewN m) (Kb.of_below (drewN_below _ m)))
  clear hm
  obtain ⟨n, p, ad, rfl, hn, hlt, hsm, hp1, c0, c1, f0, f1, hx, hne⟩ := HP.out.at_.head
  have HPP := Lib.hid hp1
  have g1 : (0 : Int) ≤ (p : Int) := by omega
  have g2 : (p : Int) < (n : Int) := by omega
  have g3 : (n : Int) ≤ 140737488351232 := by omega
  have hx2 : w2.cell? (ad.add p) = some (.int .u8 41) := hx
  clear hx
  clear hn hp1 hlt hsm
  go_wp2_with fail
  go_quiet (fail)
  go_wp2_with fail
  exact ⟨rfl, TkQ.err rfl ⟨rfl, HP.out.kb.belows (drewN_below _ _) HP.out.size⟩⟩

set_option maxHeartbeats 4000000 in
set_option maxRecDepth 100000 in
theorem token_60 {w0 w : World} {g cap : Nat} {A : Option Addr} {B l t : List UInt8} (h : At w0 w g A cap B l) (hl : skipL false l = 60 :: t) :
    Calls Tryd.prog 49 #[.pointer (some ⟨g, 0, none⟩)] w (TkQ (angleL 60 t) w0 w g A cap B) := by
  have HP := Lib.hid (Tp.start h)
  clear h
  go_enter Tryd.func49, Tryd.ntmps49
  go_wp2_with fail
  refine (skip_any HP.out.at_).mono ?_
  rintro e w1 ⟨rfl, hA, hK⟩
  rw [hl] at hA
  replace HP := Lib.hid (HP.out.read hA hK)
  have HL := Lib.hid hl
  clear hA hK hl
  go_wp2_with fail
  refine (more_cons HP.out.at_).mono ?_
  rintro e w2 ⟨rfl, m, hm⟩
  replace HP := Lib.hid (show Tp w0 w w2 g A cap B (60 :: t) by rw [hm]; exact HP.out.read (HP.out.at_.drewN m) (Kb.of_below (drewN_below _ m)))
  clear hm
  obtain ⟨n, p, ad, rfl, hn, hlt, hsm, hp1, c0, c1, f0, f1, hx, hne⟩ := HP.out.at_.head
  have HPP := Lib.hid hp1
  have g1 : (0 : Int) ≤ (p : Int) := by omega
  have g2 : (p : Int) < (n : Int) := by omega
  have g3 : (n : Int) ≤ 140737488351232 := by omega
  have hx2 : w2.cell? (ad.add p) = some (.int .u8 60) := hx
  clear hx
  clear hn hp1 hlt hsm
  go_wp2_with fail
  go_quiet (fail)
  have HA2 := Lib.hid (show At w0 ((w2.drewN nq).setCell ⟨g, 1, none⟩ (.int .i64 ((p : Int) + 1))) g (some ad) cap B t from (HP.out.at_.drewN nq).set _ (by rw [HPP.out]; push_cast; rfl))
  have HP3 := Lib.hid (show Tp w0 w ((w2.drewN nq).setCell ⟨g, 1, none⟩ (.int .i64 ((p : Int) + 1))) g (some ad) cap B t from HP.out.read HA2.out ((Kb.of_below (drewN_below w2 nq)).trans (Kb.set _ _ _ _ _)))
  go_wp2_with fail
  refine (angle_60 HA2.out).mono ?_
  rintro e w3 hq
  rcases tkQ_cases hq with ⟨er, hr, rfl, hk⟩ | ⟨k, n2, o, s, hr, rfl, ha, hk⟩
  · have HK := Lib.hid (HP3.out.kb.then_ HP3.out.size hk)
    have HR := Lib.hid hr
    clear hr hk hq
    go_wp2_with fail
    exact ⟨rfl, TkQ.err HR.out ⟨rfl, HK.out⟩⟩
  · have HP4 := Lib.hid (HP3.out.read ha hk)
    have HR := Lib.hid hr
    clear hr ha hk hq c0 c1 f0 f1 hx2
    obtain ⟨⟨c0, c1, c2⟩, f0, f1, f2⟩ := HP4.out.blk.facts
    have hlt := HP4.out.blk.lt
    go_wp2_with fail
    refine bodyPost_ret (v := .agg #[.int .i64 k, .int .i64 n2, .string (S o)]) (by simp [results, Tryd.results49, go_sem, c0, c1, c2]) rfl ?_
    exact TkQ.ok HR.out rfl HP4.out.out

set_option maxHeartbeats 4000000 in
set_option maxRecDepth 100000 in
theorem token_62 {w0 w : World} {g cap : Nat} {A : Option Addr} {B l t : List UInt8} (h : At w0 w g A cap B l) (hl : skipL false l = 62 :: t) :
    Calls Tryd.prog 49 #[.pointer (some ⟨g, 0, none⟩)] w (TkQ (angleL 62 t) w0 w g A cap B) := by
  have HP := Lib.hid (Tp.start h)
  clear h
  go_enter Tryd.func49, Tryd.ntmps49
  go_wp2_with fail
  refine (skip_any HP.out.at_).mono ?_
  rintro e w1 ⟨rfl, hA, hK⟩
  rw [hl] at hA
  replace HP := Lib.hid (HP.out.read hA hK)
  have HL := Lib.hid hl
  clear hA hK hl
  go_wp2_with fail
  refine (more_cons HP.out.at_).mono ?_
  rintro e w2 ⟨rfl, m, hm⟩
  replace HP := Lib.hid (show Tp w0 w w2 g A cap B (62 :: t) by rw [hm]; exact HP.out.read (HP.out.at_.drewN m) (Kb.of_below (drewN_below _ m)))
  clear hm
  obtain ⟨n, p, ad, rfl, hn, hlt, hsm, hp1, c0, c1, f0, f1, hx, hne⟩ := HP.out.at_.head
  have HPP := Lib.hid hp1
  have g1 : (0 : Int) ≤ (p : Int) := by omega
  have g2 : (p : Int) < (n : Int) := by omega
  have g3 : (n : Int) ≤ 140737488351232 := by omega
  have hx2 : w2.cell? (ad.add p) = some (.int .u8 62) := hx
  clear hx
  clear hn hp1 hlt hsm
  go_wp2_with fail
  go_quiet (fail)
  have HA2 := Lib.hid (show At w0 ((w2.drewN nq).setCell ⟨g, 1, none⟩ (.int .i64 ((p : Int) + 1))) g (some ad) cap B t from (HP.out.at_.drewN nq).set _ (by rw [HPP.out]; push_cast; rfl))
  have HP3 := Lib.hid (show Tp w0 w ((w2.drewN nq).setCell ⟨g, 1, none⟩ (.int .i64 ((p : Int) + 1))) g (some ad) cap B t from HP.out.read HA2.out ((Kb.of_below (drewN_below w2 nq)).trans (Kb.set _ _ _ _ _)))
  go_wp2_with fail
  refine (angle_62 HA2.out).mono ?_
  rintro e w3 hq
  rcases tkQ_cases hq with ⟨er, hr, rfl, hk⟩ | ⟨k, n2, o, s, hr, rfl, ha, hk⟩
  · have HK := Lib.hid (HP3.out.kb.then_ HP3.out.size hk)
    have HR := Lib.hid hr
    clear hr hk hq
    go_wp2_with fail
    exact ⟨rfl, TkQ.err HR.out ⟨rfl, HK.out⟩⟩
  · have HP4 := Lib.hid (HP3.out.read ha hk)
    have HR := Lib.hid hr
    clear hr ha hk hq c0 c1 f0 f1 hx2
    obtain ⟨⟨c0, c1, c2⟩, f0, f1, f2⟩ := HP4.out.blk.facts
    have hlt := HP4.out.blk.lt
    go_wp2_with fail
    refine bodyPost_ret (v := .agg #[.int .i64 k, .int .i64 n2, .string (S o)]) (by simp [results, Tryd.results49, go_sem, c0, c1, c2]) rfl ?_
    exact TkQ.ok HR.out rfl HP4.out.out

set_option maxHeartbeats 4000000 in
set_option maxRecDepth 100000 in
theorem token_47 {w0 w : World} {g cap : Nat} {A : Option Addr} {B l t : List UInt8} (h : At w0 w g A cap B l) (hl : skipL false l = 47 :: t) :
    Calls Tryd.prog 49 #[.pointer (some ⟨g, 0, none⟩)] w (TkQ (slashL t) w0 w g A cap B) := by
  have HP := Lib.hid (Tp.start h)
  clear h
  go_enter Tryd.func49, Tryd.ntmps49
  go_wp2_with fail
  refine (skip_any HP.out.at_).mono ?_
  rintro e w1 ⟨rfl, hA, hK⟩
  rw [hl] at hA
  replace HP := Lib.hid (HP.out.read hA hK)
  have HL := Lib.hid hl
  clear hA hK hl
  go_wp2_with fail
  refine (more_cons HP.out.at_).mono ?_
  rintro e w2 ⟨rfl, m, hm⟩
  replace HP := Lib.hid (show Tp w0 w w2 g A cap B (47 :: t) by rw [hm]; exact HP.out.read (HP.out.at_.drewN m) (Kb.of_below (drewN_below _ m)))
  clear hm
  obtain ⟨n, p, ad, rfl, hn, hlt, hsm, hp1, c0, c1, f0, f1, hx, hne⟩ := HP.out.at_.head
  have HPP := Lib.hid hp1
  have g1 : (0 : Int) ≤ (p : Int) := by omega
  have g2 : (p : Int) < (n : Int) := by omega
  have g3 : (n : Int) ≤ 140737488351232 := by omega
  have hx2 : w2.cell? (ad.add p) = some (.int .u8 47) := hx
  clear hx
  clear hn hp1 hlt hsm
  go_wp2_with fail
  go_quiet (fail)
  have HA2 := Lib.hid (show At w0 ((w2.drewN nq).setCell ⟨g, 1, none⟩ (.int .i64 ((p : Int) + 1))) g (some ad) cap B t from (HP.out.at_.drewN nq).set _ (by rw [HPP.out]; push_cast; rfl))
  have HP3 := Lib.hid (show Tp w0 w ((w2.drewN nq).setCell ⟨g, 1, none⟩ (.int .i64 ((p : Int) + 1))) g (some ad) cap B t from HP.out.read HA2.out ((Kb.of_below (drewN_below w2 nq)).trans (Kb.set _ _ _ _ _)))
  go_wp2_with fail
  refine (slash_any HA2.out).mono ?_
  rintro e w3 hq
  rcases tkQ_cases hq with ⟨er, hr, rfl, hk⟩ | ⟨k, n2, o, s, hr, rfl, ha, hk⟩
  · have HK := Lib.hid (HP3.out.kb.then_ HP3.out.size hk)
    have HR := Lib.hid hr
    clear hr hk hq
    go_wp2_with fail
    exact ⟨rfl, TkQ.err HR.out ⟨rfl, HK.out⟩⟩
  · have HP4 := Lib.hid (HP3.out.read ha hk)
    have HR := Lib.hid hr
    clear hr ha hk hq c0 c1 f0 f1 hx2
    obtain ⟨⟨c0, c1, c2⟩, f0, f1, f2⟩ := HP4.out.blk.facts
    have hlt := HP4.out.blk.lt
    go_wp2_with fail
    refine bodyPost_ret (v := .agg #[.int .i64 k, .int .i64 n2, .string (S o)]) (by simp [results, Tryd.results49, go_sem, c0, c1, c2]) rfl ?_
    exact TkQ.ok HR.out rfl HP4.out.out

set_option maxHeartbeats 4000000 in
set_option maxRecDepth 100000 in
theorem token_123 {w0 w : World} {g cap : Nat} {A : Option Addr} {B l t : List UInt8} (h : At w0 w g A cap B l) (hl : skipL false l = 123 :: t) :
    Calls Tryd.prog 49 #[.pointer (some ⟨g, 0, none⟩)] w (TkQ (.inr (7, 0, [], t)) w0 w g A cap B) := by
  have HP := Lib.hid (Tp.start h)
  clear h
  go_enter Tryd.func49, Tryd.ntmps49
  go_wp2_with fail
  refine (skip_any HP.out.at_).mono ?_
  rintro e w1 ⟨rfl, hA, hK⟩
  rw [hl] at hA
  replace HP := Lib.hid (HP.out.read hA hK)
  have HL := Lib.hid hl
  clear hA hK hl
  go_wp2_with fail
  refine (more_cons HP.out.at_).mono ?_
  rintro e w2 ⟨rfl, m, hm⟩
  replace HP := Lib.hid (show Tp w0 w w2 g A cap B (123 :: t) by rw [hm]; exact HP.out.read (HP.out.at_.drewN m) (Kb.of_below (drewN_below _ m)))
  clear hm
  obtain ⟨n, p, ad, rfl, hn, hlt, hsm, hp1, c0, c1, f0, f1, hx, hne⟩ := HP.out.at_.head
  have HPP := Lib.hid hp1
  have g1 : (0 : Int) ≤ (p : Int) := by omega
  have g2 : (p : Int) < (n : Int) := by omega
  have g3 : (n : Int) ≤ 140737488351232 := by omega
  have hx2 : w2.cell? (ad.add p) = some (.int .u8 123) := hx
  clear hx
  clear hn hp1 hlt hsm
  go_wp2_with fail
  go_quiet (fail)
  have HA2 := Lib.hid (show At w0 ((w2.drewN nq).setCell ⟨g, 1, none⟩ (.int .i64 ((p : Int) + 1))) g (some ad) cap B t from (HP.out.at_.drewN nq).set _ (by rw [HPP.out]; push_cast; rfl))
  have HP3 := Lib.hid (show Tp w0 w ((w2.drewN nq).setCell ⟨g, 1, none⟩ (.int .i64 ((p : Int) + 1))) g (some ad) cap B t from HP.out.read HA2.out ((Kb.of_below (drewN_below w2 nq)).trans (Kb.set _ _ _ _ _)))
  clear hx2
  obtain ⟨⟨k0, k1, k2⟩, l0, l1, l2⟩ := HP3.out.blk.facts
  have hlt := HP3.out.blk.lt
  go_wp2_with fail
  refine bodyPost_ret (v := .agg #[.int .i64 7, .int .i64 0, .string (S [])]) (by simp [results, Tryd.results49, go_sem, k0, k1, k2, S]) rfl ?_
  exact TkQ.ok rfl rfl HP3.out.out

set_option maxHeartbeats 4000000 in
set_option maxRecDepth 100000 in
theorem token_125 {w0 w : World} {g cap : Nat} {A : Option Addr} {B l t : List UInt8} (h : At w0 w g A cap B l) (hl : skipL false l = 125 :: t) :
    Calls Tryd.prog 49 #[.pointer (some ⟨g, 0, none⟩)] w (TkQ (.inr (8, 0, [], t)) w0 w g A cap B) := by
  have HP := Lib.hid (Tp.start h)
  clear h
  go_enter Tryd.func49, Tryd.ntmps49
  go_wp2_with fail
  refine (skip_any HP.out.at_).mono ?_
  rintro e w1 ⟨rfl, hA, hK⟩
  rw [hl] at hA
  replace HP := Lib.hid (HP.out.read hA hK)
  have HL := Lib.hid hl
  clear hA hK hl
  go_wp2_with fail
  refine (more_cons HP.out.at_).mono ?_
  rintro e w2 ⟨rfl, m, hm⟩
  replace HP := Lib.hid (show Tp w0 w w2 g A cap B (125 :: t) by rw [hm]; exact HP.out.read (HP.out.at_.drewN m) (Kb.of_below (drewN_below _ m)))
  clear hm
  obtain ⟨n, p, ad, rfl, hn, hlt, hsm, hp1, c0, c1, f0, f1, hx, hne⟩ := HP.out.at_.head
  have HPP := Lib.hid hp1
  have g1 : (0 : Int) ≤ (p : Int) := by omega
  have g2 : (p : Int) < (n : Int) := by omega
  have g3 : (n : Int) ≤ 140737488351232 := by omega
  have hx2 : w2.cell? (ad.add p) = some (.int .u8 125) := hx
  clear hx
  clear hn hp1 hlt hsm
  go_wp2_with fail
  go_quiet (fail)
  have HA2 := Lib.hid (show At w0 ((w2.drewN nq).setCell ⟨g, 1, none⟩ (.int .i64 ((p : Int) + 1))) g (some ad) cap B t from (HP.out.at_.drewN nq).set _ (by rw [HPP.out]; push_cast; rfl))
  have HP3 := Lib.hid (show Tp w0 w ((w2.drewN nq).setCell ⟨g, 1, none⟩ (.int .i64 ((p : Int) + 1))) g (some ad) cap B t from HP.out.read HA2.out ((Kb.of_below (drewN_below w2 nq)).trans (Kb.set _ _ _ _ _)))
  clear hx2
  obtain ⟨⟨k0, k1, k2⟩, l0, l1, l2⟩ := HP3.out.blk.facts
  have hlt := HP3.out.blk.lt
  go_wp2_with fail
  refine bodyPost_ret (v := .agg #[.int .i64 8, .int .i64 0, .string (S [])]) (by simp [results, Tryd.results49, go_sem, k0, k1, k2, S]) rfl ?_
  exact TkQ.ok rfl rfl HP3.out.out

set_option maxHeartbeats 4000000 in
set_option maxRecDepth 100000 in
theorem token_91 {w0 w : World} {g cap : Nat} {A : Option Addr} {B l t : List UInt8} (h : At w0 w g A cap B l) (hl : skipL false l = 91 :: t) :
    Calls Tryd.prog 49 #[.pointer (some ⟨g, 0, none⟩)] w (TkQ (.inr (3, 0, [91], t)) w0 w g A cap B) := by
  have HP := Lib.hid (Tp.start h)
  clear h
  go_enter Tryd.func49, Tryd.ntmps49
  go_wp2_with fail
  refine (skip_any HP.out.at_).mono ?_
  rintro e w1 ⟨rfl, hA, hK⟩
  rw [hl] at hA
  replace HP := Lib.hid (HP.out.read hA hK)
  have HL := Lib.hid hl
  clear hA hK hl
  go_wp2_with fail
  refine (more_cons HP.out.at_).mono ?_
  rintro e w2 ⟨rfl, m, hm⟩
  replace HP := Lib.hid (show Tp w0 w w2 g A cap B (91 :: t) by rw [hm]; exact HP.out.read (HP.out.at_.drewN m) (Kb.of_below (drewN_below _ m)))
  clear hm
  obtain ⟨n, p, ad, rfl, hn, hlt, hsm, hp1, c0, c1, f0, f1, hx, hne⟩ := HP.out.at_.head
  have HPP := Lib.hid hp1
  have g1 : (0 : Int) ≤ (p : Int) := by omega
  have g2 : (p : Int) < (n : Int) := by omega
  have g3 : (n : Int) ≤ 140737488351232 := by omega
  have hx2 : w2.cell? (ad.add p) = some (.int .u8 91) := hx
  clear hx
  clear hn hp1 hlt hsm
  go_wp2_with fail
  go_quiet (fail)
  have HA2 := Lib.hid (show At w0 ((w2.drewN nq).setCell ⟨g, 1, none⟩ (.int .i64 ((p : Int) + 1))) g (some ad) cap B t from (HP.out.at_.drewN nq).set _ (by rw [HPP.out]; push_cast; rfl))
  have HP3 := Lib.hid (show Tp w0 w ((w2.drewN nq).setCell ⟨g, 1, none⟩ (.int .i64 ((p : Int) + 1))) g (some ad) cap B t from HP.out.read HA2.out ((Kb.of_below (drewN_below w2 nq)).trans (Kb.set _ _ _ _ _)))
  clear hx2
  obtain ⟨⟨k0, k1, k2⟩, l0, l1, l2⟩ := HP3.out.blk.facts
  have hlt := HP3.out.blk.lt
  have hsz : ((w2.drewN nq).setCell ⟨g, 1, none⟩ (.int .i64 ((p : Int) + 1))).heap.size = w2.heap.size := by rw [setCell_size, drewN_heap]
  have hcv : (convert 32 9 (.slice (some ⟨w2.heap.size, 0, none⟩) 1 1)).run Tryd.prog (((w2.drewN nq).setCell ⟨g, 1, none⟩ (.int .i64 ((p : Int) + 1))).alloc (.cells #[.int .u8 91] 5)) = .ok (.string (S [91])) (((w2.drewN nq).setCell ⟨g, 1, none⟩ (.int .i64 ((p : Int) + 1))).alloc (.cells #[.int .u8 91] 5)) := by
    rw [← hsz]
    exact str_fresh _ [91] (by decide)
  have hlt2 : w.heap.size < w2.heap.size := by rw [← hsz]; exact hlt
  clear hsz
  go_wp2_with fail
  refine bodyPost_ret (v := .agg #[.int .i64 3, .int .i64 0, .string (S [91])]) (by simp [results, Tryd.results49, go_sem, k0, k1, k2, hlt2]) rfl ?_
  exact TkQ.ok rfl rfl (HP3.out.outA _)

set_option maxHeartbeats 4000000 in
set_option maxRecDepth 100000 in
theorem token_93 {w0 w : World} {g cap : Nat} {A : Option Addr} {B l t : List UInt8} (h : At w0 w g A cap B l) (hl : skipL false l = 93 :: t) :
    Calls Tryd.prog 49 #[.pointer (some ⟨g, 0, none⟩)] w (TkQ (.inr (3, 0, [93], t)) w0 w g A cap B) := by
  have HP := Lib.hid (Tp.start h)
  clear h
  go_enter Tryd.func49, Tryd.ntmps49
  go_wp2_with fail
  refine (skip_any HP.out.at_).mono ?_
  rintro e w1 ⟨rfl, hA, hK⟩
  rw [hl] at hA
  replace HP := Lib.hid (HP.out.read hA hK)
  have HL := Lib.hid hl
  clear hA hK hl
  go_wp2_with fail
  refine (more_cons HP.out.at_).mono ?_
  rintro e w2 ⟨rfl, m, hm⟩
  replace HP := Lib.hid (show Tp w0 w w2 g A cap B (93 :: t) by rw [hm]; exact HP.out.read (HP.out.at_.drewN m) (Kb.of_below (drewN_below _ m)))
  clear hm
  obtain ⟨n, p, ad, rfl, hn, hlt, hsm, hp1, c0, c1, f0, f1, hx, hne⟩ := HP.out.at_.head
  have HPP := Lib.hid hp1
  have g1 : (0 : Int) ≤ (p : Int) := by omega
  have g2 : (p : Int) < (n : Int) := by omega
  have g3 : (n : Int) ≤ 140737488351232 := by omega
  have hx2 : w2.cell? (ad.add p) = some (.int .u8 93) := hx
  clear hx
  clear hn hp1 hlt hsm
  go_wp2_with fail
  go_quiet (fail)
  have HA2 := Lib.hid (show At w0 ((w2.drewN nq).setCell ⟨g, 1, none⟩ (.int .i64 ((p : Int) + 1))) g (some ad) cap B t from (HP.out.at_.drewN nq).set _ (by rw [HPP.out]; push_cast; rfl))
  have HP3 := Lib.hid (show Tp w0 w ((w2.drewN nq).setCell ⟨g, 1, none⟩ (.int .i64 ((p : Int) + 1))) g (some ad) cap B t from HP.out.read HA2.out ((Kb.of_below (drewN_below w2 nq)).trans (Kb.set _ _ _ _ _)))
  clear hx2
  obtain ⟨⟨k0, k1, k2⟩, l0, l1, l2⟩ := HP3.out.blk.facts
  have hlt := HP3.out.blk.lt
  have hsz : ((w2.drewN nq).setCell ⟨g, 1, none⟩ (.int .i64 ((p : Int) + 1))).heap.size = w2.heap.size := by rw [setCell_size, drewN_heap]
  have hcv : (convert 32 9 (.slice (some ⟨w2.heap.size, 0, none⟩) 1 1)).run Tryd.prog (((w2.drewN nq).setCell ⟨g, 1, none⟩ (.int .i64 ((p : Int) + 1))).alloc (.cells #[.int .u8 93] 5)) = .ok (.string (S [93])) (((w2.drewN nq).setCell ⟨g, 1, none⟩ (.int .i64 ((p : Int) + 1))).alloc (.cells #[.int .u8 93] 5)) := by
    rw [← hsz]
    exact str_fresh _ [93] (by decide)
  have hlt2 : w.heap.size < w2.heap.size := by rw [← hsz]; exact hlt
  clear hsz
  go_wp2_with fail
  refine bodyPost_ret (v := .agg #[.int .i64 3, .int .i64 0, .string (S [93])]) (by simp [results, Tryd.results49, go_sem, k0, k1, k2, hlt2]) rfl ?_
  exact TkQ.ok rfl rfl (HP3.out.outA _)

set_option maxHeartbeats 4000000 in
set_option maxRecDepth 100000 in
theorem token_word {w0 w : World} {g cap : Nat} {A : Option Addr} {B l t : List UInt8} {c : UInt8} (h : At w0 w g A cap B l) (hl : skipL false l = c :: t) (m1 : ¬ c = 40) (m2 : ¬ c = 41) (m3 : ¬ c = 60) (m4 : ¬ c = 62) (m5 : ¬ c = 123) (m6 : ¬ c = 125) (m7 : ¬ c = 91) (m8 : ¬ c = 93) (m9 : ¬ c = 47) (x s : List UInt8) (ex : (c :: t).takeWhile regB = x) (es : (c :: t).dropWhile regB = s) :
    Calls Tryd.prog 49 #[.pointer (some ⟨g, 0, none⟩)] w (TkQ (wordL x s) w0 w g A cap B) := by
  have n1 := ne_of c 40 (by omega) m1
  have n2 := ne_of c 41 (by omega) m2
  have n3 := ne_of c 60 (by omega) m3
  have n4 := ne_of c 62 (by omega) m4
  have n5 := ne_of c 123 (by omega) m5
  have n6 := ne_of c 125 (by omega) m6
  have n7 := ne_of c 91 (by omega) m7
  have n8 := ne_of c 93 (by omega) m8
  have n9 := ne_of c 47 (by omega) m9
  have EX := Lib.hid ex
  have ES := Lib.hid es
  clear m1 m2 m3 m4 m5 m6 m7 m8 m9 ex es
  have HP := Lib.hid (Tp.start h)
  clear h
  go_enter Tryd.func49, Tryd.ntmps49
  go_wp2_with fail
  refine (skip_any HP.out.at_).mono ?_
  rintro e w1 ⟨rfl, hA, hK⟩
  rw [hl] at hA
  replace HP := Lib.hid (HP.out.read hA hK)
  have HL := Lib.hid hl
  clear hA hK hl
  go_wp2_with fail
  refine (more_cons HP.out.at_).mono ?_
  rintro e w2 ⟨rfl, m, hm⟩
  replace HP := Lib.hid (show Tp w0 w w2 g A cap B (c :: t) by rw [hm]; exact HP.out.read (HP.out.at_.drewN m) (Kb.of_below (drewN_below _ m)))
  clear hm
  obtain ⟨n, p, ad, rfl, hn, hlt, hsm, hp1, c0, c1, f0, f1, hx, hne⟩ := HP.out.at_.head
  have HPP := Lib.hid hp1
  have g1 : (0 : Int) ≤ (p : Int) := by omega
  have g2 : (p : Int) < (n : Int) := by omega
  have g3 : (n : Int) ≤ 140737488351232 := by omega
  clear hn hp1 hlt hsm
  go_wp2_with fail
  go_quiet (fail)
  go_wp2_with fail
  have HW := word_any (HP.out.at_.drewN nq)
  rw [EX.out, ES.out] at HW
  refine HW.mono ?_
  clear HW
  rintro e w3 ⟨rfl, hA, hK⟩
  have HP3 := Lib.hid (HP.out.read hA ((Kb.of_below (drewN_below w2 nq)).then_ (drewN_below w2 nq).size hK))
  clear hA hK c0 c1 f0 f1 hx n1 n2 n3 n4 n5 n6 n7 n8 n9 hne g1 g2 g3
  go_wp2_with fail
  refine (tok_any x w3).mono ?_
  rintro e w4 ⟨rfl, hb⟩
  have HP4 := Lib.hid (HP3.out.below hb)
  clear hb
  have HT : Hid (∀ k n : Int, ∀ ok : Bool, ∀ er : Int, (tokL x).1 = k → (tokL x).2.1 = n → (tokL x).2.2.1 = ok → (tokL x).2.2.2 = er → wordL x s = if er = 0 then (if ok = true then .inr (k, n, [], s) else nameL 3 x s) else .inl er) := by
    intro k n ok er e1 e2 e3 e4
    subst e1 e2 e3 e4
    rfl
  replace HT := Lib.hid (HT.out _ _ _ _ rfl rfl rfl rfl)
  generalize (tokL x).1 = k at *
  generalize (tokL x).2.1 = n at *
  generalize (tokL x).2.2.1 = ok at *
  generalize (tokL x).2.2.2 = er at *
  by_cases her : er = 0
  · subst her
    cases ok with
    | true =>
      have HR := Lib.hid (show wordL x s = .inr (k, n, [], s) from HT.out)
      obtain ⟨⟨c0, c1, c2⟩, f0, f1, f2⟩ := HP4.out.blk.facts
      have hlt := HP4.out.blk.lt
      go_wp2_with fail
      refine bodyPost_ret (v := .agg #[.int .i64 k, .int .i64 n, .string (S [])]) (by simp [results, Tryd.results49, go_sem, c0, c1, c2, hlt, S]) rfl ?_
      exact TkQ.ok HR.out rfl (HP4.out.outA _)
    | false =>
      by_cases hlong : 127 < x.length
      · have HLG := Lib.hid hlong
        have HR := Lib.hid (show wordL x s = .inl 9 from HT.out.trans (by unfold nameL; rw [if_pos rfl, if_neg Bool.false_ne_true, if_pos hlong]))
        clear hlong
        go_wp2_with fail
        refine (name_long 3 (S x) _ (by rw [S_size]; exact HLG.out)).mono ?_
        rintro e w5 ⟨rfl, hb⟩
        have HK := Lib.hid ((HP4.out.kb.belows ((Below.refl _ _).alloc (Nat.le_refl _) _) HP4.out.size).belows hb (by have := HP4.out.size; simp; omega))
        clear hb
        go_wp2_with fail
        exact ⟨rfl, TkQ.err HR.out ⟨rfl, HK.out⟩⟩
      · have HLG := Lib.hid hlong
        have HR := Lib.hid (show wordL x s = .inr (3, 0, x, s) from HT.out.trans (by unfold nameL; rw [if_pos rfl, if_neg Bool.false_ne_true, if_neg hlong]))
        clear hlong
        go_wp2_with fail
        refine (name_ok 3 (S x) _ (by rw [S_size]; have := HLG.out; omega)).mono ?_
        rintro e w5 ⟨rfl, hb⟩
        have HP5 := Lib.hid ((HP4.out.below ((Below.refl _ _).alloc (Nat.le_refl _) _)).below hb)
        clear hb
        obtain ⟨⟨c0, c1, c2⟩, f0, f1, f2⟩ := HP5.out.blk.facts
        have hlt := HP5.out.blk.lt
        go_wp2_with fail
        refine bodyPost_ret (v := .agg #[.int .i64 3, .int .i64 0, .string (S x)]) (by simp [results, Tryd.results49, go_sem, c0, c1, c2]) rfl ?_
        exact TkQ.ok HR.out rfl HP5.out.out
  · have HR := Lib.hid (show wordL x s = .inl er from by rw [HT.out, if_neg her])
    have hne : (er != 0) = true := by simpa using her
    clear her
    go_wp2_with fail
    exact ⟨rfl, TkQ.err HR.out ⟨rfl, HP4.out.kb.belows ((Below.refl _ _).alloc (Nat.le_refl _) _) HP4.out.size⟩⟩

theorem token_any {w0 w : World} {g cap : Nat} {A : Option Addr} {B l : List UInt8} (h : At w0 w g A cap B l) :
    Calls Tryd.prog 49 #[.pointer (some ⟨g, 0, none⟩)] w (TkQ (tokenL l) w0 w g A cap B) := by
  unfold tokenL
  match hl : skipL false l with
  | [] => exact token_nil h hl
  | c :: t =>
    show Calls Tryd.prog 49 #[.pointer (some ⟨g, 0, none⟩)] w (TkQ (tokenC c t) w0 w g A cap B)
    unfold tokenC
    by_cases m1 : c = 40
    · rw [if_pos m1]; subst m1; exact token_40 h hl
    by_cases m2 : c = 41
    · rw [if_neg m1, if_pos m2]; subst m2; exact token_41 h hl
    by_cases m3 : c = 60
    · rw [if_neg m1, if_neg m2, if_pos (.inl m3)]; subst m3; exact token_60 h hl
    by_cases m4 : c = 62
    · rw [if_neg m1, if_neg m2, if_pos (.inr m4)]; subst m4; exact token_62 h hl
    have m34 : ¬ (c = 60 ∨ c = 62) := fun e => e.elim m3 m4
    by_cases m5 : c = 123
    · rw [if_neg m1, if_neg m2, if_neg m34, if_pos m5]; subst m5; exact token_123 h hl
    by_cases m6 : c = 125
    · rw [if_neg m1, if_neg m2, if_neg m34, if_neg m5, if_pos m6]; subst m6; exact token_125 h hl
    by_cases m7 : c = 91
    · rw [if_neg m1, if_neg m2, if_neg m34, if_neg m5, if_neg m6, if_pos (.inl m7)]; subst m7; exact token_91 h hl
    by_cases m8 : c = 93
    · rw [if_neg m1, if_neg m2, if_neg m34, if_neg m5, if_neg m6, if_pos (.inr m8)]; subst m8; exact token_93 h hl
    have m78 : ¬ (c = 91 ∨ c = 93) := fun e => e.elim m7 m8
    by_cases m9 : c = 47
    · rw [if_neg m1, if_neg m2, if_neg m34, if_neg m5, if_neg m6, if_neg m78, if_pos m9]; subst m9; exact token_47 h hl
    rw [if_neg m1, if_neg m2, if_neg m34, if_neg m5, if_neg m6, if_neg m78, if_neg m9]
    exact token_word h hl m1 m2 m3 m4 m5 m6 m7 m8 m9 _ _ rfl rfl

end Go.Proofs.YtiocgpfnbmlfaaaDoor.SC
