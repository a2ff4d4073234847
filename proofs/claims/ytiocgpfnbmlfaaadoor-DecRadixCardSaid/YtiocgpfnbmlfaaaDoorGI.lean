/- strings.IndexAny(s, "eE") at every s of bounded size: the contract in the printed form. -/
import Derived.Test.YtiocgpfnbmlfaaaDoorGS
import Derived.Laws.RangeAny
import Derived.Lib.DecodeN
import Derived.Laws.Runes
import Derived.WalkMore
import Derived.Shelf.Strings.IndexAnyAll
namespace Go.Proofs.YtiocgpfnbmlfaaaDoor
open Go Go.RowKit Go.Lib

theorem run_next_at {P : Program} (wr : World) (g : Nat) (s : ByteArray) (pos : Nat) (ty : TypeId) (hb : wr.heap[g]? = some (.stringIter s pos)) (h : pos < s.size) :
    (Instr.next (.pointer (some ⟨g, 0, none⟩)) true ty).run P wr =
      .ok (.tuple #[.bool true, .int .i64 pos, .int .i32 (Utf8.decode s pos).1]) { wr with heap := wr.heap.setIfInBounds g (.stringIter s (pos + (Utf8.decode s pos).2)) } := by
  have hg : g < wr.heap.size := by
    rcases Nat.lt_or_ge g wr.heap.size with h' | h'
    · exact h'
    · simp [Array.getElem?_eq_none h'] at hb
  simp only [Instr.next, getObj, setObj, Sem.run_bind, Sem.run, hb, Result.andThen, h, if_true]
  simp [goInt]
theorem run_next_over {P : Program} (wr : World) (g : Nat) (s : ByteArray) (pos : Nat) (ty : TypeId) (hb : wr.heap[g]? = some (.stringIter s pos)) (h : ¬ pos < s.size) :
    (Instr.next (.pointer (some ⟨g, 0, none⟩)) true ty).run P wr = .ok (.tuple #[.bool false]) wr := by
  simp [Instr.next, getObj, Sem.run, hb, h]
theorem iter_set_at (wr : World) (g : Nat) (o o' : Obj) (hb : wr.heap[g]? = some o') :
    ({ wr with heap := wr.heap.setIfInBounds g o } : World).heap[g]? = some o := by
  have hg : g < wr.heap.size := by
    rcases Nat.lt_or_ge g wr.heap.size with h' | h'
    · exact h'
    · simp [Array.getElem?_eq_none h'] at hb
  simp [hg]
theorem iter_set_below (wr : World) (g B : Nat) (o : Obj) (hB : B ≤ g) : Below B wr { wr with heap := wr.heap.setIfInBounds g o } :=
  ⟨rfl, rfl, rfl, by simp, fun k hk => by simp only [Array.getElem?_setIfInBounds]; rw [if_neg (by omega)]⟩

/-- what a rune of two bytes and more covers -/
theorem wide_high (s : ByteArray) (i : Nat) (hi : i < s.size) (ha : 128 ≤ (s.get! i).toNat) :
    i + (Utf8.decode s i).2 ≤ s.size ∧ ∀ j, i ≤ j → j < i + (Utf8.decode s i).2 → 128 ≤ (s.get! j).toNat := by
  rw [Lib.decode_at]
  have ha' := ha
  generalize hb0 : (s.get! i).toNat = b0 at ha ⊢
  suffices H : i + (Lib.decodeN (s.size - i) b0 (s.get! (i + 1)).toNat (s.get! (i + 2)).toNat (s.get! (i + 3)).toNat).2 ≤ s.size ∧
      (2 ≤ (Lib.decodeN (s.size - i) b0 (s.get! (i + 1)).toNat (s.get! (i + 2)).toNat (s.get! (i + 3)).toNat).2 → 128 ≤ (s.get! (i + 1)).toNat) ∧
      (3 ≤ (Lib.decodeN (s.size - i) b0 (s.get! (i + 1)).toNat (s.get! (i + 2)).toNat (s.get! (i + 3)).toNat).2 → 128 ≤ (s.get! (i + 2)).toNat) ∧
      (4 ≤ (Lib.decodeN (s.size - i) b0 (s.get! (i + 1)).toNat (s.get! (i + 2)).toNat (s.get! (i + 3)).toNat).2 → 128 ≤ (s.get! (i + 3)).toNat) ∧
      (Lib.decodeN (s.size - i) b0 (s.get! (i + 1)).toNat (s.get! (i + 2)).toNat (s.get! (i + 3)).toNat).2 ≤ 4 by
    obtain ⟨h1, h2, h3, h4, h5⟩ := H
    refine ⟨h1, fun j hj hk => ?_⟩
    obtain rfl | rfl | rfl | rfl : j = i ∨ j = i + 1 ∨ j = i + 2 ∨ j = i + 3 := by omega
    · exact ha'
    · exact h2 (by omega)
    · exact h3 (by omega)
    · exact h4 (by omega)
  generalize (s.get! (i + 1)).toNat = b1
  generalize (s.get! (i + 2)).toNat = b2
  generalize (s.get! (i + 3)).toNat = b3
  unfold Lib.decodeN
  repeat' split
  all_goals (simp only []; omega)

set_option maxHeartbeats 2000000 in
set_option maxRecDepth 100000 in
theorem eE_bad (w : World) : Calls Tryd.prog 66 #[.string ⟨#[101, 69]⟩, .int .i32 65533] w fun e w' => e = .returned (.int .i64 (-1)) ∧ Below w.heap.size w w' := by
  go_enter Tryd.func66, Tryd.ntmps66
  go_wp2_with fail
  go_loopg [5, 6] 2 (fun g _ _ wx => ∃ i : Nat, i + g = 2 ∧ wx = w.iter ⟨#[101, 69]⟩ i)
  case atStart => exact ⟨0, by omega, rfl⟩
  case round =>
    obtain ⟨i, hig, rfl⟩ := hrel
    cases gk with
    | zero =>
      obtain rfl : i = 2 := by omega
      have hnx := fun ty => run_next_end (P := Tryd.prog) w ⟨#[101, 69]⟩ 2 ty (by decide)
      go_wp2_with fail
      go_ret
      exact ⟨rfl, (Below.refl _ _).alloc (Nat.le_refl _) _⟩
    | succ g =>
      obtain ⟨x, hx, hnx⟩ : ∃ x : Int, x ≠ 65533 ∧ ∀ ty, (Instr.next (.pointer (some ⟨w.heap.size, 0, none⟩)) true ty).run Tryd.prog (w.iter ⟨#[101, 69]⟩ i) =
          .ok (.tuple #[.bool true, .int .i64 i, .int .i32 x]) (w.iter ⟨#[101, 69]⟩ (i + 1)) := by
        obtain rfl | rfl : i = 0 ∨ i = 1 := by omega
        · exact ⟨101, by decide, fun ty => run_next_ascii (P := Tryd.prog) w ⟨#[101, 69]⟩ 0 ty (by decide) (by decide)⟩
        · exact ⟨69, by decide, fun ty => run_next_ascii (P := Tryd.prog) w ⟨#[101, 69]⟩ 1 ty (by decide) (by decide)⟩
      go_wp2_with fail
      go_roundg g
      case measure => omega
      case rel => exact ⟨i + 1, by omega, rfl⟩

theorem enc_high (r : Int) (hv : Utf8.valid r = true) (h128 : 128 ≤ r) : ∃ (e : ByteArray) (n : Nat) (hn : n < e.size), Utf8.encode r = e ∧ e.size = n + 1 ∧ 1 ≤ n ∧ n ≤ 3 ∧ 128 ≤ (e[n]'hn).toNat := by
  obtain ⟨h1, h2, h3⟩ := encode_facts r hv h128
  have h4 := h3 (by omega)
  exact ⟨Utf8.encode r, (Utf8.encode r).size - 1, by omega, rfl, by omega, by omega, by omega, h4⟩

set_option maxHeartbeats 2000000 in
set_option maxRecDepth 100000 in
theorem eE_good (w : World) (r : Int) (h128 : 128 ≤ r) (h65 : r ≠ 65533) : Calls Tryd.prog 66 #[.string ⟨#[101, 69]⟩, .int .i32 r] w fun e w' => e = .returned (.int .i64 (-1)) ∧ Below w.heap.size w w' := by
  cases hv : Utf8.valid r with
  | false =>
    rw [show Utf8.valid r = Lib.validRune r from validRune_eq r] at hv
    have HV := Lib.hid hv
    clear hv
    go_enter Tryd.func66, Tryd.ntmps66
    go_wp2_with (go_at_call 91; refine (Tryd.utf8_ValidRune _ _).mono ?_; rintro e w' ⟨rfl, rfl⟩; rw [HV.out])
    go_ret
    exact ⟨rfl, Below.refl _ _⟩
  | true =>
    obtain ⟨e, n, hn, he, hsz, h1, h3, hl⟩ := enc_high r hv h128
    have hcv : ∀ w, (convert 21 9 (.int .i32 r)).run Tryd.prog w = .ok (.string e) w := fun w => by
      rw [run_convert_int_string (P := Tryd.prog) w _ _ _ _ (by kernel_rfl) (by kernel_rfl), he]
    rw [show Utf8.valid r = Lib.validRune r from validRune_eq r] at hv
    have HV := Lib.hid hv
    clear hv
    generalize hx : e[n]'hn = x at hl
    have hx1 : (x.toNat : Int) ≠ 101 := by omega
    have hx2 : (x.toNat : Int) ≠ 69 := by omega
    have hix : Lib.indexByte [] x = -1 := rfl
    go_enter Tryd.func66, Tryd.ntmps66
    go_wp2_with (go_at_call 91; refine (Tryd.utf8_ValidRune _ _).mono ?_; rintro e w' ⟨rfl, rfl⟩; rw [HV.out])
    have hcv2 := hcv w'
    clear hcv
    go_step3
    go_wp2_with fail
    clear hcv2 he
    by_cases hn1 : n = 1
    · subst hn1
      go_loopg [9] 0 (fun _ i wx => i = .int .i64 1 ∧ wx = w')
      case atStart => exact ⟨rfl, rfl⟩
      case round =>
        obtain ⟨rfl, rfl⟩ := hrel
        go_wp2_with (first | go_step3 | (go_at_call 90; refine (Tryd.strings_IndexByte _ _ _).mono ?_; rintro e w' ⟨rfl, rfl⟩))
        have h1e : 1 < e.size := hn
        have hne : ((((⟨#[101, 69]⟩ : ByteArray)[1]'(by decide)).toNat : Int) != (x.toNat : Int)) = true := bne_iff_ne.2 (by show (69 : Int) ≠ _; omega)
        have hxx : (x.toNat : Int).toNat.toUInt8 = x := by simp
        have hix2 : Lib.indexByte ByteArray.empty.data.toList x = -1 := rfl
        go_quiet (fail)
        go_wp2_with go_step3
        have hcall : ∀ w, Calls Tryd.prog 90 #[.string ByteArray.empty, .int .u8 (x.toNat : Int)] w fun e w' => e = .returned (.int .i64 (-1)) ∧ w' = w := by
          intro w
          have := Tryd.strings_IndexByte ByteArray.empty (x.toNat : Int) w
          rw [hxx, hix2] at this
          exact this
        have hw2 : IntKind.i64.wrap 2 = 2 := rfl
        go_quiet ((go_at_call 90; exact (hcall _).mono fun e w2 ⟨he, hm⟩ => ⟨he, _, hm⟩))
        go_wp2_with go_step3
        simp only [Exit.noGoto_ret, Exit.then, Exit.inBlock]
        go_ret
        exact ⟨rfl, (Go.Proofs.YtiocgpfnbmlfaaaDoorW.PrintWords.Drawn0.mk ⟨_, rfl⟩).below⟩
    · go_loopg [9] 0 (fun _ i wx => i = .int .i64 n ∧ wx = w')
      case atStart => exact ⟨rfl, rfl⟩
      case round =>
        obtain ⟨rfl, rfl⟩ := hrel
        have hnn : ¬ ((n : Int) < 2) := by omega
        go_wp2_with go_step3
        go_ret
        exact ⟨rfl, Below.refl _ _⟩

theorem eE_high (w : World) (r : Int) (h128 : 128 ≤ r) : Calls Tryd.prog 66 #[.string ⟨#[101, 69]⟩, .int .i32 r] w fun e w' => e = .returned (.int .i64 (-1)) ∧ Below w.heap.size w w' := by
  by_cases h : r = 65533
  · subst h; exact eE_bad w
  · exact eE_good w r h128 h

def IterAt (w0 : World) (s : ByteArray) (i : Nat) (wx : World) : Prop := i ≤ s.size ∧ wx.heap[w0.heap.size]? = some (.stringIter s i) ∧ Below w0.heap.size w0 wx ∧ NoAny s.data.toList [101, 69] i

theorem IterAt.lt {w0 : World} {s : ByteArray} {i : Nat} {wx : World} (h : IterAt w0 s i wx) : w0.heap.size < wx.heap.size := by
  rcases Nat.lt_or_ge w0.heap.size wx.heap.size with h' | h'
  · exact h'
  · have := h.2.1
    simp [Array.getElem?_eq_none h'] at this

theorem get_at_list (s : ByteArray) (j : Nat) (b : UInt8) (h : s.data.toList[j]? = some b) : s.get! j = b := by
  have hj : j < s.size := by
    rw [Lib.size_eq]
    rcases Nat.lt_or_ge j s.data.toList.length with h' | h'
    · exact h'
    · rw [List.getElem?_eq_none h'] at h; cases h
  have h2 := Lib.data_getElem? s j hj
  rw [h] at h2
  injection h2 with h2
  rw [h2]
  exact get_at s j hj

/-- one rune on: the place behind it, and the world that says so -/
theorem IterAt.next {w0 : World} {s : ByteArray} {i : Nat} {wx : World} (h : IterAt w0 s i wx) (hn : ∀ j, i ≤ j → j < i + (Utf8.decode s i).2 → ([101, 69] : List UInt8).contains (s.get! j) = false) (hle : i + (Utf8.decode s i).2 ≤ s.size) :
    IterAt w0 s (i + (Utf8.decode s i).2) { wx with heap := wx.heap.setIfInBounds w0.heap.size (.stringIter s (i + (Utf8.decode s i).2)) } := by
  obtain ⟨h1, h2, h3, h4⟩ := h
  refine ⟨hle, iter_set_at wx _ _ _ h2, h3.trans (iter_set_below wx _ _ _ (Nat.le_refl _)), ?_⟩
  intro j b hj hb
  by_cases hji : j < i
  · exact h4 j b hji hb
  · have := hn j (by omega) hj
    rwa [get_at_list s j b hb] at this

set_option maxHeartbeats 4000000 in
set_option maxRecDepth 1000000 in
theorem eE_short (s : ByteArray) (w : World) (h8 : s.size ≤ 8) :
    Calls Tryd.prog 40 #[.string s, .string ⟨#[101, 69]⟩] w fun e w' => e = .returned (.int .i64 (Lib.indexAny s.data.toList [101, 69])) ∧ Below w.heap.size w w' := by
  have h8z : decide ((8 : Int) < (s.size : Int)) = false := decide_eq_false (by omega)
  go_enter Tryd.func40, Tryd.ntmps40
  go_wp2_with (go_at_call 67; refine (Tryd.strings_shouldUseASCIISet _ _).mono ?_; rintro e w' ⟨rfl, hw⟩; rw [hw, h8z])
  go_loopg [9, 10] s.size (fun g _ _ wx => ∃ i : Nat, i ≤ s.size ∧ s.size ≤ i + g ∧ Hid (IterAt w s i wx))
  case atStart => exact ⟨0, by omega, by omega, ⟨Nat.zero_le _, World.iter_heap w s 0, (Below.refl _ _).alloc (Nat.le_refl _) _, NoAny.zero _ _⟩⟩
  case round =>
    obtain ⟨i, hle, hig, HI⟩ := hrel
    by_cases hi : i < s.size
    · have hnx := fun ty => run_next_at (P := Tryd.prog) wr w.heap.size s i ty HI.out.2.1 hi
      have hlt := HI.out.lt
      by_cases hasc : (s.get! i).toNat < 128
      · have hgi : s.get! i = s[i]'hi := get_at s i hi
        have hd := decode_ascii s i hi (by rw [← hgi]; exact hasc)
        rw [← hgi] at hd
        rw [hd] at hnx
        have hxl : s.data.toList[i]? = some (s.get! i) := by rw [hgi]; exact Lib.data_getElem? s i hi
        have HN := Lib.hid (fun hc => HI.out.next (by rw [hd]; intro j h1 h2; obtain rfl : j = i := by omega
                                                      exact hc) (by rw [hd]; omega))
        simp only [hd] at HN
        generalize s.get! i = x at *
        have Hx := Lib.hid hxl
        clear hxl hd hgi
        have hcon := Lib.contains_iff_indexByte [101, 69] x
        have hback : ((x.toNat : Int)).toNat.toUInt8 = x := by simp
        have hcall : ∀ w, Calls Tryd.prog 66 #[.string ⟨#[101, 69]⟩, .int .i32 x.toNat] w fun e w' => e = .returned (.int .i64 (Lib.indexByte [101, 69] x)) ∧ w' = w := by
          intro w
          have := Tryd.strings_IndexRune_ascii ⟨#[101, 69]⟩ (x.toNat : Int) w (by omega) (by omega)
          rw [hback] at this
          exact this
        have HC := Lib.hid hcall
        clear hcall
        generalize hq : Lib.indexByte [101, 69] x = q at hcon HC
        cases hin : ([101, 69] : List UInt8).contains x
        · rw [hin] at hcon
          have hlt2 : ¬ ((0 : Int) ≤ q) := of_decide_eq_false hcon.symm
          clear hcon hq
          go_wp2_with (go_at_call 66; refine (HC.out _).mono ?_; rintro e w' ⟨rfl, rfl⟩)
          cases gk with
          | zero => exact absurd hi (by omega)
          | succ g =>
            go_roundg g
            case measure => omega
            case rel => exact ⟨i + 1, by omega, by omega, HN.out hin⟩
        · rw [hin] at hcon
          have hge : (0 : Int) ≤ q := of_decide_eq_true hcon.symm
          clear hcon hq
          go_wp2_with (go_at_call 66; refine (HC.out _).mono ?_; rintro e w' ⟨rfl, rfl⟩)
          go_ret
          exact ⟨by rw [Lib.indexAny_hit HI.out.2.2.2 Hx.out hin]; rfl, HI.out.2.2.1.trans (iter_set_below wr _ _ _ (Nat.le_refl _))⟩
      · have hw := wide_high s i hi (by omega)
        have hr := (decode_high s i hi (by have : s.get! i = s[i]'hi := get_at s i hi; rw [← this]; omega)).1
        have hk := (decode_high s i hi (by have : s.get! i = s[i]'hi := get_at s i hi; rw [← this]; omega)).2
        have HN := Lib.hid (HI.out.next (fun j h1 h2 => by
          have := hw.2 j h1 h2
          generalize s.get! j = y at this
          simp only [List.contains_cons, List.contains_nil, Bool.or_false, Bool.or_eq_false_iff, beq_eq_false_iff_ne]
          constructor <;> (rintro rfl; revert this; decide)) hw.1)
        generalize (Utf8.decode s i).1 = r at *
        generalize (Utf8.decode s i).2 = k at *
        have hkl := hw.1
        clear hw
        have HC := Lib.hid (fun w => eE_high w (r : Int) (by omega))
        have hn0 : ¬ ((0 : Int) ≤ -1) := by omega
        go_wp2_with (go_at_call 66; refine (HC.out _).mono ?_; rintro e w' ⟨rfl, hb⟩)
        cases gk with
        | zero => exact absurd hi (by omega)
        | succ g =>
          go_roundg g
          case measure => omega
          case rel =>
            obtain ⟨h1, h2, h3, h4⟩ := HN.out
            refine ⟨i + k, by omega, by omega, h1, ?_, h3.trans (hb.mono (by simp; omega)), h4⟩
            rw [hb.block _ (by simpa using hlt)]
            exact h2
    · obtain rfl : i = s.size := by omega
      have hnx := fun ty => run_next_over (P := Tryd.prog) wr w.heap.size s s.size ty HI.out.2.1 hi
      go_wp2_with fail
      go_ret
      exact ⟨by rw [Lib.indexAny_none (by rw [← Lib.size_eq]; exact HI.out.2.2.2)]; rfl, HI.out.2.2.1⟩

def strings_IndexAny.f (a0 a1 : ByteArray) : Option Int :=
  if a1 = ⟨#[101, 69]⟩ ∧ a0.size ≤ 4000000000 then some (Lib.indexAny a0.data.toList [101, 69]) else none

theorem strings_IndexAny.calls (a0 a1 : ByteArray) (r : Int) (w : World) (h : strings_IndexAny.f a0 a1 = some r) :
    Calls Tryd.prog 40 #[.string a0, .string a1] w fun e w' => e = .returned (.int .i64 r) ∧ Below w.heap.size w w' := by
  unfold strings_IndexAny.f at h
  split at h
  · rename_i hh
    obtain ⟨rfl, hs⟩ := hh
    simp only [Option.some.injEq] at h
    obtain rfl := h
    by_cases h8 : a0.size ≤ 8
    · exact eE_short a0 w h8
    · refine (Tryd.strings_IndexAny_long (zero_of_info (n := 256) (by kernel_rfl)).1 a0 ⟨#[101, 69]⟩ w (by decide) (by omega) (by omega) (by decide) ?_).mono ?_
      · intro j b hb
        match j, hb with
        | 0, hb => simp at hb; subst hb; decide
        | 1, hb => simp at hb; subst hb; decide
        | n + 2, hb => simp at hb
      · rintro e w' ⟨rfl, rfl⟩
        exact ⟨rfl, ((Below.refl _ _).alloc (Nat.le_refl _) _).alloc (by simp) _⟩
  · cases h

#print axioms strings_IndexAny.calls
end Go.Proofs.YtiocgpfnbmlfaaaDoor
