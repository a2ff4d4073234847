/- The contracts of strings.Builder's copyCheck and WriteByte at this translation (whose copyCheck has a refused statement in the place of its panic, so that the shelf's contract does not fit). Plain words for the numbers' texts: decimal digits of a natural number, binary fractions as decimal digits; nothing of the program. DERIVED: THE SHELF's CONTRACTS AT THIS DUMP, IN PLAIN WORDS (tools/lay-plain.mjs out of 'TrydShelf.lean', which tools/lay-shelf.mjs wrote): THE SAME DECLARATIONS UNDER THE SAME NAMES: 'import', 'namespace', 'open', 'def', 'theorem' AND NOTHING ELSE: no command of the shelf's: FOR A HAND-IN. Each laying: the table of numbers ('.._ren') and one theorem, a field a fact of the dump's own or the kernel's comparison; each contract: ONE APPLICATION. dec.digits and dec.parts: what they answer, by the walk. Contracts of package strings' Cut at a separator of one byte, Trim and TrimLeft at an ASCII cutset, Repeat, IndexByte, in the printed form. Made by a program of this session (wip/given.py) out of the translation: Lean functions for the Go functions, with the walks that show it; of a law: its row, at every input, no condition of its own. -/
import Derived.Test.YtiocgpfnbmlfaaaDoorProg
import Derived.Shelf.Strings.BuilderX
import Derived.Lib.Strings
import Derived.Lib.Slices
import Derived.Lib.Walk
import Derived.Lib.Builder
import Derived.Lib.AppendStr
import Derived.Lib.UnsafeStr
import Derived.Lib.MakeNoZero
import Derived.WalkKit
import Derived.KernelRfl
import Derived.Laws.Externs
import Derived.Laws.IdiomCopy
import Derived.Laws.BitsLemmas
import Derived.Shelf.Strings.Builder1
import Derived.Shelf.Strings.Builder2
import Derived.Shelf.Strings.Trim
import Derived.Shelf.Small.Utf8
import Derived.Shelf.Small.Strs
import Derived.Shelf.Strings.BuilderF
import Derived.Shelf.Strings.BuilderK
import Derived.Shelf.Strings.Builder2Cap
import Derived.Shelf.Strings.Search1
import Derived.Shelf.Strings.Search2
import Derived.Shelf.Strings.Cut
import Derived.Shelf.LaysM
import Derived.Shelf.Strings.Shaped
import Derived.Shelf.Strings.Prefix
import Derived.Shelf.Strings.Runes
import Derived.Shelf.Strings.IndexAny
import Derived.Shelf.Strings.AsciiSet
import Derived.Shelf.Strings.IndexAnyAll
import Derived.Shelf.Bits.Mul64
import Derived.Shelf.Strings.Repeat
import Derived.Shelf.Unicode.DecodeSlow
import Derived.Shelf.Unicode.DecodeAny
import Derived.Shelf.Unicode.DecodeLast
import Derived.Shelf.Strings.FieldsFuncAny
import Derived.Shelf.Strings.FieldsFuncGrows
import Derived.Shelf.Strings.BuilderCap
import Derived.Laws.Runes
import Derived.Laws.Cover4
import Derived.Deep.LoopGhost
import Derived.IntWalk
import Derived.Lib.Hide
import Derived.Shelf.Strings.SlTrimAscii
import Derived.Lib.CutLaws
import Derived.Lib.IndexLaws
import Derived.BigCall
import Derived.BigGuard
import Derived.Deep.Draws
import Derived.Laws.Strings3
import Derived.RegionTactic
import Derived.Deep.QuietTactic
import Derived.BigQuiet
import Derived.Test.YtiocgpfnbmlfaaaDoorWWords
import Derived.Below
import Derived.Deep.AppendLies
import Derived.Maps.AppendAt
import Derived.OwnWalk
import Derived.Laws.BytesArg
import Derived.Laws.MakeOwn
import Derived.Laws.OwnMore
import Derived.Deep.OwnRows
import Derived.Tactics
import Derived.Lib.ConvBytes
import Derived.Laws.Slices
import Derived.RowKit3
import Derived.WideLaws
import Derived.Deep.DeepCutAuto
import Derived.Deep.CutBlock
import Derived.Deep.RegionHeld3
import Derived.Laws.Rows
import Derived.ArgAppend
import Derived.OrdersHeld
import Derived.RowKit
import Derived.Test.YtiocgpfnbmlfaaaDoorWLast
import Derived.Test.YtiocgpfnbmlfaaaDoorWTab
import Derived.Test.YtiocgpfnbmlfaaaDoorWFour
import Derived.Test.YtiocgpfnbmlfaaaDoorWQPut
import Derived.Test.YtiocgpfnbmlfaaaDoorWApart
import Derived.Test.YtiocgpfnbmlfaaaDoorWArr
import Derived.Test.YtiocgpfnbmlfaaaDoorWZeros
import Derived.Test.YtiocgpfnbmlfaaaDoorWFoot
import Derived.Test.YtiocgpfnbmlfaaaDoorWKept
import Derived.Test.YtiocgpfnbmlfaaaDoorWShare
import Derived.Test.YtiocgpfnbmlfaaaDoorWN
import Derived.Test.YtiocgpfnbmlfaaaDoorWFootNe
import Derived.Test.YtiocgpfnbmlfaaaDoorWAt
import Derived.Test.YtiocgpfnbmlfaaaDoorWEqStruct
import Derived.Test.YtiocgpfnbmlfaaaDoorWRepsOne
import Derived.Test.YtiocgpfnbmlfaaaDoorWInv
import Derived.Test.YtiocgpfnbmlfaaaDoorWInvWords
import Derived.Test.YtiocgpfnbmlfaaaDoorWGuard
import Derived.Test.YtiocgpfnbmlfaaaDoorWNEv
import Derived.Test.YtiocgpfnbmlfaaaDoorWMore

/-! ## GB -/
namespace Go.Proofs.YtiocgpfnbmlfaaaDoor
open Go.RowKit

theorem gb_size : (Tryd.prog.info? 96).map (·.size) = some 2 := by kernel_rfl
theorem gb_lies : liesAt Tryd.prog Tryd.prog.depth 96 (2 / Tryd.prog.cellsOf 96) 0 96 1 = true := by kernel_rfl
theorem gb_byte : (Tryd.prog.info? 5).map (fun i => (i.zero, i.size, i.bytes)) = some (some (.int .u8 0), 1, 1) := by kernel_rfl

set_option maxHeartbeats 1000000 in
set_option maxRecDepth 100000 in
theorem gb_copyCheck_used (b : Nat) (w : World) (h0 : w.cell? ⟨b, 0, none⟩ = some (.pointer (some ⟨b, 0, none⟩))) :
    Calls Tryd.prog 98 #[.pointer (some ⟨b, 0, none⟩)] w fun e w' => e = .returned (.tuple #[]) ∧ w' = w := by
  obtain ⟨j, hj, _⟩ := Option.map_eq_some_iff.1 gb_size
  go_enter Tryd.func98, Tryd.ntmps98
  go_wp2
  rw [Lib.run_neq_ptr_same w _ Tryd.underlying94 hj]
  go_wp2
  go_end0
  exact ⟨rfl, rfl⟩

set_option maxHeartbeats 1000000 in
set_option maxRecDepth 100000 in
theorem gb_copyCheck_fresh (b : Nat) (w : World) (h0 : w.cell? ⟨b, 0, none⟩ = some (.pointer none)) (hsh : w.shape? b = some (96, 2)) (hfz : w.frozen? ⟨b, 0, none⟩ = false) :
    Calls Tryd.prog 98 #[.pointer (some ⟨b, 0, none⟩)] w fun e w' => e = .returned (.tuple #[]) ∧ w' = w.setCell ⟨b, 0, none⟩ (.pointer (some ⟨b, 0, none⟩)) := by
  obtain ⟨j, hj, hjs⟩ := Option.map_eq_some_iff.1 gb_size
  go_enter Tryd.func98, Tryd.ntmps98
  go_wp2_with fail
  rw [Lib.run_to_unsafe w ⟨b, 0, none⟩ Tryd.underlying94 Tryd.underlying129 hj (by rw [hjs]; decide) hsh (Nat.zero_lt_succ 1)]
  simp only [Result.andThen]
  rw [Oper.upon_value]
  go_wp2_with fail
  rw [run_callFunc_extern Tryd.func117 (by kernel_rfl) (by kernel_rfl) (by kernel_rfl) (e := Extern.AbiNoEscape.same) (by kernel_rfl)]
  rw [Lib.run_noEscape]
  simp only [Result.andThen]
  rw [Oper.upon_value]
  go_wp2_with fail
  rw [Lib.run_from_unsafe w ⟨b, 0, none⟩ Tryd.underlying129 Tryd.underlying94 hj hsh gb_lies]
  simp only [Result.andThen]
  rw [Oper.upon_value]
  go_wp2_with fail
  go_end0
  exact ⟨rfl, rfl⟩

theorem gb_copyCheck (B b : Nat) (bs : List Value) (w : World) (h : Lib.IsBuilder 96 5 B b bs w) :
    Calls Tryd.prog 98 #[.pointer (some ⟨b, 0, none⟩)] w fun e w' => e = .returned (.tuple #[]) ∧ (Lib.BuilderAt 96 5 B b (.pointer (some ⟨b, 0, none⟩)) bs w' ∧ Below B w w') := by
  rcases h with h | h
  · refine (gb_copyCheck_fresh b w h.cell0 h.shape h.frozen0).mono ?_
    rintro e w' ⟨rfl, rfl⟩
    exact ⟨rfl, h.used _, (Below.refl B w).setCell (p := ⟨b, 0, none⟩) h.1 _⟩
  · refine (gb_copyCheck_used b w h.cell0).mono ?_
    rintro e w' ⟨rfl, rfl⟩
    exact ⟨rfl, h, Below.refl B _⟩

set_option maxHeartbeats 2000000 in
set_option maxRecDepth 100000 in
theorem gb_WriteByte (B b : Nat) (bs : List Value) (c : Int) (w : World) (h : Lib.IsBuilder 96 5 B b bs w) (hlen : bs.length + 1 ≤ 140737488355328) (hBw : B ≤ w.heap.size) :
    Calls Tryd.prog 72 #[.pointer (some ⟨b, 0, none⟩), .int .u8 c] w fun e w' => e = .returned .nilIface ∧ (Lib.BuilderAt 96 5 B b (.pointer (some ⟨b, 0, none⟩)) (bs ++ [.int .u8 c]) w' ∧ Below B w w') := by
  obtain ⟨i0, hi, hz0, hz1, hz2⟩ := info_parts gb_byte
  go_enter Tryd.func72, Tryd.ntmps72
  go_wp2_with (go_at_call 98; refine (gb_copyCheck B b bs _ h).mono ?_)
  rintro e w1 ⟨rfl, h1, hb1⟩
  obtain ⟨hB, v, hbk, hown, hne⟩ := h1
  have c0 : w1.cell? ⟨b, 0, none⟩ = some (.pointer (some ⟨b, 0, none⟩)) := by rw [Lib.cell_of_heap hbk]; rfl
  have c1 : w1.cell? ⟨b, 1, none⟩ = some v := by rw [Lib.cell_of_heap hbk]; rfl
  go_wp2_with (at_builtin; refine wpList_append_own _ rfl _ _ 32 rfl B 5 i0 (.int .u8 0) 1 1 Tryd.underlying32 hi hz0 hz1 hz2 rfl (by decide) _ _ _ rfl (hown.alloc _) ⟨w1.heap.size, 0, none⟩ 1 1 [.int .u8 c] rfl rfl ?c1 ?c2 ?c3 ?c4 ?c5 ?_)
  case c1 =>
    intro j u hj
    match j, hj with
    | 0, hj => simp at hj; subst hj; simp [Addr.add]
  case c2 => intro u hu; simp at hu; subst hu; rfl
  case c3 => unfold maxLen; omega
  case c4 => omega
  case c5 => have := hb1.size; simp; omega
  intro v' w2 hown' hgrow _
  have hlt : b < w1.heap.size := by
    rcases Nat.lt_or_ge b w1.heap.size with h' | h'
    · exact h'
    · simp [Array.getElem?_eq_none h'] at hbk
  have hb2 : w2.heap[b]? = some (.cells #[.pointer (some ⟨b, 0, none⟩), v] 96 (0, 0)) := by
    rw [hgrow.block b (by simp; omega) (fun e => hne e.symm), Lib.alloc_old w1 _ b hlt]
    exact hbk
  have d0 : w2.cell? ⟨b, 0, none⟩ = some (.pointer (some ⟨b, 0, none⟩)) := by rw [Lib.cell_of_heap hb2]; rfl
  have d1 : w2.cell? ⟨b, 1, none⟩ = some v := by rw [Lib.cell_of_heap hb2]; rfl
  have f1 : w2.frozen? ⟨b, 1, none⟩ = false := Lib.frozen_of_heap hb2 1
  obtain ⟨g, cap, rfl⟩ : ∃ g cap, v' = .slice (some ⟨g, 0, none⟩) (bs.length + 1) cap := by
    rcases hown'.2 with ⟨_, h0⟩ | ⟨g, cap, cur, hv, _⟩
    · omega
    · exact ⟨g, cap, hv⟩
  go_wp2
  go_ret
  refine ⟨rfl, ?_, ?_⟩
  · exact Lib.BuilderAt.put (T := 96) (e := 5) hB hb2 (bs' := bs ++ [.int .u8 c]) (by simpa using hown') (by decide)
  · exact ((hb1.alloc (by have := hb1.size; omega) _).grown hgrow (by have := hb1.size; simp; omega) (fun k hk => (hown.lt k hk).1)).setCell (p := ⟨b, 1, none⟩) hB _

end Go.Proofs.YtiocgpfnbmlfaaaDoor

/-! ## GPl -/
namespace Go.Proofs.YtiocgpfnbmlfaaaDoor
open Go

theorem lit_size (a : Array UInt8) : (⟨a⟩ : ByteArray).size = a.size := rfl

/-- decimal digits, as bytes -/
def digs (n : Nat) : List UInt8 := if h : n < 10 then [UInt8.ofNat (48 + n)] else digs (n / 10) ++ [UInt8.ofNat (48 + n % 10)]
termination_by n
decreasing_by omega

theorem digs_small {n : Nat} (h : n < 10) : digs n = [UInt8.ofNat (48 + n)] := by rw [digs, dif_pos h]
theorem digs_big {n : Nat} (h : ¬ n < 10) : digs n = digs (n / 10) ++ [UInt8.ofNat (48 + n % 10)] := by rw [digs, dif_neg h]

/-- the digits of a fraction of 65536, at most k of them -/
def fracs : Nat → Nat → List UInt8
  | 0, _ => []
  | k + 1, f => if f = 0 then [] else UInt8.ofNat (48 + f * 10 / 65536) :: fracs k (f * 10 % 65536)

theorem fracs_zero (k : Nat) : fracs k 0 = [] := by cases k <;> simp [fracs]
theorem fracs_succ {k f : Nat} (h : f ≠ 0) : fracs (k + 1) f = UInt8.ofNat (48 + f * 10 / 65536) :: fracs k (f * 10 % 65536) := by simp [fracs, h]

/-- what a round of the fraction's loop keeps: the power of two that divides it grows -/
theorem frac_step {j k f : Nat} (hjk : j + k = 16) (h : 2 ^ j ∣ f) (hf : f < 65536) (h0 : f ≠ 0) : k ≠ 0 ∧ 2 ^ (j + 1) ∣ f * 10 % 65536 := by
  constructor
  · rintro rfl
    obtain rfl : j = 16 := by omega
    have := Nat.le_of_dvd (Nat.pos_of_ne_zero h0) h
    omega
  · have h1 : 2 ^ (j + 1) ∣ f * 10 := by
      obtain ⟨c, rfl⟩ := h
      exact ⟨c * 5, by rw [Nat.pow_succ, Nat.mul_assoc, Nat.mul_assoc]; congr 1; omega⟩
    by_cases hj : j + 1 ≤ 16
    · have h2 : 2 ^ (j + 1) ∣ 65536 := by
        have : (65536 : Nat) = 2 ^ 16 := rfl
        rw [this]; exact Nat.pow_dvd_pow 2 hj
      exact (Nat.dvd_mod_iff h2).2 h1
    · exfalso
      have hj16 : j = 16 := by omega
      subst hj16
      have := Nat.le_of_dvd (Nat.pos_of_ne_zero h0) h
      omega

theorem i64_small (n : Int) (h0 : 0 ≤ n) (h1 : n < 2 ^ 62) : IntKind.i64.wrap n = n := by
  simp only [IntKind.wrap, IntKind.bits, IntKind.signed]
  simp
  omega

theorem and_65535 (n : Int) (h0 : 0 ≤ n) (h1 : n < 4611686018427387904) : Go.bits .and .i64 n 65535 = n % 65536 := by
  have h := bits_mask .i64 62 (by decide) i64_small 16 (by decide) n h0 (by simpa using h1)
  simpa using h

/-- the three parts of a number's text -/
def fitsB (n : Int) : Bool := decide (-2147483648 ≤ n) && decide (n ≤ 2147483647)
def clip (n : Int) : Int := if fitsB n = true then n else 0
def signL (n : Int) : List UInt8 := if n < 0 then [45] else []
def dec_parts.f (a0 : Int) : Option (ByteArray × ByteArray × ByteArray) :=
  some (⟨(signL (clip a0)).toArray⟩, ⟨(digs ((clip a0).natAbs / 65536)).toArray⟩, ⟨(fracs 16 ((clip a0).natAbs % 65536)).toArray⟩)

end Go.Proofs.YtiocgpfnbmlfaaaDoor

/-! ## Shelf -/
namespace Go.Proofs
open Go.Shelf
def Tryd.lays170_ren : Go.Shelf.Ren := ⟨fun | 170 => 97 | n => n, fun | 70 => 94 | 3 => 3 | 0 => 0 | 72 => 96 | 37 => 32 | 5 => 5 | n => n, fun | n => n⟩
theorem Tryd.lays170 : Go.Proofs.Lays.n170 Tryd.prog Tryd.lays170_ren := {
  mixed := by kernel_rfl
  f170 := Tryd.func97.trans (congrArg some (by kernel_rfl))
  t0 := Tryd.underlying0
  a0 := Tryd.isAgg0
  z0 := Tryd.sizeOf0
  v0 := Tryd.zeroValue0
  t3 := Tryd.underlying3
  a3 := Tryd.isAgg3
  z3 := Tryd.sizeOf3
  v3 := Tryd.zeroValue3
  t37 := Tryd.underlying32
  a37 := Tryd.isAgg32
  z37 := Tryd.sizeOf32
  v37 := Tryd.zeroValue32
  t70 := Tryd.underlying94
  a70 := Tryd.isAgg94
  z70 := Tryd.sizeOf94
  v70 := Tryd.zeroValue94
  t72 := Tryd.underlying96
  a72 := Tryd.isAgg96
  z72 := Tryd.sizeOf96
  v72 := Tryd.zeroValue96 }
open Go.RowKit in
/-- (*strings.Builder).Len: "Len returns the number of accumulated bytes; b.Len() == len(b.String()).": the world is as it was. (LAID: no walk: one application.) -/
theorem Tryd.Builder_Len (B b : Nat) (bs : List Value) (w : World) (h : Lib.IsBuilder 96 5 B b bs w) :
    Calls Tryd.prog 97 #[.pointer (some ⟨b, 0, none⟩)] w fun e w' => e = .returned (.int .i64 bs.length) ∧ w' = w := Any.Builder_Len Tryd.lays170 B b bs w h
def Tryd.lays169_ren : Go.Shelf.Ren := ⟨fun | 169 => 74 | n => n, fun | 70 => 94 | 9 => 9 | 0 => 0 | 72 => 96 | 37 => 32 | 127 => 118 | 3 => 3 | 5 => 5 | n => n, fun | n => n⟩
theorem Tryd.lays169 : Go.Proofs.Lays.n169 Tryd.prog Tryd.lays169_ren := {
  mixed := by kernel_rfl
  f169 := Tryd.func74.trans (congrArg some (by kernel_rfl))
  t0 := Tryd.underlying0
  a0 := Tryd.isAgg0
  z0 := Tryd.sizeOf0
  v0 := Tryd.zeroValue0
  t3 := Tryd.underlying3
  a3 := Tryd.isAgg3
  z3 := Tryd.sizeOf3
  v3 := Tryd.zeroValue3
  t9 := Tryd.underlying9
  a9 := Tryd.isAgg9
  z9 := Tryd.sizeOf9
  v9 := Tryd.zeroValue9
  t37 := Tryd.underlying32
  a37 := Tryd.isAgg32
  z37 := Tryd.sizeOf32
  v37 := Tryd.zeroValue32
  t70 := Tryd.underlying94
  a70 := Tryd.isAgg94
  z70 := Tryd.sizeOf94
  v70 := Tryd.zeroValue94
  t72 := Tryd.underlying96
  a72 := Tryd.isAgg96
  z72 := Tryd.sizeOf96
  v72 := Tryd.zeroValue96
  t127 := Tryd.underlying118
  a127 := Tryd.isAgg118
  z127 := Tryd.sizeOf118
  v127 := Tryd.zeroValue118 }
theorem Tryd.Builder_Extra_169 : Builder.Extra Tryd.prog Tryd.lays169_ren := {
  sizeBuilder := by kernel_rfl
  liesBuilder := by kernel_rfl
  t5 := Tryd.underlying5
  a5 := Tryd.isAgg5
  z5 := Tryd.sizeOf5
  v5 := Tryd.zeroValue5
  infoByte := by kernel_rfl
  cellsByte := by kernel_rfl
  sizeByte := by kernel_rfl
  neB5 := by decide }
open Go.RowKit in
/-- (*strings.Builder).String: "String returns the accumulated string.": OF A BUILDER THAT HOLDS AT LEAST ONE BYTE. ✋ THE MODEL FREEZES THOSE BYTES IN THE BUFFER (unsafe.String): a later write INTO them ends the model's run without an answer; a later append BEHIND them goes on. The statement's order of evaluation is drawn: one draw. (LAID: no walk: one application.) -/
theorem Tryd.Builder_String (B b : Nat) (l : List UInt8) (w : World) (h : Lib.IsBuilder 96 5 B b (Lib.byteCells l) w) (h0 : l ≠ []) :
    Calls Tryd.prog 74 #[.pointer (some ⟨b, 0, none⟩)] w fun e w' => e = .returned (.string ⟨l.toArray⟩) ∧ Below B w w' := Any.Builder_String Tryd.lays169 Tryd.Builder_Extra_169 B b l w h h0
open Go.RowKit in
/-- (*strings.Builder).String OF A BUILDER THAT HOLDS NO BYTE: the empty string. (Its buffer is nil, or a row of which it has taken nothing yet; where that row has NO capacity the model lays one new block for unsafe.SliceData's 'some address'.) One draw. (LAID: no walk: one application.) -/
theorem Tryd.Builder_String_empty (B b : Nat) (w : World) (h : Lib.IsBuilder 96 5 B b [] w) (hBw : B ≤ w.heap.size) :
    Calls Tryd.prog 74 #[.pointer (some ⟨b, 0, none⟩)] w fun e w' => e = .returned (.string ⟨#[]⟩) ∧ Below B w w' := Any.Builder_String_empty Tryd.lays169 Tryd.Builder_Extra_169 B b w h hBw
open Go.RowKit in
/-- (*strings.Builder).String: "String returns the accumulated string.": WHATEVER THE BUILDER HOLDS. (LAID: no walk: one application.) -/
theorem Tryd.Builder_String_any (B b : Nat) (l : List UInt8) (w : World) (h : Lib.IsBuilder 96 5 B b (Lib.byteCells l) w) (hBw : B ≤ w.heap.size) :
    Calls Tryd.prog 74 #[.pointer (some ⟨b, 0, none⟩)] w fun e w' => e = .returned (.string ⟨l.toArray⟩) ∧ Below B w w' := Any.Builder_String_any Tryd.lays169 Tryd.Builder_Extra_169 B b l w h hBw
def Tryd.lays241_ren : Go.Shelf.Ren := ⟨fun | 241 => 116 | 277 => 123 | n => n, fun | 70 => 94 | 3 => 3 | 0 => 0 | 72 => 96 | 37 => 32 | 5 => 5 | n => n, fun | n => n⟩
theorem Tryd.lays241 : Go.Proofs.Lays.n241 Tryd.prog Tryd.lays241_ren := {
  mixed := by kernel_rfl
  f241 := Tryd.func116.trans (congrArg some (by kernel_rfl))
  f277 := Tryd.func123.trans (congrArg some (by kernel_rfl))
  t0 := Tryd.underlying0
  a0 := Tryd.isAgg0
  z0 := Tryd.sizeOf0
  v0 := Tryd.zeroValue0
  t3 := Tryd.underlying3
  a3 := Tryd.isAgg3
  z3 := Tryd.sizeOf3
  v3 := Tryd.zeroValue3
  t37 := Tryd.underlying32
  a37 := Tryd.isAgg32
  z37 := Tryd.sizeOf32
  v37 := Tryd.zeroValue32
  t70 := Tryd.underlying94
  a70 := Tryd.isAgg94
  z70 := Tryd.sizeOf94
  v70 := Tryd.zeroValue94
  t72 := Tryd.underlying96
  a72 := Tryd.isAgg96
  z72 := Tryd.sizeOf96
  v72 := Tryd.zeroValue96 }
theorem Tryd.Builder_Extra_241 : Builder.Extra Tryd.prog Tryd.lays241_ren := {
  sizeBuilder := by kernel_rfl
  liesBuilder := by kernel_rfl
  t5 := Tryd.underlying5
  a5 := Tryd.isAgg5
  z5 := Tryd.sizeOf5
  v5 := Tryd.zeroValue5
  infoByte := by kernel_rfl
  cellsByte := by kernel_rfl
  sizeByte := by kernel_rfl
  neB5 := by decide }
open Go.RowKit in
/-- (*strings.Builder).grow (no doc but "grow copies the buffer to a new, larger buffer so that there are at least n bytes of capacity beyond len(b.buf)."): AT A BUILDER WITHOUT A BUFFER: a new row of whatever bytes for its buffer, none of them its own yet. Three draws. (LAID: no walk: one application.) -/
theorem Tryd.Builder_grow_fresh (B b n : Nat) (w : World) (hB : B ≤ b) (hbk : w.heap[b]? = some (.cells #[.pointer (some ⟨b, 0, none⟩), .slice none 0 0] 96 (0, 0))) (hBw : B ≤ w.heap.size) (hn : n ≤ 281474976710656) :
    Calls Tryd.prog 116 #[.pointer (some ⟨b, 0, none⟩), .int .i64 n] w fun e w' => e = .returned (.tuple #[]) ∧ (Lib.BuilderAt 96 5 B b (.pointer (some ⟨b, 0, none⟩)) [] w' ∧ Below B w w') := Any.Builder_grow_fresh Tryd.lays241 Tryd.Builder_Extra_241 B b n w hB hbk hBw hn
def Tryd.lays165_ren : Go.Shelf.Ren := ⟨fun | 165 => 95 | 240 => 98 | 241 => 116 | 276 => 117 | 277 => 123 | n => n, fun | 70 => 94 | 3 => 3 | 0 => 0 | 4 => 4 | 9 => 9 | 20 => 20 | 72 => 96 | 37 => 32 | 164 => 129 | 5 => 5 | n => n, fun | n => n⟩
theorem Tryd.lays165 : Go.Proofs.Lays.n165 Tryd.prog Tryd.lays165_ren := {
  mixed := by kernel_rfl
  f165 := Tryd.func95.trans (congrArg some (by kernel_rfl))
  f240 := Tryd.func98.trans (congrArg some (by kernel_rfl))
  f241 := Tryd.func116.trans (congrArg some (by kernel_rfl))
  f276 := Tryd.func117.trans (congrArg some (by kernel_rfl))
  f277 := Tryd.func123.trans (congrArg some (by kernel_rfl))
  t0 := Tryd.underlying0
  a0 := Tryd.isAgg0
  z0 := Tryd.sizeOf0
  v0 := Tryd.zeroValue0
  t3 := Tryd.underlying3
  a3 := Tryd.isAgg3
  z3 := Tryd.sizeOf3
  v3 := Tryd.zeroValue3
  t4 := Tryd.underlying4
  a4 := Tryd.isAgg4
  z4 := Tryd.sizeOf4
  v4 := Tryd.zeroValue4
  t9 := Tryd.underlying9
  a9 := Tryd.isAgg9
  z9 := Tryd.sizeOf9
  v9 := Tryd.zeroValue9
  t20 := Tryd.underlying20
  a20 := Tryd.isAgg20
  z20 := Tryd.sizeOf20
  v20 := Tryd.zeroValue20
  t37 := Tryd.underlying32
  a37 := Tryd.isAgg32
  z37 := Tryd.sizeOf32
  v37 := Tryd.zeroValue32
  t70 := Tryd.underlying94
  a70 := Tryd.isAgg94
  z70 := Tryd.sizeOf94
  v70 := Tryd.zeroValue94
  t72 := Tryd.underlying96
  a72 := Tryd.isAgg96
  z72 := Tryd.sizeOf96
  v72 := Tryd.zeroValue96
  t164 := Tryd.underlying129
  a164 := Tryd.isAgg129
  z164 := Tryd.sizeOf129
  v164 := Tryd.zeroValue129 }
theorem Tryd.Builder_Extra_165 : Builder.Extra Tryd.prog Tryd.lays165_ren := {
  sizeBuilder := by kernel_rfl
  liesBuilder := by kernel_rfl
  t5 := Tryd.underlying5
  a5 := Tryd.isAgg5
  z5 := Tryd.sizeOf5
  v5 := Tryd.zeroValue5
  infoByte := by kernel_rfl
  cellsByte := by kernel_rfl
  sizeByte := by kernel_rfl
  neB5 := by decide }
open Go.RowKit in
/-- (*strings.Builder).Grow AT A BUILDER THAT HAS NOT BEEN WRITTEN ('var b strings.Builder; b.Grow(n)'): "Grow grows b's capacity, if necessary, to guarantee space for another n bytes.": it holds no byte behind it as before it. (LAID: no walk: one application.) -/
theorem Tryd.Builder_Grow_fresh (B b n : Nat) (w : World) (hB : B ≤ b) (hbk : w.heap[b]? = some (.cells #[.pointer none, .slice none 0 0] 96 (0, 0))) (hBw : B ≤ w.heap.size) (hn : n ≤ 281474976710656) :
    Calls Tryd.prog 95 #[.pointer (some ⟨b, 0, none⟩), .int .i64 n] w fun e w' => e = .returned (.tuple #[]) ∧ (Lib.BuilderAt 96 5 B b (.pointer (some ⟨b, 0, none⟩)) [] w' ∧ Below B w w') := Any.Builder_Grow_fresh Tryd.lays165 Tryd.Builder_Extra_165 B b n w hB hbk hBw hn
def Tryd.lays231_ren : Go.Shelf.Ren := ⟨fun | 231 => 87 | n => n, fun | 9 => 9 | 5 => 5 | 3 => 3 | 4 => 4 | n => n, fun | n => n⟩
theorem Tryd.lays231 : Go.Proofs.Lays.n231 Tryd.prog Tryd.lays231_ren := {
  mixed := by kernel_rfl
  f231 := Tryd.func87.trans (congrArg some (by kernel_rfl))
  t3 := Tryd.underlying3
  a3 := Tryd.isAgg3
  z3 := Tryd.sizeOf3
  v3 := Tryd.zeroValue3
  t4 := Tryd.underlying4
  a4 := Tryd.isAgg4
  z4 := Tryd.sizeOf4
  v4 := Tryd.zeroValue4
  t5 := Tryd.underlying5
  a5 := Tryd.isAgg5
  z5 := Tryd.sizeOf5
  v5 := Tryd.zeroValue5
  t9 := Tryd.underlying9
  a9 := Tryd.isAgg9
  z9 := Tryd.sizeOf9
  v9 := Tryd.zeroValue9 }
open Go.RowKit in
/-- strings.trimLeftByte (no doc; what TrimLeft and Trim call at a cutset of one ASCII byte): the leading bytes that are c are cut off. The world is as it was. (LAID: no walk: one application.) -/
theorem Tryd.strings_trimLeftByte (s : ByteArray) (c : UInt8) (w : World) :
    Calls Tryd.prog 87 #[.string s, .int .u8 c.toNat] w fun e w' => e = .returned (.string ⟨(Lib.trimLeftB s.data.toList c).toArray⟩) ∧ w' = w := Any.strings_trimLeftByte Tryd.lays231 s c w
def Tryd.lays232_ren : Go.Shelf.Ren := ⟨fun | 232 => 108 | n => n, fun | 9 => 9 | 5 => 5 | 3 => 3 | 4 => 4 | n => n, fun | n => n⟩
theorem Tryd.lays232 : Go.Proofs.Lays.n232 Tryd.prog Tryd.lays232_ren := {
  mixed := by kernel_rfl
  f232 := Tryd.func108.trans (congrArg some (by kernel_rfl))
  t3 := Tryd.underlying3
  a3 := Tryd.isAgg3
  z3 := Tryd.sizeOf3
  v3 := Tryd.zeroValue3
  t4 := Tryd.underlying4
  a4 := Tryd.isAgg4
  z4 := Tryd.sizeOf4
  v4 := Tryd.zeroValue4
  t5 := Tryd.underlying5
  a5 := Tryd.isAgg5
  z5 := Tryd.sizeOf5
  v5 := Tryd.zeroValue5
  t9 := Tryd.underlying9
  a9 := Tryd.isAgg9
  z9 := Tryd.sizeOf9
  v9 := Tryd.zeroValue9 }
open Go.RowKit in
/-- strings.trimRightByte (no doc; what TrimRight and Trim call at a cutset of one ASCII byte): the trailing bytes that are c are cut off. The world is as it was. ('hs': a string's length is a number that an int holds.) (LAID: no walk: one application.) -/
theorem Tryd.strings_trimRightByte (s : ByteArray) (c : UInt8) (w : World) (hs : s.size ≤ 9223372036854775807) :
    Calls Tryd.prog 108 #[.string s, .int .u8 c.toNat] w fun e w' => e = .returned (.string ⟨(Lib.trimRightB s.data.toList c).toArray⟩) ∧ w' = w := Any.strings_trimRightByte Tryd.lays232 s c w hs
def Tryd.lays161_ren : Go.Shelf.Ren := ⟨fun | 161 => 61 | 231 => 87 | 227 => 68 | 233 => 88 | 235 => 89 | 228 => 69 | 197 => 111 | 151 => 112 | 260 => 121 | 152 => 66 | 137 => 90 | 119 => 91 | 224 => 92 | 225 => 93 | 217 => 113 | 266 => 122 | n => n, fun | 9 => 9 | 4 => 4 | 3 => 3 | 5 => 5 | 117 => 90 | 116 => 89 | 0 => 0 | 124 => 109 | 105 => 122 | 21 => 21 | 119 => 133 | 46 => 100 | 139 => 136 | 138 => 135 | n => n, fun | 3 => 1 | 4 => 2 | n => n⟩
theorem Tryd.lays161 : Go.Proofs.Lays.n161 Tryd.prog Tryd.lays161_ren := {
  mixed := by kernel_rfl
  f119 := Tryd.func91.trans (congrArg some (by kernel_rfl))
  f137 := Tryd.func90.trans (congrArg some (by kernel_rfl))
  f151 := Tryd.func112.trans (congrArg some (by kernel_rfl))
  f152 := Tryd.func66.trans (congrArg some (by kernel_rfl))
  f161 := Tryd.func61.trans (congrArg some (by kernel_rfl))
  f197 := Tryd.func111.trans (congrArg some (by kernel_rfl))
  f217 := Tryd.func113.trans (congrArg some (by kernel_rfl))
  f224 := Tryd.func92.trans (congrArg some (by kernel_rfl))
  f225 := Tryd.func93.trans (congrArg some (by kernel_rfl))
  f227 := Tryd.func68.trans (congrArg some (by kernel_rfl))
  f228 := Tryd.func69.trans (congrArg some (by kernel_rfl))
  f231 := Tryd.func87.trans (congrArg some (by kernel_rfl))
  f233 := Tryd.func88.trans (congrArg some (by kernel_rfl))
  f235 := Tryd.func89.trans (congrArg some (by kernel_rfl))
  f260 := Tryd.func121.trans (congrArg some (by kernel_rfl))
  f266 := Tryd.func122.trans (congrArg some (by kernel_rfl))
  t0 := Tryd.underlying0
  a0 := Tryd.isAgg0
  z0 := Tryd.sizeOf0
  v0 := Tryd.zeroValue0
  t3 := Tryd.underlying3
  a3 := Tryd.isAgg3
  z3 := Tryd.sizeOf3
  v3 := Tryd.zeroValue3
  t4 := Tryd.underlying4
  a4 := Tryd.isAgg4
  z4 := Tryd.sizeOf4
  v4 := Tryd.zeroValue4
  t5 := Tryd.underlying5
  a5 := Tryd.isAgg5
  z5 := Tryd.sizeOf5
  v5 := Tryd.zeroValue5
  t9 := Tryd.underlying9
  a9 := Tryd.isAgg9
  z9 := Tryd.sizeOf9
  v9 := Tryd.zeroValue9
  t21 := Tryd.underlying21
  a21 := Tryd.isAgg21
  z21 := Tryd.sizeOf21
  v21 := Tryd.zeroValue21
  t46 := Tryd.underlying100
  a46 := Tryd.isAgg100
  z46 := Tryd.sizeOf100
  v46 := Tryd.zeroValue100
  t105 := Tryd.underlying122
  a105 := Tryd.isAgg122
  z105 := Tryd.sizeOf122
  v105 := Tryd.zeroValue122
  t116 := Tryd.underlying89
  a116 := Tryd.isAgg89
  z116 := Tryd.sizeOf89
  t117 := Tryd.underlying90
  a117 := Tryd.isAgg90
  z117 := Tryd.sizeOf90
  v117 := Tryd.zeroValue90
  t119 := Tryd.underlying133
  a119 := Tryd.isAgg133
  z119 := Tryd.sizeOf133
  t124 := Tryd.underlying109
  a124 := Tryd.isAgg109
  z124 := Tryd.sizeOf109
  v124 := Tryd.zeroValue109
  t138 := Tryd.underlying135
  a138 := Tryd.isAgg135
  z138 := Tryd.sizeOf135
  v138 := Tryd.zeroValue135
  t139 := Tryd.underlying136
  a139 := Tryd.isAgg136
  z139 := Tryd.sizeOf136
  v139 := Tryd.zeroValue136
  g3 := by kernel_rfl
  g4 := by kernel_rfl }
open Go.RowKit in
/-- strings.TrimLeft: "TrimLeft returns a slice of the string s with all leading Unicode code points contained in cutset removed.": AT A cutset OF ONE ASCII BYTE. The world is as it was. (LAID: no walk: one application.) -/
theorem Tryd.strings_TrimLeft_one (s : ByteArray) (c : UInt8) (hc : c.toNat < 128) (w : World) :
    Calls Tryd.prog 61 #[.string s, .string ⟨#[c]⟩] w fun e w' => e = .returned (.string ⟨(Lib.trimLeftB s.data.toList c).toArray⟩) ∧ w' = w := Any.strings_TrimLeft_one Tryd.lays161 s c hc w
def Tryd.lays160_ren : Go.Shelf.Ren := ⟨fun | 160 => 86 | 232 => 108 | 231 => 87 | 227 => 68 | 234 => 109 | 233 => 88 | 236 => 110 | 235 => 89 | 228 => 69 | 271 => 120 | 151 => 112 | 197 => 111 | 120 => 125 | 152 => 66 | 260 => 121 | 137 => 90 | 119 => 91 | 224 => 92 | 225 => 93 | 217 => 113 | 266 => 122 | n => n, fun | 9 => 9 | 4 => 4 | 3 => 3 | 5 => 5 | 117 => 90 | 116 => 89 | 0 => 0 | 124 => 109 | 21 => 21 | 105 => 122 | 46 => 100 | 119 => 133 | 139 => 136 | 138 => 135 | n => n, fun | 3 => 1 | 4 => 2 | n => n⟩
theorem Tryd.lays160 : Go.Proofs.Lays.n160 Tryd.prog Tryd.lays160_ren := {
  mixed := by kernel_rfl
  f119 := Tryd.func91.trans (congrArg some (by kernel_rfl))
  f120 := Tryd.func125.trans (congrArg some (by kernel_rfl))
  f137 := Tryd.func90.trans (congrArg some (by kernel_rfl))
  f151 := Tryd.func112.trans (congrArg some (by kernel_rfl))
  f152 := Tryd.func66.trans (congrArg some (by kernel_rfl))
  f160 := Tryd.func86.trans (congrArg some (by kernel_rfl))
  f197 := Tryd.func111.trans (congrArg some (by kernel_rfl))
  f217 := Tryd.func113.trans (congrArg some (by kernel_rfl))
  f224 := Tryd.func92.trans (congrArg some (by kernel_rfl))
  f225 := Tryd.func93.trans (congrArg some (by kernel_rfl))
  f227 := Tryd.func68.trans (congrArg some (by kernel_rfl))
  f228 := Tryd.func69.trans (congrArg some (by kernel_rfl))
  f231 := Tryd.func87.trans (congrArg some (by kernel_rfl))
  f232 := Tryd.func108.trans (congrArg some (by kernel_rfl))
  f233 := Tryd.func88.trans (congrArg some (by kernel_rfl))
  f234 := Tryd.func109.trans (congrArg some (by kernel_rfl))
  f235 := Tryd.func89.trans (congrArg some (by kernel_rfl))
  f236 := Tryd.func110.trans (congrArg some (by kernel_rfl))
  f260 := Tryd.func121.trans (congrArg some (by kernel_rfl))
  f266 := Tryd.func122.trans (congrArg some (by kernel_rfl))
  f271 := Tryd.func120.trans (congrArg some (by kernel_rfl))
  t0 := Tryd.underlying0
  a0 := Tryd.isAgg0
  z0 := Tryd.sizeOf0
  v0 := Tryd.zeroValue0
  t3 := Tryd.underlying3
  a3 := Tryd.isAgg3
  z3 := Tryd.sizeOf3
  v3 := Tryd.zeroValue3
  t4 := Tryd.underlying4
  a4 := Tryd.isAgg4
  z4 := Tryd.sizeOf4
  v4 := Tryd.zeroValue4
  t5 := Tryd.underlying5
  a5 := Tryd.isAgg5
  z5 := Tryd.sizeOf5
  v5 := Tryd.zeroValue5
  t9 := Tryd.underlying9
  a9 := Tryd.isAgg9
  z9 := Tryd.sizeOf9
  v9 := Tryd.zeroValue9
  t21 := Tryd.underlying21
  a21 := Tryd.isAgg21
  z21 := Tryd.sizeOf21
  v21 := Tryd.zeroValue21
  t46 := Tryd.underlying100
  a46 := Tryd.isAgg100
  z46 := Tryd.sizeOf100
  v46 := Tryd.zeroValue100
  t105 := Tryd.underlying122
  a105 := Tryd.isAgg122
  z105 := Tryd.sizeOf122
  v105 := Tryd.zeroValue122
  t116 := Tryd.underlying89
  a116 := Tryd.isAgg89
  z116 := Tryd.sizeOf89
  t117 := Tryd.underlying90
  a117 := Tryd.isAgg90
  z117 := Tryd.sizeOf90
  v117 := Tryd.zeroValue90
  t119 := Tryd.underlying133
  a119 := Tryd.isAgg133
  z119 := Tryd.sizeOf133
  t124 := Tryd.underlying109
  a124 := Tryd.isAgg109
  z124 := Tryd.sizeOf109
  v124 := Tryd.zeroValue109
  t138 := Tryd.underlying135
  a138 := Tryd.isAgg135
  z138 := Tryd.sizeOf135
  v138 := Tryd.zeroValue135
  t139 := Tryd.underlying136
  a139 := Tryd.isAgg136
  z139 := Tryd.sizeOf136
  v139 := Tryd.zeroValue136
  g3 := by kernel_rfl
  g4 := by kernel_rfl }
open Go.RowKit in
/-- strings.Trim: "Trim returns a slice of the string s with all leading and trailing Unicode code points contained in cutset removed.": AT A cutset OF ONE ASCII BYTE. THE WORLD BEHIND IT: as it was, or (where s is not empty) with ONE DRAW MORE off the tape: the statement 'return trimLeftByte(trimRightByte(s, c), c)' draws its order of evaluation. (LAID: no walk: one application.) -/
theorem Tryd.strings_Trim_one (s : ByteArray) (c : UInt8) (hc : c.toNat < 128) (w : World) (hs : s.size ≤ 9223372036854775807) :
    Calls Tryd.prog 86 #[.string s, .string ⟨#[c]⟩] w fun e w' => e = .returned (.string ⟨(Lib.trimB s.data.toList c).toArray⟩) ∧ (w' = w ∨ w' = w.drew) := Any.strings_Trim_one Tryd.lays160 s c hc w hs
def Tryd.lays119_ren : Go.Shelf.Ren := ⟨fun | 119 => 91 | n => n, fun | 21 => 21 | 4 => 4 | n => n, fun | n => n⟩
theorem Tryd.lays119 : Go.Proofs.Lays.n119 Tryd.prog Tryd.lays119_ren := {
  mixed := by kernel_rfl
  f119 := Tryd.func91.trans (congrArg some (by kernel_rfl))
  t4 := Tryd.underlying4
  a4 := Tryd.isAgg4
  z4 := Tryd.sizeOf4
  v4 := Tryd.zeroValue4
  t21 := Tryd.underlying21
  a21 := Tryd.isAgg21
  z21 := Tryd.sizeOf21
  v21 := Tryd.zeroValue21 }
/-- utf8.ValidRune: "ValidRune reports whether r can be legally encoded as UTF-8. Code points that are out of range or a surrogate half are illegal.": IT RETURNS 'Lib.validRune r'; the world is as it was. (LAID: no walk: one application.) -/
theorem Tryd.utf8_ValidRune (r : Int) (w : World) :
    Calls Tryd.prog 91 #[.int .i32 r] w fun e w' => e = .returned (.bool (Lib.validRune r)) ∧ w' = w := Any.utf8_ValidRune Tryd.lays119 r w
def Tryd.lays120_ren : Go.Shelf.Ren := ⟨fun | 120 => 125 | n => n, fun | 5 => 5 | 4 => 4 | n => n, fun | n => n⟩
theorem Tryd.lays120 : Go.Proofs.Lays.n120 Tryd.prog Tryd.lays120_ren := {
  mixed := by kernel_rfl
  f120 := Tryd.func125.trans (congrArg some (by kernel_rfl))
  t4 := Tryd.underlying4
  a4 := Tryd.isAgg4
  z4 := Tryd.sizeOf4
  v4 := Tryd.zeroValue4
  t5 := Tryd.underlying5
  a5 := Tryd.isAgg5
  z5 := Tryd.sizeOf5
  v5 := Tryd.zeroValue5 }
/-- utf8.RuneStart: "RuneStart reports whether the byte could be the first byte of an encoded, possibly invalid rune. Second and subsequent bytes always have the top two bits set to 10.": IT RETURNS 'Lib.runeStart b'; the world is as it was. ('h0', 'h1': b is a byte: a caller has it of every byte that it was handed.) (LAID: no walk: one application.) -/
theorem Tryd.utf8_RuneStart (b : Int) (w : World) (h0 : 0 ≤ b) (h1 : b < 256) :
    Calls Tryd.prog 125 #[.int .u8 b] w fun e w' => e = .returned (.bool (Lib.runeStart b)) ∧ w' = w := Any.utf8_RuneStart Tryd.lays120 b w h0 h1
def Tryd.lays137_ren : Go.Shelf.Ren := ⟨fun | 137 => 90 | 217 => 113 | 266 => 122 | n => n, fun | 9 => 9 | 5 => 5 | 3 => 3 | n => n, fun | n => n⟩
theorem Tryd.lays137 : Go.Proofs.Lays.n137 Tryd.prog Tryd.lays137_ren := {
  mixed := by kernel_rfl
  f137 := Tryd.func90.trans (congrArg some (by kernel_rfl))
  f217 := Tryd.func113.trans (congrArg some (by kernel_rfl))
  f266 := Tryd.func122.trans (congrArg some (by kernel_rfl))
  t3 := Tryd.underlying3
  a3 := Tryd.isAgg3
  z3 := Tryd.sizeOf3
  v3 := Tryd.zeroValue3
  t5 := Tryd.underlying5
  a5 := Tryd.isAgg5
  z5 := Tryd.sizeOf5
  v5 := Tryd.zeroValue5
  t9 := Tryd.underlying9
  a9 := Tryd.isAgg9
  z9 := Tryd.sizeOf9
  v9 := Tryd.zeroValue9 }
open Go.RowKit in
/-- strings.IndexByte: "IndexByte returns the index of the first instance of c in s, or -1 if c is not present in s.": IT RETURNS 'Lib.indexByte s c'; the world is as it was. (LAID: no walk: one application.) -/
theorem Tryd.strings_IndexByte (s : ByteArray) (c : Int) (w : World) :
    Calls Tryd.prog 90 #[.string s, .int .u8 c] w fun e w' => e = .returned (.int .i64 (Lib.indexByte s.data.toList c.toNat.toUInt8)) ∧ w' = w := Any.strings_IndexByte Tryd.lays137 s c w
open Go.RowKit in
/-- (*strings.Builder).Len: "Len returns the number of accumulated bytes; b.Len() == len(b.String()).": the world is as it was. (THE FORM '_f': 'Lib.IsBuilderF'.) (LAID: no walk: one application.) -/
theorem Tryd.Builder_Len_f (B b : Nat) (bs : List Value) (w : World) (h : Lib.IsBuilderF 96 5 B b bs w) :
    Calls Tryd.prog 97 #[.pointer (some ⟨b, 0, none⟩)] w fun e w' => e = .returned (.int .i64 bs.length) ∧ w' = w := Any.Builder_Len_f Tryd.lays170 B b bs w h
open Go.RowKit in
/-- (*strings.Builder).String: "String returns the accumulated string.": OF A BUILDER THAT HOLDS AT LEAST ONE BYTE. ✋ THE MODEL FREEZES THOSE BYTES IN THE BUFFER (unsafe.String): a later write INTO them ends the model's run without an answer; a later append BEHIND them goes on. The statement's order of evaluation is drawn: one draw. THE FORM '_f': IT SAYS BESIDES THAT THE BUILDER IS A BUILDER STILL ('Lib.IsBuilderF', the same bytes): SO IT CAN BE WRITTEN ON: 'b.WriteString(b.String()[:k])'. (LAID: no walk: one application.) -/
theorem Tryd.Builder_String_f (B b : Nat) (l : List UInt8) (w : World) (h : Lib.IsBuilderF 96 5 B b (Lib.byteCells l) w) (h0 : l ≠ []) :
    Calls Tryd.prog 74 #[.pointer (some ⟨b, 0, none⟩)] w fun e w' => e = .returned (.string ⟨l.toArray⟩) ∧ (Lib.IsBuilderF 96 5 B b (Lib.byteCells l) w' ∧ Below B w w') := Any.Builder_String_f Tryd.lays169 Tryd.Builder_Extra_169 B b l w h h0
open Go.RowKit in
/-- (*strings.Builder).String OF A BUILDER THAT HOLDS NO BYTE: the empty string; THE FORM '_f': a builder still. (LAID: no walk: one application.) -/
theorem Tryd.Builder_String_empty_f (B b : Nat) (w : World) (h : Lib.IsBuilderF 96 5 B b [] w) (hBw : B ≤ w.heap.size) :
    Calls Tryd.prog 74 #[.pointer (some ⟨b, 0, none⟩)] w fun e w' => e = .returned (.string ⟨#[]⟩) ∧ (Lib.IsBuilderF 96 5 B b [] w' ∧ Below B w w') := Any.Builder_String_empty_f Tryd.lays169 Tryd.Builder_Extra_169 B b w h hBw
open Go.RowKit in
/-- (*strings.Builder).String: "String returns the accumulated string.": WHATEVER THE BUILDER HOLDS; THE FORM '_f': OF A BUILDER THAT MAY HAVE BEEN READ BEFORE; AND IT IS A BUILDER STILL, holding the same bytes: it can be written on. (LAID: no walk: one application.) -/
theorem Tryd.Builder_String_any_f (B b : Nat) (l : List UInt8) (w : World) (h : Lib.IsBuilderF 96 5 B b (Lib.byteCells l) w) (hBw : B ≤ w.heap.size) :
    Calls Tryd.prog 74 #[.pointer (some ⟨b, 0, none⟩)] w fun e w' => e = .returned (.string ⟨l.toArray⟩) ∧ (Lib.IsBuilderF 96 5 B b (Lib.byteCells l) w' ∧ Below B w w') := Any.Builder_String_any_f Tryd.lays169 Tryd.Builder_Extra_169 B b l w h hBw
open Go.RowKit in
/-- (*strings.Builder).String: "String returns the accumulated string.": OF A BUILDER THAT HOLDS AT LEAST ONE BYTE. ✋ THE MODEL FREEZES THOSE BYTES IN THE BUFFER (unsafe.String): a later write INTO them ends the model's run without an answer; a later append BEHIND them goes on. The statement's order of evaluation is drawn: one draw. THE FORM '_k': OVER 'Lib.IsBuilderF' (a builder that 'String()' may have read), AND WITH THE FRAME THAT REACHES ABOVE THE BUILDER: 'Lib.OthersKept': every block that is not b and is no row of uint8's stands as it stood: the iterator of a range among them. (LAID: no walk: one application.) -/
theorem Tryd.Builder_String_k (B b : Nat) (l : List UInt8) (w : World) (h : Lib.IsBuilderF 96 5 B b (Lib.byteCells l) w) (h0 : l ≠ []) :
    Calls Tryd.prog 74 #[.pointer (some ⟨b, 0, none⟩)] w fun e w' => e = .returned (.string ⟨l.toArray⟩) ∧ (Lib.IsBuilderF 96 5 B b (Lib.byteCells l) w' ∧ Below B w w' ∧ Lib.OthersKept 5 (some b) w w') := Any.Builder_String_k Tryd.lays169 Tryd.Builder_Extra_169 B b l w h h0
open Go.RowKit in
/-- (*strings.Builder).String OF A BUILDER THAT HOLDS NO BYTE: the empty string; THE FORM '_k': OVER 'Lib.IsBuilderF' (a builder that 'String()' may have read), AND WITH THE FRAME THAT REACHES ABOVE THE BUILDER: 'Lib.OthersKept': every block that is not b and is no row of uint8's stands as it stood: the iterator of a range among them. (LAID: no walk: one application.) -/
theorem Tryd.Builder_String_empty_k (B b : Nat) (w : World) (h : Lib.IsBuilderF 96 5 B b [] w) (hBw : B ≤ w.heap.size) :
    Calls Tryd.prog 74 #[.pointer (some ⟨b, 0, none⟩)] w fun e w' => e = .returned (.string ⟨#[]⟩) ∧ (Lib.IsBuilderF 96 5 B b [] w' ∧ Below B w w' ∧ Lib.OthersKept 5 (some b) w w') := Any.Builder_String_empty_k Tryd.lays169 Tryd.Builder_Extra_169 B b w h hBw
open Go.RowKit in
/-- (*strings.Builder).String: "String returns the accumulated string.": WHATEVER THE BUILDER HOLDS; THE FORM '_k': OVER 'Lib.IsBuilderF' (a builder that 'String()' may have read), AND WITH THE FRAME THAT REACHES ABOVE THE BUILDER: 'Lib.OthersKept': every block that is not b and is no row of uint8's stands as it stood: the iterator of a range among them. (LAID: no walk: one application.) -/
theorem Tryd.Builder_String_any_k (B b : Nat) (l : List UInt8) (w : World) (h : Lib.IsBuilderF 96 5 B b (Lib.byteCells l) w) (hBw : B ≤ w.heap.size) :
    Calls Tryd.prog 74 #[.pointer (some ⟨b, 0, none⟩)] w fun e w' => e = .returned (.string ⟨l.toArray⟩) ∧ (Lib.IsBuilderF 96 5 B b (Lib.byteCells l) w' ∧ Below B w w' ∧ Lib.OthersKept 5 (some b) w w') := Any.Builder_String_any_k Tryd.lays169 Tryd.Builder_Extra_169 B b l w h hBw
open Go.RowKit in
/-- (*strings.Builder).grow (no doc but "grow copies the buffer to a new, larger buffer so that there are at least n bytes of capacity beyond len(b.buf)."): AT A BUILDER WITHOUT A BUFFER: a new row of whatever bytes for its buffer, none of them its own yet. Three draws. (LAID: no walk: one application.) -/
theorem Tryd.Builder_grow_fresh_cap (B b n : Nat) (w : World) (hB : B ≤ b) (hbk : w.heap[b]? = some (.cells #[.pointer (some ⟨b, 0, none⟩), .slice none 0 0] 96 (0, 0))) (hBw : B ≤ w.heap.size) (hn : n ≤ 281474976710656) :
    Calls Tryd.prog 116 #[.pointer (some ⟨b, 0, none⟩), .int .i64 n] w fun e w' => e = .returned (.tuple #[]) ∧ (Lib.BuilderAt 96 5 B b (.pointer (some ⟨b, 0, none⟩)) [] w' ∧ Below B w w') ∧ ∃ p cap, w'.cell? ⟨b, 1, none⟩ = some (.slice p 0 cap) ∧ n ≤ cap := Any.Builder_grow_fresh_cap Tryd.lays241 Tryd.Builder_Extra_241 B b n w hB hbk hBw hn
open Go.RowKit in
/-- (*strings.Builder).Grow AT A BUILDER THAT HAS NOT BEEN WRITTEN ('var b strings.Builder; b.Grow(n)'): "Grow grows b's capacity, if necessary, to guarantee space for another n bytes.": it holds no byte behind it as before it. (LAID: no walk: one application.) -/
theorem Tryd.Builder_Grow_fresh_cap (B b n : Nat) (w : World) (hB : B ≤ b) (hbk : w.heap[b]? = some (.cells #[.pointer none, .slice none 0 0] 96 (0, 0))) (hBw : B ≤ w.heap.size) (hn : n ≤ 281474976710656) :
    Calls Tryd.prog 95 #[.pointer (some ⟨b, 0, none⟩), .int .i64 n] w fun e w' => e = .returned (.tuple #[]) ∧ (Lib.BuilderAt 96 5 B b (.pointer (some ⟨b, 0, none⟩)) [] w' ∧ Below B w w') ∧ ∃ p cap, w'.cell? ⟨b, 1, none⟩ = some (.slice p 0 cap) ∧ n ≤ cap := Any.Builder_Grow_fresh_cap Tryd.lays165 Tryd.Builder_Extra_165 B b n w hB hbk hBw hn
def Tryd.lays217_ren : Go.Shelf.Ren := ⟨fun | 217 => 113 | 266 => 122 | n => n, fun | 9 => 9 | 5 => 5 | 3 => 3 | n => n, fun | n => n⟩
theorem Tryd.lays217 : Go.Proofs.Lays.n217 Tryd.prog Tryd.lays217_ren := {
  mixed := by kernel_rfl
  f217 := Tryd.func113.trans (congrArg some (by kernel_rfl))
  f266 := Tryd.func122.trans (congrArg some (by kernel_rfl))
  t3 := Tryd.underlying3
  a3 := Tryd.isAgg3
  z3 := Tryd.sizeOf3
  v3 := Tryd.zeroValue3
  t5 := Tryd.underlying5
  a5 := Tryd.isAgg5
  z5 := Tryd.sizeOf5
  v5 := Tryd.zeroValue5
  t9 := Tryd.underlying9
  a9 := Tryd.isAgg9
  z9 := Tryd.sizeOf9
  v9 := Tryd.zeroValue9 }
open Go.RowKit Go.Lib in
/-- internal/stringslite.IndexByte (what strings.IndexByte calls): IT RETURNS 'Lib.indexByte s c'; the world is as it was. (LAID: no walk: one application.) -/
theorem Tryd.stringslite_IndexByte (s : ByteArray) (c : Int) (w : World) :
    Calls Tryd.prog 113 #[.string s, .int .u8 c] w fun e w' => e = .returned (.int .i64 (Lib.indexByte s.data.toList c.toNat.toUInt8)) ∧ w' = w := Any.stringslite_IndexByte Tryd.lays217 s c w
def Tryd.lays224_ren : Go.Shelf.Ren := ⟨fun | 224 => 92 | n => n, fun | 3 => 3 | n => n, fun | n => n⟩
theorem Tryd.lays224 : Go.Proofs.Lays.n224 Tryd.prog Tryd.lays224_ren := {
  mixed := by kernel_rfl
  f224 := Tryd.func92.trans (congrArg some (by kernel_rfl))
  t3 := Tryd.underlying3
  a3 := Tryd.isAgg3
  z3 := Tryd.sizeOf3
  v3 := Tryd.zeroValue3 }
open Go.RowKit Go.Lib in
/-- internal/bytealg.Cutover: "Cutover reports the number of failures of IndexByte we should tolerate before switching over to Index. n is the number of bytes processed so far.": on amd64: (n + 16) / 8. (LAID: no walk: one application.) -/
theorem Tryd.bytealg_Cutover (n : Int) (h0 : 0 ≤ n) (h1 : n < 4611686018427387904) (w : World) :
    Calls Tryd.prog 92 #[.int .i64 n] w fun e w' => e = .returned (.int .i64 ((n + 16) / 8)) ∧ w' = w := Any.bytealg_Cutover Tryd.lays224 n h0 h1 w
def Tryd.lays314_ren : Go.Shelf.Ren := ⟨fun | 314 => 124 | n => n, fun | 9 => 9 | 51 => 31 | 3 => 3 | 4 => 4 | 5 => 5 | 46 => 100 | n => n, fun | n => n⟩
theorem Tryd.lays314 : Go.Proofs.Lays.n314 Tryd.prog Tryd.lays314_ren := {
  mixed := by kernel_rfl
  f314 := Tryd.func124.trans (congrArg some (by kernel_rfl))
  t3 := Tryd.underlying3
  a3 := Tryd.isAgg3
  z3 := Tryd.sizeOf3
  v3 := Tryd.zeroValue3
  t4 := Tryd.underlying4
  a4 := Tryd.isAgg4
  z4 := Tryd.sizeOf4
  v4 := Tryd.zeroValue4
  t5 := Tryd.underlying5
  a5 := Tryd.isAgg5
  z5 := Tryd.sizeOf5
  v5 := Tryd.zeroValue5
  t9 := Tryd.underlying9
  a9 := Tryd.isAgg9
  z9 := Tryd.sizeOf9
  v9 := Tryd.zeroValue9
  t46 := Tryd.underlying100
  a46 := Tryd.isAgg100
  z46 := Tryd.sizeOf100
  v46 := Tryd.zeroValue100
  t51 := Tryd.underlying31
  a51 := Tryd.isAgg31
  z51 := Tryd.sizeOf31
  v51 := Tryd.zeroValue31 }
open Go.RowKit Go.Lib in
/-- hashStr: "returns the hash and the appropriate multiplicative factor for use in Rabin-Karp algorithm": THE HASH OF ALL OF sep, AND 16777619 ^ len(sep), both in uint32. (LAID: no walk: one application.) -/
theorem Tryd.bytealg_hashStr (sep : ByteArray) (hs : sep.size < 4294967281) (w : World) :
    Calls Tryd.prog 124 #[.string sep] w fun e w' => e = .returned (.tuple #[.int .u32 (RK.H sep.data.toList % 4294967296), .int .u32 (16777619 ^ sep.size % 4294967296)]) ∧ w' = w := Any.bytealg_hashStr Tryd.lays314 sep hs w
def Tryd.lays267_ren : Go.Shelf.Ren := ⟨fun | 267 => 119 | 314 => 124 | n => n, fun | 9 => 9 | 3 => 3 | 146 => 125 | 51 => 31 | 4 => 4 | 5 => 5 | 46 => 100 | n => n, fun | n => n⟩
theorem Tryd.lays267 : Go.Proofs.Lays.n267 Tryd.prog Tryd.lays267_ren := {
  mixed := by kernel_rfl
  f267 := Tryd.func119.trans (congrArg some (by kernel_rfl))
  f314 := Tryd.func124.trans (congrArg some (by kernel_rfl))
  t3 := Tryd.underlying3
  a3 := Tryd.isAgg3
  z3 := Tryd.sizeOf3
  v3 := Tryd.zeroValue3
  t4 := Tryd.underlying4
  a4 := Tryd.isAgg4
  z4 := Tryd.sizeOf4
  v4 := Tryd.zeroValue4
  t5 := Tryd.underlying5
  a5 := Tryd.isAgg5
  z5 := Tryd.sizeOf5
  v5 := Tryd.zeroValue5
  t9 := Tryd.underlying9
  a9 := Tryd.isAgg9
  z9 := Tryd.sizeOf9
  v9 := Tryd.zeroValue9
  t46 := Tryd.underlying100
  a46 := Tryd.isAgg100
  z46 := Tryd.sizeOf100
  v46 := Tryd.zeroValue100
  t51 := Tryd.underlying31
  a51 := Tryd.isAgg31
  z51 := Tryd.sizeOf31
  v51 := Tryd.zeroValue31
  t146 := Tryd.underlying125
  a146 := Tryd.isAgg125
  z146 := Tryd.sizeOf125
  v146 := Tryd.zeroValue125 }
open Go.RowKit Go.Lib in
theorem Tryd.bytealg_IndexRabinKarp (s sep : ByteArray) (h1 : 1 ≤ sep.size) (h2 : sep.size ≤ s.size) (hs : s.size < 4294967281) (w : World) :
    Calls Tryd.prog 119 #[.string s, .string sep] w fun e w' => e = .returned (.int .i64 (Lib.index s.data.toList sep.data.toList)) ∧ w' = w := Any.bytealg_IndexRabinKarp Tryd.lays267 s sep h1 h2 hs w
def Tryd.lays219_ren : Go.Shelf.Ren := ⟨fun | 219 => 107 | 217 => 113 | 225 => 93 | 224 => 92 | 267 => 119 | 266 => 122 | 314 => 124 | n => n, fun | 9 => 9 | 3 => 3 | 4 => 4 | 5 => 5 | 46 => 100 | 146 => 125 | 51 => 31 | n => n, fun | 1 => 0 | n => n⟩
theorem Tryd.lays219 : Go.Proofs.Lays.n219 Tryd.prog Tryd.lays219_ren := {
  mixed := by kernel_rfl
  f217 := Tryd.func113.trans (congrArg some (by kernel_rfl))
  f219 := Tryd.func107.trans (congrArg some (by kernel_rfl))
  f224 := Tryd.func92.trans (congrArg some (by kernel_rfl))
  f225 := Tryd.func93.trans (congrArg some (by kernel_rfl))
  f266 := Tryd.func122.trans (congrArg some (by kernel_rfl))
  f267 := Tryd.func119.trans (congrArg some (by kernel_rfl))
  f314 := Tryd.func124.trans (congrArg some (by kernel_rfl))
  t3 := Tryd.underlying3
  a3 := Tryd.isAgg3
  z3 := Tryd.sizeOf3
  v3 := Tryd.zeroValue3
  t4 := Tryd.underlying4
  a4 := Tryd.isAgg4
  z4 := Tryd.sizeOf4
  v4 := Tryd.zeroValue4
  t5 := Tryd.underlying5
  a5 := Tryd.isAgg5
  z5 := Tryd.sizeOf5
  v5 := Tryd.zeroValue5
  t9 := Tryd.underlying9
  a9 := Tryd.isAgg9
  z9 := Tryd.sizeOf9
  v9 := Tryd.zeroValue9
  t46 := Tryd.underlying100
  a46 := Tryd.isAgg100
  z46 := Tryd.sizeOf100
  v46 := Tryd.zeroValue100
  t51 := Tryd.underlying31
  a51 := Tryd.isAgg31
  z51 := Tryd.sizeOf31
  v51 := Tryd.zeroValue31
  t146 := Tryd.underlying125
  a146 := Tryd.isAgg125
  z146 := Tryd.sizeOf125
  v146 := Tryd.zeroValue125
  g1 := by kernel_rfl }
open Go.RowKit Go.Lib in
/-- internal/stringslite.Index (what strings.Index calls) AT A substr OF ONE BYTE c: IT RETURNS 'Lib.indexByte s c'; the world is as it was. (LAID: no walk: one application.) -/
theorem Tryd.stringslite_Index_one (s : ByteArray) (c : UInt8) (w : World) :
    Calls Tryd.prog 107 #[.string s, .string ⟨#[c]⟩] w fun e w' => e = .returned (.int .i64 (Lib.indexByte s.data.toList c)) ∧ w' = w := Any.stringslite_Index_one Tryd.lays219 s c w
open Go.RowKit Go.Lib in
/-- internal/stringslite.Index (what strings.Index calls) AT A substr OF WHATEVER LENGTH: IT RETURNS 'Lib.index s substr'; the world is as it was. 'm': what internal/bytealg.MaxLen holds: whatever. (LAID: no walk: one application.) -/
theorem Tryd.stringslite_Index (s sub : ByteArray) (m : Int) (w : World) (hs : s.size < 4294967281) (hm : w.cell? ⟨0, 0, none⟩ = some (.int .i64 m)) :
    Calls Tryd.prog 107 #[.string s, .string sub] w fun e w' => e = .returned (.int .i64 (Lib.index s.data.toList sub.data.toList)) ∧ w' = w := Any.stringslite_Index Tryd.lays219 s sub m w hs hm
def Tryd.lays220_ren : Go.Shelf.Ren := ⟨fun | 220 => 85 | 219 => 107 | 217 => 113 | 225 => 93 | 224 => 92 | 267 => 119 | 266 => 122 | 314 => 124 | n => n, fun | 9 => 9 | 4 => 4 | 3 => 3 | 5 => 5 | 46 => 100 | 146 => 125 | 51 => 31 | n => n, fun | 1 => 0 | n => n⟩
theorem Tryd.lays220 : Go.Proofs.Lays.n220 Tryd.prog Tryd.lays220_ren := {
  mixed := by kernel_rfl
  f217 := Tryd.func113.trans (congrArg some (by kernel_rfl))
  f219 := Tryd.func107.trans (congrArg some (by kernel_rfl))
  f220 := Tryd.func85.trans (congrArg some (by kernel_rfl))
  f224 := Tryd.func92.trans (congrArg some (by kernel_rfl))
  f225 := Tryd.func93.trans (congrArg some (by kernel_rfl))
  f266 := Tryd.func122.trans (congrArg some (by kernel_rfl))
  f267 := Tryd.func119.trans (congrArg some (by kernel_rfl))
  f314 := Tryd.func124.trans (congrArg some (by kernel_rfl))
  t3 := Tryd.underlying3
  a3 := Tryd.isAgg3
  z3 := Tryd.sizeOf3
  v3 := Tryd.zeroValue3
  t4 := Tryd.underlying4
  a4 := Tryd.isAgg4
  z4 := Tryd.sizeOf4
  v4 := Tryd.zeroValue4
  t5 := Tryd.underlying5
  a5 := Tryd.isAgg5
  z5 := Tryd.sizeOf5
  v5 := Tryd.zeroValue5
  t9 := Tryd.underlying9
  a9 := Tryd.isAgg9
  z9 := Tryd.sizeOf9
  v9 := Tryd.zeroValue9
  t46 := Tryd.underlying100
  a46 := Tryd.isAgg100
  z46 := Tryd.sizeOf100
  v46 := Tryd.zeroValue100
  t51 := Tryd.underlying31
  a51 := Tryd.isAgg31
  z51 := Tryd.sizeOf31
  v51 := Tryd.zeroValue31
  t146 := Tryd.underlying125
  a146 := Tryd.isAgg125
  z146 := Tryd.sizeOf125
  v146 := Tryd.zeroValue125
  g1 := by kernel_rfl }
open Go.RowKit Go.Lib in
/-- internal/stringslite.Cut (what strings.Cut calls): IT RETURNS 'Lib.cut s sep'; the world is as it was but for the count of draws. (LAID: no walk: one application.) -/
theorem Tryd.stringslite_Cut (s sep : ByteArray) (m : Int) (w : World) (hs : s.size < 4294967281) (hm : w.cell? ⟨0, 0, none⟩ = some (.int .i64 m)) :
    Calls Tryd.prog 85 #[.string s, .string sep] w fun e w' => e = .returned (.tuple #[.string ⟨(Lib.cut s.data.toList sep.data.toList).1.toArray⟩, .string ⟨(Lib.cut s.data.toList sep.data.toList).2.1.toArray⟩, .bool (Lib.cut s.data.toList sep.data.toList).2.2]) ∧ ∃ n, w' = w.drewN n := Any.stringslite_Cut Tryd.lays220 s sep m w hs hm
def Tryd.lays145_ren : Go.Shelf.Ren := ⟨fun | 145 => 59 | 220 => 85 | 219 => 107 | 217 => 113 | 225 => 93 | 224 => 92 | 267 => 119 | 266 => 122 | 314 => 124 | n => n, fun | 9 => 9 | 4 => 4 | 59 => 81 | 3 => 3 | 5 => 5 | 46 => 100 | 146 => 125 | 51 => 31 | n => n, fun | 1 => 0 | n => n⟩
theorem Tryd.lays145 : Go.Proofs.Lays.n145 Tryd.prog Tryd.lays145_ren := {
  mixed := by kernel_rfl
  f145 := Tryd.func59.trans (congrArg some (by kernel_rfl))
  f217 := Tryd.func113.trans (congrArg some (by kernel_rfl))
  f219 := Tryd.func107.trans (congrArg some (by kernel_rfl))
  f220 := Tryd.func85.trans (congrArg some (by kernel_rfl))
  f224 := Tryd.func92.trans (congrArg some (by kernel_rfl))
  f225 := Tryd.func93.trans (congrArg some (by kernel_rfl))
  f266 := Tryd.func122.trans (congrArg some (by kernel_rfl))
  f267 := Tryd.func119.trans (congrArg some (by kernel_rfl))
  f314 := Tryd.func124.trans (congrArg some (by kernel_rfl))
  t3 := Tryd.underlying3
  a3 := Tryd.isAgg3
  z3 := Tryd.sizeOf3
  v3 := Tryd.zeroValue3
  t4 := Tryd.underlying4
  a4 := Tryd.isAgg4
  z4 := Tryd.sizeOf4
  v4 := Tryd.zeroValue4
  t5 := Tryd.underlying5
  a5 := Tryd.isAgg5
  z5 := Tryd.sizeOf5
  v5 := Tryd.zeroValue5
  t9 := Tryd.underlying9
  a9 := Tryd.isAgg9
  z9 := Tryd.sizeOf9
  v9 := Tryd.zeroValue9
  t46 := Tryd.underlying100
  a46 := Tryd.isAgg100
  z46 := Tryd.sizeOf100
  v46 := Tryd.zeroValue100
  t51 := Tryd.underlying31
  a51 := Tryd.isAgg31
  z51 := Tryd.sizeOf31
  v51 := Tryd.zeroValue31
  t59 := Tryd.underlying81
  a59 := Tryd.isAgg81
  z59 := Tryd.sizeOf81
  v59 := Tryd.zeroValue81
  t146 := Tryd.underlying125
  a146 := Tryd.isAgg125
  z146 := Tryd.sizeOf125
  v146 := Tryd.zeroValue125
  g1 := by kernel_rfl }
open Go.RowKit Go.Lib in
/-- strings.Cut: "Cut slices s around the first instance of sep, returning the text before and after sep. The found result reports whether sep appears in s. If sep does not appear in s, cut returns s, "", false.": IT RETURNS 'Lib.cut s sep'; the world is as it was but for the count of draws. (LAID: no walk: one application.) -/
theorem Tryd.strings_Cut (s sep : ByteArray) (m : Int) (w : World) (hs : s.size < 4294967281) (hm : w.cell? ⟨0, 0, none⟩ = some (.int .i64 m)) :
    Calls Tryd.prog 59 #[.string s, .string sep] w fun e w' => e = .returned (.tuple #[.string ⟨(Lib.cut s.data.toList sep.data.toList).1.toArray⟩, .string ⟨(Lib.cut s.data.toList sep.data.toList).2.1.toArray⟩, .bool (Lib.cut s.data.toList sep.data.toList).2.2]) ∧ ∃ n, w' = w.drewN n := Any.strings_Cut Tryd.lays145 s sep m w hs hm
def Tryd.laysM219_ren : Go.Shelf.Ren := ⟨fun | 219 => 107 | 217 => 113 | 225 => 93 | 224 => 92 | 267 => 119 | 266 => 122 | 314 => 124 | n => n, fun | 9 => 9 | 3 => 3 | 4 => 4 | 5 => 5 | 46 => 100 | 146 => 125 | 51 => 31 | n => n, fun | 1 => 0 | n => n⟩
theorem Tryd.laysM219 : Go.Proofs.LaysM.n219 Tryd.prog Tryd.laysM219_ren := {
  mixed := by kernel_rfl
  f217 := Tryd.func113.trans (congrArg some (by kernel_rfl))
  f219 := Tryd.func107.trans (congrArg some (by kernel_rfl))
  f224 := Tryd.func92.trans (congrArg some (by kernel_rfl))
  f225 := Tryd.func93.trans (congrArg some (by kernel_rfl))
  f266 := Tryd.func122.trans (congrArg some (by kernel_rfl))
  f267 := Tryd.func119.trans (congrArg some (by kernel_rfl))
  f314 := Tryd.func124.trans (congrArg some (by kernel_rfl))
  t3 := Tryd.underlying3
  a3 := Tryd.isAgg3
  z3 := Tryd.sizeOf3
  v3 := Tryd.zeroValue3
  t4 := Tryd.underlying4
  a4 := Tryd.isAgg4
  z4 := Tryd.sizeOf4
  v4 := Tryd.zeroValue4
  t5 := Tryd.underlying5
  a5 := Tryd.isAgg5
  z5 := Tryd.sizeOf5
  v5 := Tryd.zeroValue5
  t9 := Tryd.underlying9
  a9 := Tryd.isAgg9
  z9 := Tryd.sizeOf9
  v9 := Tryd.zeroValue9
  t46 := Tryd.underlying100
  a46 := Tryd.isAgg100
  z46 := Tryd.sizeOf100
  v46 := Tryd.zeroValue100
  t51 := Tryd.underlying31
  a51 := Tryd.isAgg31
  z51 := Tryd.sizeOf31
  v51 := Tryd.zeroValue31
  t146 := Tryd.underlying125
  a146 := Tryd.isAgg125
  z146 := Tryd.sizeOf125
  v146 := Tryd.zeroValue125
  g1 := by kernel_rfl
  i3 := by kernel_rfl
  i4 := by kernel_rfl
  i5 := by kernel_rfl
  i9 := by kernel_rfl
  i46 := by kernel_rfl
  i51 := by kernel_rfl
  i146 := by kernel_rfl
  m1 := by kernel_rfl
  s1_3 := fun w h => Go.Proofs.cell_of_shapedOpen_int (zero := #[.int .i64 0]) (t := 3) h (of_decide_eq_true (by kernel_rfl)) (by kernel_rfl) rfl (by kernel_rfl) (by kernel_rfl) Tryd.underlying3 }
open Go.RowKit Go.Lib in
theorem Tryd.stringslite_Index_shaped (s sub : ByteArray) (w : World) (h : w.ShapedOpen Tryd.prog) (hs : s.size < 4294967281) :
    Calls Tryd.prog 107 #[.string s, .string sub] w fun e w' => e = .returned (.int .i64 (Lib.index s.data.toList sub.data.toList)) ∧ w' = w := Any.stringslite_Index_shaped Tryd.laysM219 s sub w h hs
def Tryd.laysM220_ren : Go.Shelf.Ren := ⟨fun | 220 => 85 | 219 => 107 | 217 => 113 | 225 => 93 | 224 => 92 | 267 => 119 | 266 => 122 | 314 => 124 | n => n, fun | 9 => 9 | 4 => 4 | 3 => 3 | 5 => 5 | 46 => 100 | 146 => 125 | 51 => 31 | n => n, fun | 1 => 0 | n => n⟩
theorem Tryd.laysM220 : Go.Proofs.LaysM.n220 Tryd.prog Tryd.laysM220_ren := {
  mixed := by kernel_rfl
  f217 := Tryd.func113.trans (congrArg some (by kernel_rfl))
  f219 := Tryd.func107.trans (congrArg some (by kernel_rfl))
  f220 := Tryd.func85.trans (congrArg some (by kernel_rfl))
  f224 := Tryd.func92.trans (congrArg some (by kernel_rfl))
  f225 := Tryd.func93.trans (congrArg some (by kernel_rfl))
  f266 := Tryd.func122.trans (congrArg some (by kernel_rfl))
  f267 := Tryd.func119.trans (congrArg some (by kernel_rfl))
  f314 := Tryd.func124.trans (congrArg some (by kernel_rfl))
  t3 := Tryd.underlying3
  a3 := Tryd.isAgg3
  z3 := Tryd.sizeOf3
  v3 := Tryd.zeroValue3
  t4 := Tryd.underlying4
  a4 := Tryd.isAgg4
  z4 := Tryd.sizeOf4
  v4 := Tryd.zeroValue4
  t5 := Tryd.underlying5
  a5 := Tryd.isAgg5
  z5 := Tryd.sizeOf5
  v5 := Tryd.zeroValue5
  t9 := Tryd.underlying9
  a9 := Tryd.isAgg9
  z9 := Tryd.sizeOf9
  v9 := Tryd.zeroValue9
  t46 := Tryd.underlying100
  a46 := Tryd.isAgg100
  z46 := Tryd.sizeOf100
  v46 := Tryd.zeroValue100
  t51 := Tryd.underlying31
  a51 := Tryd.isAgg31
  z51 := Tryd.sizeOf31
  v51 := Tryd.zeroValue31
  t146 := Tryd.underlying125
  a146 := Tryd.isAgg125
  z146 := Tryd.sizeOf125
  v146 := Tryd.zeroValue125
  g1 := by kernel_rfl
  i3 := by kernel_rfl
  i4 := by kernel_rfl
  i5 := by kernel_rfl
  i9 := by kernel_rfl
  i46 := by kernel_rfl
  i51 := by kernel_rfl
  i146 := by kernel_rfl
  m1 := by kernel_rfl
  s1_3 := fun w h => Go.Proofs.cell_of_shapedOpen_int (zero := #[.int .i64 0]) (t := 3) h (of_decide_eq_true (by kernel_rfl)) (by kernel_rfl) rfl (by kernel_rfl) (by kernel_rfl) Tryd.underlying3 }
open Go.RowKit Go.Lib in
theorem Tryd.stringslite_Cut_shaped (s sep : ByteArray) (w : World) (h : w.ShapedOpen Tryd.prog) (hs : s.size < 4294967281) :
    Calls Tryd.prog 85 #[.string s, .string sep] w fun e w' => e = .returned (.tuple #[.string ⟨(Lib.cut s.data.toList sep.data.toList).1.toArray⟩, .string ⟨(Lib.cut s.data.toList sep.data.toList).2.1.toArray⟩, .bool (Lib.cut s.data.toList sep.data.toList).2.2]) ∧ ∃ n, w' = w.drewN n := Any.stringslite_Cut_shaped Tryd.laysM220 s sep w h hs
def Tryd.laysM145_ren : Go.Shelf.Ren := ⟨fun | 145 => 59 | 220 => 85 | 219 => 107 | 217 => 113 | 225 => 93 | 224 => 92 | 267 => 119 | 266 => 122 | 314 => 124 | n => n, fun | 9 => 9 | 4 => 4 | 59 => 81 | 3 => 3 | 5 => 5 | 46 => 100 | 146 => 125 | 51 => 31 | n => n, fun | 1 => 0 | n => n⟩
theorem Tryd.laysM145 : Go.Proofs.LaysM.n145 Tryd.prog Tryd.laysM145_ren := {
  mixed := by kernel_rfl
  f145 := Tryd.func59.trans (congrArg some (by kernel_rfl))
  f217 := Tryd.func113.trans (congrArg some (by kernel_rfl))
  f219 := Tryd.func107.trans (congrArg some (by kernel_rfl))
  f220 := Tryd.func85.trans (congrArg some (by kernel_rfl))
  f224 := Tryd.func92.trans (congrArg some (by kernel_rfl))
  f225 := Tryd.func93.trans (congrArg some (by kernel_rfl))
  f266 := Tryd.func122.trans (congrArg some (by kernel_rfl))
  f267 := Tryd.func119.trans (congrArg some (by kernel_rfl))
  f314 := Tryd.func124.trans (congrArg some (by kernel_rfl))
  t3 := Tryd.underlying3
  a3 := Tryd.isAgg3
  z3 := Tryd.sizeOf3
  v3 := Tryd.zeroValue3
  t4 := Tryd.underlying4
  a4 := Tryd.isAgg4
  z4 := Tryd.sizeOf4
  v4 := Tryd.zeroValue4
  t5 := Tryd.underlying5
  a5 := Tryd.isAgg5
  z5 := Tryd.sizeOf5
  v5 := Tryd.zeroValue5
  t9 := Tryd.underlying9
  a9 := Tryd.isAgg9
  z9 := Tryd.sizeOf9
  v9 := Tryd.zeroValue9
  t46 := Tryd.underlying100
  a46 := Tryd.isAgg100
  z46 := Tryd.sizeOf100
  v46 := Tryd.zeroValue100
  t51 := Tryd.underlying31
  a51 := Tryd.isAgg31
  z51 := Tryd.sizeOf31
  v51 := Tryd.zeroValue31
  t59 := Tryd.underlying81
  a59 := Tryd.isAgg81
  z59 := Tryd.sizeOf81
  v59 := Tryd.zeroValue81
  t146 := Tryd.underlying125
  a146 := Tryd.isAgg125
  z146 := Tryd.sizeOf125
  v146 := Tryd.zeroValue125
  g1 := by kernel_rfl
  i3 := by kernel_rfl
  i4 := by kernel_rfl
  i5 := by kernel_rfl
  i9 := by kernel_rfl
  i46 := by kernel_rfl
  i51 := by kernel_rfl
  i59 := by kernel_rfl
  i146 := by kernel_rfl
  m1 := by kernel_rfl
  s1_3 := fun w h => Go.Proofs.cell_of_shapedOpen_int (zero := #[.int .i64 0]) (t := 3) h (of_decide_eq_true (by kernel_rfl)) (by kernel_rfl) rfl (by kernel_rfl) (by kernel_rfl) Tryd.underlying3 }
open Go.RowKit Go.Lib in
theorem Tryd.strings_Cut_shaped (s sep : ByteArray) (w : World) (h : w.ShapedOpen Tryd.prog) (hs : s.size < 4294967281) :
    Calls Tryd.prog 59 #[.string s, .string sep] w fun e w' => e = .returned (.tuple #[.string ⟨(Lib.cut s.data.toList sep.data.toList).1.toArray⟩, .string ⟨(Lib.cut s.data.toList sep.data.toList).2.1.toArray⟩, .bool (Lib.cut s.data.toList sep.data.toList).2.2]) ∧ ∃ n, w' = w.drewN n := Any.strings_Cut_shaped Tryd.laysM145 s sep w h hs
def Tryd.lays206_ren : Go.Shelf.Ren := ⟨fun | 206 => 84 | n => n, fun | 9 => 9 | 4 => 4 | 3 => 3 | n => n, fun | n => n⟩
theorem Tryd.lays206 : Go.Proofs.Lays.n206 Tryd.prog Tryd.lays206_ren := {
  mixed := by kernel_rfl
  f206 := Tryd.func84.trans (congrArg some (by kernel_rfl))
  t3 := Tryd.underlying3
  a3 := Tryd.isAgg3
  z3 := Tryd.sizeOf3
  v3 := Tryd.zeroValue3
  t4 := Tryd.underlying4
  a4 := Tryd.isAgg4
  z4 := Tryd.sizeOf4
  v4 := Tryd.zeroValue4
  t9 := Tryd.underlying9
  a9 := Tryd.isAgg9
  z9 := Tryd.sizeOf9
  v9 := Tryd.zeroValue9 }
open Go.RowKit Go.Lib in
/-- internal/stringslite.HasPrefix (what strings.HasPrefix calls). (LAID: no walk: one application.) -/
theorem Tryd.stringslite_HasPrefix (s p : ByteArray) (w : World) :
    Calls Tryd.prog 84 #[.string s, .string p] w fun e w' => e = .returned (.bool (Lib.hasPrefix s.data.toList p.data.toList)) ∧ w' = w := Any.stringslite_HasPrefix Tryd.lays206 s p w
def Tryd.lays99_ren : Go.Shelf.Ren := ⟨fun | 99 => 58 | 206 => 84 | n => n, fun | 9 => 9 | 4 => 4 | 3 => 3 | n => n, fun | n => n⟩
theorem Tryd.lays99 : Go.Proofs.Lays.n99 Tryd.prog Tryd.lays99_ren := {
  mixed := by kernel_rfl
  f99 := Tryd.func58.trans (congrArg some (by kernel_rfl))
  f206 := Tryd.func84.trans (congrArg some (by kernel_rfl))
  t3 := Tryd.underlying3
  a3 := Tryd.isAgg3
  z3 := Tryd.sizeOf3
  v3 := Tryd.zeroValue3
  t4 := Tryd.underlying4
  a4 := Tryd.isAgg4
  z4 := Tryd.sizeOf4
  v4 := Tryd.zeroValue4
  t9 := Tryd.underlying9
  a9 := Tryd.isAgg9
  z9 := Tryd.sizeOf9
  v9 := Tryd.zeroValue9 }
open Go.RowKit Go.Lib in
/-- strings.HasPrefix: "HasPrefix reports whether the string s begins with prefix.": IT RETURNS 'Lib.hasPrefix s prefix'; the world is as it was. (LAID: no walk: one application.) -/
theorem Tryd.strings_HasPrefix (s p : ByteArray) (w : World) :
    Calls Tryd.prog 58 #[.string s, .string p] w fun e w' => e = .returned (.bool (Lib.hasPrefix s.data.toList p.data.toList)) ∧ w' = w := Any.strings_HasPrefix Tryd.lays99 s p w
def Tryd.lays152_ren : Go.Shelf.Ren := ⟨fun | 152 => 66 | 137 => 90 | 119 => 91 | 224 => 92 | 225 => 93 | 217 => 113 | 266 => 122 | n => n, fun | 9 => 9 | 21 => 21 | 3 => 3 | 4 => 4 | 5 => 5 | 0 => 0 | 46 => 100 | n => n, fun | n => n⟩
theorem Tryd.lays152 : Go.Proofs.Lays.n152 Tryd.prog Tryd.lays152_ren := {
  mixed := by kernel_rfl
  f119 := Tryd.func91.trans (congrArg some (by kernel_rfl))
  f137 := Tryd.func90.trans (congrArg some (by kernel_rfl))
  f152 := Tryd.func66.trans (congrArg some (by kernel_rfl))
  f217 := Tryd.func113.trans (congrArg some (by kernel_rfl))
  f224 := Tryd.func92.trans (congrArg some (by kernel_rfl))
  f225 := Tryd.func93.trans (congrArg some (by kernel_rfl))
  f266 := Tryd.func122.trans (congrArg some (by kernel_rfl))
  t0 := Tryd.underlying0
  a0 := Tryd.isAgg0
  z0 := Tryd.sizeOf0
  v0 := Tryd.zeroValue0
  t3 := Tryd.underlying3
  a3 := Tryd.isAgg3
  z3 := Tryd.sizeOf3
  v3 := Tryd.zeroValue3
  t4 := Tryd.underlying4
  a4 := Tryd.isAgg4
  z4 := Tryd.sizeOf4
  v4 := Tryd.zeroValue4
  t5 := Tryd.underlying5
  a5 := Tryd.isAgg5
  z5 := Tryd.sizeOf5
  v5 := Tryd.zeroValue5
  t9 := Tryd.underlying9
  a9 := Tryd.isAgg9
  z9 := Tryd.sizeOf9
  v9 := Tryd.zeroValue9
  t21 := Tryd.underlying21
  a21 := Tryd.isAgg21
  z21 := Tryd.sizeOf21
  v21 := Tryd.zeroValue21
  t46 := Tryd.underlying100
  a46 := Tryd.isAgg100
  z46 := Tryd.sizeOf100
  v46 := Tryd.zeroValue100 }
open Go.RowKit Go.Lib in
theorem Tryd.strings_IndexRune_ascii (s : ByteArray) (r : Int) (w : World) (h0 : 0 ≤ r) (h1 : r < 128) :
    Calls Tryd.prog 66 #[.string s, .int .i32 r] w fun e w' => e = .returned (.int .i64 (Lib.indexByte s.data.toList r.toNat.toUInt8)) ∧ w' = w := Any.strings_IndexRune_ascii Tryd.lays152 s r w h0 h1
def Tryd.lays151_ren : Go.Shelf.Ren := ⟨fun | 151 => 112 | 152 => 66 | 137 => 90 | 119 => 91 | 224 => 92 | 225 => 93 | 217 => 113 | 266 => 122 | n => n, fun | 9 => 9 | 21 => 21 | 4 => 4 | 3 => 3 | 5 => 5 | 0 => 0 | 46 => 100 | n => n, fun | n => n⟩
theorem Tryd.lays151 : Go.Proofs.Lays.n151 Tryd.prog Tryd.lays151_ren := {
  mixed := by kernel_rfl
  f119 := Tryd.func91.trans (congrArg some (by kernel_rfl))
  f137 := Tryd.func90.trans (congrArg some (by kernel_rfl))
  f151 := Tryd.func112.trans (congrArg some (by kernel_rfl))
  f152 := Tryd.func66.trans (congrArg some (by kernel_rfl))
  f217 := Tryd.func113.trans (congrArg some (by kernel_rfl))
  f224 := Tryd.func92.trans (congrArg some (by kernel_rfl))
  f225 := Tryd.func93.trans (congrArg some (by kernel_rfl))
  f266 := Tryd.func122.trans (congrArg some (by kernel_rfl))
  t0 := Tryd.underlying0
  a0 := Tryd.isAgg0
  z0 := Tryd.sizeOf0
  v0 := Tryd.zeroValue0
  t3 := Tryd.underlying3
  a3 := Tryd.isAgg3
  z3 := Tryd.sizeOf3
  v3 := Tryd.zeroValue3
  t4 := Tryd.underlying4
  a4 := Tryd.isAgg4
  z4 := Tryd.sizeOf4
  v4 := Tryd.zeroValue4
  t5 := Tryd.underlying5
  a5 := Tryd.isAgg5
  z5 := Tryd.sizeOf5
  v5 := Tryd.zeroValue5
  t9 := Tryd.underlying9
  a9 := Tryd.isAgg9
  z9 := Tryd.sizeOf9
  v9 := Tryd.zeroValue9
  t21 := Tryd.underlying21
  a21 := Tryd.isAgg21
  z21 := Tryd.sizeOf21
  v21 := Tryd.zeroValue21
  t46 := Tryd.underlying100
  a46 := Tryd.isAgg100
  z46 := Tryd.sizeOf100
  v46 := Tryd.zeroValue100 }
open Go.RowKit Go.Lib in
theorem Tryd.strings_ContainsRune_ascii (s : ByteArray) (r : Int) (w : World) (h0 : 0 ≤ r) (h1 : r < 128) :
    Calls Tryd.prog 112 #[.string s, .int .i32 r] w fun e w' => e = .returned (.bool (decide (0 ≤ Lib.indexByte s.data.toList r.toNat.toUInt8))) ∧ w' = w := Any.strings_ContainsRune_ascii Tryd.lays151 s r w h0 h1
def Tryd.lays226_ren : Go.Shelf.Ren := ⟨fun | 226 => 67 | n => n, fun | 3 => 3 | 4 => 4 | n => n, fun | n => n⟩
theorem Tryd.lays226 : Go.Proofs.Lays.n226 Tryd.prog Tryd.lays226_ren := {
  mixed := by kernel_rfl
  f226 := Tryd.func67.trans (congrArg some (by kernel_rfl))
  t3 := Tryd.underlying3
  a3 := Tryd.isAgg3
  z3 := Tryd.sizeOf3
  v3 := Tryd.zeroValue3
  t4 := Tryd.underlying4
  a4 := Tryd.isAgg4
  z4 := Tryd.sizeOf4
  v4 := Tryd.zeroValue4 }
open Go.RowKit Go.Lib in
theorem Tryd.strings_shouldUseASCIISet (n : Int) (w : World) :
    Calls Tryd.prog 67 #[.int .i64 n] w fun e w' => e = .returned (.bool (decide (8 < n))) ∧ w' = w := Any.strings_shouldUseASCIISet Tryd.lays226 n w
def Tryd.lays153_ren : Go.Shelf.Ren := ⟨fun | 153 => 40 | 152 => 66 | 226 => 67 | 227 => 68 | 228 => 69 | 137 => 90 | 119 => 91 | 224 => 92 | 225 => 93 | 217 => 113 | 266 => 122 | n => n, fun | 9 => 9 | 3 => 3 | 4 => 4 | 5 => 5 | 21 => 21 | 117 => 90 | 116 => 89 | 0 => 0 | 46 => 100 | 124 => 109 | n => n, fun | n => n⟩
theorem Tryd.lays153 : Go.Proofs.Lays.n153 Tryd.prog Tryd.lays153_ren := {
  mixed := by kernel_rfl
  f119 := Tryd.func91.trans (congrArg some (by kernel_rfl))
  f137 := Tryd.func90.trans (congrArg some (by kernel_rfl))
  f152 := Tryd.func66.trans (congrArg some (by kernel_rfl))
  f153 := Tryd.func40.trans (congrArg some (by kernel_rfl))
  f217 := Tryd.func113.trans (congrArg some (by kernel_rfl))
  f224 := Tryd.func92.trans (congrArg some (by kernel_rfl))
  f225 := Tryd.func93.trans (congrArg some (by kernel_rfl))
  f226 := Tryd.func67.trans (congrArg some (by kernel_rfl))
  f227 := Tryd.func68.trans (congrArg some (by kernel_rfl))
  f228 := Tryd.func69.trans (congrArg some (by kernel_rfl))
  f266 := Tryd.func122.trans (congrArg some (by kernel_rfl))
  t0 := Tryd.underlying0
  a0 := Tryd.isAgg0
  z0 := Tryd.sizeOf0
  v0 := Tryd.zeroValue0
  t3 := Tryd.underlying3
  a3 := Tryd.isAgg3
  z3 := Tryd.sizeOf3
  v3 := Tryd.zeroValue3
  t4 := Tryd.underlying4
  a4 := Tryd.isAgg4
  z4 := Tryd.sizeOf4
  v4 := Tryd.zeroValue4
  t5 := Tryd.underlying5
  a5 := Tryd.isAgg5
  z5 := Tryd.sizeOf5
  v5 := Tryd.zeroValue5
  t9 := Tryd.underlying9
  a9 := Tryd.isAgg9
  z9 := Tryd.sizeOf9
  v9 := Tryd.zeroValue9
  t21 := Tryd.underlying21
  a21 := Tryd.isAgg21
  z21 := Tryd.sizeOf21
  v21 := Tryd.zeroValue21
  t46 := Tryd.underlying100
  a46 := Tryd.isAgg100
  z46 := Tryd.sizeOf100
  v46 := Tryd.zeroValue100
  t116 := Tryd.underlying89
  a116 := Tryd.isAgg89
  z116 := Tryd.sizeOf89
  t117 := Tryd.underlying90
  a117 := Tryd.isAgg90
  z117 := Tryd.sizeOf90
  v117 := Tryd.zeroValue90
  t124 := Tryd.underlying109
  a124 := Tryd.isAgg109
  z124 := Tryd.sizeOf109
  v124 := Tryd.zeroValue109 }
open Go.RowKit Go.Lib in
/-- chars is empty. (LAID: no walk: one application.) -/
theorem Tryd.strings_IndexAny_none (s chars : ByteArray) (w : World) (h0 : chars.size = 0) :
    Calls Tryd.prog 40 #[.string s, .string chars] w fun e w' => e = .returned (.int .i64 (Lib.indexAny s.data.toList chars.data.toList)) ∧ w' = w := Any.strings_IndexAny_none Tryd.lays153 s chars w h0
open Go.RowKit Go.Lib in
/-- chars is one ASCII byte. (LAID: no walk: one application.) -/
theorem Tryd.strings_IndexAny_one (s chars : ByteArray) (w : World) (h1 : chars.size = 1) (hascii : ∀ (j : Nat) b, chars.data.toList[j]? = some b → b.toNat < 128) :
    Calls Tryd.prog 40 #[.string s, .string chars] w fun e w' => e = .returned (.int .i64 (Lib.indexAny s.data.toList chars.data.toList)) ∧ w' = w := Any.strings_IndexAny_one Tryd.lays153 s chars w h1 hascii
open Go.RowKit Go.Lib in
/-- s of at most 8 bytes; chars of two or more: 'for i, c := range s { if IndexRune(chars, c) >= 0 { return i } }'. One block more: the model's iterator over s. (LAID: no walk: one application.) -/
theorem Tryd.strings_IndexAny_short (s chars : ByteArray) (w : World) (h2 : 2 ≤ chars.size) (h8 : s.size ≤ 8) (hascii : ∀ (j : Nat) b, s.data.toList[j]? = some b → b.toNat < 128) :
    Calls Tryd.prog 40 #[.string s, .string chars] w fun e w' => e = .returned (.int .i64 (Lib.indexAny s.data.toList chars.data.toList)) ∧ ∃ pos, w' = w.iter s pos := Any.strings_IndexAny_short Tryd.lays153 s chars w h2 h8 hascii
def Tryd.lays227_ren : Go.Shelf.Ren := ⟨fun | 227 => 68 | n => n, fun | 9 => 9 | 116 => 89 | 4 => 4 | 0 => 0 | 3 => 3 | 5 => 5 | n => n, fun | n => n⟩
theorem Tryd.lays227 : Go.Proofs.Lays.n227 Tryd.prog Tryd.lays227_ren := {
  mixed := by kernel_rfl
  f227 := Tryd.func68.trans (congrArg some (by kernel_rfl))
  t0 := Tryd.underlying0
  a0 := Tryd.isAgg0
  z0 := Tryd.sizeOf0
  v0 := Tryd.zeroValue0
  t3 := Tryd.underlying3
  a3 := Tryd.isAgg3
  z3 := Tryd.sizeOf3
  v3 := Tryd.zeroValue3
  t4 := Tryd.underlying4
  a4 := Tryd.isAgg4
  z4 := Tryd.sizeOf4
  v4 := Tryd.zeroValue4
  t5 := Tryd.underlying5
  a5 := Tryd.isAgg5
  z5 := Tryd.sizeOf5
  v5 := Tryd.zeroValue5
  t9 := Tryd.underlying9
  a9 := Tryd.isAgg9
  z9 := Tryd.sizeOf9
  v9 := Tryd.zeroValue9
  t116 := Tryd.underlying89
  a116 := Tryd.isAgg89
  z116 := Tryd.sizeOf89 }
open Go.RowKit Go.Lib in
theorem Tryd.strings_makeASCIISet (hv116 : ∀ w, (zeroValue 89).run Tryd.prog w = .ok (.agg (Array.replicate 256 (.bool false))) w) (chars : ByteArray) (w : World) (hs : chars.size < 4294967281) (hascii : ∀ (j : Nat) b, chars.data.toList[j]? = some b → b.toNat < 128) :
    Calls Tryd.prog 68 #[.string chars] w fun e w' => e = .returned (.tuple #[.agg (Lib.setCells chars.data.toList), .bool true]) ∧ w' = w.alloc (.cells (Lib.setCells chars.data.toList) 89) := Any.strings_makeASCIISet Tryd.lays227 hv116 (by kernel_rfl) chars w hs hascii
def Tryd.lays228_ren : Go.Shelf.Ren := ⟨fun | 228 => 69 | n => n, fun | 124 => 109 | 5 => 5 | 4 => 4 | 0 => 0 | 116 => 89 | n => n, fun | n => n⟩
theorem Tryd.lays228 : Go.Proofs.Lays.n228 Tryd.prog Tryd.lays228_ren := {
  mixed := by kernel_rfl
  f228 := Tryd.func69.trans (congrArg some (by kernel_rfl))
  t0 := Tryd.underlying0
  a0 := Tryd.isAgg0
  z0 := Tryd.sizeOf0
  v0 := Tryd.zeroValue0
  t4 := Tryd.underlying4
  a4 := Tryd.isAgg4
  z4 := Tryd.sizeOf4
  v4 := Tryd.zeroValue4
  t5 := Tryd.underlying5
  a5 := Tryd.isAgg5
  z5 := Tryd.sizeOf5
  v5 := Tryd.zeroValue5
  t116 := Tryd.underlying89
  a116 := Tryd.isAgg89
  z116 := Tryd.sizeOf89
  t124 := Tryd.underlying109
  a124 := Tryd.isAgg109
  z124 := Tryd.sizeOf109
  v124 := Tryd.zeroValue109 }
open Go.RowKit Go.Lib in
/-- '(as *asciiSet) contains(c)': 'as[c]': the set lies at block b, whole. (LAID: no walk: one application.) -/
theorem Tryd.asciiSet_contains (b : Nat) (x : UInt8) (v : Bool) (w : World) (hc : w.cell? ⟨b, x.toNat, none⟩ = some (.bool v)) :
    Calls Tryd.prog 69 #[.pointer (some ⟨b, 0, none⟩), .int .u8 x.toNat] w fun e w' => e = .returned (.bool v) ∧ w' = w := Any.asciiSet_contains Tryd.lays228 b x v w hc
open Go.RowKit Go.Lib in
theorem Tryd.strings_IndexAny_long (hv116 : ∀ w, (zeroValue 89).run Tryd.prog w = .ok (.agg (Array.replicate 256 (.bool false))) w) (s chars : ByteArray) (w : World) (h2 : 2 ≤ chars.size) (h8 : 8 < s.size) (hs : s.size < 4294967281) (hcs : chars.size < 4294967281) (hascii : ∀ (j : Nat) b, chars.data.toList[j]? = some b → b.toNat < 128) :
    Calls Tryd.prog 40 #[.string s, .string chars] w fun e w' => e = .returned (.int .i64 (Lib.indexAny s.data.toList chars.data.toList)) ∧ w' = ((w.alloc (.cells (Lib.setCells chars.data.toList) 89)).alloc (.cells (Lib.setCells chars.data.toList) 89)) := Any.strings_IndexAny_long Tryd.lays153 hv116 (by kernel_rfl) s chars w h2 h8 hs hcs hascii
open Go.RowKit Go.Lib in
/-- strings.IndexAny ON ASCII BYTES: the four roads under one statement. (LAID: no walk: one application.) -/
theorem Tryd.strings_IndexAny (hv116 : ∀ w, (zeroValue 89).run Tryd.prog w = .ok (.agg (Array.replicate 256 (.bool false))) w) (s chars : ByteArray) (w : World) (hs : s.size < 4294967281) (hcs : chars.size < 4294967281) (has : ∀ (j : Nat) b, s.data.toList[j]? = some b → b.toNat < 128) (hac : ∀ (j : Nat) b, chars.data.toList[j]? = some b → b.toNat < 128) :
    Calls Tryd.prog 40 #[.string s, .string chars] w fun e w' => e = .returned (.int .i64 (Lib.indexAny s.data.toList chars.data.toList)) ∧ Below w.heap.size w w' := Any.strings_IndexAny Tryd.lays153 hv116 (by kernel_rfl) s chars w hs hcs has hac
open Go.RowKit Go.Lib in
theorem Tryd.strings_IndexAny_laid (s chars : ByteArray) (w : World) (hs : s.size < 4294967281) (hcs : chars.size < 4294967281) (has : ∀ (j : Nat) b, s.data.toList[j]? = some b → b.toNat < 128) (hac : ∀ (j : Nat) b, chars.data.toList[j]? = some b → b.toNat < 128) :
    Calls Tryd.prog 40 #[.string s, .string chars] w fun e w' => e = .returned (.int .i64 (Lib.indexAny s.data.toList chars.data.toList)) ∧ Below w.heap.size w w' := Any.strings_IndexAny_laid Tryd.lays153 (by kernel_rfl) s chars w hs hcs has hac
def Tryd.lays264_ren : Go.Shelf.Ren := ⟨fun | 264 => 115 | n => n, fun | 53 => 65 | 46 => 100 | n => n, fun | n => n⟩
theorem Tryd.lays264 : Go.Proofs.Lays.n264 Tryd.prog Tryd.lays264_ren := {
  mixed := by kernel_rfl
  f264 := Tryd.func115.trans (congrArg some (by kernel_rfl))
  t46 := Tryd.underlying100
  a46 := Tryd.isAgg100
  z46 := Tryd.sizeOf100
  v46 := Tryd.zeroValue100
  t53 := Tryd.underlying65
  a53 := Tryd.isAgg65
  z53 := Tryd.sizeOf65
  v53 := Tryd.zeroValue65 }
open Go.RowKit Go.Lib in
theorem Tryd.bits_Mul64 (x y : Nat) (hx : x < 18446744073709551616) (hy : y < 18446744073709551616) (w : World) :
    Calls Tryd.prog 115 #[.int .u64 x, .int .u64 y] w fun e w' => e = .returned (.tuple #[.int .u64 ((x * y / 18446744073709551616 : Nat) : Int), .int .u64 ((x * y % 18446744073709551616 : Nat) : Int)]) ∧ w' = w := Any.bits_Mul64 Tryd.lays264 x y hx hy w
def Tryd.lays212_ren : Go.Shelf.Ren := ⟨fun | 212 => 94 | 263 => 114 | 264 => 115 | n => n, fun | 46 => 100 | 51 => 31 | 146 => 125 | 53 => 65 | 148 => 127 | n => n, fun | n => n⟩
theorem Tryd.lays212 : Go.Proofs.Lays.n212 Tryd.prog Tryd.lays212_ren := {
  mixed := by kernel_rfl
  f212 := Tryd.func94.trans (congrArg some (by kernel_rfl))
  f263 := Tryd.func114.trans (congrArg some (by kernel_rfl))
  f264 := Tryd.func115.trans (congrArg some (by kernel_rfl))
  t46 := Tryd.underlying100
  a46 := Tryd.isAgg100
  z46 := Tryd.sizeOf100
  v46 := Tryd.zeroValue100
  t51 := Tryd.underlying31
  a51 := Tryd.isAgg31
  z51 := Tryd.sizeOf31
  v51 := Tryd.zeroValue31
  t53 := Tryd.underlying65
  a53 := Tryd.isAgg65
  z53 := Tryd.sizeOf65
  v53 := Tryd.zeroValue65
  t146 := Tryd.underlying125
  a146 := Tryd.isAgg125
  z146 := Tryd.sizeOf125
  v146 := Tryd.zeroValue125
  t148 := Tryd.underlying127
  a148 := Tryd.isAgg127
  z148 := Tryd.sizeOf127
  v148 := Tryd.zeroValue127 }
open Go.RowKit Go.Lib in
/-- math/bits.Mul: "Mul returns the full-width product of x and y": on a machine of 64 bits: Mul64's. (LAID: no walk: one application.) -/
theorem Tryd.bits_Mul (x y : Nat) (hx : x < 18446744073709551616) (hy : y < 18446744073709551616) (w : World) :
    Calls Tryd.prog 94 #[.int .u64 x, .int .u64 y] w fun e w' => e = .returned (.tuple #[.int .u64 ((x * y / 18446744073709551616 : Nat) : Int), .int .u64 ((x * y % 18446744073709551616 : Nat) : Int)]) ∧ w' = w := Any.bits_Mul Tryd.lays212 x y hx hy w
def Tryd.lays105_ren : Go.Shelf.Ren := ⟨fun | 105 => 70 | 212 => 94 | 99 => 58 | 165 => 95 | 166 => 96 | 170 => 97 | 169 => 74 | 263 => 114 | 264 => 115 | 206 => 84 | 240 => 98 | 241 => 116 | 276 => 117 | 277 => 123 | n => n, fun | 9 => 9 | 3 => 3 | 4 => 4 | 20 => 20 | 0 => 0 | 46 => 100 | 109 => 112 | 5 => 5 | 72 => 96 | 76 => 115 | 51 => 31 | 146 => 125 | 53 => 65 | 148 => 127 | 70 => 94 | 37 => 32 | 75 => 98 | 127 => 118 | 164 => 129 | 80 => 101 | n => n, fun | n => n⟩
theorem Tryd.lays105 : Go.Proofs.Lays.n105 Tryd.prog Tryd.lays105_ren := {
  mixed := by kernel_rfl
  f99 := Tryd.func58.trans (congrArg some (by kernel_rfl))
  f105 := Tryd.func70.trans (congrArg some (by kernel_rfl))
  f165 := Tryd.func95.trans (congrArg some (by kernel_rfl))
  f166 := Tryd.func96.trans (congrArg some (by kernel_rfl))
  f169 := Tryd.func74.trans (congrArg some (by kernel_rfl))
  f170 := Tryd.func97.trans (congrArg some (by kernel_rfl))
  f206 := Tryd.func84.trans (congrArg some (by kernel_rfl))
  f212 := Tryd.func94.trans (congrArg some (by kernel_rfl))
  f240 := Tryd.func98.trans (congrArg some (by kernel_rfl))
  f241 := Tryd.func116.trans (congrArg some (by kernel_rfl))
  f263 := Tryd.func114.trans (congrArg some (by kernel_rfl))
  f264 := Tryd.func115.trans (congrArg some (by kernel_rfl))
  f276 := Tryd.func117.trans (congrArg some (by kernel_rfl))
  f277 := Tryd.func123.trans (congrArg some (by kernel_rfl))
  t0 := Tryd.underlying0
  a0 := Tryd.isAgg0
  z0 := Tryd.sizeOf0
  v0 := Tryd.zeroValue0
  t3 := Tryd.underlying3
  a3 := Tryd.isAgg3
  z3 := Tryd.sizeOf3
  v3 := Tryd.zeroValue3
  t4 := Tryd.underlying4
  a4 := Tryd.isAgg4
  z4 := Tryd.sizeOf4
  v4 := Tryd.zeroValue4
  t5 := Tryd.underlying5
  a5 := Tryd.isAgg5
  z5 := Tryd.sizeOf5
  v5 := Tryd.zeroValue5
  t9 := Tryd.underlying9
  a9 := Tryd.isAgg9
  z9 := Tryd.sizeOf9
  v9 := Tryd.zeroValue9
  t20 := Tryd.underlying20
  a20 := Tryd.isAgg20
  z20 := Tryd.sizeOf20
  v20 := Tryd.zeroValue20
  t37 := Tryd.underlying32
  a37 := Tryd.isAgg32
  z37 := Tryd.sizeOf32
  v37 := Tryd.zeroValue32
  t46 := Tryd.underlying100
  a46 := Tryd.isAgg100
  z46 := Tryd.sizeOf100
  v46 := Tryd.zeroValue100
  t51 := Tryd.underlying31
  a51 := Tryd.isAgg31
  z51 := Tryd.sizeOf31
  v51 := Tryd.zeroValue31
  t53 := Tryd.underlying65
  a53 := Tryd.isAgg65
  z53 := Tryd.sizeOf65
  v53 := Tryd.zeroValue65
  t70 := Tryd.underlying94
  a70 := Tryd.isAgg94
  z70 := Tryd.sizeOf94
  v70 := Tryd.zeroValue94
  t72 := Tryd.underlying96
  a72 := Tryd.isAgg96
  z72 := Tryd.sizeOf96
  v72 := Tryd.zeroValue96
  t75 := Tryd.underlying98
  a75 := Tryd.isAgg98
  z75 := Tryd.sizeOf98
  v75 := Tryd.zeroValue98
  t76 := Tryd.underlying115
  a76 := Tryd.isAgg115
  z76 := Tryd.sizeOf115
  v76 := Tryd.zeroValue115
  t109 := Tryd.underlying112
  a109 := Tryd.isAgg112
  z109 := Tryd.sizeOf112
  v109 := Tryd.zeroValue112
  t127 := Tryd.underlying118
  a127 := Tryd.isAgg118
  z127 := Tryd.sizeOf118
  v127 := Tryd.zeroValue118
  t146 := Tryd.underlying125
  a146 := Tryd.isAgg125
  z146 := Tryd.sizeOf125
  v146 := Tryd.zeroValue125
  t148 := Tryd.underlying127
  a148 := Tryd.isAgg127
  z148 := Tryd.sizeOf127
  v148 := Tryd.zeroValue127
  t164 := Tryd.underlying129
  a164 := Tryd.isAgg129
  z164 := Tryd.sizeOf129
  v164 := Tryd.zeroValue129 }
theorem Tryd.Builder_Extra_105 : Builder.Extra Tryd.prog Tryd.lays105_ren := {
  sizeBuilder := by kernel_rfl
  liesBuilder := by kernel_rfl
  t5 := Tryd.underlying5
  a5 := Tryd.isAgg5
  z5 := Tryd.sizeOf5
  v5 := Tryd.zeroValue5
  infoByte := by kernel_rfl
  cellsByte := by kernel_rfl
  sizeByte := by kernel_rfl
  neB5 := by decide }
open Go.RowKit Go.Lib in
/-- THE MAIN CASE: at least two copies of a string that is not empty. (LAID: no walk: one application.) -/
theorem Tryd.strings_Repeat_main (s : ByteArray) (c : Nat) (w : World) (hc2 : 2 ≤ c) (hc : c ≤ 9223372036854775807) (hlen : s.size * c ≤ 140737488355328) (h0 : 0 < s.size) :
    Calls Tryd.prog 70 #[.string s, .int .i64 c] w fun e w' => e = .returned (.string ⟨(Lib.repeatL s.data.toList c).toArray⟩) ∧ Below w.heap.size w w' := Any.strings_Repeat_main Tryd.lays105 Tryd.Builder_Extra_105 s c w hc2 hc hlen h0
open Go.RowKit Go.Lib in
theorem Tryd.strings_Repeat_zero (s : ByteArray) (w : World) :
    Calls Tryd.prog 70 #[.string s, .int .i64 0] w fun e w' => e = .returned (.string ⟨#[]⟩) ∧ w' = w := Any.strings_Repeat_zero Tryd.lays105 s w
open Go.RowKit Go.Lib in
theorem Tryd.strings_Repeat_one (s : ByteArray) (w : World) :
    Calls Tryd.prog 70 #[.string s, .int .i64 1] w fun e w' => e = .returned (.string s) ∧ w' = w := Any.strings_Repeat_one Tryd.lays105 s w
open Go.RowKit Go.Lib in
/-- Copies of the empty string. (LAID: no walk: one application.) -/
theorem Tryd.strings_Repeat_empty (s : ByteArray) (c : Nat) (w : World) (hc2 : 2 ≤ c) (hc : c ≤ 9223372036854775807) (h0 : s.size = 0) :
    Calls Tryd.prog 70 #[.string s, .int .i64 c] w fun e w' => e = .returned (.string ⟨#[]⟩) ∧ w' = w := Any.strings_Repeat_empty Tryd.lays105 s c w hc2 hc h0
open Go.RowKit Go.Lib in
/-- count < 0: "It panics if count is negative". (LAID: no walk: one application.) -/
theorem Tryd.strings_Repeat_negative (s : ByteArray) (c : Int) (w : World) (hc : c < 0) :
    Calls Tryd.prog 70 #[.string s, .int .i64 c] w fun e w' => e = .panicked [{ v := repeatPanic Tryd.lays105_ren "strings: negative Repeat count", recovered := false }] ∧ w' = w := Any.strings_Repeat_negative Tryd.lays105 s c w hc
open Go.RowKit Go.Lib in
/-- len(s) * count is no int: ".. or if the result of (len(s) * count) overflows". (LAID: no walk: one application.) -/
theorem Tryd.strings_Repeat_overflow (s : ByteArray) (c : Nat) (w : World) (hc : c ≤ 9223372036854775807) (hs : s.size ≤ 9223372036854775807) (hbig : 9223372036854775807 < s.size * c) :
    Calls Tryd.prog 70 #[.string s, .int .i64 c] w fun e w' => e = .panicked [{ v := repeatPanic Tryd.lays105_ren "strings: Repeat output length overflow", recovered := false }] ∧ w' = w := Any.strings_Repeat_overflow Tryd.lays105 s c w hc hs hbig
open Go.RowKit Go.Lib in
/-- **strings.Repeat: count ≥ 0, the result within one allocation: count copies of s.** (LAID: no walk: one application.) -/
theorem Tryd.strings_Repeat (s : ByteArray) (c : Nat) (w : World) (hc : c ≤ 9223372036854775807) (hlen : s.size * c ≤ 140737488355328) :
    Calls Tryd.prog 70 #[.string s, .int .i64 c] w fun e w' => e = .returned (.string ⟨(Lib.repeatL s.data.toList c).toArray⟩) ∧ Below w.heap.size w w' := Any.strings_Repeat Tryd.lays105 Tryd.Builder_Extra_105 s c w hc hlen
def Tryd.lays260_ren : Go.Shelf.Ren := ⟨fun | 260 => 121 | n => n, fun | 9 => 9 | 21 => 21 | 3 => 3 | 4 => 4 | 5 => 5 | 119 => 133 | 0 => 0 | 46 => 100 | 139 => 136 | 138 => 135 | n => n, fun | 3 => 1 | 4 => 2 | n => n⟩
theorem Tryd.lays260 : Go.Proofs.Lays.n260 Tryd.prog Tryd.lays260_ren := {
  mixed := by kernel_rfl
  f260 := Tryd.func121.trans (congrArg some (by kernel_rfl))
  t0 := Tryd.underlying0
  a0 := Tryd.isAgg0
  z0 := Tryd.sizeOf0
  v0 := Tryd.zeroValue0
  t3 := Tryd.underlying3
  a3 := Tryd.isAgg3
  z3 := Tryd.sizeOf3
  v3 := Tryd.zeroValue3
  t4 := Tryd.underlying4
  a4 := Tryd.isAgg4
  z4 := Tryd.sizeOf4
  v4 := Tryd.zeroValue4
  t5 := Tryd.underlying5
  a5 := Tryd.isAgg5
  z5 := Tryd.sizeOf5
  v5 := Tryd.zeroValue5
  t9 := Tryd.underlying9
  a9 := Tryd.isAgg9
  z9 := Tryd.sizeOf9
  v9 := Tryd.zeroValue9
  t21 := Tryd.underlying21
  a21 := Tryd.isAgg21
  z21 := Tryd.sizeOf21
  v21 := Tryd.zeroValue21
  t46 := Tryd.underlying100
  a46 := Tryd.isAgg100
  z46 := Tryd.sizeOf100
  v46 := Tryd.zeroValue100
  t119 := Tryd.underlying133
  a119 := Tryd.isAgg133
  z119 := Tryd.sizeOf133
  t138 := Tryd.underlying135
  a138 := Tryd.isAgg135
  z138 := Tryd.sizeOf135
  v138 := Tryd.zeroValue135
  t139 := Tryd.underlying136
  a139 := Tryd.isAgg136
  z139 := Tryd.sizeOf136
  v139 := Tryd.zeroValue136
  g3 := by kernel_rfl
  g4 := by kernel_rfl }
open Go.RowKit Go.Lib in
theorem Tryd.utf8_decodeRuneInStringSlow (s : ByteArray) (w : World) (hT : Lib.Utf8Tabs 1 2 w) :
    Calls Tryd.prog 121 #[.string s] w fun e w' => e = .returned (.tuple #[.int .i32 (Lib.decodeGo s).1, .int .i64 (Lib.decodeGo s).2]) ∧ Below w.heap.size w w' := Any.utf8_decodeRuneInStringSlow Tryd.lays260 s w hT
def Tryd.lays197_ren : Go.Shelf.Ren := ⟨fun | 197 => 111 | 260 => 121 | n => n, fun | 9 => 9 | 21 => 21 | 3 => 3 | 4 => 4 | 5 => 5 | 105 => 122 | 119 => 133 | 0 => 0 | 46 => 100 | 139 => 136 | 138 => 135 | n => n, fun | 3 => 1 | 4 => 2 | n => n⟩
theorem Tryd.lays197 : Go.Proofs.Lays.n197 Tryd.prog Tryd.lays197_ren := {
  mixed := by kernel_rfl
  f197 := Tryd.func111.trans (congrArg some (by kernel_rfl))
  f260 := Tryd.func121.trans (congrArg some (by kernel_rfl))
  t0 := Tryd.underlying0
  a0 := Tryd.isAgg0
  z0 := Tryd.sizeOf0
  v0 := Tryd.zeroValue0
  t3 := Tryd.underlying3
  a3 := Tryd.isAgg3
  z3 := Tryd.sizeOf3
  v3 := Tryd.zeroValue3
  t4 := Tryd.underlying4
  a4 := Tryd.isAgg4
  z4 := Tryd.sizeOf4
  v4 := Tryd.zeroValue4
  t5 := Tryd.underlying5
  a5 := Tryd.isAgg5
  z5 := Tryd.sizeOf5
  v5 := Tryd.zeroValue5
  t9 := Tryd.underlying9
  a9 := Tryd.isAgg9
  z9 := Tryd.sizeOf9
  v9 := Tryd.zeroValue9
  t21 := Tryd.underlying21
  a21 := Tryd.isAgg21
  z21 := Tryd.sizeOf21
  v21 := Tryd.zeroValue21
  t46 := Tryd.underlying100
  a46 := Tryd.isAgg100
  z46 := Tryd.sizeOf100
  v46 := Tryd.zeroValue100
  t105 := Tryd.underlying122
  a105 := Tryd.isAgg122
  z105 := Tryd.sizeOf122
  v105 := Tryd.zeroValue122
  t119 := Tryd.underlying133
  a119 := Tryd.isAgg133
  z119 := Tryd.sizeOf133
  t138 := Tryd.underlying135
  a138 := Tryd.isAgg135
  z138 := Tryd.sizeOf135
  v138 := Tryd.zeroValue135
  t139 := Tryd.underlying136
  a139 := Tryd.isAgg136
  z139 := Tryd.sizeOf136
  v139 := Tryd.zeroValue136
  g3 := by kernel_rfl
  g4 := by kernel_rfl }
open Go.RowKit Go.Lib in
/-- **unicode/utf8.DecodeRuneInString AT EVERY STRING.** (LAID: no walk: one application.) -/
theorem Tryd.utf8_DecodeRuneInString (s : ByteArray) (w : World) (hT : Lib.Utf8Tabs 1 2 w) :
    Calls Tryd.prog 111 #[.string s] w fun e w' => e = .returned (.tuple #[.int .i32 (Lib.decodeGo s).1, .int .i64 (Lib.decodeGo s).2]) ∧ Below w.heap.size w w' := Any.utf8_DecodeRuneInString Tryd.lays197 s w hT
def Tryd.lays271_ren : Go.Shelf.Ren := ⟨fun | 271 => 120 | 120 => 125 | 197 => 111 | 260 => 121 | n => n, fun | 9 => 9 | 21 => 21 | 3 => 3 | 4 => 4 | 5 => 5 | 105 => 122 | 119 => 133 | 0 => 0 | 46 => 100 | 139 => 136 | 138 => 135 | n => n, fun | 3 => 1 | 4 => 2 | n => n⟩
theorem Tryd.lays271 : Go.Proofs.Lays.n271 Tryd.prog Tryd.lays271_ren := {
  mixed := by kernel_rfl
  f120 := Tryd.func125.trans (congrArg some (by kernel_rfl))
  f197 := Tryd.func111.trans (congrArg some (by kernel_rfl))
  f260 := Tryd.func121.trans (congrArg some (by kernel_rfl))
  f271 := Tryd.func120.trans (congrArg some (by kernel_rfl))
  t0 := Tryd.underlying0
  a0 := Tryd.isAgg0
  z0 := Tryd.sizeOf0
  v0 := Tryd.zeroValue0
  t3 := Tryd.underlying3
  a3 := Tryd.isAgg3
  z3 := Tryd.sizeOf3
  v3 := Tryd.zeroValue3
  t4 := Tryd.underlying4
  a4 := Tryd.isAgg4
  z4 := Tryd.sizeOf4
  v4 := Tryd.zeroValue4
  t5 := Tryd.underlying5
  a5 := Tryd.isAgg5
  z5 := Tryd.sizeOf5
  v5 := Tryd.zeroValue5
  t9 := Tryd.underlying9
  a9 := Tryd.isAgg9
  z9 := Tryd.sizeOf9
  v9 := Tryd.zeroValue9
  t21 := Tryd.underlying21
  a21 := Tryd.isAgg21
  z21 := Tryd.sizeOf21
  v21 := Tryd.zeroValue21
  t46 := Tryd.underlying100
  a46 := Tryd.isAgg100
  z46 := Tryd.sizeOf100
  v46 := Tryd.zeroValue100
  t105 := Tryd.underlying122
  a105 := Tryd.isAgg122
  z105 := Tryd.sizeOf122
  v105 := Tryd.zeroValue122
  t119 := Tryd.underlying133
  a119 := Tryd.isAgg133
  z119 := Tryd.sizeOf133
  t138 := Tryd.underlying135
  a138 := Tryd.isAgg135
  z138 := Tryd.sizeOf135
  v138 := Tryd.zeroValue135
  t139 := Tryd.underlying136
  a139 := Tryd.isAgg136
  z139 := Tryd.sizeOf136
  v139 := Tryd.zeroValue136
  g3 := by kernel_rfl
  g4 := by kernel_rfl }
open Go.RowKit Go.Lib in
/-- **unicode/utf8.DecodeLastRuneInString AT EVERY STRING.** (LAID: no walk: one application.) -/
theorem Tryd.utf8_DecodeLastRuneInString (s : ByteArray) (w : World) (hs : s.size ≤ 9223372036854775807) (hT : Lib.Utf8Tabs 1 2 w) :
    Calls Tryd.prog 120 #[.string s] w fun e w' => e = .returned (.tuple #[.int .i32 (Lib.decodeLastL s.data.toList).1, .int .i64 (Lib.decodeLastL s.data.toList).2]) ∧ Below w.heap.size w w' := Any.utf8_DecodeLastRuneInString Tryd.lays271 s w hs hT
def Tryd.lays229_ren : Go.Shelf.Ren := ⟨fun | 229 => 56 | n => n, fun | 9 => 9 | 40 => 79 | 31 => 46 | 152 => 104 | 3 => 3 | 0 => 0 | 4 => 4 | 21 => 21 | 154 => 106 | n => n, fun | n => n⟩
theorem Tryd.lays229 : Go.Proofs.Lays.n229 Tryd.prog Tryd.lays229_ren := {
  mixed := by kernel_rfl
  f229 := Tryd.func56.trans (congrArg some (by kernel_rfl))
  t0 := Tryd.underlying0
  a0 := Tryd.isAgg0
  z0 := Tryd.sizeOf0
  v0 := Tryd.zeroValue0
  t3 := Tryd.underlying3
  a3 := Tryd.isAgg3
  z3 := Tryd.sizeOf3
  v3 := Tryd.zeroValue3
  t4 := Tryd.underlying4
  a4 := Tryd.isAgg4
  z4 := Tryd.sizeOf4
  v4 := Tryd.zeroValue4
  t9 := Tryd.underlying9
  a9 := Tryd.isAgg9
  z9 := Tryd.sizeOf9
  v9 := Tryd.zeroValue9
  t21 := Tryd.underlying21
  a21 := Tryd.isAgg21
  z21 := Tryd.sizeOf21
  v21 := Tryd.zeroValue21
  t31 := Tryd.underlying46
  a31 := Tryd.isAgg46
  z31 := Tryd.sizeOf46
  v31 := Tryd.zeroValue46
  t40 := Tryd.underlying79
  a40 := Tryd.isAgg79
  z40 := Tryd.sizeOf79
  v40 := Tryd.zeroValue79
  t152 := Tryd.underlying104
  a152 := Tryd.isAgg104
  z152 := Tryd.sizeOf104
  v152 := Tryd.zeroValue104
  t154 := Tryd.underlying106
  a154 := Tryd.isAgg106
  z154 := Tryd.sizeOf106
  v154 := Tryd.zeroValue106 }
open Go.RowKit Go.Lib in
theorem Tryd.strings_FieldsFunc_runes (g : Nat) (lb : Array Value) (eg : ∀ args w, (callFunc g args).run Tryd.prog w = .ok (.enter g args) w) (p : Nat → Bool) (s : ByteArray) (w : World) (hs : s.size ≤ 4294967296) (hp : PredAtRunes Tryd.prog g lb p w) :
    Calls Tryd.prog 56 #[.string s, .func (.func g) #[] lb] w fun e w' => ∃ A, e = .returned (.slice (some ⟨A, 0, none⟩) (Lib.goFieldsP p s).length (Lib.goFieldsP p s).length) ∧ w.heap.size ≤ A ∧
      w'.ownsRow w.heap.size 9 1 (.slice (some ⟨A, 0, none⟩) (Lib.goFieldsP p s).length (Lib.goFieldsP p s).length) (Lib.goFieldsP p s).length ((Lib.goFieldsP p s).map Value.string) ∧ Below w.heap.size w w' := Any.strings_FieldsFunc_runes Tryd.lays229 g lb eg p s w hs hp (by kernel_rfl) (by kernel_rfl)
open Go.RowKit Go.Lib in
/-- .. over a hand of the authors' house's premise as it stands. (LAID: no walk: one application.) -/
theorem Tryd.strings_FieldsFunc (g : Nat) (lb : Array Value) (eg : ∀ args w, (callFunc g args).run Tryd.prog w = .ok (.enter g args) w) (p : Nat → Bool) (s : ByteArray) (w : World) (hs : s.size ≤ 4294967296) (hp : PredAt Tryd.prog g lb encR p w) :
    Calls Tryd.prog 56 #[.string s, .func (.func g) #[] lb] w fun e w' => ∃ A, e = .returned (.slice (some ⟨A, 0, none⟩) (Lib.goFieldsP p s).length (Lib.goFieldsP p s).length) ∧ w.heap.size ≤ A ∧
      w'.ownsRow w.heap.size 9 1 (.slice (some ⟨A, 0, none⟩) (Lib.goFieldsP p s).length (Lib.goFieldsP p s).length) (Lib.goFieldsP p s).length ((Lib.goFieldsP p s).map Value.string) ∧ Below w.heap.size w w' := Any.strings_FieldsFunc Tryd.lays229 g lb eg p s w hs hp (by kernel_rfl) (by kernel_rfl)
open Go.RowKit Go.Lib in
theorem Tryd.strings_FieldsFunc_grows (g : Nat) (lb : Array Value) (eg : ∀ args w, (callFunc g args).run Tryd.prog w = .ok (.enter g args) w) (p : Nat → Bool) (s : ByteArray) (w : World) (hs : s.size ≤ 4294967296) (hp : PredGrows Tryd.prog g lb p w) :
    Calls Tryd.prog 56 #[.string s, .func (.func g) #[] lb] w fun e w' => ∃ A, e = .returned (.slice (some ⟨A, 0, none⟩) (Lib.goFieldsP p s).length (Lib.goFieldsP p s).length) ∧ w.heap.size ≤ A ∧
      w'.ownsRow w.heap.size 9 1 (.slice (some ⟨A, 0, none⟩) (Lib.goFieldsP p s).length (Lib.goFieldsP p s).length) (Lib.goFieldsP p s).length ((Lib.goFieldsP p s).map Value.string) ∧ Below w.heap.size w w' := Any.strings_FieldsFunc_grows Tryd.lays229 g lb eg p s w hs hp (by kernel_rfl) (by kernel_rfl)
end Go.Proofs

/-! ## GD -/
namespace Go.Proofs.YtiocgpfnbmlfaaaDoor
open Go Go.RowKit

theorem ret_str {a b : ByteArray} (h : a = b) : Ending.returned (.string a) = .returned (.string b) := by rw [h]

theorem enc_digit (n : Nat) (h : n < 10) : Utf8.encode (48 + (n : Int)) = ⟨#[UInt8.ofNat (48 + n)]⟩ := by
  have : n = 0 ∨ n = 1 ∨ n = 2 ∨ n = 3 ∨ n = 4 ∨ n = 5 ∨ n = 6 ∨ n = 7 ∨ n = 8 ∨ n = 9 := by omega
  rcases this with rfl | rfl | rfl | rfl | rfl | rfl | rfl | rfl | rfl | rfl <;> decide

theorem digs_lenk (k : Nat) : ∀ n : Nat, n < 10 ^ (k + 1) → (digs n).length ≤ k + 1 := by
  induction k with
  | zero => intro n h; rw [digs_small (by omega)]; simp
  | succ k ih =>
    intro n h
    by_cases hn : n < 10
    · rw [digs_small hn]; simp
    · rw [digs_big hn]
      have := ih (n / 10) (by rw [Nat.pow_succ] at h; omega)
      simp; omega
theorem digs_len (n : Nat) (h : n < 1000000) : (digs n).length ≤ 6 := digs_lenk 5 n h

def DigQ (n : Nat) (w : World) (e : Ending) (w' : World) : Prop := e = .returned (.string ⟨(digs n).toArray⟩) ∧ w = w'

set_option maxHeartbeats 400000 in
theorem digits_s (n : Nat) (w : World) (hn : n < 10) : Calls Tryd.prog 73 #[.int .i64 n] w (DigQ n w) := by
  go_enter Tryd.func73, Tryd.ntmps73
  go_wp2_with fail
  go_ret
  exact ⟨ret_str (by rw [enc_digit n hn, digs_small hn]), rfl⟩

set_option maxHeartbeats 400000 in
theorem digits_any (k : Nat) : ∀ (n : Nat) (w : World), n ≤ k → n < 1000000 → Calls Tryd.prog 73 #[.int .i64 n] w (DigQ n w) := by
  induction k with
  | zero => intro n w hk _; exact digits_s n w (by omega)
  | succ k ih =>
    intro n w hk hb
    by_cases hn : n < 10
    · exact digits_s n w hn
    · have HI := Lib.hid (ih (n / 10) w (by omega) (by omega))
      clear ih
      go_enter Tryd.func73, Tryd.ntmps73
      go_wp2_with fail
      rw [show ((n : Int) / 10) = ((n / 10 : Nat) : Int) from by omega]
      refine HI.out.mono ?_
      rintro e w' ⟨rfl, rfl⟩
      have hl : (⟨(digs (n / 10)).toArray⟩ : ByteArray).size ≤ 6 := digs_len (n / 10) (by omega)
      generalize hs : (⟨(digs (n / 10)).toArray⟩ : ByteArray) = s at hl ⊢
      have HS := Lib.hid hs
      clear hs
      have he : (Utf8.encode (48 + (n : Int) % 10)).size ≤ 4 := encode_size_le _
      have hk : s.size + (Utf8.encode (48 + (n : Int) % 10)).size ≤ 9223372036854775807 := by omega
      go_wp2_with fail

      go_ret
      refine ⟨ret_str ?_, rfl⟩
      rw [show (48 + (n : Int) % 10) = 48 + ((n % 10 : Nat) : Int) from by omega, enc_digit (n % 10) (by omega), ← HS.out, digs_big hn]
      apply ByteArray.ext
      simp

theorem fits_any (n : Int) (w : World) (b : Bool) (h : fitsB n = b) :
    Calls Tryd.prog 63 #[.int .i64 n] w fun e w' => e = .returned (.bool b) ∧ w = w' := by
  subst h
  by_cases h1 : -2147483648 ≤ n
  · by_cases h2 : n ≤ 2147483647
    · have : fitsB n = true := by simp [fitsB, h1, h2]
      rw [this]
      go_enter Tryd.func63, Tryd.ntmps63
      go_wp2_with fail
      go_ret
      exact ⟨rfl, rfl⟩
    · have : fitsB n = false := by simp [fitsB, h2]
      rw [this]
      go_enter Tryd.func63, Tryd.ntmps63
      go_wp2_with fail
      go_ret
      exact ⟨rfl, rfl⟩
  · have : fitsB n = false := by simp [fitsB, h1]
    rw [this]
    go_enter Tryd.func63, Tryd.ntmps63
    go_wp2_with fail
    go_ret
    exact ⟨rfl, rfl⟩

def PartsQ (s d r : List UInt8) (w : World) (e : Ending) (w' : World) : Prop :=
  e = .returned (.tuple #[.string ⟨s.toArray⟩, .string ⟨d.toArray⟩, .string ⟨r.toArray⟩]) ∧ Below w.heap.size w w'

/-- the loop's head: what is written, what is left -/
def PartsInv (B f0 k f : Nat) (w wr : World) : Prop :=
  k ≤ 16 ∧ f < 65536 ∧ 2 ^ (16 - k) ∣ f ∧ (∃ pre, pre.length + k = 16 ∧ fracs 16 f0 = pre ++ fracs k f ∧ Lib.IsBuilder 96 5 B B (Lib.byteCells pre) wr) ∧ Below B w wr ∧ B ≤ wr.heap.size

set_option maxHeartbeats 1000000 in
set_option maxRecDepth 100000 in
theorem parts_pos (n : Nat) (hn : n ≤ 2147483647) (w : World) :
    Calls Tryd.prog 47 #[.int .i64 n] w (PartsQ [] (digs (n / 65536)) (fracs 16 (n % 65536)) w) := by
  have HF := Lib.hid (fits_any n w true (by simp [fitsB]; omega))
  have HB := Lib.hid (Lib.fresh_isBuilder 96 5 w)
  have ha : Go.bits .and .i64 (n : Int) 65535 = ((n % 65536 : Nat) : Int) := by rw [and_65535 _ (by omega) (by omega)]; rfl
  go_enter Tryd.func47, Tryd.ntmps47
  go_wp2_with (go_at_call 63; refine HF.out.mono ?_; rintro e w' ⟨rfl, rfl⟩)
  clear ha HF
  go_loopg [6] 16 (fun k v wr => ∃ f : Nat, v = .int .i64 f ∧ Hid (PartsInv w.heap.size (n % 65536) k f w wr))
  case atStart =>
    exact ⟨n % 65536, rfl, ⟨Nat.le_refl _, by omega, by simp, ⟨[], rfl, by simp, by simpa [Lib.byteCells] using HB.out⟩, (Below.refl _ _).alloc (Nat.le_refl _) _, by simp⟩⟩
  case round =>
    clear HB
    obtain ⟨f, rfl, HI⟩ := hrel
    have hlt : f < 65536 := HI.out.2.1
    have hB := HI.out.2.2.2.2.2
    by_cases hf0 : f = 0
    · subst hf0
      have HD := Lib.hid (digits_any (n / 65536) (n / 65536) wr (Nat.le_refl _) (by omega))
      go_wp2_with fail
      rw [show ((n : Int) / 65536) = ((n / 65536 : Nat) : Int) from by omega]
      refine HD.out.mono ?_
      rintro e w' ⟨rfl, rfl⟩
      obtain ⟨hk, _, _, ⟨pre, hpl, hpre, hbu⟩, hbel, _⟩ := HI.out
      rw [fracs_zero gk, List.append_nil] at hpre
      have HS := Lib.hid (Tryd.Builder_String_any w.heap.size w.heap.size pre wr hbu hB)
      have HP := Lib.hid hpre
      have HL := Lib.hid hbel
      clear hpre hbu hpl hbel HI HD
      go_wp2_with fail
      refine HS.out.mono ?_
      rintro e w2 ⟨rfl, hb2⟩
      go_wp2_with fail
      go_ret3
      exact ⟨by rw [HP.out]; rfl, HL.out.trans hb2⟩
    · have hx : Go.bits .and .i64 ((f : Int) * 10) 65535 = ((f * 10 % 65536 : Nat) : Int) := by rw [and_65535 _ (by omega) (by omega)]; omega
      obtain ⟨hk, _, hdv, ⟨pre, hpl, hpre, hbu⟩, hbel, _⟩ := HI.out
      have hs := frac_step (j := 16 - gk) (k := gk) (by omega) hdv hlt hf0
      obtain ⟨k, rfl⟩ : ∃ k, gk = k + 1 := ⟨gk - 1, by omega⟩
      rw [fracs_succ hf0] at hpre
      have HW := Lib.hid (gb_WriteByte w.heap.size w.heap.size (Lib.byteCells pre) (48 + (f : Int) * 10 / 65536) wr hbu (by rw [Lib.byteCells_length]; omega) hB)
      have HP := Lib.hid (And.intro hpre (And.intro hpl (And.intro hk (And.intro hs.2 hbel))))
      clear hpre hpl hk hdv hbu hbel HI hs
      go_wp2_with fail
      refine HW.out.mono ?_
      rintro e w2 ⟨rfl, hb2, hl2⟩
      have HB2 := Lib.hid hb2
      have HL2 := Lib.hid hl2
      clear hb2 hl2 HW
      go_wp2_with fail
      go_roundg k
      case measure => omega
      case rel =>
        obtain ⟨hpre, hpl, hk, hs, hbel⟩ := HP.out
        refine ⟨f * 10 % 65536, rfl, ⟨by omega, by omega, ?_, ⟨pre ++ [UInt8.ofNat (48 + f * 10 / 65536)], by simp; omega, by simpa using hpre, .inr ?_⟩, hbel.trans HL2.out, ?_⟩⟩
        · rwa [show 16 - k = 16 - (k + 1) + 1 from by omega]
        · have hc : Lib.byteCells (pre ++ [UInt8.ofNat (48 + f * 10 / 65536)]) = Lib.byteCells pre ++ [.int .u8 (48 + (f : Int) * 10 / 65536)] := by
            simp [Lib.byteCells]
            omega
          rw [hc]; exact HB2.out
        · have := HL2.out.size; omega

set_option maxHeartbeats 1000000 in
set_option maxRecDepth 100000 in
theorem parts_neg (n : Nat) (hn : n ≤ 2147483648) (h1 : 1 ≤ n) (w : World) :
    Calls Tryd.prog 47 #[.int .i64 (-(n : Int))] w (PartsQ [45] (digs (n / 65536)) (fracs 16 (n % 65536)) w) := by
  have HF := Lib.hid (fits_any (-(n : Int)) w true (by simp [fitsB]; omega))
  have HB := Lib.hid (Lib.fresh_isBuilder 96 5 w)
  have hd : decide (0 < n) = true := by simp; omega
  have ha : Go.bits .and .i64 (n : Int) 65535 = ((n % 65536 : Nat) : Int) := by rw [and_65535 _ (by omega) (by omega)]; rfl
  go_enter Tryd.func47, Tryd.ntmps47
  go_wp2_with (go_at_call 63; refine HF.out.mono ?_; rintro e w' ⟨rfl, rfl⟩)
  clear ha HF
  go_loopg [6] 16 (fun k v wr => ∃ f : Nat, v = .int .i64 f ∧ Hid (PartsInv w.heap.size (n % 65536) k f w wr))
  case atStart =>
    exact ⟨n % 65536, rfl, ⟨Nat.le_refl _, by omega, by simp, ⟨[], rfl, by simp, by simpa [Lib.byteCells] using HB.out⟩, (Below.refl _ _).alloc (Nat.le_refl _) _, by simp⟩⟩
  case round =>
    clear HB
    obtain ⟨f, rfl, HI⟩ := hrel
    have hlt : f < 65536 := HI.out.2.1
    have hB := HI.out.2.2.2.2.2
    by_cases hf0 : f = 0
    · subst hf0
      have HD := Lib.hid (digits_any (n / 65536) (n / 65536) wr (Nat.le_refl _) (by omega))
      go_wp2_with fail
      rw [show ((n : Int) / 65536) = ((n / 65536 : Nat) : Int) from by omega]
      refine HD.out.mono ?_
      rintro e w' ⟨rfl, rfl⟩
      obtain ⟨hk, _, _, ⟨pre, hpl, hpre, hbu⟩, hbel, _⟩ := HI.out
      rw [fracs_zero gk, List.append_nil] at hpre
      have HS := Lib.hid (Tryd.Builder_String_any w.heap.size w.heap.size pre wr hbu hB)
      have HP := Lib.hid hpre
      have HL := Lib.hid hbel
      clear hpre hbu hpl hbel HI HD
      go_wp2_with fail
      refine HS.out.mono ?_
      rintro e w2 ⟨rfl, hb2⟩
      go_wp2_with fail
      go_ret3
      exact ⟨by rw [HP.out]; rfl, HL.out.trans hb2⟩
    · have hx : Go.bits .and .i64 ((f : Int) * 10) 65535 = ((f * 10 % 65536 : Nat) : Int) := by rw [and_65535 _ (by omega) (by omega)]; omega
      obtain ⟨hk, _, hdv, ⟨pre, hpl, hpre, hbu⟩, hbel, _⟩ := HI.out
      have hs := frac_step (j := 16 - gk) (k := gk) (by omega) hdv hlt hf0
      obtain ⟨k, rfl⟩ : ∃ k, gk = k + 1 := ⟨gk - 1, by omega⟩
      rw [fracs_succ hf0] at hpre
      have HW := Lib.hid (gb_WriteByte w.heap.size w.heap.size (Lib.byteCells pre) (48 + (f : Int) * 10 / 65536) wr hbu (by rw [Lib.byteCells_length]; omega) hB)
      have HP := Lib.hid (And.intro hpre (And.intro hpl (And.intro hk (And.intro hs.2 hbel))))
      clear hpre hpl hk hdv hbu hbel HI hs
      go_wp2_with fail
      refine HW.out.mono ?_
      rintro e w2 ⟨rfl, hb2, hl2⟩
      have HB2 := Lib.hid hb2
      have HL2 := Lib.hid hl2
      clear hb2 hl2 HW
      go_wp2_with fail
      go_roundg k
      case measure => omega
      case rel =>
        obtain ⟨hpre, hpl, hk, hs, hbel⟩ := HP.out
        refine ⟨f * 10 % 65536, rfl, ⟨by omega, by omega, ?_, ⟨pre ++ [UInt8.ofNat (48 + f * 10 / 65536)], by simp; omega, by simpa using hpre, .inr ?_⟩, hbel.trans HL2.out, ?_⟩⟩
        · rwa [show 16 - k = 16 - (k + 1) + 1 from by omega]
        · have hc : Lib.byteCells (pre ++ [UInt8.ofNat (48 + f * 10 / 65536)]) = Lib.byteCells pre ++ [.int .u8 (48 + (f : Int) * 10 / 65536)] := by
            simp [Lib.byteCells]
            omega
          rw [hc]; exact HB2.out
        · have := HL2.out.size; omega

set_option maxHeartbeats 1000000 in
set_option maxRecDepth 100000 in
theorem parts_bad (z : Int) (hz : fitsB z = false) (w : World) :
    Calls Tryd.prog 47 #[.int .i64 z] w (PartsQ [] (digs 0) (fracs 16 0) w) := by
  have HF := Lib.hid (fits_any z w false hz)
  have HB := Lib.hid (Lib.fresh_isBuilder 96 5 w)
  have ha : Go.bits .and .i64 0 65535 = 0 := by rfl
  clear hz
  go_enter Tryd.func47, Tryd.ntmps47
  go_wp2_with (go_at_call 63; refine HF.out.mono ?_; rintro e w' ⟨rfl, rfl⟩)
  clear ha HF
  go_loopg [6] 16 (fun k v wr => ∃ f : Nat, v = .int .i64 f ∧ Hid (PartsInv w.heap.size 0 k f w wr))
  case atStart =>
    exact ⟨0, rfl, ⟨Nat.le_refl _, by omega, by simp, ⟨[], rfl, by simp, by simpa [Lib.byteCells] using HB.out⟩, (Below.refl _ _).alloc (Nat.le_refl _) _, by simp⟩⟩
  case round =>
    clear HB
    obtain ⟨f, rfl, HI⟩ := hrel
    have hlt : f < 65536 := HI.out.2.1
    have hB := HI.out.2.2.2.2.2
    by_cases hf0 : f = 0
    · subst hf0
      have HD := Lib.hid (digits_any (0) (0) wr (Nat.le_refl _) (by omega))
      go_wp2_with fail
      refine HD.out.mono ?_
      rintro e w' ⟨rfl, rfl⟩
      obtain ⟨hk, _, _, ⟨pre, hpl, hpre, hbu⟩, hbel, _⟩ := HI.out
      rw [fracs_zero gk, List.append_nil] at hpre
      have HS := Lib.hid (Tryd.Builder_String_any w.heap.size w.heap.size pre wr hbu hB)
      have HP := Lib.hid hpre
      have HL := Lib.hid hbel
      clear hpre hbu hpl hbel HI HD
      go_wp2_with fail
      refine HS.out.mono ?_
      rintro e w2 ⟨rfl, hb2⟩
      go_wp2_with fail
      go_ret3
      exact ⟨by rw [HP.out]; rfl, HL.out.trans hb2⟩
    · have hx : Go.bits .and .i64 ((f : Int) * 10) 65535 = ((f * 10 % 65536 : Nat) : Int) := by rw [and_65535 _ (by omega) (by omega)]; omega
      obtain ⟨hk, _, hdv, ⟨pre, hpl, hpre, hbu⟩, hbel, _⟩ := HI.out
      have hs := frac_step (j := 16 - gk) (k := gk) (by omega) hdv hlt hf0
      obtain ⟨k, rfl⟩ : ∃ k, gk = k + 1 := ⟨gk - 1, by omega⟩
      rw [fracs_succ hf0] at hpre
      have HW := Lib.hid (gb_WriteByte w.heap.size w.heap.size (Lib.byteCells pre) (48 + (f : Int) * 10 / 65536) wr hbu (by rw [Lib.byteCells_length]; omega) hB)
      have HP := Lib.hid (And.intro hpre (And.intro hpl (And.intro hk (And.intro hs.2 hbel))))
      clear hpre hpl hk hdv hbu hbel HI hs
      go_wp2_with fail
      refine HW.out.mono ?_
      rintro e w2 ⟨rfl, hb2, hl2⟩
      have HB2 := Lib.hid hb2
      have HL2 := Lib.hid hl2
      clear hb2 hl2 HW
      go_wp2_with fail
      go_roundg k
      case measure => omega
      case rel =>
        obtain ⟨hpre, hpl, hk, hs, hbel⟩ := HP.out
        refine ⟨f * 10 % 65536, rfl, ⟨by omega, by omega, ?_, ⟨pre ++ [UInt8.ofNat (48 + f * 10 / 65536)], by simp; omega, by simpa using hpre, .inr ?_⟩, hbel.trans HL2.out, ?_⟩⟩
        · rwa [show 16 - k = 16 - (k + 1) + 1 from by omega]
        · have hc : Lib.byteCells (pre ++ [UInt8.ofNat (48 + f * 10 / 65536)]) = Lib.byteCells pre ++ [.int .u8 (48 + (f : Int) * 10 / 65536)] := by
            simp [Lib.byteCells]
            omega
          rw [hc]; exact HB2.out
        · have := HL2.out.size; omega


theorem dec_parts.calls (a0 : Int) (r1 r2 r3 : ByteArray) (w : World) (h : dec_parts.f a0 = some (r1, r2, r3)) :
    Calls Tryd.prog 47 #[.int .i64 a0] w fun e w' => e = .returned (.tuple #[.string r1, .string r2, .string r3]) ∧ Below w.heap.size w w' := by
  simp only [dec_parts.f, Option.some.injEq, Prod.mk.injEq] at h
  obtain ⟨rfl, rfl, rfl⟩ := h
  by_cases hf : fitsB a0 = true
  · have hb : -2147483648 ≤ a0 ∧ a0 ≤ 2147483647 := by simpa [fitsB] using hf
    have hc : clip a0 = a0 := by simp [clip, hf]
    rw [hc]
    by_cases h0 : a0 < 0
    · obtain ⟨n, rfl⟩ : ∃ n : Nat, a0 = -(n : Int) := ⟨a0.natAbs, by omega⟩
      refine (parts_neg n (by omega) (by omega) w).mono ?_
      rintro e w' ⟨rfl, hb⟩
      refine ⟨?_, hb⟩
      simp [signL]
      omega
    · obtain ⟨n, rfl⟩ := Int.eq_ofNat_of_zero_le (Int.not_lt.1 h0)
      refine (parts_pos n (by omega) w).mono ?_
      rintro e w' ⟨rfl, hb⟩
      refine ⟨?_, hb⟩
      simp [signL]
  · have hc : clip a0 = 0 := by simp [clip, hf]
    rw [hc]
    refine (parts_bad a0 (by simpa using hf) w).mono ?_
    rintro e w' ⟨rfl, hb⟩
    exact ⟨rfl, hb⟩

end Go.Proofs.YtiocgpfnbmlfaaaDoor

/-! ## GS -/
namespace Go.Proofs.YtiocgpfnbmlfaaaDoor
open Go Go.RowKit

/-- cut at the first such byte -/
def cut1 (c : UInt8) : List UInt8 → List UInt8 × List UInt8 × Bool
  | [] => ([], [], false)
  | b :: l => if b = c then ([], l, true) else (b :: (cut1 c l).1, (cut1 c l).2.1, (cut1 c l).2.2)

theorem cut1_none (c : UInt8) : ∀ l : List UInt8, Lib.indexByte l c = -1 → cut1 c l = (l, [], false)
  | [], _ => rfl
  | b :: l, h => by
    by_cases hb : b = c
    · subst hb; simp [Lib.indexByte] at h
    · have hl : Lib.indexByte l c = -1 := by
        unfold Lib.indexByte at h
        rw [if_neg (by simpa using hb)] at h
        by_cases h2 : Lib.indexByte l c = -1
        · exact h2
        · rw [if_neg (by simpa using h2)] at h
          have := Lib.indexByte_ge l c
          omega
      rw [cut1, if_neg hb, cut1_none c l hl]

theorem cut1_some (c : UInt8) : ∀ (l : List UInt8) (i : Nat), Lib.indexByte l c = i → i < l.length ∧ cut1 c l = (l.take i, l.drop (i + 1), true)
  | [], i, h => by simp [Lib.indexByte] at h
  | b :: l, i, h => by
    by_cases hb : b = c
    · subst hb
      have : i = 0 := by simp [Lib.indexByte] at h; omega
      subst this
      simp [cut1]
    · unfold Lib.indexByte at h
      rw [if_neg (by simpa using hb)] at h
      by_cases h2 : Lib.indexByte l c = -1
      · rw [h2] at h; simp at h
      · rw [if_neg (by simpa using h2)] at h
        have hge := Lib.indexByte_ge l c
        obtain ⟨j, rfl⟩ : ∃ j, i = j + 1 := ⟨i - 1, by omega⟩
        obtain ⟨h3, h4⟩ := cut1_some c l j (by omega)
        refine ⟨by simp; omega, ?_⟩
        rw [cut1, if_neg hb, h4]
        simp

def strings_Cut.f (a0 a1 : ByteArray) : Option (ByteArray × ByteArray × Bool) :=
  if a1.size = 1 ∧ a0.size ≤ 140737488351232 then some (⟨(cut1 (a1.get! 0) a0.data.toList).1.toArray⟩, ⟨(cut1 (a1.get! 0) a0.data.toList).2.1.toArray⟩, (cut1 (a1.get! 0) a0.data.toList).2.2) else none

theorem one_byte (a : ByteArray) (h : a.size = 1) : a = ⟨#[a.get! 0]⟩ := by
  obtain ⟨d⟩ := a
  obtain ⟨l⟩ := d
  match l, h with
  | [x], _ => rfl

set_option maxHeartbeats 2000000 in
set_option maxRecDepth 100000 in
theorem lite_Cut (s : ByteArray) (c : UInt8) (w : World) (hs : s.size ≤ 140737488351232) :
    Calls Tryd.prog 85 #[.string s, .string ⟨#[c]⟩] w fun e w' => e = .returned (.tuple #[.string ⟨(cut1 c s.data.toList).1.toArray⟩, .string ⟨(cut1 c s.data.toList).2.1.toArray⟩, .bool (cut1 c s.data.toList).2.2]) ∧ ∃ n, w' = w.drewN n := by
  have hge := Lib.indexByte_ge s.data.toList c
  by_cases hix : Lib.indexByte s.data.toList c = -1
  · have hc := cut1_none c _ hix
    rw [hc]
    have hm : (⟨s.data.toList.toArray⟩ : ByteArray) = s := by simp
    simp only [hm]
    clear hc hge
    have HX := Lib.hid hix
    clear hix
    go_enter Tryd.func85, Tryd.ntmps85
    go_wp2_with (go_at_call 107; refine (Tryd.stringslite_Index_one _ _ _).mono ?_; rintro e w' ⟨rfl, rfl⟩; rw [HX.out])
    go_ret3
    exact ⟨rfl, 0, rfl⟩
  · obtain ⟨i, hi⟩ : ∃ i : Nat, Lib.indexByte s.data.toList c = i := ⟨(Lib.indexByte s.data.toList c).toNat, by omega⟩
    obtain ⟨hlt, hc⟩ := cut1_some c _ i hi
    rw [hc]
    have hz : s.data.toList.length = s.size := (Lib.size_eq s).symm
    have hlt' : i < s.size := by omega
    have e1 : (⟨(s.data.toList.take i).toArray⟩ : ByteArray) = s.extract 0 i := by rw [Lib.extract_eq]; simp
    have e2 : (⟨(s.data.toList.drop (i + 1)).toArray⟩ : ByteArray) = s.extract (i + 1) s.size := by
      rw [Lib.extract_eq]
      rw [List.take_of_length_le (by rw [List.length_drop]; omega)]
    simp only [e1, e2]
    clear hc hge e1 e2 hlt hz hix
    have HX := Lib.hid hi
    clear hi
    have c1 : (0 : Int) ≤ ↑i := by omega
    have c2 : (↑i : Int) ≤ ↑s.size := by omega
    have c3 : (0 : Int) ≤ ↑i + 1 := by omega
    have c4 : (↑i + 1 : Int) ≤ ↑s.size := by omega
    go_enter Tryd.func85, Tryd.ntmps85
    go_wp2_with (go_at_call 107; refine (Tryd.stringslite_Index_one _ _ _).mono ?_; rintro e w' ⟨rfl, rfl⟩; rw [HX.out])
    go_quiet (fail)
    go_wp2_with fail
    go_ret3
    exact ⟨rfl, _, rfl⟩

theorem strings_Cut.calls (a0 a1 r1 r2 : ByteArray) (r3 : Bool) (w : World) (h : strings_Cut.f a0 a1 = some (r1, r2, r3)) :
    Calls Tryd.prog 59 #[.string a0, .string a1] w fun e w' => e = .returned (.tuple #[.string r1, .string r2, .bool r3]) ∧ Below w.heap.size w w' := by
  unfold strings_Cut.f at h
  split at h
  · rename_i hh
    obtain ⟨h1, h2⟩ := hh
    simp only [Option.some.injEq, Prod.mk.injEq] at h
    obtain ⟨rfl, rfl, rfl⟩ := h
    have hL := lite_Cut a0 (a1.get! 0) w h2
    rw [← one_byte a1 h1] at hL
    have HL := Lib.hid hL
    clear hL
    go_enter Tryd.func59, Tryd.ntmps59
    go_wp2_with fail
    refine HL.out.mono ?_
    rintro e w' ⟨rfl, n, rfl⟩
    go_wp2_with fail
    go_ret3
    exact ⟨rfl, (Go.Proofs.YtiocgpfnbmlfaaaDoorW.PrintWords.Drawn0.mk ⟨n, rfl⟩).below⟩
  · cases h

def asciiB (c : ByteArray) : Bool := c.data.toList.all (fun b => decide (b.toNat < 128))

def strings_Trim.f (a0 a1 : ByteArray) : Option ByteArray :=
  if asciiB a1 = true ∧ a1.size ≤ 100 ∧ a0.size ≤ 140737488351232 then some ⟨(Lib.trimS a0.data.toList a1.data.toList).toArray⟩ else none

theorem strings_Trim.calls (a0 a1 r : ByteArray) (w : World) (h : strings_Trim.f a0 a1 = some r) :
    Calls Tryd.prog 86 #[.string a0, .string a1] w fun e w' => e = .returned (.string r) ∧ Below w.heap.size w w' := by
  unfold strings_Trim.f at h
  split at h
  · rename_i hh
    obtain ⟨h1, h2, h3⟩ := hh
    simp only [Option.some.injEq] at h
    obtain rfl := h
    exact Any.strings_Trim_laid Tryd.lays160 (by kernel_rfl) a0 a1 w (by omega) (by omega) (ascii_of_all h1)
  · cases h

def strings_TrimLeft.f (a0 a1 : ByteArray) : Option ByteArray :=
  if asciiB a1 = true ∧ a1.size ≤ 100 then some ⟨(Lib.trimLeftS a0.data.toList a1.data.toList).toArray⟩ else none

theorem strings_TrimLeft.calls (a0 a1 r : ByteArray) (w : World) (h : strings_TrimLeft.f a0 a1 = some r) :
    Calls Tryd.prog 61 #[.string a0, .string a1] w fun e w' => e = .returned (.string r) ∧ Below w.heap.size w w' := by
  unfold strings_TrimLeft.f at h
  split at h
  · rename_i hh
    obtain ⟨h1, h2⟩ := hh
    simp only [Option.some.injEq] at h
    obtain rfl := h
    exact Any.strings_TrimLeft_laid Tryd.lays161 (by kernel_rfl) a0 a1 w (by omega) (ascii_of_all h1)
  · cases h

def strings_Repeat.f (a0 : ByteArray) (a1 : Int) : Option ByteArray :=
  if 0 ≤ a1 ∧ a1 ≤ 100000 ∧ a0.size ≤ 1000000 then some ⟨(Lib.repeatL a0.data.toList a1.toNat).toArray⟩ else none

theorem strings_Repeat.calls (a0 : ByteArray) (a1 : Int) (r : ByteArray) (w : World) (h : strings_Repeat.f a0 a1 = some r) :
    Calls Tryd.prog 70 #[.string a0, .int .i64 a1] w fun e w' => e = .returned (.string r) ∧ Below w.heap.size w w' := by
  unfold strings_Repeat.f at h
  split at h
  · rename_i hh
    obtain ⟨h1, h2, h3⟩ := hh
    simp only [Option.some.injEq] at h
    obtain rfl := h
    obtain ⟨n, rfl⟩ := Int.eq_ofNat_of_zero_le h1
    rw [Int.toNat_natCast]
    have hb : a0.size * n ≤ 1000000 * 100000 := Nat.mul_le_mul h3 (by omega)
    exact Tryd.strings_Repeat a0 n w (by omega) (by omega)
  · cases h

def strings_IndexByte.f (a0 : ByteArray) (a1 : Int) : Option Int := some (Lib.indexByte a0.data.toList a1.toNat.toUInt8)

theorem strings_IndexByte.calls (a0 : ByteArray) (a1 r : Int) (w : World) (h : strings_IndexByte.f a0 a1 = some r) :
    Calls Tryd.prog 90 #[.string a0, .int .u8 a1] w fun e w' => e = .returned (.int .i64 r) ∧ Go.Proofs.YtiocgpfnbmlfaaaDoorW.PrintWords.Drawn0 w w' := by
  simp only [strings_IndexByte.f, Option.some.injEq] at h
  obtain rfl := h
  refine (Tryd.strings_IndexByte a0 a1 w).mono ?_
  rintro e w' ⟨rfl, rfl⟩
  exact ⟨rfl, Go.Proofs.YtiocgpfnbmlfaaaDoorW.PrintWords.Drawn0.refl _⟩

end Go.Proofs.YtiocgpfnbmlfaaaDoor

/-! ## PRx0 -/
namespace Go.Proofs.YtiocgpfnbmlfaaaDoor.PR
open Go.RowKit Go.Proofs.YtiocgpfnbmlfaaaDoorW.PrintWords Go.Proofs.YtiocgpfnbmlfaaaDoorW.PrintLast Go.Proofs.YtiocgpfnbmlfaaaDoorW.PrintMore
attribute [local go_sem] max2_int min2_int max_two min_two max_three min_three max_four min_four   -- for this text's walks alone
set_option linter.unusedVariables false
set_option linter.unusedSimpArgs false



def errW : Option Int → Value
  | none => .nilIface
  | some c => .iface 0 (.int .i64 c)
theorem errW_none : errW none = .nilIface := rfl
theorem errW_some (c : Int) : errW (some c) = .iface 0 (.int .i64 c) := rfl

-- the values' own types

end Go.Proofs.YtiocgpfnbmlfaaaDoor.PR
