/- Made by a program of this session (wip/row.py, of what wip/given.py wrote): the row of a law that lists tables, and its tied card. -/
import Derived.Test.YtlbedeiehhgphaaGreatDoorCards
import Derived.Test.YtlbedeiehhgphaaGreatDoorTie
import Derived.Test.YtlbedeiehhgphaaGreatDoorBCb3
import Derived.WalkKit
import Derived.ProofKit
import Derived.OpenShut
import Derived.ShutString
import Derived.ChangeOld
import Derived.Below
import Derived.SizedLaws
import Derived.Test.YtlbedeiehhgphaaGreatDoorWSized
import Derived.Deep.DeepHandedRow
import Derived.Lib.LaidTab
import Derived.Lib.LaidCaseMet
import Derived.Deep.DeepWitnessRowRef

/-! ## CardConvBack -/
namespace Go.Proofs.YtlbedeiehhgphaaGreatDoor.convBack
open Go.ChangeShapes Go.WideShapes Go.ChangeAt Go.RowKit
open Go.ChangeMaps (open_string shut_string)
set_option linter.unusedVariables false
theorem own : ownKnob Tryz.prog.godebug = none := by kernel_rfl
/-- what the tables' initialisers lay -/
def put0 : Obj → Obj
  | .cells _ t frozen => .cells #[.string ⟨#[110, 117, 108, 108, 116, 121, 112, 101]⟩, .string ⟨#[105, 110, 116, 101, 103, 101, 114, 116, 121, 112, 101]⟩, .string ⟨#[114, 101, 97, 108, 116, 121, 112, 101]⟩, .string ⟨#[98, 111, 111, 108, 101, 97, 110, 116, 121, 112, 101]⟩, .string ⟨#[109, 97, 114, 107, 116, 121, 112, 101]⟩, .string ⟨#[110, 97, 109, 101, 116, 121, 112, 101]⟩, .string ⟨#[115, 116, 114, 105, 110, 103, 116, 121, 112, 101]⟩, .string ⟨#[97, 114, 114, 97, 121, 116, 121, 112, 101]⟩, .string ⟨#[100, 105, 99, 116, 116, 121, 112, 101]⟩, .string ⟨#[111, 112, 101, 114, 97, 116, 111, 114, 116, 121, 112, 101]⟩, .string ⟨#[115, 97, 118, 101, 116, 121, 112, 101]⟩] t frozen
  | o => o
def put2 : Obj → Obj
  | .cells _ t frozen => .cells (Lib.pow10Tab.map fun z => Value.int .u64 z).toArray t frozen
  | o => o
def put4 : Obj → Obj
  | .cells _ t frozen => .cells (Go.Pinned.utf8FirstZ.map fun (n : Nat) => Value.int .u8 (n : Int)).toArray t frozen
  | o => o
def put5 : Obj → Obj
  | .cells _ t frozen => .cells #[.int .u8 128, .int .u8 191, .int .u8 160, .int .u8 191, .int .u8 128, .int .u8 159, .int .u8 144, .int .u8 191, .int .u8 128, .int .u8 143, .int .u8 0, .int .u8 0, .int .u8 0, .int .u8 0, .int .u8 0, .int .u8 0, .int .u8 0, .int .u8 0, .int .u8 0, .int .u8 0, .int .u8 0, .int .u8 0, .int .u8 0, .int .u8 0, .int .u8 0, .int .u8 0, .int .u8 0, .int .u8 0, .int .u8 0, .int .u8 0, .int .u8 0, .int .u8 0] t frozen
  | o => o
def put6 : Obj → Obj
  | .cells _ t frozen => .cells #[.int .u8 0, .int .u8 1, .int .u8 28, .int .u8 2, .int .u8 29, .int .u8 14, .int .u8 24, .int .u8 3, .int .u8 30, .int .u8 22, .int .u8 20, .int .u8 15, .int .u8 25, .int .u8 17, .int .u8 4, .int .u8 8, .int .u8 31, .int .u8 27, .int .u8 13, .int .u8 23, .int .u8 21, .int .u8 19, .int .u8 16, .int .u8 7, .int .u8 26, .int .u8 12, .int .u8 18, .int .u8 6, .int .u8 11, .int .u8 5, .int .u8 10, .int .u8 9] t frozen
  | o => o
def put7 : Obj → Obj
  | .cells _ t frozen => .cells #[.int .u8 0, .int .u8 1, .int .u8 56, .int .u8 2, .int .u8 57, .int .u8 49, .int .u8 28, .int .u8 3, .int .u8 61, .int .u8 58, .int .u8 42, .int .u8 50, .int .u8 38, .int .u8 29, .int .u8 17, .int .u8 4, .int .u8 62, .int .u8 47, .int .u8 59, .int .u8 36, .int .u8 45, .int .u8 43, .int .u8 51, .int .u8 22, .int .u8 53, .int .u8 39, .int .u8 33, .int .u8 30, .int .u8 24, .int .u8 18, .int .u8 12, .int .u8 5, .int .u8 63, .int .u8 55, .int .u8 48, .int .u8 27, .int .u8 60, .int .u8 41, .int .u8 37, .int .u8 16, .int .u8 46, .int .u8 35, .int .u8 44, .int .u8 21, .int .u8 52, .int .u8 32, .int .u8 23, .int .u8 11, .int .u8 54, .int .u8 26, .int .u8 40, .int .u8 15, .int .u8 34, .int .u8 20, .int .u8 31, .int .u8 10, .int .u8 25, .int .u8 14, .int .u8 19, .int .u8 9, .int .u8 13, .int .u8 8, .int .u8 7, .int .u8 6] t frozen
  | o => o
def ren : Go.Shelf.Ren := ⟨Tryz.lays274_ren.f, Tryz.lays274_ren.t, fun | 13 => 1 | n => n⟩
def putCase (N : Nat) : Obj → Obj
  | .cells _ t frozen => .cells #[.slice (some ⟨N, 0, none⟩) 336 336] t frozen
  | o => o
/-- a world in which the tables hold what the row's list says -/
noncomputable def laidWorld (os : Os) : World :=
  let N := (World.settled Tryz.prog os).heap.size
  let w0 := World.holding Tryz.prog os ⟨#[.cells Lib.caseCells5 202], #[], []⟩
  { w0 with heap := ((((((w0.heap.modify 0 put0).modify 2 put2).modify 4 put4).modify 5 put5).modify 6 put6).modify 7 put7).modify 1 (putCase N) }
theorem LaidVars_split {P : Program} {w : World} : ∀ {l l' : List (String × DataW Unit)} {ps : List MemPlace}, DataW.LaidVars P w (l ++ l') ps → ∃ p p', DataW.LaidVars P w l p ∧ DataW.LaidVars P w l' p' ∧ ps = p ++ p'
  | [], _, ps, h => ⟨[], ps, rfl, h, rfl⟩
  | (n, d) :: r, l', _, h => by
    obtain ⟨g, t, cs, fuel, p, q, h1, h2, h3, h4, h5, rfl⟩ := h
    obtain ⟨q1, q2, k1, k2, rfl⟩ := LaidVars_split (l := r) (l' := l') h5
    exact ⟨MemPlace.row ⟨g, 0, none⟩ cs.size ++ p ++ q1, q2, ⟨g, t, cs, fuel, p, q1, h1, h2, h3, h4, k1, rfl⟩, k2, by simp [List.append_assoc]⟩
theorem laidMet_turn {P : Program} {w : World} {a b c : List (String × DataW Unit)} (h : laidMet P (a ++ b ++ c) w) : laidMet P (a ++ c ++ b) w := by
  obtain ⟨ps, hv, hn, hm⟩ := h
  obtain ⟨pab, pc, h1, h2, rfl⟩ := LaidVars_split hv
  obtain ⟨pa, pb, h3, h4, rfl⟩ := LaidVars_split h1
  have hp : (pa ++ pc ++ pb).Perm (pa ++ pb ++ pc) := by
    rw [List.append_assoc, List.append_assoc]
    exact List.Perm.append_left pa List.perm_append_comm
  exact ⟨pa ++ pc ++ pb, Go.Proofs.LaidVars_append (Go.Proofs.LaidVars_append h3 h2) h4, hp.nodup_iff.2 hn, fun b off hb => hm b off (hp.mem_iff.1 hb)⟩
theorem laidMet_tail {P : Program} {w : World} {x : String × DataW Unit} {l : List (String × DataW Unit)} (h : laidMet P (x :: l) w) : laidMet P l w := by
  obtain ⟨ps, ⟨g, t, cs, fuel, p, q, h1, h2, h3, h4, h5, rfl⟩, hn, hm⟩ := h
  exact ⟨q, h5, (List.nodup_append.1 hn).2.1, fun b off hb => hm b off (List.mem_append_right _ hb)⟩
theorem laid_list : Rows.convBackRow.laid = [("math/bits.deBruijn32tab", Rows.laid_math_bits_deBruijn32tab), ("math/bits.deBruijn64tab", Rows.laid_math_bits_deBruijn64tab), ("internal/strconv.uint64pow10", Rows.laid_internal_strconv_uint64pow10), ("unicode/utf8.acceptRanges", Rows.laid_unicode_utf8_acceptRanges), ("mezzotint/conv.types", Rows.laid_mezzotint_conv_types)] ++ [("unicode.CaseRanges", Lib.caseData)] ++ [("unicode/utf8.first", Rows.laid_unicode_utf8_first)] := by kernel_rfl
theorem laid_met (os : Os) : laidMet Tryz.prog Rows.convBackRow.laid ((laidWorld os).forCall (fun _ _ => 0) ⟨#[], #[.int .i32 0, .bool false], []⟩).memory := by
  rw [laid_list]
  refine laidMet_turn ?_
  exact Go.Proofs.laidMet_with_case (ρ := ren) { Tryz.lays274 with } (by kernel_rfl) ⟨by kernel_rfl, by kernel_rfl, by kernel_rfl, by kernel_rfl, by kernel_rfl, by kernel_rfl⟩
    (l := [("math/bits.deBruijn32tab", Rows.laid_math_bits_deBruijn32tab), ("math/bits.deBruijn64tab", Rows.laid_math_bits_deBruijn64tab), ("internal/strconv.uint64pow10", Rows.laid_internal_strconv_uint64pow10), ("unicode/utf8.acceptRanges", Rows.laid_unicode_utf8_acceptRanges), ("mezzotint/conv.types", Rows.laid_mezzotint_conv_types), ("unicode/utf8.first", Rows.laid_unicode_utf8_first)])
    10 (by kernel_rfl) (by kernel_rfl) (by kernel_rfl) ((World.settled Tryz.prog default).heap.size) 202 (of_decide_eq_true (by kernel_rfl)) (by kernel_rfl) (by kernel_rfl) (by kernel_rfl)
theorem tab_of {W : World} (h : laidMet Tryz.prog Rows.convBackRow.laid W) : Lib.TabIs Tryz.prog W "internal/strconv.uint64pow10" .u64 Lib.pow10Tab := by
  rw [laid_list] at h
  have h2 : laidMet Tryz.prog (("internal/strconv.uint64pow10", Lib.tabData .u64 Lib.pow10Tab) :: [("unicode/utf8.acceptRanges", Rows.laid_unicode_utf8_acceptRanges), ("mezzotint/conv.types", Rows.laid_mezzotint_conv_types), ("unicode.CaseRanges", Lib.caseData), ("unicode/utf8.first", Rows.laid_unicode_utf8_first)]) W := laidMet_tail (laidMet_tail h)
  exact Lib.tabIs_of_head (g := 2) (t := 167) (e := 82) (n := 20) (by kernel_rfl) (by kernel_rfl) (by kernel_rfl) (by kernel_rfl) (by kernel_rfl) (by kernel_rfl) h2
theorem reads (os : Os) {H : Type} (enc : TypeId × Value → H) : ∃ places, DataW.whole enc Tryz.prog ((laidWorld os).forCall (fun _ _ => 0) ⟨#[], #[.int .i32 0, .bool false], []⟩).memory Tryz.f3.params.toList Rows.convBackSpec.vars false (#[.int .i32 0, .bool false] : Array Value).toList 8 = some ([.lit (.int .i32 0), .lit (.bool false)], [], places) :=
  ⟨[], by kernel_rfl⟩
set_option maxRecDepth 100000 in
theorem lifted (os : Os) (started : os.Started) (H : Type) (enc : TypeId × Value → H) (F : Stop.Interp) :
    ReturnsInHanded {} Tryz.checked os 3 .any ((OpenSpec.ofChange Rows.convBackSpec).preRow enc Tryz.prog Tryz.f3 Rows.convBackRow.domain false Rows.convBackRow.laid) (((OpenSpec.ofChange Rows.convBackSpec).at F).post enc Tryz.prog Tryz.f3 false true false false) := by
  obtain ⟨places, hx⟩ := reads os enc
  refine returnsInHanded_of_row (C := Tryz.checked) (s := OpenSpec.ofChange Rows.convBackSpec) own started (by kernel_rfl) Tryz.func3
    (witness_row_atRef (enc := enc) (C := Tryz.checked) false (laidWorld os) #[.int .i32 0, .bool false] rfl (by kernel_rfl) (by kernel_rfl) (by kernel_rfl)
      (OpenSpec.preRow_of_cond 8 hx (by kernel_rfl) (fun k hk => by cases hk) (by kernel_rfl) (laid_met os))) ?_
  intro W base args ds gs before hval0 hW hcnd u1 hsz0 u2 u3 u4
  have htab := tab_of (show laidMet Tryz.prog Rows.convBackRow.laid W by first | exact u1 | exact u2 | exact u3 | exact u4)
  clear u1 u2 u3 u4
  have hsz : (DataW.weightsEach Tryz.prog (Tryz.f3.params.toList ++ Rows.convBackSpec.plain.varTypes Tryz.prog) (ds ++ gs)).all (· ≤ reachBytes) = true := hsz0
  have hval : ∀ (j : Nat) t v, Tryz.f3.params[j]? = some t → args[j]? = some v → Value.okWide Tryz.prog W .any base t v := hval0
  have hW' := hW
  obtain ⟨p, q, hA0, hV, rfl, hfz, hnd⟩ := hW
  have hA : DataW.TrodAll enc Tryz.prog W 0 (fun _ => true) true Tryz.f3.params.toList args.toList ds p := hA0
  rw [Tryz.params3] at hA hval hsz
  obtain ⟨v0, vs0, d0, ds0, p0, q0, hargs, rfl, rfl, h0, r0⟩ := trodAll_cons hA
  obtain ⟨v1, vs1, d1, ds1, p1, q1, rfl, rfl, rfl, h1, r1⟩ := trodAll_cons r0
  obtain ⟨rfl, rfl, rfl⟩ := trodAll_nil r1
  obtain rfl : args = #[v0, v1] := by cases args; simp_all
  obtain ⟨rfl, rfl⟩ := trodVars_none hV
  obtain ⟨a0, rfl, rfl, rfl, w0⟩ := open_int Tryz.underlying21 (hval 0 21 v0 rfl rfl) h0
  obtain ⟨a1, rfl, rfl, rfl⟩ := open_bool Tryz.underlying4 (hval 1 4 v1 rfl rfl) h1
  clear hA0 hval0 hsz0 hsz
  refine (CV.back_all a0 a1 W w0 htab).mono fun e W' ⟨he, bel⟩ => ?_
  subst he
  exact ⟨_, rfl, _, _, _, [], _, [], hW', trodAll_mk1 (shut_bool Tryz.underlying4 _), (trodAll_cons_mk (shut_int Tryz.underlying21 w0) (trodAll_cons_mk (shut_bool Tryz.underlying4 _) trodAll_mk0)), rfl, bel.frame _, fun h => by cases h⟩
theorem said : Rows.ConvBackSaid :=
  OpenClaim.holds_of_cond 3 Tryz.f3 rfl rfl rfl rfl rfl rfl rfl ⟨rfl, rfl, rfl, rfl, rfl⟩ rfl rfl rfl rfl rfl (by kernel_rfl) Tryz.func3 (by kernel_rfl)
    (of_decide_eq_true (by kernel_rfl)) (by unfold Func.isWrapper; first | (rw [if_pos (by decide +kernel)]; kernel_rfl) | (rw [if_neg (by decide +kernel)]; exact ⟨rfl, rfl⟩))
    (fun os started H enc _ F => by rw [OpenClaim.pre_eq_preRow]; exact lifted os started H enc F)
theorem plain (f : FuncId) (fn : Func) (hf : Tryz.pinned.checked.prog.funcNamed "mezzotint/mezzotintlaw10.ConvBack" = some f) (hfn : Tryz.pinned.checked.prog.funcs[f]? = some fn) :
    false = Tryz.pinned.checked.prog.looks [] ∧ ∀ (j : Nat) t, fn.params[j]? = some t → Tryz.pinned.checked.prog.wantsStandIn t = false := by
  obtain rfl : f = 3 := Option.some.inj ((show Tryz.prog.funcNamed "mezzotint/mezzotintlaw10.ConvBack" = some 3 by kernel_rfl).symm.trans hf) |>.symm
  obtain rfl : fn = Tryz.f3 := (Option.some.inj (Tryz.func3.symm.trans hfn)).symm
  refine ⟨by kernel_rfl, fun j t ht => ?_⟩
  rw [Tryz.params3] at ht
  have hall : ∀ t ∈ (#[21, 4] : Array TypeId), Tryz.prog.wantsStandIn t = false := by
    intro t ht
    simp only [List.mem_toArray, List.mem_cons, List.not_mem_nil, or_false] at ht
    rcases ht with rfl | rfl <;> kernel_rfl
  exact hall t (Array.mem_of_getElem? ht)
theorem card : Rows.ConvBackCardSaid :=
  Claim7.holds_tied_plain_at .later [] _ _ _ _ said (fun _ h => by cases h) (by kernel_rfl) (fun _ h => by cases h) convBack_row_tie rfl ⟨rfl, rfl⟩ (by kernel_rfl) rfl plain (by kernel_rfl)
#print axioms card
end Go.Proofs.YtlbedeiehhgphaaGreatDoor.convBack
namespace Go.Proofs.YtlbedeiehhgphaaGreatDoor
/-- The tied card, under a short name, for the claim. -/
theorem convBack_card : Rows.ConvBackCardSaid := convBack.card
end Go.Proofs.YtlbedeiehhgphaaGreatDoor
