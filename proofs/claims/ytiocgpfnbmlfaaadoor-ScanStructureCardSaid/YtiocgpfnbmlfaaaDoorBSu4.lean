/- scan: the next token. scan.Next: the token at a place, or the error that the reader gave up with. scan.Next in plain words, in the printed form. The scan laws' answers: its walk. scan.Structure over any bytes: the fields between ends of lines that begin with two of these signs, behind them. scan.Structure's contract in the printed form. Made by a program of this session (wip/given.py) out of the translation: Lean functions for the Go functions, with the walks that show it; of a law: its row, at every input, no condition of its own. Made by a program of this session (wip/given.py) out of the translation: Lean functions for the Go functions, with the walks that show it; of a law: its row, at every input, no condition of its own. -/
import Derived.Test.YtiocgpfnbmlfaaaDoorBSu3
import Derived.Test.YtiocgpfnbmlfaaaDoorBSu2
import Derived.Defers
import Derived.Recover
import Derived.RegionTactic
import Derived.BigRegion
import Derived.BigQuiet
import Derived.Lib.SlBytesConst
import Derived.Test.YtiocgpfnbmlfaaaDoorBSu0
import Derived.Shelf.Strings.FieldsFuncGrows
import Derived.Test.YtiocgpfnbmlfaaaDoorProg
import Derived.Below
import Derived.Deep.Draws
import Derived.Deep.AppendLies
import Derived.Maps.AppendAt
import Derived.OwnWalk
import Derived.Laws.BytesArg
import Derived.Laws.MakeOwn
import Derived.Laws.OwnMore
import Derived.Deep.OwnRows
import Derived.Tactics
import Derived.Lib.ConvBytes
import Derived.Laws.Slices
import Derived.WalkKit
import Derived.KernelRfl
import Derived.RowKit3
import Derived.Deep.LoopGhost
import Derived.Deep.QuietTactic
import Derived.WideLaws
import Derived.Deep.DeepCutAuto
import Derived.Deep.CutBlock
import Derived.Deep.RegionHeld3
import Derived.Laws.Rows
import Derived.Lib.AppendStr
import Derived.ArgAppend
import Derived.Laws.IdiomCopy
import Derived.OrdersHeld
import Derived.Laws.BitsLemmas
import Derived.RowKit
import Derived.Test.YtiocgpfnbmlfaaaDoorWWords
import Derived.Test.YtiocgpfnbmlfaaaDoorWLast
import Derived.Test.YtiocgpfnbmlfaaaDoorWTab
import Derived.Test.YtiocgpfnbmlfaaaDoorWFour
import Derived.Test.YtiocgpfnbmlfaaaDoorWQPut
import Derived.Test.YtiocgpfnbmlfaaaDoorWApart
import Derived.Test.YtiocgpfnbmlfaaaDoorWArr
import Derived.Test.YtiocgpfnbmlfaaaDoorWZeros
import Derived.Test.YtiocgpfnbmlfaaaDoorWFoot
import Derived.Test.YtiocgpfnbmlfaaaDoorWKept
import Derived.Test.YtiocgpfnbmlfaaaDoorWShare
import Derived.Test.YtiocgpfnbmlfaaaDoorWN
import Derived.Test.YtiocgpfnbmlfaaaDoorWFootNe
import Derived.Test.YtiocgpfnbmlfaaaDoorWAt
import Derived.Test.YtiocgpfnbmlfaaaDoorWEqStruct
import Derived.Test.YtiocgpfnbmlfaaaDoorWRepsOne
import Derived.Test.YtiocgpfnbmlfaaaDoorWInv
import Derived.Test.YtiocgpfnbmlfaaaDoorWInvWords
import Derived.Test.YtiocgpfnbmlfaaaDoorWGuard
import Derived.Test.YtiocgpfnbmlfaaaDoorWNEv
import Derived.Test.YtiocgpfnbmlfaaaDoorWMore

/-! ## SH -/
namespace Go.Proofs.YtiocgpfnbmlfaaaDoor.SC
open Go Go.RowKit Go.Proofs.YtiocgpfnbmlfaaaDoor Go.Proofs.YtiocgpfnbmlfaaaDoor.PS1 Go.Proofs.YtiocgpfnbmlfaaaDoor.QD Go.Proofs.YtiocgpfnbmlfaaaDoorW.PrintWords Go.Proofs.YtiocgpfnbmlfaaaDoorW.PrintLast

/-- a word: a number, or a name -/
def wordL (x s : List UInt8) : TkR :=
  if (tokL x).2.2.2 = 0 then (if (tokL x).2.2.1 = true then .inr ((tokL x).1, (tokL x).2.1, [], s) else nameL 3 x s) else .inl (tokL x).2.2.2
/-- behind blanks and comments -/
def tokenC (c : UInt8) (t : List UInt8) : TkR :=
  if c = 40 then strL (rnd 1 t) else if c = 41 then .inl 14 else if c = 60 ∨ c = 62 then angleL c t else if c = 123 then .inr (7, 0, [], t) else if c = 125 then .inr (8, 0, [], t)
  else if c = 91 ∨ c = 93 then .inr (3, 0, [c], t) else if c = 47 then slashL t else wordL ((c :: t).takeWhile regB) ((c :: t).dropWhile regB)
def tokenL (l : List UInt8) : TkR :=
  match skipL false l with
  | [] => .inr (0, 0, [], [])
  | c :: t => tokenC c t

theorem tkQ_cases {r : TkR} {w0 w w' : World} {g cap : Nat} {A : Option Addr} {B : List UInt8} {e : Ending} (h : TkQ r w0 w g A cap B e w') :
    (∃ er, r = .inl er ∧ e = .panicked [{ v := .iface 28 (.int .i64 er), recovered := false }] ∧ Kb g w.heap.size w w') ∨
    (∃ k n o s, r = .inr (k, n, o, s) ∧ e = .returned (.agg #[.int .i64 k, .int .i64 n, .string (S o)]) ∧ At w0 w' g A cap B s ∧ Kb g w.heap.size w w') := by
  match r, h with
  | .inl er, h => exact .inl ⟨er, rfl, h.1, h.2⟩
  | .inr (k, n, o, s), h => exact .inr ⟨k, n, o, s, rfl, h⟩

set_option maxHeartbeats 4000000 in
set_option maxRecDepth 100000 in
theorem token_nil {w0 w : World} {g cap : Nat} {A : Option Addr} {B l : List UInt8} (h : At w0 w g A cap B l) (hl : skipL false l = []) :
    Calls Tryd.prog 49 #[.pointer (some ⟨g, 0, none⟩)] w (TkQ (.inr (0, 0, [], [])) w0 w g A cap B) := by
  have HP := Lib.hid (Tp.start h)
  clear h
  go_enter Tryd.func49, Tryd.ntmps49
  go_wp2_with fail
  refine (skip_any HP.out.at_).mono ?_
  rintro e w1 ⟨rfl, hA, hK⟩
  rw [hl] at hA
  replace HP := Lib.hid (HP.out.read hA hK)
  have HL := Lib.hid hl
  clear hA hK hl
  go_wp2_with fail
  refine (more_nil HP.out.at_).mono ?_
  rintro e w2 ⟨rfl, m, hm⟩
  replace HP := Lib.hid (show Tp w0 w w2 g A cap B [] by rw [hm]; exact HP.out.read (HP.out.at_.drewN m) (Kb.of_below (drewN_below _ m)))
  clear hm
  obtain ⟨⟨c0, c1, c2⟩, f0, f1, f2⟩ := HP.out.blk.facts
  have hlt := HP.out.blk.lt
  go_wp2_with fail
  refine bodyPost_ret (v := .agg #[.int .i64 0, .int .i64 0, .string (S [])]) (by simp [results, Tryd.results49, go_sem, c0, c1, c2, S]) rfl ?_
  exact TkQ.ok rfl rfl HP.out.out

set_option maxHeartbeats 4000000 in
set_option maxRecDepth 100000 in
theorem token_40 {w0 w : World} {g cap : Nat} {A : Option Addr} {B l t : List UInt8} (h : At w0 w g A cap B l) (hl : skipL false l = 40 :: t) :
    Calls Tryd.prog 49 #[.pointer (some ⟨g, 0, none⟩)] w (TkQ (strL (rnd 1 t)) w0 w g A cap B) := by
  have HP := Lib.hid (Tp.start h)
  clear h
  go_enter Tryd.func49, Tryd.ntmps49
  go_wp2_with fail
  refine (skip_any HP.out.at_).mono ?_
  rintro e w1 ⟨rfl, hA, hK⟩
  rw [hl] at hA
  replace HP := Lib.hid (HP.out.read hA hK)
  have HL := Lib.hid hl
  clear hA hK hl
  go_wp2_with fail
  refine (more_cons HP.out.at_).mono ?_
  rintro e w2 ⟨rfl, m, hm⟩
  replace HP := Lib.hid (show Tp w0 w w2 g A cap B (40 :: t) by rw [hm]; exact HP.out.read (HP.out.at_.drewN m) (Kb.of_below (drewN_below _ m)))
  clear hm
  obtain ⟨n, p, ad, rfl, hn, hlt, hsm, hp1, c0, c1, f0, f1, hx, hne⟩ := HP.out.at_.head
  have HPP := Lib.hid hp1
  have g1 : (0 : Int) ≤ (p : Int) := by omega
  have g2 : (p : Int) < (n : Int) := by omega
  have g3 : (n : Int) ≤ 140737488351232 := by omega
  have hx2 : w2.cell? (ad.add p) = some (.int .u8 40) := hx
  clear hx
  clear hn hp1 hlt hsm
  go_wp2_with fail
  go_quiet (fail)
  have HA2 := Lib.hid (show At w0 ((w2.drewN nq).setCell ⟨g, 1, none⟩ (.int .i64 ((p : Int) + 1))) g (some ad) cap B t from (HP.out.at_.drewN nq).set _ (by rw [HPP.out]; push_cast; rfl))
  have HP3 := Lib.hid (show Tp w0 w ((w2.drewN nq).setCell ⟨g, 1, none⟩ (.int .i64 ((p : Int) + 1))) g (some ad) cap B t from HP.out.read HA2.out ((Kb.of_below (drewN_below w2 nq)).trans (Kb.set _ _ _ _ _)))
  go_wp2_with fail
  refine (Calls.mono (round_any HA2.out) (fun e w h => h.tk)).mono ?_
  rintro e w3 hq
  rcases tkQ_cases hq with ⟨er, hr, rfl, hk⟩ | ⟨k, n2, o, s, hr, rfl, ha, hk⟩
  · have HK := Lib.hid (HP3.out.kb.then_ HP3.out.size hk)
    have HR := Lib.hid hr
    clear hr hk hq
    go_wp2_with fail
    exact ⟨rfl, TkQ.err HR.out ⟨rfl, HK.out⟩⟩
  · have HP4 := Lib.hid (HP3.out.read ha hk)
    have HR := Lib.hid hr
    clear hr ha hk hq c0 c1 f0 f1 hx2
    obtain ⟨⟨c0, c1, c2⟩, f0, f1, f2⟩ := HP4.out.blk.facts
    have hlt := HP4.out.blk.lt
    go_wp2_with fail
    refine bodyPost_ret (v := .agg #[.int .i64 k, .int .i64 n2, .string (S o)]) (by simp [results, Tryd.results49, go_sem, c0, c1, c2]) rfl ?_
    exact TkQ.ok HR.out rfl HP4.out.out

set_option maxHeartbeats 4000000 in
set_option maxRecDepth 100000 in
theorem token_41 {w0 w : World} {g cap : Nat} {A : Option Addr} {B l t : List UInt8} (h : At w0 w g A cap B l) (hl : skipL false l = 41 :: t) :
    Calls Tryd.prog 49 #[.pointer (some ⟨g, 0, none⟩)] w (TkQ (.inl 14) w0 w g A cap B) := by
  have HP := Lib.hid (Tp.start h)
  clear h
  go_enter Tryd.func49, Tryd.ntmps49
  go_wp2_with fail
  refine (skip_any HP.out.at_).mono ?_
  rintro e w1 ⟨rfl, hA, hK⟩
  rw [hl] at hA
  replace HP := Lib.hid (HP.out.read hA hK)
  have HL := Lib.hid hl
  clear hA hK hl
  go_wp2_with fail
  refine (more_cons HP.out.at_).mono ?_
  rintro e w2 ⟨rfl, m, hm⟩
  replace HP := Lib.hid (show Tp w0 w w2 g A cap B (41 :: t) by rw [hm]; exact HP.out.read (HP.out.at_.drewN m) (Kb.of_below (drewN_below _ m)))
  clear hm
  obtain ⟨n, p, ad, rfl, hn, hlt, hsm, hp1, c0, c1, f0, f1, hx, hne⟩ := HP.out.at_.head
  have HPP := Lib.hid hp1
  have g1 : (0 : Int) ≤ (p : Int) := by omega
  have g2 : (p : Int) < (n : Int) := by omega
  have g3 : (n : Int) ≤ 140737488351232 := by omega
  have hx2 : w2.cell? (ad.add p) = some (.int .u8 41) := hx
  clear hx
  clear hn hp1 hlt hsm
  go_wp2_with fail
  go_quiet (fail)
  go_wp2_with fail
  exact ⟨rfl, TkQ.err rfl ⟨rfl, HP.out.kb.belows (drewN_below _ _) HP.out.size⟩⟩

set_option maxHeartbeats 4000000 in
set_option maxRecDepth 100000 in
theorem token_60 {w0 w : World} {g cap : Nat} {A : Option Addr} {B l t : List UInt8} (h : At w0 w g A cap B l) (hl : skipL false l = 60 :: t) :
    Calls Tryd.prog 49 #[.pointer (some ⟨g, 0, none⟩)] w (TkQ (angleL 60 t) w0 w g A cap B) := by
  have HP := Lib.hid (Tp.start h)
  clear h
  go_enter Tryd.func49, Tryd.ntmps49
  go_wp2_with fail
  refine (skip_any HP.out.at_).mono ?_
  rintro e w1 ⟨rfl, hA, hK⟩
  rw [hl] at hA
  replace HP := Lib.hid (HP.out.read hA hK)
  have HL := Lib.hid hl
  clear hA hK hl
  go_wp2_with fail
  refine (more_cons HP.out.at_).mono ?_
  rintro e w2 ⟨rfl, m, hm⟩
  replace HP := Lib.hid (show Tp w0 w w2 g A cap B (60 :: t) by rw [hm]; exact HP.out.read (HP.out.at_.drewN m) (Kb.of_below (drewN_below _ m)))
  clear hm
  obtain ⟨n, p, ad, rfl, hn, hlt, hsm, hp1, c0, c1, f0, f1, hx, hne⟩ := HP.out.at_.head
  have HPP := Lib.hid hp1
  have g1 : (0 : Int) ≤ (p : Int) := by omega
  have g2 : (p : Int) < (n : Int) := by omega
  have g3 : (n : Int) ≤ 140737488351232 := by omega
  have hx2 : w2.cell? (ad.add p) = some (.int .u8 60) := hx
  clear hx
  clear hn hp1 hlt hsm
  go_wp2_with fail
  go_quiet (fail)
  have HA2 := Lib.hid (show At w0 ((w2.drewN nq).setCell ⟨g, 1, none⟩ (.int .i64 ((p : Int) + 1))) g (some ad) cap B t from (HP.out.at_.drewN nq).set _ (by rw [HPP.out]; push_cast; rfl))
  have HP3 := Lib.hid (show Tp w0 w ((w2.drewN nq).setCell ⟨g, 1, none⟩ (.int .i64 ((p : Int) + 1))) g (some ad) cap B t from HP.out.read HA2.out ((Kb.of_below (drewN_below w2 nq)).trans (Kb.set _ _ _ _ _)))
  go_wp2_with fail
  refine (angle_60 HA2.out).mono ?_
  rintro e w3 hq
  rcases tkQ_cases hq with ⟨er, hr, rfl, hk⟩ | ⟨k, n2, o, s, hr, rfl, ha, hk⟩
  · have HK := Lib.hid (HP3.out.kb.then_ HP3.out.size hk)
    have HR := Lib.hid hr
    clear hr hk hq
    go_wp2_with fail
    exact ⟨rfl, TkQ.err HR.out ⟨rfl, HK.out⟩⟩
  · have HP4 := Lib.hid (HP3.out.read ha hk)
    have HR := Lib.hid hr
    clear hr ha hk hq c0 c1 f0 f1 hx2
    obtain ⟨⟨c0, c1, c2⟩, f0, f1, f2⟩ := HP4.out.blk.facts
    have hlt := HP4.out.blk.lt
    go_wp2_with fail
    refine bodyPost_ret (v := .agg #[.int .i64 k, .int .i64 n2, .string (S o)]) (by simp [results, Tryd.results49, go_sem, c0, c1, c2]) rfl ?_
    exact TkQ.ok HR.out rfl HP4.out.out

set_option maxHeartbeats 4000000 in
set_option maxRecDepth 100000 in
theorem token_62 {w0 w : World} {g cap : Nat} {A : Option Addr} {B l t : List UInt8} (h : At w0 w g A cap B l) (hl : skipL false l = 62 :: t) :
    Calls Tryd.prog 49 #[.pointer (some ⟨g, 0, none⟩)] w (TkQ (angleL 62 t) w0 w g A cap B) := by
  have HP := Lib.hid (Tp.start h)
  clear h
  go_enter Tryd.func49, Tryd.ntmps49
  go_wp2_with fail
  refine (skip_any HP.out.at_).mono ?_
  rintro e w1 ⟨rfl, hA, hK⟩
  rw [hl] at hA
  replace HP := Lib.hid (HP.out.read hA hK)
  have HL := Lib.hid hl
  clear hA hK hl
  go_wp2_with fail
  refine (more_cons HP.out.at_).mono ?_
  rintro e w2 ⟨rfl, m, hm⟩
  replace HP := Lib.hid (show Tp w0 w w2 g A cap B (62 :: t) by rw [hm]; exact HP.out.read (HP.out.at_.drewN m) (Kb.of_below (drewN_below _ m)))
  clear hm
  obtain ⟨n, p, ad, rfl, hn, hlt, hsm, hp1, c0, c1, f0, f1, hx, hne⟩ := HP.out.at_.head
  have HPP := Lib.hid hp1
  have g1 : (0 : Int) ≤ (p : Int) := by omega
  have g2 : (p : Int) < (n : Int) := by omega
  have g3 : (n : Int) ≤ 140737488351232 := by omega
  have hx2 : w2.cell? (ad.add p) = some (.int .u8 62) := hx
  clear hx
  clear hn hp1 hlt hsm
  go_wp2_with fail
  go_quiet (fail)
  have HA2 := Lib.hid (show At w0 ((w2.drewN nq).setCell ⟨g, 1, none⟩ (.int .i64 ((p : Int) + 1))) g (some ad) cap B t from (HP.out.at_.drewN nq).set _ (by rw [HPP.out]; push_cast; rfl))
  have HP3 := Lib.hid (show Tp w0 w ((w2.drewN nq).setCell ⟨g, 1, none⟩ (.int .i64 ((p : Int) + 1))) g (some ad) cap B t from HP.out.read HA2.out ((Kb.of_below (drewN_below w2 nq)).trans (Kb.set _ _ _ _ _)))
  go_wp2_with fail
  refine (angle_62 HA2.out).mono ?_
  rintro e w3 hq
  rcases tkQ_cases hq with ⟨er, hr, rfl, hk⟩ | ⟨k, n2, o, s, hr, rfl, ha, hk⟩
  · have HK := Lib.hid (HP3.out.kb.then_ HP3.out.size hk)
    have HR := Lib.hid hr
    clear hr hk hq
    go_wp2_with fail
    exact ⟨rfl, TkQ.err HR.out ⟨rfl, HK.out⟩⟩
  · have HP4 := Lib.hid (HP3.out.read ha hk)
    have HR := Lib.hid hr
    clear hr ha hk hq c0 c1 f0 f1 hx2
    obtain ⟨⟨c0, c1, c2⟩, f0, f1, f2⟩ := HP4.out.blk.facts
    have hlt := HP4.out.blk.lt
    go_wp2_with fail
    refine bodyPost_ret (v := .agg #[.int .i64 k, .int .i64 n2, .string (S o)]) (by simp [results, Tryd.results49, go_sem, c0, c1, c2]) rfl ?_
    exact TkQ.ok HR.out rfl HP4.out.out

set_option maxHeartbeats 4000000 in
set_option maxRecDepth 100000 in
theorem token_47 {w0 w : World} {g cap : Nat} {A : Option Addr} {B l t : List UInt8} (h : At w0 w g A cap B l) (hl : skipL false l = 47 :: t) :
    Calls Tryd.prog 49 #[.pointer (some ⟨g, 0, none⟩)] w (TkQ (slashL t) w0 w g A cap B) := by
  have HP := Lib.hid (Tp.start h)
  clear h
  go_enter Tryd.func49, Tryd.ntmps49
  go_wp2_with fail
  refine (skip_any HP.out.at_).mono ?_
  rintro e w1 ⟨rfl, hA, hK⟩
  rw [hl] at hA
  replace HP := Lib.hid (HP.out.read hA hK)
  have HL := Lib.hid hl
  clear hA hK hl
  go_wp2_with fail
  refine (more_cons HP.out.at_).mono ?_
  rintro e w2 ⟨rfl, m, hm⟩
  replace HP := Lib.hid (show Tp w0 w w2 g A cap B (47 :: t) by rw [hm]; exact HP.out.read (HP.out.at_.drewN m) (Kb.of_below (drewN_below _ m)))
  clear hm
  obtain ⟨n, p, ad, rfl, hn, hlt, hsm, hp1, c0, c1, f0, f1, hx, hne⟩ := HP.out.at_.head
  have HPP := Lib.hid hp1
  have g1 : (0 : Int) ≤ (p : Int) := by omega
  have g2 : (p : Int) < (n : Int) := by omega
  have g3 : (n : Int) ≤ 140737488351232 := by omega
  have hx2 : w2.cell? (ad.add p) = some (.int .u8 47) := hx
  clear hx
  clear hn hp1 hlt hsm
  go_wp2_with fail
  go_quiet (fail)
  have HA2 := Lib.hid (show At w0 ((w2.drewN nq).setCell ⟨g, 1, none⟩ (.int .i64 ((p : Int) + 1))) g (some ad) cap B t from (HP.out.at_.drewN nq).set _ (by rw [HPP.out]; push_cast; rfl))
  have HP3 := Lib.hid (show Tp w0 w ((w2.drewN nq).setCell ⟨g, 1, none⟩ (.int .i64 ((p : Int) + 1))) g (some ad) cap B t from HP.out.read HA2.out ((Kb.of_below (drewN_below w2 nq)).trans (Kb.set _ _ _ _ _)))
  go_wp2_with fail
  refine (slash_any HA2.out).mono ?_
  rintro e w3 hq
  rcases tkQ_cases hq with ⟨er, hr, rfl, hk⟩ | ⟨k, n2, o, s, hr, rfl, ha, hk⟩
  · have HK := Lib.hid (HP3.out.kb.then_ HP3.out.size hk)
    have HR := Lib.hid hr
    clear hr hk hq
    go_wp2_with fail
    exact ⟨rfl, TkQ.err HR.out ⟨rfl, HK.out⟩⟩
  · have HP4 := Lib.hid (HP3.out.read ha hk)
    have HR := Lib.hid hr
    clear hr ha hk hq c0 c1 f0 f1 hx2
    obtain ⟨⟨c0, c1, c2⟩, f0, f1, f2⟩ := HP4.out.blk.facts
    have hlt := HP4.out.blk.lt
    go_wp2_with fail
    refine bodyPost_ret (v := .agg #[.int .i64 k, .int .i64 n2, .string (S o)]) (by simp [results, Tryd.results49, go_sem, c0, c1, c2]) rfl ?_
    exact TkQ.ok HR.out rfl HP4.out.out

set_option maxHeartbeats 4000000 in
set_option maxRecDepth 100000 in
theorem token_123 {w0 w : World} {g cap : Nat} {A : Option Addr} {B l t : List UInt8} (h : At w0 w g A cap B l) (hl : skipL false l = 123 :: t) :
    Calls Tryd.prog 49 #[.pointer (some ⟨g, 0, none⟩)] w (TkQ (.inr (7, 0, [], t)) w0 w g A cap B) := by
  have HP := Lib.hid (Tp.start h)
  clear h
  go_enter Tryd.func49, Tryd.ntmps49
  go_wp2_with fail
  refine (skip_any HP.out.at_).mono ?_
  rintro e w1 ⟨rfl, hA, hK⟩
  rw [hl] at hA
  replace HP := Lib.hid (HP.out.read hA hK)
  have HL := Lib.hid hl
  clear hA hK hl
  go_wp2_with fail
  refine (more_cons HP.out.at_).mono ?_
  rintro e w2 ⟨rfl, m, hm⟩
  replace HP := Lib.hid (show Tp w0 w w2 g A cap B (123 :: t) by rw [hm]; exact HP.out.read (HP.out.at_.drewN m) (Kb.of_below (drewN_below _ m)))
  clear hm
  obtain ⟨n, p, ad, rfl, hn, hlt, hsm, hp1, c0, c1, f0, f1, hx, hne⟩ := HP.out.at_.head
  have HPP := Lib.hid hp1
  have g1 : (0 : Int) ≤ (p : Int) := by omega
  have g2 : (p : Int) < (n : Int) := by omega
  have g3 : (n : Int) ≤ 140737488351232 := by omega
  have hx2 : w2.cell? (ad.add p) = some (.int .u8 123) := hx
  clear hx
  clear hn hp1 hlt hsm
  go_wp2_with fail
  go_quiet (fail)
  have HA2 := Lib.hid (show At w0 ((w2.drewN nq).setCell ⟨g, 1, none⟩ (.int .i64 ((p : Int) + 1))) g (some ad) cap B t from (HP.out.at_.drewN nq).set _ (by rw [HPP.out]; push_cast; rfl))
  have HP3 := Lib.hid (show Tp w0 w ((w2.drewN nq).setCell ⟨g, 1, none⟩ (.int .i64 ((p : Int) + 1))) g (some ad) cap B t from HP.out.read HA2.out ((Kb.of_below (drewN_below w2 nq)).trans (Kb.set _ _ _ _ _)))
  clear hx2
  obtain ⟨⟨k0, k1, k2⟩, l0, l1, l2⟩ := HP3.out.blk.facts
  have hlt := HP3.out.blk.lt
  go_wp2_with fail
  refine bodyPost_ret (v := .agg #[.int .i64 7, .int .i64 0, .string (S [])]) (by simp [results, Tryd.results49, go_sem, k0, k1, k2, S]) rfl ?_
  exact TkQ.ok rfl rfl HP3.out.out

set_option maxHeartbeats 4000000 in
set_option maxRecDepth 100000 in
theorem token_125 {w0 w : World} {g cap : Nat} {A : Option Addr} {B l t : List UInt8} (h : At w0 w g A cap B l) (hl : skipL false l = 125 :: t) :
    Calls Tryd.prog 49 #[.pointer (some ⟨g, 0, none⟩)] w (TkQ (.inr (8, 0, [], t)) w0 w g A cap B) := by
  have HP := Lib.hid (Tp.start h)
  clear h
  go_enter Tryd.func49, Tryd.ntmps49
  go_wp2_with fail
  refine (skip_any HP.out.at_).mono ?_
  rintro e w1 ⟨rfl, hA, hK⟩
  rw [hl] at hA
  replace HP := Lib.hid (HP.out.read hA hK)
  have HL := Lib.hid hl
  clear hA hK hl
  go_wp2_with fail
  refine (more_cons HP.out.at_).mono ?_
  rintro e w2 ⟨rfl, m, hm⟩
  replace HP := Lib.hid (show Tp w0 w w2 g A cap B (125 :: t) by rw [hm]; exact HP.out.read (HP.out.at_.drewN m) (Kb.of_below (drewN_below _ m)))
  clear hm
  obtain ⟨n, p, ad, rfl, hn, hlt, hsm, hp1, c0, c1, f0, f1, hx, hne⟩ := HP.out.at_.head
  have HPP := Lib.hid hp1
  have g1 : (0 : Int) ≤ (p : Int) := by omega
  have g2 : (p : Int) < (n : Int) := by omega
  have g3 : (n : Int) ≤ 140737488351232 := by omega
  have hx2 : w2.cell? (ad.add p) = some (.int .u8 125) := hx
  clear hx
  clear hn hp1 hlt hsm
  go_wp2_with fail
  go_quiet (fail)
  have HA2 := Lib.hid (show At w0 ((w2.drewN nq).setCell ⟨g, 1, none⟩ (.int .i64 ((p : Int) + 1))) g (some ad) cap B t from (HP.out.at_.drewN nq).set _ (by rw [HPP.out]; push_cast; rfl))
  have HP3 := Lib.hid (show Tp w0 w ((w2.drewN nq).setCell ⟨g, 1, none⟩ (.int .i64 ((p : Int) + 1))) g (some ad) cap B t from HP.out.read HA2.out ((Kb.of_below (drewN_below w2 nq)).trans (Kb.set _ _ _ _ _)))
  clear hx2
  obtain ⟨⟨k0, k1, k2⟩, l0, l1, l2⟩ := HP3.out.blk.facts
  have hlt := HP3.out.blk.lt
  go_wp2_with fail
  refine bodyPost_ret (v := .agg #[.int .i64 8, .int .i64 0, .string (S [])]) (by simp [results, Tryd.results49, go_sem, k0, k1, k2, S]) rfl ?_
  exact TkQ.ok rfl rfl HP3.out.out

set_option maxHeartbeats 4000000 in
set_option maxRecDepth 100000 in
theorem token_91 {w0 w : World} {g cap : Nat} {A : Option Addr} {B l t : List UInt8} (h : At w0 w g A cap B l) (hl : skipL false l = 91 :: t) :
    Calls Tryd.prog 49 #[.pointer (some ⟨g, 0, none⟩)] w (TkQ (.inr (3, 0, [91], t)) w0 w g A cap B) := by
  have HP := Lib.hid (Tp.start h)
  clear h
  go_enter Tryd.func49, Tryd.ntmps49
  go_wp2_with fail
  refine (skip_any HP.out.at_).mono ?_
  rintro e w1 ⟨rfl, hA, hK⟩
  rw [hl] at hA
  replace HP := Lib.hid (HP.out.read hA hK)
  have HL := Lib.hid hl
  clear hA hK hl
  go_wp2_with fail
  refine (more_cons HP.out.at_).mono ?_
  rintro e w2 ⟨rfl, m, hm⟩
  replace HP := Lib.hid (show Tp w0 w w2 g A cap B (91 :: t) by rw [hm]; exact HP.out.read (HP.out.at_.drewN m) (Kb.of_below (drewN_below _ m)))
  clear hm
  obtain ⟨n, p, ad, rfl, hn, hlt, hsm, hp1, c0, c1, f0, f1, hx, hne⟩ := HP.out.at_.head
  have HPP := Lib.hid hp1
  have g1 : (0 : Int) ≤ (p : Int) := by omega
  have g2 : (p : Int) < (n : Int) := by omega
  have g3 : (n : Int) ≤ 140737488351232 := by omega
  have hx2 : w2.cell? (ad.add p) = some (.int .u8 91) := hx
  clear hx
  clear hn hp1 hlt hsm
  go_wp2_with fail
  go_quiet (fail)
  have HA2 := Lib.hid (show At w0 ((w2.drewN nq).setCell ⟨g, 1, none⟩ (.int .i64 ((p : Int) + 1))) g (some ad) cap B t from (HP.out.at_.drewN nq).set _ (by rw [HPP.out]; push_cast; rfl))
  have HP3 := Lib.hid (show Tp w0 w ((w2.drewN nq).setCell ⟨g, 1, none⟩ (.int .i64 ((p : Int) + 1))) g (some ad) cap B t from HP.out.read HA2.out ((Kb.of_below (drewN_below w2 nq)).trans (Kb.set _ _ _ _ _)))
  clear hx2
  obtain ⟨⟨k0, k1, k2⟩, l0, l1, l2⟩ := HP3.out.blk.facts
  have hlt := HP3.out.blk.lt
  have hsz : ((w2.drewN nq).setCell ⟨g, 1, none⟩ (.int .i64 ((p : Int) + 1))).heap.size = w2.heap.size := by rw [setCell_size, drewN_heap]
  have hcv : (convert 32 9 (.slice (some ⟨w2.heap.size, 0, none⟩) 1 1)).run Tryd.prog (((w2.drewN nq).setCell ⟨g, 1, none⟩ (.int .i64 ((p : Int) + 1))).alloc (.cells #[.int .u8 91] 5)) = .ok (.string (S [91])) (((w2.drewN nq).setCell ⟨g, 1, none⟩ (.int .i64 ((p : Int) + 1))).alloc (.cells #[.int .u8 91] 5)) := by
    rw [← hsz]
    exact str_fresh _ [91] (by decide)
  have hlt2 : w.heap.size < w2.heap.size := by rw [← hsz]; exact hlt
  clear hsz
  go_wp2_with fail
  refine bodyPost_ret (v := .agg #[.int .i64 3, .int .i64 0, .string (S [91])]) (by simp [results, Tryd.results49, go_sem, k0, k1, k2, hlt2]) rfl ?_
  exact TkQ.ok rfl rfl (HP3.out.outA _)

set_option maxHeartbeats 4000000 in
set_option maxRecDepth 100000 in
theorem token_93 {w0 w : World} {g cap : Nat} {A : Option Addr} {B l t : List UInt8} (h : At w0 w g A cap B l) (hl : skipL false l = 93 :: t) :
    Calls Tryd.prog 49 #[.pointer (some ⟨g, 0, none⟩)] w (TkQ (.inr (3, 0, [93], t)) w0 w g A cap B) := by
  have HP := Lib.hid (Tp.start h)
  clear h
  go_enter Tryd.func49, Tryd.ntmps49
  go_wp2_with fail
  refine (skip_any HP.out.at_).mono ?_
  rintro e w1 ⟨rfl, hA, hK⟩
  rw [hl] at hA
  replace HP := Lib.hid (HP.out.read hA hK)
  have HL := Lib.hid hl
  clear hA hK hl
  go_wp2_with fail
  refine (more_cons HP.out.at_).mono ?_
  rintro e w2 ⟨rfl, m, hm⟩
  replace HP := Lib.hid (show Tp w0 w w2 g A cap B (93 :: t) by rw [hm]; exact HP.out.read (HP.out.at_.drewN m) (Kb.of_below (drewN_below _ m)))
  clear hm
  obtain ⟨n, p, ad, rfl, hn, hlt, hsm, hp1, c0, c1, f0, f1, hx, hne⟩ := HP.out.at_.head
  have HPP := Lib.hid hp1
  have g1 : (0 : Int) ≤ (p : Int) := by omega
  have g2 : (p : Int) < (n : Int) := by omega
  have g3 : (n : Int) ≤ 140737488351232 := by omega
  have hx2 : w2.cell? (ad.add p) = some (.int .u8 93) := hx
  clear hx
  clear hn hp1 hlt hsm
  go_wp2_with fail
  go_quiet (fail)
  have HA2 := Lib.hid (show At w0 ((w2.drewN nq).setCell ⟨g, 1, none⟩ (.int .i64 ((p : Int) + 1))) g (some ad) cap B t from (HP.out.at_.drewN nq).set _ (by rw [HPP.out]; push_cast; rfl))
  have HP3 := Lib.hid (show Tp w0 w ((w2.drewN nq).setCell ⟨g, 1, none⟩ (.int .i64 ((p : Int) + 1))) g (some ad) cap B t from HP.out.read HA2.out ((Kb.of_below (drewN_below w2 nq)).trans (Kb.set _ _ _ _ _)))
  clear hx2
  obtain ⟨⟨k0, k1, k2⟩, l0, l1, l2⟩ := HP3.out.blk.facts
  have hlt := HP3.out.blk.lt
  have hsz : ((w2.drewN nq).setCell ⟨g, 1, none⟩ (.int .i64 ((p : Int) + 1))).heap.size = w2.heap.size := by rw [setCell_size, drewN_heap]
  have hcv : (convert 32 9 (.slice (some ⟨w2.heap.size, 0, none⟩) 1 1)).run Tryd.prog (((w2.drewN nq).setCell ⟨g, 1, none⟩ (.int .i64 ((p : Int) + 1))).alloc (.cells #[.int .u8 93] 5)) = .ok (.string (S [93])) (((w2.drewN nq).setCell ⟨g, 1, none⟩ (.int .i64 ((p : Int) + 1))).alloc (.cells #[.int .u8 93] 5)) := by
    rw [← hsz]
    exact str_fresh _ [93] (by decide)
  have hlt2 : w.heap.size < w2.heap.size := by rw [← hsz]; exact hlt
  clear hsz
  go_wp2_with fail
  refine bodyPost_ret (v := .agg #[.int .i64 3, .int .i64 0, .string (S [93])]) (by simp [results, Tryd.results49, go_sem, k0, k1, k2, hlt2]) rfl ?_
  exact TkQ.ok rfl rfl (HP3.out.outA _)

set_option maxHeartbeats 4000000 in
set_option maxRecDepth 100000 in
theorem token_word {w0 w : World} {g cap : Nat} {A : Option Addr} {B l t : List UInt8} {c : UInt8} (h : At w0 w g A cap B l) (hl : skipL false l = c :: t) (m1 : ¬ c = 40) (m2 : ¬ c = 41) (m3 : ¬ c = 60) (m4 : ¬ c = 62) (m5 : ¬ c = 123) (m6 : ¬ c = 125) (m7 : ¬ c = 91) (m8 : ¬ c = 93) (m9 : ¬ c = 47) (x s : List UInt8) (ex : (c :: t).takeWhile regB = x) (es : (c :: t).dropWhile regB = s) :
    Calls Tryd.prog 49 #[.pointer (some ⟨g, 0, none⟩)] w (TkQ (wordL x s) w0 w g A cap B) := by
  have n1 := ne_of c 40 (by omega) m1
  have n2 := ne_of c 41 (by omega) m2
  have n3 := ne_of c 60 (by omega) m3
  have n4 := ne_of c 62 (by omega) m4
  have n5 := ne_of c 123 (by omega) m5
  have n6 := ne_of c 125 (by omega) m6
  have n7 := ne_of c 91 (by omega) m7
  have n8 := ne_of c 93 (by omega) m8
  have n9 := ne_of c 47 (by omega) m9
  have EX := Lib.hid ex
  have ES := Lib.hid es
  clear m1 m2 m3 m4 m5 m6 m7 m8 m9 ex es
  have HP := Lib.hid (Tp.start h)
  clear h
  go_enter Tryd.func49, Tryd.ntmps49
  go_wp2_with fail
  refine (skip_any HP.out.at_).mono ?_
  rintro e w1 ⟨rfl, hA, hK⟩
  rw [hl] at hA
  replace HP := Lib.hid (HP.out.read hA hK)
  have HL := Lib.hid hl
  clear hA hK hl
  go_wp2_with fail
  refine (more_cons HP.out.at_).mono ?_
  rintro e w2 ⟨rfl, m, hm⟩
  replace HP := Lib.hid (show Tp w0 w w2 g A cap B (c :: t) by rw [hm]; exact HP.out.read (HP.out.at_.drewN m) (Kb.of_below (drewN_below _ m)))
  clear hm
  obtain ⟨n, p, ad, rfl, hn, hlt, hsm, hp1, c0, c1, f0, f1, hx, hne⟩ := HP.out.at_.head
  have HPP := Lib.hid hp1
  have g1 : (0 : Int) ≤ (p : Int) := by omega
  have g2 : (p : Int) < (n : Int) := by omega
  have g3 : (n : Int) ≤ 140737488351232 := by omega
  clear hn hp1 hlt hsm
  go_wp2_with fail
  go_quiet (fail)
  go_wp2_with fail
  have HW := word_any (HP.out.at_.drewN nq)
  rw [EX.out, ES.out] at HW
  refine HW.mono ?_
  clear HW
  rintro e w3 ⟨rfl, hA, hK⟩
  have HP3 := Lib.hid (HP.out.read hA ((Kb.of_below (drewN_below w2 nq)).then_ (drewN_below w2 nq).size hK))
  clear hA hK c0 c1 f0 f1 hx n1 n2 n3 n4 n5 n6 n7 n8 n9 hne g1 g2 g3
  go_wp2_with fail
  refine (tok_any x w3).mono ?_
  rintro e w4 ⟨rfl, hb⟩
  have HP4 := Lib.hid (HP3.out.below hb)
  clear hb
  have HT : Hid (∀ k n : Int, ∀ ok : Bool, ∀ er : Int, (tokL x).1 = k → (tokL x).2.1 = n → (tokL x).2.2.1 = ok → (tokL x).2.2.2 = er → wordL x s = if er = 0 then (if ok = true then .inr (k, n, [], s) else nameL 3 x s) else .inl er) := by
    intro k n ok er e1 e2 e3 e4
    subst e1 e2 e3 e4
    rfl
  replace HT := Lib.hid (HT.out _ _ _ _ rfl rfl rfl rfl)
  generalize (tokL x).1 = k at *
  generalize (tokL x).2.1 = n at *
  generalize (tokL x).2.2.1 = ok at *
  generalize (tokL x).2.2.2 = er at *
  by_cases her : er = 0
  · subst her
    cases ok with
    | true =>
      have HR := Lib.hid (show wordL x s = .inr (k, n, [], s) from HT.out)
      obtain ⟨⟨c0, c1, c2⟩, f0, f1, f2⟩ := HP4.out.blk.facts
      have hlt := HP4.out.blk.lt
      go_wp2_with fail
      refine bodyPost_ret (v := .agg #[.int .i64 k, .int .i64 n, .string (S [])]) (by simp [results, Tryd.results49, go_sem, c0, c1, c2, hlt, S]) rfl ?_
      exact TkQ.ok HR.out rfl (HP4.out.outA _)
    | false =>
      by_cases hlong : 127 < x.length
      · have HLG := Lib.hid hlong
        have HR := Lib.hid (show wordL x s = .inl 9 from HT.out.trans (by unfold nameL; rw [if_pos rfl, if_neg Bool.false_ne_true, if_pos hlong]))
        clear hlong
        go_wp2_with fail
        refine (name_long 3 (S x) _ (by rw [S_size]; exact HLG.out)).mono ?_
        rintro e w5 ⟨rfl, hb⟩
        have HK := Lib.hid ((HP4.out.kb.belows ((Below.refl _ _).alloc (Nat.le_refl _) _) HP4.out.size).belows hb (by have := HP4.out.size; simp; omega))
        clear hb
        go_wp2_with fail
        exact ⟨rfl, TkQ.err HR.out ⟨rfl, HK.out⟩⟩
      · have HLG := Lib.hid hlong
        have HR := Lib.hid (show wordL x s = .inr (3, 0, x, s) from HT.out.trans (by unfold nameL; rw [if_pos rfl, if_neg Bool.false_ne_true, if_neg hlong]))
        clear hlong
        go_wp2_with fail
        refine (name_ok 3 (S x) _ (by rw [S_size]; have := HLG.out; omega)).mono ?_
        rintro e w5 ⟨rfl, hb⟩
        have HP5 := Lib.hid ((HP4.out.below ((Below.refl _ _).alloc (Nat.le_refl _) _)).below hb)
        clear hb
        obtain ⟨⟨c0, c1, c2⟩, f0, f1, f2⟩ := HP5.out.blk.facts
        have hlt := HP5.out.blk.lt
        go_wp2_with fail
        refine bodyPost_ret (v := .agg #[.int .i64 3, .int .i64 0, .string (S x)]) (by simp [results, Tryd.results49, go_sem, c0, c1, c2]) rfl ?_
        exact TkQ.ok HR.out rfl HP5.out.out
  · have HR := Lib.hid (show wordL x s = .inl er from by rw [HT.out, if_neg her])
    have hne : (er != 0) = true := by simpa using her
    clear her
    go_wp2_with fail
    exact ⟨rfl, TkQ.err HR.out ⟨rfl, HP4.out.kb.belows ((Below.refl _ _).alloc (Nat.le_refl _) _) HP4.out.size⟩⟩

theorem token_any {w0 w : World} {g cap : Nat} {A : Option Addr} {B l : List UInt8} (h : At w0 w g A cap B l) :
    Calls Tryd.prog 49 #[.pointer (some ⟨g, 0, none⟩)] w (TkQ (tokenL l) w0 w g A cap B) := by
  unfold tokenL
  match hl : skipL false l with
  | [] => exact token_nil h hl
  | c :: t =>
    show Calls Tryd.prog 49 #[.pointer (some ⟨g, 0, none⟩)] w (TkQ (tokenC c t) w0 w g A cap B)
    unfold tokenC
    by_cases m1 : c = 40
    · rw [if_pos m1]; subst m1; exact token_40 h hl
    by_cases m2 : c = 41
    · rw [if_neg m1, if_pos m2]; subst m2; exact token_41 h hl
    by_cases m3 : c = 60
    · rw [if_neg m1, if_neg m2, if_pos (.inl m3)]; subst m3; exact token_60 h hl
    by_cases m4 : c = 62
    · rw [if_neg m1, if_neg m2, if_pos (.inr m4)]; subst m4; exact token_62 h hl
    have m34 : ¬ (c = 60 ∨ c = 62) := fun e => e.elim m3 m4
    by_cases m5 : c = 123
    · rw [if_neg m1, if_neg m2, if_neg m34, if_pos m5]; subst m5; exact token_123 h hl
    by_cases m6 : c = 125
    · rw [if_neg m1, if_neg m2, if_neg m34, if_neg m5, if_pos m6]; subst m6; exact token_125 h hl
    by_cases m7 : c = 91
    · rw [if_neg m1, if_neg m2, if_neg m34, if_neg m5, if_neg m6, if_pos (.inl m7)]; subst m7; exact token_91 h hl
    by_cases m8 : c = 93
    · rw [if_neg m1, if_neg m2, if_neg m34, if_neg m5, if_neg m6, if_pos (.inr m8)]; subst m8; exact token_93 h hl
    have m78 : ¬ (c = 91 ∨ c = 93) := fun e => e.elim m7 m8
    by_cases m9 : c = 47
    · rw [if_neg m1, if_neg m2, if_neg m34, if_neg m5, if_neg m6, if_neg m78, if_pos m9]; subst m9; exact token_47 h hl
    rw [if_neg m1, if_neg m2, if_neg m34, if_neg m5, if_neg m6, if_neg m78, if_neg m9]
    exact token_word h hl m1 m2 m3 m4 m5 m6 m7 m8 m9 _ _ rfl rfl

end Go.Proofs.YtiocgpfnbmlfaaaDoor.SC

/-! ## SI -/
namespace Go.Proofs.YtiocgpfnbmlfaaaDoor.SC
open Go Go.RowKit Go.Proofs.YtiocgpfnbmlfaaaDoor Go.Proofs.YtiocgpfnbmlfaaaDoor.PS1 Go.Proofs.YtiocgpfnbmlfaaaDoor.QD Go.Proofs.YtiocgpfnbmlfaaaDoorW.PrintWords Go.Proofs.YtiocgpfnbmlfaaaDoorW.PrintLast

/-- the three results' blocks -/
def NBlk (b : Nat) (w : World) : Prop := w.heap[b]? = some (.cells #[.int .i64 0, .int .i64 0, .string ⟨#[]⟩] 27 (0, 0)) ∧ w.heap[b + 1]? = some (.cells #[.int .i64 0] 3 (0, 0)) ∧ w.heap[b + 1 + 1]? = some (.cells #[.int .i64 0] 28 (0, 0))

theorem NBlk.facts {b : Nat} {w : World} (h : NBlk b w) : (w.cell? ⟨b, 0, none⟩ = some (.int .i64 0) ∧ w.cell? ⟨b, 1, none⟩ = some (.int .i64 0) ∧ w.cell? ⟨b, 2, none⟩ = some (.string ⟨#[]⟩) ∧ w.cell? ⟨b + 1, 0, none⟩ = some (.int .i64 0) ∧ w.cell? ⟨b + 1 + 1, 0, none⟩ = some (.int .i64 0)) ∧
    (w.frozen? ⟨b, 0, none⟩ = false ∧ w.frozen? ⟨b, 1, none⟩ = false ∧ w.frozen? ⟨b, 2, none⟩ = false ∧ w.frozen? ⟨b + 1, 0, none⟩ = false ∧ w.frozen? ⟨b + 1 + 1, 0, none⟩ = false) := by
  obtain ⟨h0, h1, h2⟩ := h
  refine ⟨⟨?_, ?_, ?_, ?_, ?_⟩, Lib.frozen_of_heap h0 0, Lib.frozen_of_heap h0 1, Lib.frozen_of_heap h0 2, Lib.frozen_of_heap h1 0, Lib.frozen_of_heap h2 0⟩
  · rw [Lib.cell_of_heap h0]; rfl
  · rw [Lib.cell_of_heap h0]; rfl
  · rw [Lib.cell_of_heap h0]; rfl
  · rw [Lib.cell_of_heap h1]; rfl
  · rw [Lib.cell_of_heap h2]; rfl
/-- the world behind the closure that caught a panic -/
def caught (b : Nat) (er : Int) (w : World) : World :=
  ((((w.setCell ⟨b, 0, none⟩ (.int .i64 0)).setCell ⟨b, 1, none⟩ (.int .i64 0)).setCell ⟨b, 2, none⟩ (.string ⟨#[]⟩)).setCell ⟨b + 1, 0, none⟩ (.int .i64 0)).setCell ⟨b + 1 + 1, 0, none⟩ (.int .i64 er)

set_option maxHeartbeats 1000000 in
set_option maxRecDepth 100000 in
theorem catch_gave (b : Nat) (er : Int) (older : List PanicEntry) (w : World) (h : NBlk b w) :
    CallsD Tryd.prog 48 #[.pointer (some ⟨b, 0, none⟩), .pointer (some ⟨b + 1, 0, none⟩), .pointer (some ⟨b + 1 + 1, 0, none⟩)] (.panicking ({ v := .iface 28 (.int .i64 er), recovered := false } :: older)) w fun e u' w' =>
      e = .returned (.tuple #[]) ∧ u' = .panicking ({ v := .iface 28 (.int .i64 er), recovered := true } :: older) ∧ w' = caught b er w := by
  obtain ⟨⟨c0, c1, c2, c3, c4⟩, f0, f1, f2, f3, f4⟩ := h.facts
  clear h
  have hta : ∀ w, (Instr.typeAssert (.iface 28 (.int .i64 er)) 20 28 true).run Tryd.prog w = .ok (.tuple #[.int .i64 er, .bool true]) w := fun _ => by kernel_rfl
  refine callsD_of_wpS Tryd.func48 rfl fun c₀ cs hu => ?_
  apply wpS_seq
  apply wpS_region
  simp [wpOpsS, go_sem, recoverD, hu, Tryd.ntmps48, Exit.thenS]
  refine wpS_of_wp ?_
  generalize hQ : (fun (e : Exit) (a' : Act) (w' : World) => bodyPostS Tryd.prog Tryd.f48 c₀ cs _ e a' _ w') = Q
  clear hu
  have HQ := Lib.hid hQ
  clear hQ
  rw [show (#[Value.pointer (some ⟨b, 0, none⟩), Value.pointer (some ⟨b + 1, 0, none⟩), Value.pointer (some ⟨b + 1 + 1, 0, none⟩)] ++ ((Array.replicate 16 undef).setIfInBounds 3 (Value.iface 28 (Value.int IntKind.i64 er))).setIfInBounds 0 (Value.iface 28 (Value.int IntKind.i64 er)) : Array Value) =
    #[Value.pointer (some ⟨b, 0, none⟩), Value.pointer (some ⟨b + 1, 0, none⟩), Value.pointer (some ⟨b + 1 + 1, 0, none⟩), Value.iface 28 (Value.int IntKind.i64 er), undef, undef, Value.iface 28 (Value.int IntKind.i64 er), undef, undef, undef, undef, undef, undef, undef, undef, undef, undef, undef, undef] from rfl]
  go_wp2_with fail
  rw [← HQ.out]
  simp [bodyPostS, results, Tryd.results48, caught]

set_option maxHeartbeats 1000000 in
set_option maxRecDepth 100000 in
theorem catch_none (p0 p1 p2 : Value) (w : World) :
    CallsD Tryd.prog 48 #[p0, p1, p2] .returning w fun e u' w' => e = .returned (.tuple #[]) ∧ u' = .returning ∧ w' = w := by
  refine callsD_of_wpS Tryd.func48 rfl fun c₀ cs hu => ?_
  apply wpS_seq
  apply wpS_region
  simp [wpOpsS, go_sem, recoverD, hu, Tryd.ntmps48, Exit.thenS]
  refine wpS_of_wp ?_
  generalize hQ : (fun (e : Exit) (a' : Act) (w' : World) => bodyPostS Tryd.prog Tryd.f48 c₀ cs _ e a' _ w') = Q
  have HU := Lib.hid hu
  clear hu
  have HQ := Lib.hid hQ
  clear hQ
  rw [show (#[p0, p1, p2] ++ ((Array.replicate 16 undef).setIfInBounds 3 Value.nilIface).setIfInBounds 0 Value.nilIface : Array Value) =
    #[p0, p1, p2, Value.nilIface, undef, undef, Value.nilIface, undef, undef, undef, undef, undef, undef, undef, undef, undef, undef, undef, undef] from rfl]
  go_wp2_with fail
  rw [← HQ.out]
  cases c₀
  have := HU.out
  simp_all [bodyPostS, results, Tryd.results48]

def NextTQ (k n : Int) (x : List UInt8) (q : Int) (er : Int) (w : World) (e : Ending) (w' : World) : Prop :=
  e = .returned (.tuple #[.agg #[.int .i64 k, .int .i64 n, .string (S x)], .int .i64 q, .int .i64 er]) ∧ Below w.heap.size w w'

set_option maxHeartbeats 1000000 in
set_option maxRecDepth 100000 in
theorem nextT_bad (A : Option Addr) (n cap : Nat) (p : Int) (w : World) (h : p < 0 ∨ (0 ≤ p ∧ (n : Int) < p)) :
    Calls Tryd.prog 24 #[.slice A n cap, .int .i64 p] w (NextTQ 0 0 [] 0 21 w) := by
  rcases h with h | ⟨h0, h⟩
  · go_enter_defers Tryd.func24, Tryd.ntmps24
    go_wp2_with fail
    simp [bodyPostD, Leaves, results, Tryd.results24, go_sem, NextTQ, S]
    exact (((Below.refl _ _).alloc (Nat.le_refl _) _).alloc (by simp) _).alloc (by simp; omega) _
  · have h1 : ¬ p < 0 := by omega
    clear h0
    go_enter_defers Tryd.func24, Tryd.ntmps24
    go_wp2_with fail
    simp [bodyPostD, Leaves, results, Tryd.results24, go_sem, NextTQ, S]
    exact (((Below.refl _ _).alloc (Nat.le_refl _) _).alloc (by simp) _).alloc (by simp; omega) _

/-- the world when the reader stands -/
def stand (w : World) (A : Option Addr) (n cap p : Nat) : World :=
  (((w.alloc (.cells #[.int .i64 0, .int .i64 0, .string ⟨#[]⟩] 27)).alloc (.cells #[.int .i64 0] 3)).alloc (.cells #[.int .i64 0] 28)).alloc (.cells #[.slice A n cap, .int .i64 (p : Int)] 71)
theorem stand_below (w : World) (A : Option Addr) (n cap p : Nat) : Below w.heap.size w (stand w A n cap p) :=
  ((((Below.refl _ _).alloc (Nat.le_refl _) _).alloc (by simp) _).alloc (by simp; omega) _).alloc (by simp; omega) _
theorem stand_at {w : World} {A : Option Addr} {n cap p : Nat} {B : List UInt8} (hrow : (Kd.int .u8).C w A B.length (bI B)) (hn : B.length = n) (hcap : B.length ≤ cap) (hp : p ≤ B.length) (hs : B.length ≤ 140737488351232) :
    At w (stand w A n cap p) (w.heap.size + 1 + 1 + 1) A cap B (B.drop p) := by
  subst hn
  refine ⟨⟨?_, by omega, stand_below ..⟩, hrow, List.drop_suffix _ _, hs, hcap⟩
  have : B.length - (B.drop p).length = p := by rw [List.length_drop]; omega
  rw [this]
  have := heap_alloc_new (((w.alloc (.cells #[.int .i64 0, .int .i64 0, .string ⟨#[]⟩] 27)).alloc (.cells #[.int .i64 0] 3)).alloc (.cells #[.int .i64 0] 28)) (.cells #[.slice A B.length cap, .int .i64 (p : Int)] 71)
  simpa [Rd, stand] using this
theorem stand_blk (w : World) (A : Option Addr) (n cap p : Nat) : NBlk w.heap.size (stand w A n cap p) := by
  have s1 : (w.alloc (.cells #[.int .i64 0, .int .i64 0, .string ⟨#[]⟩] 27)).heap.size = w.heap.size + 1 := by simp
  have s2 : ((w.alloc (.cells #[.int .i64 0, .int .i64 0, .string ⟨#[]⟩] 27)).alloc (.cells #[.int .i64 0] 3)).heap.size = w.heap.size + 1 + 1 := by simp
  have s3 : (((w.alloc (.cells #[.int .i64 0, .int .i64 0, .string ⟨#[]⟩] 27)).alloc (.cells #[.int .i64 0] 3)).alloc (.cells #[.int .i64 0] 28)).heap.size = w.heap.size + 1 + 1 + 1 := by simp
  have h0 := heap_alloc_new w (.cells #[.int .i64 0, .int .i64 0, .string ⟨#[]⟩] 27)
  have h1 := heap_alloc_new (w.alloc (.cells #[.int .i64 0, .int .i64 0, .string ⟨#[]⟩] 27)) (.cells #[.int .i64 0] 3)
  have h2 := heap_alloc_new ((w.alloc (.cells #[.int .i64 0, .int .i64 0, .string ⟨#[]⟩] 27)).alloc (.cells #[.int .i64 0] 3)) (.cells #[.int .i64 0] 28)
  rw [s1] at h1
  rw [s2] at h2
  unfold stand
  refine ⟨?_, ?_, ?_⟩
  · rw [Below.heap_alloc _ _ _ (by omega), Below.heap_alloc _ _ _ (by omega), Below.heap_alloc _ _ _ (by omega)]; exact h0
  · rw [Below.heap_alloc _ _ _ (by omega), Below.heap_alloc _ _ _ (by omega)]; exact h1
  · rw [Below.heap_alloc _ _ _ (by omega)]; exact h2
theorem stand_size (w : World) (A : Option Addr) (n cap p : Nat) : (stand w A n cap p).heap.size = w.heap.size + 1 + 1 + 1 + 1 := by simp [stand]
theorem NBlk.kept {b g : Nat} {w w' : World} (h : NBlk b w) (hk : Kb g w.heap.size w w') (hg : b + 1 + 1 < g) (hs : b + 1 + 1 < w.heap.size) : NBlk b w' :=
  ⟨(hk.block _ (by omega) (by omega)).trans h.1, (hk.block _ (by omega) (by omega)).trans h.2.1, (hk.block _ hs (by omega)).trans h.2.2⟩

theorem blk_set3 {w : World} {b : Nat} {x0 x1 x2 : Value} {t : TypeId} {fr : Nat × Nat} (h : w.heap[b]? = some (.cells #[x0, x1, x2] t fr)) (y0 y1 y2 : Value) :
    (((w.setCell ⟨b, 0, none⟩ y0).setCell ⟨b, 1, none⟩ y1).setCell ⟨b, 2, none⟩ y2).heap[b]? = some (.cells #[y0, y1, y2] t fr) := by
  simp only [World.setCell, Array.getElem?_modify, if_true, h]
  rfl
theorem blk_set1 {w : World} {b : Nat} {x0 : Value} {t : TypeId} {fr : Nat × Nat} (h : w.heap[b]? = some (.cells #[x0] t fr)) (y0 : Value) : (w.setCell ⟨b, 0, none⟩ y0).heap[b]? = some (.cells #[y0] t fr) := by
  simp only [World.setCell, Array.getElem?_modify, if_true, h]
  rfl
theorem blk_far {w : World} {b b' o : Nat} {v : Value} (h : b ≠ b') : (w.setCell ⟨b', o, none⟩ v).heap[b]? = w.heap[b]? := Below.heap_setCell w ⟨b', o, none⟩ v b h
/-- the results, behind the last statement -/
def told (b : Nat) (k z q x : Value) (w : World) : World :=
  (((((((w.setCell ⟨b, 0, none⟩ k).setCell ⟨b, 1, none⟩ z).setCell ⟨b, 2, none⟩ x).setCell ⟨b, 0, none⟩ k).setCell ⟨b, 1, none⟩ z).setCell ⟨b, 2, none⟩ x).setCell ⟨b + 1, 0, none⟩ q).setCell ⟨b + 1 + 1, 0, none⟩ (.int .i64 0)
theorem told_cells {b : Nat} {w : World} (h : NBlk b w) (k z q x : Value) : (told b k z q x w).cell? ⟨b, 0, none⟩ = #[k, z, x][0]? ∧ (told b k z q x w).cell? ⟨b, 1, none⟩ = #[k, z, x][1]? ∧ (told b k z q x w).cell? ⟨b, 2, none⟩ = #[k, z, x][2]? ∧
    (told b k z q x w).cell? ⟨b + 1, 0, none⟩ = #[q][0]? ∧ (told b k z q x w).cell? ⟨b + 1 + 1, 0, none⟩ = #[Value.int .i64 0][0]? := by
  obtain ⟨h0, h1, h2⟩ := h
  have e0 : (told b k z q x w).heap[b]? = some (.cells #[k, z, x] 27 (0, 0)) := by
    unfold told
    rw [blk_far (by omega), blk_far (by omega)]
    exact blk_set3 (blk_set3 h0 _ _ _) _ _ _
  have e1 : (told b k z q x w).heap[b + 1]? = some (.cells #[q] 3 (0, 0)) := by
    unfold told
    rw [blk_far (by omega)]
    refine blk_set1 (x0 := .int .i64 0) ?_ _
    rw [blk_far (by omega), blk_far (by omega), blk_far (by omega), blk_far (by omega), blk_far (by omega), blk_far (by omega)]
    exact h1
  have e2 : (told b k z q x w).heap[b + 1 + 1]? = some (.cells #[.int .i64 0] 28 (0, 0)) := by
    unfold told
    refine blk_set1 (x0 := .int .i64 0) ?_ _
    rw [blk_far (by omega), blk_far (by omega), blk_far (by omega), blk_far (by omega), blk_far (by omega), blk_far (by omega), blk_far (by omega)]
    exact h2
  exact ⟨Lib.cell_of_heap e0 0, Lib.cell_of_heap e0 1, Lib.cell_of_heap e0 2, Lib.cell_of_heap e1 0, Lib.cell_of_heap e2 0⟩
theorem told_below {b : Nat} {w : World} (k z q x : Value) {w0 : World} (h : Below b w0 w) : Below b w0 (told b k z q x w) :=
  (((((((h.setCell (p := ⟨b, 0, none⟩) (Nat.le_refl _) _).setCell (p := ⟨b, 1, none⟩) (Nat.le_refl _) _).setCell (p := ⟨b, 2, none⟩) (Nat.le_refl _) _).setCell (p := ⟨b, 0, none⟩) (Nat.le_refl _) _).setCell (p := ⟨b, 1, none⟩) (Nat.le_refl _) _).setCell (p := ⟨b, 2, none⟩) (Nat.le_refl _) _).setCell (p := ⟨b + 1, 0, none⟩) (Nat.le_succ _) _).setCell (p := ⟨b + 1 + 1, 0, none⟩) (Nat.le_succ_of_le (Nat.le_succ _)) _

/-- what Next answers -/
def nextL (r : TkR) (n : Nat) : Int × Int × List UInt8 × Int × Int :=
  match r with
  | .inl er => (0, 0, [], 0, er)
  | .inr (k, z, x, s) => (k, z, x, ((n - s.length : Nat) : Int), 0)

set_option maxHeartbeats 2000000 in
set_option maxRecDepth 100000 in
theorem nextT_any (A : Option Addr) (n cap p : Nat) (B : List UInt8) (w : World) (hrow : (Kd.int .u8).C w A B.length (bI B)) (hn : B.length = n) (hcap : B.length ≤ cap) (hp : p ≤ n) (hs : n ≤ 140737488351232) (r : TkR) (hr : tokenL (B.drop p) = r) :
    Calls Tryd.prog 24 #[.slice A n cap, .int .i64 (p : Int)] w (NextTQ (nextL r n).1 (nextL r n).2.1 (nextL r n).2.2.1 (nextL r n).2.2.2.1 (nextL r n).2.2.2.2 w) := by
  have hmf : ∀ (fn : Fn) (first cap : Array Value) (w : World), (Instr.makeFunc fn first cap).run Tryd.prog w = .ok (.func fn first cap) w := fun _ _ _ _ => rfl
  have HA := Lib.hid (stand_at (p := p) hrow hn hcap (by omega) (by omega))
  have HN := Lib.hid hn
  have HR := Lib.hid hr
  have p0 : ¬ ((p : Int) < 0) := by omega
  have p1 : ¬ ((n : Int) < (p : Int)) := by omega
  clear hrow hn hcap hr
  go_enter_defers Tryd.func24, Tryd.ntmps24
  go_wp2_with fail
  have HT := token_any HA.out
  rw [HR.out] at HT
  refine HT.mono ?_
  clear HT
  rintro e w1 hq
  rcases tkQ_cases hq with ⟨er, hr, rfl, hk⟩ | ⟨k, z, x, s, hr, rfl, ha, hk⟩
  · have hNB := (stand_blk w A n cap p).kept hk (by omega) (by rw [stand_size]; omega)
    have HB := Lib.hid ((stand_below w A n cap p).trans (hk.below (by omega) (by rw [stand_size]; omega)))
    subst hr
    clear hk hq
    go_wp2_with fail
    refine leaves_cons (f := 48) (args := #[.pointer (some ⟨w.heap.size, 0, none⟩), .pointer (some ⟨w.heap.size + 1, 0, none⟩), .pointer (some ⟨w.heap.size + 1 + 1, 0, none⟩)]) (by simp) (by simp [go_sem]) ?_
    refine (catch_gave w.heap.size er [] w1 hNB).mono ?_
    rintro e u' w'' ⟨rfl, rfl, rfl⟩
    obtain ⟨⟨c0, c1, c2, c3, c4⟩, f0, f1, f2, f3, f4⟩ := hNB.facts
    simp [Leaves, settle, results, Tryd.results24, go_sem, caught, c0, c1, c2, c3, c4, NextTQ, nextL, S]
    exact ((((HB.out.setCell (p := ⟨w.heap.size, 0, none⟩) (Nat.le_refl _) _).setCell (p := ⟨w.heap.size, 1, none⟩) (Nat.le_refl _) _).setCell (p := ⟨w.heap.size, 2, none⟩) (Nat.le_refl _) _).setCell (p := ⟨w.heap.size + 1, 0, none⟩) (Nat.le_succ _) _).setCell (p := ⟨w.heap.size + 1 + 1, 0, none⟩) (Nat.le_succ_of_le (Nat.le_succ _)) _
  · have hNB := (stand_blk w A n cap p).kept hk (by omega) (by rw [stand_size]; omega)
    have HB := Lib.hid ((stand_below w A n cap p).trans (hk.below (by omega) (by rw [stand_size]; omega)))
    have HA2 := Lib.hid ha
    have HNB := Lib.hid hNB
    obtain ⟨⟨c0, c1, c2, c3, c4⟩, f0, f1, f2, f3, f4⟩ := hNB.facts
    obtain ⟨⟨k0, k1⟩, l0, l1⟩ := ha.st.blk.facts
    subst hr
    clear hk hq ha hNB
    go_wp2_with fail
    go_region
    go_wp2_with fail
    refine leaves_cons (f := 48) (args := #[.pointer (some ⟨w.heap.size, 0, none⟩), .pointer (some ⟨w.heap.size + 1, 0, none⟩), .pointer (some ⟨w.heap.size + 1 + 1, 0, none⟩)]) (by simp) (by simp [go_sem]) ?_
    refine (catch_none _ _ _ _).mono ?_
    rintro e u' w'' ⟨rfl, rfl, rfl⟩
    have ht := told_cells HNB.out (.int .i64 k) (.int .i64 z) (.int .i64 ((B.length - s.length : Nat) : Int)) (.string (S x))
    have hb := told_below (.int .i64 k) (.int .i64 z) (.int .i64 ((B.length - s.length : Nat) : Int)) (.string (S x)) HB.out
    unfold told at ht hb
    have HB2 := Lib.hid hb
    clear hb c0 c1 c2 c3 c4 f0 f1 f2 f3 f4 k0 k1 l0 l1
    rw [← HN.out]
    generalize ((((((((w1.setCell ⟨w.heap.size, 0, none⟩ (Value.int .i64 k)).setCell ⟨w.heap.size, 1, none⟩ (Value.int .i64 z)).setCell ⟨w.heap.size, 2, none⟩ (Value.string (S x))).setCell ⟨w.heap.size, 0, none⟩ (Value.int .i64 k)).setCell ⟨w.heap.size, 1, none⟩ (Value.int .i64 z)).setCell ⟨w.heap.size, 2, none⟩ (Value.string (S x))).setCell ⟨w.heap.size + 1, 0, none⟩ (Value.int .i64 ((B.length - s.length : Nat) : Int))).setCell ⟨w.heap.size + 1 + 1, 0, none⟩ (Value.int .i64 0)) = W at *
    obtain ⟨c0, c1, c2, c3, c4⟩ := ht
    simp [Leaves, settle, results, Tryd.results24, go_sem, c0, c1, c2, c3, c4, NextTQ, nextL]
    exact HB2.out.drew

end Go.Proofs.YtiocgpfnbmlfaaaDoor.SC

/-! ## SJ -/
namespace Go.Proofs.YtiocgpfnbmlfaaaDoor.SC
open Go Go.RowKit Go.Proofs.YtiocgpfnbmlfaaaDoor Go.Proofs.YtiocgpfnbmlfaaaDoor.PS1 Go.Proofs.YtiocgpfnbmlfaaaDoor.QD Go.Proofs.YtiocgpfnbmlfaaaDoorW.PrintWords Go.Proofs.YtiocgpfnbmlfaaaDoorW.PrintLast

/-- numbers as bytes -/
def unI (l : List Int) : List UInt8 := l.map fun n => UInt8.ofNat n.toNat
def isB (l : List Int) : Prop := ∀ x ∈ l, 0 ≤ x ∧ x < 256
instance (l : List Int) : Decidable (isB l) := by unfold isB; infer_instance
theorem bI_un (l : List Int) (h : isB l) : bI (unI l) = l := by
  unfold bI unI
  rw [List.map_map]
  conv => rhs; rw [← List.map_id l]
  refine List.map_congr_left fun x hx => ?_
  obtain ⟨h1, h2⟩ := h x hx
  simp only [Function.comp, id_eq, UInt8.toNat_ofNat']
  omega
theorem un_bI (l : List UInt8) : unI (bI l) = l := by
  unfold bI unI
  rw [List.map_map]
  conv => rhs; rw [← List.map_id l]
  refine List.map_congr_left fun x hx => ?_
  simp
theorem bI_isB (l : List UInt8) : isB (bI l) := by
  intro x hx
  unfold bI at hx
  obtain ⟨c, _, rfl⟩ := List.mem_map.1 hx
  have := c.toNat_lt
  omega
theorem unI_len (l : List Int) : (unI l).length = l.length := by simp [unI]
/-- what Next answers at any place -/
def nextP (B : List UInt8) (p : Int) : Int × Int × List UInt8 × Int × Int :=
  if p < 0 ∨ (B.length : Int) < p then (0, 0, [], 0, 21) else nextL (tokenL (B.drop p.toNat)) B.length
theorem nextP_any (A : Option Addr) (cap : Nat) (B : List UInt8) (p : Int) (w : World) (hrow : (Kd.int .u8).C w A B.length (bI B)) (hcap : B.length ≤ cap) (hs : B.length ≤ 140737488351232) :
    Calls Tryd.prog 24 #[.slice A B.length cap, .int .i64 p] w (NextTQ (nextP B p).1 (nextP B p).2.1 (nextP B p).2.2.1 (nextP B p).2.2.2.1 (nextP B p).2.2.2.2 w) := by
  unfold nextP
  by_cases h : p < 0 ∨ (B.length : Int) < p
  · rw [if_pos h]
    exact nextT_bad A B.length cap p w (by omega)
  · rw [if_neg h]
    obtain ⟨q, rfl⟩ : ∃ q : Nat, p = (q : Int) := ⟨p.toNat, by omega⟩
    rw [Int.toNat_natCast]
    exact nextT_any A B.length cap q B w hrow rfl hcap (by omega) hs _ rfl

end Go.Proofs.YtiocgpfnbmlfaaaDoor.SC
namespace Go.Proofs.YtiocgpfnbmlfaaaDoor
open Go Go.RowKit Go.Proofs.YtiocgpfnbmlfaaaDoorW.PrintWords

def scan_Next.f (l0 : List Int) (a1 : Int) : Option (Int × Int × ByteArray × Int × Int) :=
  if SC.isB l0 ∧ l0.length ≤ 140737488351232 then some ((SC.nextP (SC.unI l0) a1).1, (SC.nextP (SC.unI l0) a1).2.1, QD.S (SC.nextP (SC.unI l0) a1).2.2.1, (SC.nextP (SC.unI l0) a1).2.2.2.1, (SC.nextP (SC.unI l0) a1).2.2.2.2) else none
theorem scan_Next.calls (A0 : Option Addr) (c0 : Nat) (l0 : List Int) (a1 : Int) (r1 r2 : Int) (r3 : ByteArray) (r4 r5 : Int) (w : World) (hr0 : Kd.C (Kd.int .u8) w A0 l0.length l0) (hc0 : l0.length ≤ c0) (h : scan_Next.f l0 a1 = some (r1, r2, r3, r4, r5)) :
    Calls Tryd.prog 24 #[.slice A0 l0.length c0, .int .i64 a1] w fun e w' => e = .returned (.tuple #[.agg #[.int .i64 r1, .int .i64 r2, .string r3], .int .i64 r4, .int .i64 r5]) ∧ Below w.heap.size w w' := by
  unfold scan_Next.f at h
  split at h
  · rename_i hb
    simp only [Option.some.injEq, Prod.mk.injEq] at h
    obtain ⟨rfl, rfl, rfl, rfl, rfl⟩ := h
    have hun := SC.bI_un l0 hb.1
    have := SC.nextP_any A0 c0 (SC.unI l0) a1 w (by rw [hun, SC.unI_len]; exact hr0) (by rw [SC.unI_len]; exact hc0) (by rw [SC.unI_len]; exact hb.2)
    rw [SC.unI_len] at this
    exact this
  · cases h

end Go.Proofs.YtiocgpfnbmlfaaaDoor

/-! ## SK -/
namespace Go.Proofs.YtiocgpfnbmlfaaaDoor.SC
open Go Go.RowKit Go.Proofs.YtiocgpfnbmlfaaaDoor Go.Proofs.YtiocgpfnbmlfaaaDoor.PS1 Go.Proofs.YtiocgpfnbmlfaaaDoor.QD Go.Proofs.YtiocgpfnbmlfaaaDoorW.PrintWords Go.Proofs.YtiocgpfnbmlfaaaDoorW.PrintLast

/-- bytes just made, as a row that is read -/
theorem row_fresh (W : World) (l : List UInt8) (hl : l.length ≤ 140737488351232) (fr : Nat × Nat) : (Kd.int .u8).C (W.alloc (.cells ((bI l).map (Value.int .u8)).toArray 5 fr)) (some ⟨W.heap.size, 0, none⟩) l.length (bI l) := by
  refine Kd.C_of_reads (enc := Value.int .u8) (d := (0 : Int)) (h1 := fun _ => rfl) ⟨bI_len l, by omega, fun _ => ⟨_, rfl, fun j hj => ?_⟩⟩
  have hb := heap_alloc_new W (.cells ((bI l).map (Value.int .u8)).toArray 5 fr)
  have ha : (⟨W.heap.size, 0, none⟩ : Addr).add j = ⟨W.heap.size, 0 + j, none⟩ := by
    simp [Addr.add]
    intro h; exact h.symm
  rw [ha, Lib.cell_of_heap hb, Nat.zero_add]
  have hj' : j < (bI l).length := by rw [bI_len]; exact hj
  simp [List.getD, hj']

theorem answer_text : nextP [40, 97, 41, 32, 98] 0 = (6, 0, [97], 3, 0) := by
  have h : tokenL [40, 97, 41, 32, 98] = .inr (6, 0, [97], [32, 98]) := by
    have hs : skipL false [40, 97, 41, 32, 98] = [40, 97, 41, 32, 98] := by decide
    unfold tokenL
    rw [hs]
    show strL (rnd 1 [97, 41, 32, 98]) = _
    rw [rnd_put 1 97 _ (by decide) (by decide) (by decide)]
    show strL ((rnd 1 [41, 32, 98]).map _) = _
    rw [rnd_close]
    rfl
  unfold nextP
  rw [if_neg (by decide)]
  show nextL (tokenL [40, 97, 41, 32, 98]) 5 = _
  rw [h]
  rfl

set_option maxHeartbeats 2000000 in
set_option maxRecDepth 100000 in
theorem answers_any (w : World) : Calls Tryd.prog 23 #[] w fun e w' => e = .returned (.bool true) ∧ Below w.heap.size w w' := by
  have HN := nextP_any (some ⟨w.heap.size, 0, none⟩) 5 [40, 97, 41, 32, 98] 0 (w.alloc (.cells ((bI [40, 97, 41, 32, 98]).map (Value.int .u8)).toArray 5 (5, 6))) (row_fresh w _ (by decide) _) (by decide) (by decide)
  have kc := fun (w : World) (C : Array Value) (n c : Nat) => Lib.run_convert_bytes_const (P := Tryd.prog) w 32 5 C n c Tryd.underlying32 Tryd.underlying5
  rw [answer_text] at HN
  replace HN := Lib.hid HN
  go_enter Tryd.func23, Tryd.ntmps23
  go_wp2_with fail
  refine HN.out.mono ?_
  rintro e w1 ⟨rfl, hb⟩
  have HB := Lib.hid (show Below w.heap.size w w1 from ((Below.refl _ _).alloc (Nat.le_refl _) _).trans (hb.mono (by simp)))
  clear hb
  go_wp2_with fail
  go_ret
  have e97 : (S [97]).toList = [97] := S_list _
  refine ⟨?_, HB.out.trans ((Below.refl _ _).alloc HB.out.size _)⟩
  show Ending.returned (.bool ((S [97]).toList == [97])) = _
  rw [e97]
  rfl

end Go.Proofs.YtiocgpfnbmlfaaaDoor.SC
namespace Go.Proofs.YtiocgpfnbmlfaaaDoor
open Go Go.RowKit Go.Proofs.YtiocgpfnbmlfaaaDoorW.PrintWords

def mezzotintlaw04_answers.f : Option Bool := some true
theorem mezzotintlaw04_answers.calls (r : Bool) (w : World) (h : mezzotintlaw04_answers.f = some r) : Calls Tryd.prog 23 #[] w fun e w' => e = .returned (.bool r) ∧ Below w.heap.size w w' := by
  obtain rfl : true = r := Option.some.inj h
  exact SC.answers_any w

end Go.Proofs.YtiocgpfnbmlfaaaDoor

/-! ## ZA -/
namespace Go.Proofs.YtiocgpfnbmlfaaaDoor.SC
open Go Go.RowKit Go.ChangeShapes Go.Proofs Go.Proofs.YtiocgpfnbmlfaaaDoor Go.Proofs.YtiocgpfnbmlfaaaDoor.PS1 Go.Proofs.YtiocgpfnbmlfaaaDoor.QD Go.Proofs.YtiocgpfnbmlfaaaDoorW.PrintWords Go.Proofs.YtiocgpfnbmlfaaaDoorW.PrintLast Go.Proofs.YtiocgpfnbmlfaaaDoorW.PrintMore

theorem infoStr : (Tryd.prog.info? 9).map (fun i => (i.zero, i.size, i.bytes)) = some (some (.string ⟨#[]⟩), 1, 16) := by kernel_rfl
def isNL (x : Nat) : Bool := x == 10 || x == 13
set_option maxHeartbeats 1000000 in
set_option maxRecDepth 1000000 in
theorem clo_nl (w : World) : PredAt Tryd.prog 57 #[] encR isNL w := by
  intro W x hb
  show Calls Tryd.prog 57 #[.int .i32 (x : Int)] W _
  unfold isNL
  by_cases h1 : x = 10
  · subst h1
    go_enter Tryd.func57, Tryd.ntmps57
    go_wp2_with fail
    go_ret
    exact ⟨rfl, 0, rfl⟩
  · by_cases h2 : x = 13
    · subst h2
      go_enter Tryd.func57, Tryd.ntmps57
      go_wp2_with fail
      go_ret
      exact ⟨rfl, 0, rfl⟩
    · have e1 : (x == 10 || x == 13) = false := by simp [h1, h2]
      rw [e1]
      have i1 : ((x : Int) == 10) = false := by simp; omega
      have i2 : ((x : Int) == 13) = false := by simp; omega
      have j1 : ¬ (x : Int) = 10 := by omega
      have j2 : ¬ (x : Int) = 13 := by omega
      clear h1 h2 e1
      go_enter Tryd.func57, Tryd.ntmps57
      go_wp2_with fail
      go_ret
      exact ⟨rfl, 0, rfl⟩

def pre1 (l : ByteArray) : Bool := Lib.hasPrefix l.data.toList [37, 37]
def pre2 (l : ByteArray) : Bool := Lib.hasPrefix l.data.toList [37, 33]
def lineB (l : ByteArray) : List ByteArray := if pre1 l = true ∨ pre2 l = true then [l.extract 2 l.size] else []
def linesB (L : List ByteArray) : List ByteArray := L.flatMap lineB
theorem linesB_len (L : List ByteArray) : (linesB L).length ≤ L.length := by
  induction L with
  | nil => exact Nat.le_refl _
  | cons l t ih =>
    have : (lineB l).length ≤ 1 := by unfold lineB; split <;> simp
    simp only [linesB, List.flatMap_cons, List.length_append, List.length_cons] at ih ⊢
    omega
theorem linesB_succ {L : List ByteArray} {k : Nat} {l : ByteArray} (h : L[k]? = some l) : linesB (L.take (k + 1)) = linesB (L.take k) ++ lineB l := by
  rw [List.take_add_one, h]
  simp [linesB]
theorem pre_size {l : ByteArray} {a b : UInt8} (h : Lib.hasPrefix l.data.toList [a, b] = true) : 2 ≤ l.size := by
  have := List.IsPrefix.length_le (List.isPrefixOf_iff_prefix.1 h)
  rw [Lib.size_eq]
  exact this

theorem spans_len (p : Nat → Bool) (s : ByteArray) : ∀ (f pos : Nat) (st : Option Nat) (acc : List (Nat × Nat)), (Lib.spansFromP p s f pos st acc).1.length ≤ acc.length + f
  | 0, _, _, acc => Nat.le_refl _
  | f + 1, pos, st, acc => by
    unfold Lib.spansFromP
    split
    · split
      · cases st with
        | some a =>
          have := spans_len p s f (pos + (Utf8.decode s pos).2) none (acc ++ [(a, pos)])
          rw [List.length_append, List.length_singleton] at this
          show (Lib.spansFromP p s f _ none (acc ++ [(a, pos)])).1.length ≤ _
          omega
        | none =>
          have := spans_len p s f (pos + (Utf8.decode s pos).2) none acc
          show (Lib.spansFromP p s f _ none acc).1.length ≤ _
          omega
      · cases st with
        | some a =>
          have := spans_len p s f (pos + (Utf8.decode s pos).2) (some a) acc
          show (Lib.spansFromP p s f _ (some a) acc).1.length ≤ _
          omega
        | none =>
          have := spans_len p s f (pos + (Utf8.decode s pos).2) (some pos) acc
          show (Lib.spansFromP p s f _ (some pos) acc).1.length ≤ _
          omega
    · show acc.length ≤ _
      omega
theorem fields_len (p : Nat → Bool) (s : ByteArray) : (Lib.goFieldsP p s).length ≤ s.size + 1 := by
  have := spans_len p s s.size 0 none []
  simp only [List.length_nil, Nat.zero_add] at this
  unfold Lib.goFieldsP Lib.spansOfP Lib.closeSpans
  rw [List.length_map]
  split
  · rename_i h
    rw [List.length_append, List.length_singleton]
    omega
  · rename_i h
    omega

set_option maxHeartbeats 4000000 in
set_option maxRecDepth 100000 in
theorem structure_any (A : Option Addr) (c : Nat) (xs : List UInt8) (w : World) (h0 : (Kd.int .u8).C w A xs.length (bI xs)) (hx : xs.length ≤ 100000) :
    Calls Tryd.prog 30 #[.slice A xs.length c] w fun e w' => ∃ v0_ : Value, e = .returned v0_ ∧ Kd.R Kd.string 9 w' w.heap.size (fun _ => True) v0_ (linesB (Lib.goFieldsP isNL (S xs))) ∧ Below w.heap.size w w' := by
  have hcs : (convert 32 9 (.slice A xs.length c)).run Tryd.prog w = .ok (.string (S xs)) w := by
    rw [← bI_str]
    exact Kd.C_string Tryd.underlying32 Tryd.underlying5 Tryd.underlying9 h0
  have HF := Lib.hid (Tryd.strings_FieldsFunc 57 #[] (enters_of Tryd.func57 (by kernel_rfl) rfl) isNL (S xs) w (by rw [S_size]; omega) (clo_nl w))
  have hLl := fields_len isNL (S xs)
  rw [S_size] at hLl
  have HLl := Lib.hid (show (Lib.goFieldsP isNL (S xs)).length < 1000000 by omega)
  clear h0 hx hLl
  go_enter Tryd.func30, Tryd.ntmps30
  go_wp2_with fail
  refine HF.out.mono ?_
  rintro e w1 ⟨a, rfl, ha, hown, hb⟩
  clear HF hcs
  generalize hLdef : Lib.goFieldsP isNL (S xs) = L at *
  have HD := Lib.hid hLdef
  clear hLdef
  have hat : ∃ cur : Array Value, w1.heap[a]? = some (.cells cur 9 (0, 0)) ∧ cur.toList.take (L.length * 1) = L.map Value.string := by
    rcases hown.2 with ⟨h1, _⟩ | ⟨g, cap, cur, h1, _, h2, _, _, _, h3⟩
    · cases h1
    · injection h1 with h1 _ _
      injection h1 with h1
      injection h1 with h1 _ _
      subst h1
      exact ⟨cur, h2, h3⟩
  obtain ⟨cur, hat, htk⟩ := hat
  have HC := Lib.hid (show ∀ j l, L[j]? = some l → w1.cell? ⟨a, j, none⟩ = some (.string l) by
    intro j l h
    have hj : j < L.length := by
      rcases Nat.lt_or_ge j L.length with h' | h'
      · exact h'
      · rw [List.getElem?_eq_none h'] at h; cases h
    have h2 : (cur.toList.take (L.length * 1))[j]? = some (.string l) := by rw [htk, List.getElem?_map, h]; rfl
    rw [List.getElem?_take, if_pos (by omega)] at h2
    rw [Lib.cell_of_heap hat j, ← Array.getElem?_toList, h2])
  have HB1 := Lib.hid hb
  clear hb hown hat htk ha cur
  go_wp2_with fail
  go_loopg [3, 10] L.length (fun gk v3 v10 wx => ∃ k : Nat, k + gk = L.length ∧ v10 = .int .i64 (k : Int) ∧ Hid (Kd.R Kd.string 9 wx w1.heap.size (fun _ => True) v3 (linesB (L.take k))) ∧ Hid (Below w1.heap.size w1 wx))
  case atStart => exact ⟨0, by omega, rfl, Lib.hid (by rw [List.take_zero]; exact Kd.R_nil _ _ _ _ _), Lib.hid (Below.refl _ _)⟩
  case round =>
    obtain ⟨k, hk, rfl, HO, HB⟩ := hrel
    have HK := Lib.hid hk
    clear hk
    by_cases hlt : k < L.length
    · have hki : (k : Int) < (L.length : Int) := by omega
      have hk0 : (0 : Int) ≤ (k : Int) := by omega
      obtain ⟨l, hl⟩ : ∃ l, L[k]? = some l := ⟨_, List.getElem?_eq_getElem hlt⟩
      have cl1 := HC.out k l hl
      have cl : wr.cell? ⟨a, k, none⟩ = some (.string l) := (HB.out.cell (World.block_lt_of_cell? w1 _ cl1)).trans cl1
      have HS := Lib.hid (linesB_succ hl)
      have HLT := Lib.hid hlt
      have HLN := Lib.hid (show (linesB (L.take k)).length < 1000000 by
        have h1 := linesB_len (L.take k)
        have h2 : (L.take k).length ≤ L.length := by rw [List.length_take]; omega
        have h3 := HLl.out
        omega)
      clear cl1 hl hlt
      have put : ∀ (hp : pre1 l = true ∨ pre2 l = true), lineB l = [l.extract 2 l.size] := fun hp => by unfold lineB; exact if_pos hp
      by_cases p1 : pre1 l = true
      · have HP1 : Calls Tryd.prog 58 #[.string l, .string ⟨#[37, 37]⟩] wr fun e w' => e = .returned (.bool true) ∧ w' = wr := by rw [← p1]; exact Tryd.strings_HasPrefix l ⟨#[37, 37]⟩ wr
        have h2 : (2 : Int) ≤ (l.size : Int) := by have := pre_size p1; omega
        have hl1 := HS.out
        rw [put (.inl p1)] at hl1
        have HS1 := Lib.hid hl1
        clear hl1 put HS p1
        go_wp2_with fail
        refine HP1.mono ?_
        rintro e w2 ⟨rfl, rfl⟩
        go_wp2_with (first | ((with_reducible refine gate_builtin (b := .append) (xs := #[.tmp 20, .tmp 23]) rfl ?_); at_builtin; refine Kd.R_append Kd.string (w0 := w1) w1.heap.size rfl (.tmp 20) (.tmp 23) 46 9 (.string ⟨#[]⟩) 16 rfl Tryd.underlying46 infoStr rfl (by decide) (by omega) u3 (linesB (L.take k)) (l.extract 2 l.size) [.string (l.extract 2 l.size)] (fun _ => True) (fun _ => False) rfl rfl ?aP (fun _ hk => hk.elim) ?aF ?aO ?aB ?aS ?aL ?_; (case aP => exact rfl); (case aB => first | exact HB.out | exact below_alloc HB.out _); (case aF => exact (fun _ _ => trivial)); (case aO => first | exact HO.out | exact Kd.R_alloc HO.out _); (case aS => first | exact below_size HB.out | exact below_size (below_alloc HB.out _)); (case aL => have := HLN.out; omega); intro v107 w23 ho hb hg hat; rw [← HS1.out] at ho; have HO2 := Lib.hid ho; have HB2 := Lib.hid hb; clear ho hb hg hat))
        go_roundg (L.length - k - 1)
        case measure => have := HK.out; have := HLT.out; omega
        case rel => exact ⟨k + 1, by have := HK.out; have := HLT.out; omega, by rw [w64 _ (by omega) (by have := HLl.out; have := HLT.out; omega)]; push_cast; rfl, HO2, HB2⟩
      · have HP1 : Calls Tryd.prog 58 #[.string l, .string ⟨#[37, 37]⟩] wr fun e w' => e = .returned (.bool false) ∧ w' = wr := by rw [← Bool.eq_false_iff.2 p1]; exact Tryd.strings_HasPrefix l ⟨#[37, 37]⟩ wr
        by_cases p2 : pre2 l = true
        · have HP2 : Calls Tryd.prog 58 #[.string l, .string ⟨#[37, 33]⟩] wr fun e w' => e = .returned (.bool true) ∧ w' = wr := by rw [← p2]; exact Tryd.strings_HasPrefix l ⟨#[37, 33]⟩ wr
          have h2 : (2 : Int) ≤ (l.size : Int) := by have := pre_size p2; omega
          have hl1 := HS.out
          rw [put (.inr p2)] at hl1
          have HS1 := Lib.hid hl1
          clear hl1 put HS p1 p2
          go_wp2_with fail
          refine HP1.mono ?_
          rintro e w2 ⟨rfl, rfl⟩
          go_wp2_with fail
          refine HP2.mono ?_
          rintro e w2 ⟨rfl, rfl⟩
          go_wp2_with (first | ((with_reducible refine gate_builtin (b := .append) (xs := #[.tmp 20, .tmp 23]) rfl ?_); at_builtin; refine Kd.R_append Kd.string (w0 := w1) w1.heap.size rfl (.tmp 20) (.tmp 23) 46 9 (.string ⟨#[]⟩) 16 rfl Tryd.underlying46 infoStr rfl (by decide) (by omega) u3 (linesB (L.take k)) (l.extract 2 l.size) [.string (l.extract 2 l.size)] (fun _ => True) (fun _ => False) rfl rfl ?aP (fun _ hk => hk.elim) ?aF ?aO ?aB ?aS ?aL ?_; (case aP => exact rfl); (case aB => first | exact HB.out | exact below_alloc HB.out _); (case aF => exact (fun _ _ => trivial)); (case aO => first | exact HO.out | exact Kd.R_alloc HO.out _); (case aS => first | exact below_size HB.out | exact below_size (below_alloc HB.out _)); (case aL => have := HLN.out; omega); intro v107 w23 ho hb hg hat; rw [← HS1.out] at ho; have HO2 := Lib.hid ho; have HB2 := Lib.hid hb; clear ho hb hg hat))
          go_roundg (L.length - k - 1)
          case measure => have := HK.out; have := HLT.out; omega
          case rel => exact ⟨k + 1, by have := HK.out; have := HLT.out; omega, by rw [w64 _ (by omega) (by have := HLl.out; have := HLT.out; omega)]; push_cast; rfl, HO2, HB2⟩
        · have HP2 : Calls Tryd.prog 58 #[.string l, .string ⟨#[37, 33]⟩] wr fun e w' => e = .returned (.bool false) ∧ w' = wr := by rw [← Bool.eq_false_iff.2 p2]; exact Tryd.strings_HasPrefix l ⟨#[37, 33]⟩ wr
          have hl1 := HS.out
          rw [show lineB l = [] from if_neg (fun h => h.elim p1 p2), List.append_nil] at hl1
          have HS1 := Lib.hid hl1
          clear hl1 put HS p1 p2
          go_wp2_with fail
          refine HP1.mono ?_
          rintro e w2 ⟨rfl, rfl⟩
          go_wp2_with fail
          refine HP2.mono ?_
          rintro e w2 ⟨rfl, rfl⟩
          go_wp2_with fail
          go_roundg (L.length - k - 1)
          case measure => have := HK.out; have := HLT.out; omega
          case rel => exact ⟨k + 1, by have := HK.out; have := HLT.out; omega, by rw [w64 _ (by omega) (by have := HLl.out; have := HLT.out; omega)]; push_cast; rfl, Lib.hid (by rw [HS1.out]; exact HO.out), HB⟩
    · obtain rfl : k = L.length := by have := HK.out; omega
      have hki : ¬ ((L.length : Int) < (L.length : Int)) := by omega
      go_wp2_with fail
      go_ret
      have hD := HD.out
      subst hD
      exact ⟨_, rfl, Kd.R_lower (by have := HO.out; rw [List.take_length] at this; exact this) HB1.out.size, HB1.out.trans (HB.out.mono HB1.out.size)⟩

end Go.Proofs.YtiocgpfnbmlfaaaDoor.SC

/-! ## ZC -/
namespace Go.Proofs.YtiocgpfnbmlfaaaDoor
open Go Go.RowKit Go.ChangeShapes Go.Proofs Go.Proofs.YtiocgpfnbmlfaaaDoorW.PrintWords Go.Proofs.YtiocgpfnbmlfaaaDoorW.PrintLast Go.Proofs.YtiocgpfnbmlfaaaDoorW.PrintMore

def scan_Structure.f (l0 : List Int) : Option (List ByteArray) := if SC.isB l0 ∧ l0.length ≤ 100000 then some (SC.linesB (Lib.goFieldsP SC.isNL (QD.S (SC.unI l0)))) else none
theorem scan_Structure.calls (A0 : Option Addr) (c0 : Nat) (l0 : List Int) (r : List ByteArray) (w : World) (hr0 : Kd.C (Kd.int .u8) w A0 l0.length l0) (hc0 : l0.length ≤ c0) (h : scan_Structure.f l0 = some r) :
    Calls Tryd.prog 30 #[.slice A0 l0.length c0] w fun e w' => ∃ v0_ : Value, e = .returned (v0_) ∧ Kd.R Kd.string 9 w' w.heap.size (fun _ => True) v0_ r ∧ Below w.heap.size w w' := by
  have _ := hc0
  unfold scan_Structure.f at h
  split at h
  · rename_i hh
    obtain ⟨hB, hl⟩ := hh
    obtain rfl := Option.some.inj h
    have := SC.structure_any A0 c0 (SC.unI l0) w (by rw [SC.unI_len, SC.bI_un l0 hB]; exact hr0) (by rw [SC.unI_len]; exact hl)
    rw [SC.unI_len] at this
    exact this
  · cases h

end Go.Proofs.YtiocgpfnbmlfaaaDoor

/-! ## PS4x0 -/
namespace Go.Proofs.YtiocgpfnbmlfaaaDoor.PS4
open Go.RowKit Go.Proofs.YtiocgpfnbmlfaaaDoorW.PrintWords Go.Proofs.YtiocgpfnbmlfaaaDoorW.PrintLast Go.Proofs.YtiocgpfnbmlfaaaDoorW.PrintMore
attribute [local go_sem] max2_int min2_int max_two min_two max_three min_three max_four min_four   -- for this text's walks alone
set_option linter.unusedVariables false
set_option linter.unusedSimpArgs false



def errW : Option Int → Value
  | none => .nilIface
  | some c => .iface 0 (.int .i64 c)
theorem errW_none : errW none = .nilIface := rfl
theorem errW_some (c : Int) : errW (some c) = .iface 0 (.int .i64 c) := rfl

theorem info5 : (Tryd.prog.info? 5).map (fun i => (i.zero, i.size, i.bytes)) = some (some (.int .u8 0), 1, 1) := by kernel_rfl
theorem info9 : (Tryd.prog.info? 9).map (fun i => (i.zero, i.size, i.bytes)) = some (some (.string ⟨#[]⟩), 1, 16) := by kernel_rfl
-- the values' own types

end Go.Proofs.YtiocgpfnbmlfaaaDoor.PS4

/-! ## PS4x1 -/
namespace Go.Proofs.YtiocgpfnbmlfaaaDoor.PS4
open Go.RowKit Go.Proofs.YtiocgpfnbmlfaaaDoorW.PrintWords Go.Proofs.YtiocgpfnbmlfaaaDoorW.PrintLast Go.Proofs.YtiocgpfnbmlfaaaDoorW.PrintMore
attribute [local go_sem] max2_int min2_int max_two min_two max_three min_three max_four min_four   -- for this text's walks alone
set_option linter.unusedVariables false
set_option linter.unusedSimpArgs false

-- given: function 23 (mezzotintlaw04_answers)

/-! ### mezzotintref01_Texts: function 29 -/
def mezzotintref01_Texts.l0 : Nat → List ByteArray → List ByteArray → Int → Option (Bool)
  | 0, _, _, _ => none
  | k + 1, x0, x1, x5 => if x5 < (x0.length : Int) then (if 0 ≤ x5 then (if x5 < (x1.length : Int) then (if (rdOf ByteArray.empty x0 x5).toList = (rdOf ByteArray.empty x1 x5).toList then (mezzotintref01_Texts.l0 k x0 x1 (wrap64 (x5 + 1))) else (some false)) else (none)) else (none)) else (some true)
def mezzotintref01_Texts.f (k : Nat) (l0 : List ByteArray) (l1 : List ByteArray) : Option (Bool) := if (l0.length : Int) = (l1.length : Int) then (mezzotintref01_Texts.l0 k l0 l1 0) else (some false)
theorem mezzotintref01_Texts.mono_l : ∀ k, (∀ y0 y1 y2, LeO (mezzotintref01_Texts.l0 k y0 y1 y2) (mezzotintref01_Texts.l0 (k + 1) y0 y1 y2))
  | 0 => fun _ _ _ r h => by simp [mezzotintref01_Texts.l0] at h
  | k + 1 => by
    have ih0 := mezzotintref01_Texts.mono_l k
    · intro y0 y1 y2
      unfold mezzotintref01_Texts.l0
      repeat' first
      | (with_reducible exact ih0 _ _ _)
      | (with_reducible exact LeO.refl _)
      | (with_reducible exact LeO.none _)
      | (with_reducible refine LeO.ite ?_ ?_)
      | (with_reducible refine LeO.bind ?_ (fun _ => ?_))
      | exact ih0 _ _ _
      | exact LeO.none _
      | refine LeO.ite ?_ ?_
      | refine LeO.bind ?_ (fun _ => ?_)
theorem mezzotintref01_Texts.mono : ∀ a0 a1 k, LeO (mezzotintref01_Texts.f k a0 a1) (mezzotintref01_Texts.f (k + 1) a0 a1) := by
  intro a0 a1 k
  have ih0 := mezzotintref01_Texts.mono_l k
  unfold mezzotintref01_Texts.f
  repeat' first
      | (with_reducible exact ih0 _ _ _)
      | (with_reducible exact LeO.refl _)
      | (with_reducible exact LeO.none _)
      | (with_reducible refine LeO.ite ?_ ?_)
      | (with_reducible refine LeO.bind ?_ (fun _ => ?_))
      | exact ih0 _ _ _
      | exact LeO.none _
      | refine LeO.ite ?_ ?_
      | refine LeO.bind ?_ (fun _ => ?_)
set_option maxHeartbeats 8000000 in
set_option maxRecDepth 100000 in
theorem mezzotintref01_Texts.calls (k : Nat) (A0 : Option Addr) (c0 : Nat) (l0 : List ByteArray) (A1 : Option Addr) (c1 : Nat) (l1 : List ByteArray) (r : Bool) (w : World) (hr0 : Kd.C Kd.string w A0 l0.length l0) (hc0 : l0.length ≤ c0) (hr1 : Kd.C Kd.string w A1 l1.length l1) (hc1 : l1.length ≤ c1) (h : mezzotintref01_Texts.f k l0 l1 = some r) :
    Calls Tryd.prog 29 #[.slice A0 l0.length c0, .slice A1 l1.length c1] w fun e w' => e = .returned (.bool r) ∧ Drawn0 w w' := by
  have HR0 := Aside0.mk hr0
  have HC0 := Aside0.mk hc0
  clear hr0 hc0
  have HR1 := Aside0.mk hr1
  have HC1 := Aside0.mk hc1
  clear hr1 hc1
  have H : (if (l0.length : Int) = (l1.length : Int) then (mezzotintref01_Texts.l0 k l0 l1 0) else (some false)) = some r := h
  clear h
  by_cases c3 : (l0.length : Int) = (l1.length : Int)
  · rw [if_pos c3] at H
    have c3b0 : ((l0.length : Int) == (l1.length : Int)) = true := beq_iff_eq.mpr c3
    have c3b1 : ((l0.length : Int) != (l1.length : Int)) = false := bne_eq_false_iff_eq.mpr c3
    have c3b2 : (l0.length == l1.length) = true := by first | simpa using c3 | (simp at c3 ⊢; omega)
    clear c3
    have H' := Aside0.mk H
    clear H
    go_enter Tryd.func29, Tryd.ntmps29
    go_wp2
    repeat (go_quiet (fail); try go_wp2)
    go_loopg [5] k (fun kq v5 w' => ∃ (x5_1 : Int), v5 = .int .i64 x5_1 ∧ Aside0 (mezzotintref01_Texts.l0 kq l0 l1 x5_1 = some r) ∧ Aside0 (kq ≤ k) ∧ Drawn0 w w')
    case atStart => exact ⟨(0), (by first | rfl | (simp; done) | (simp [*]; done)), H', ⟨Nat.le_refl _⟩, by repeat (first | exact Drawn0.refl _ | apply Drawn0.step)⟩
    case round =>
      clear H'
      try clear c1
      try clear c2
      try clear p2
      try clear c3
      try clear c3b0
      try clear c3b1
      try clear c3b2
      obtain ⟨x5_1, rfl, HA, HK1, ⟨m1, rfl⟩⟩ := hrel
      cases gk with
      | zero => exact absurd HA.out (by simp [mezzotintref01_Texts.l0])
      | succ k1 =>
        have H := HA.out
        clear HA
        simp only [mezzotintref01_Texts.l0] at H
        by_cases c4 : x5_1 < (l0.length : Int)
        · rw [if_pos c4] at H
          have c4b0 : decide (x5_1 < (l0.length : Int)) = true := decide_eq_true c4
          clear c4
          by_cases c5 : 0 ≤ x5_1
          · rw [if_pos c5] at H
            have c5b0 : decide (0 ≤ x5_1) = true := decide_eq_true c5
            clear c5
            by_cases c6 : x5_1 < (l1.length : Int)
            · rw [if_pos c6] at H
              have c6b0 : decide (x5_1 < (l1.length : Int)) = true := decide_eq_true c6
              clear c6
              by_cases c7 : (rdOf ByteArray.empty l0 x5_1).toList = (rdOf ByteArray.empty l1 x5_1).toList
              · rw [if_pos c7] at H
                have c7b0 : ((rdOf ByteArray.empty l0 x5_1).toList == (rdOf ByteArray.empty l1 x5_1).toList) = true := beq_iff_eq.mpr c7
                have c7b1 : ((rdOf ByteArray.empty l0 x5_1).toList != (rdOf ByteArray.empty l1 x5_1).toList) = false := bne_eq_false_iff_eq.mpr c7
                clear c7
                have H' := Aside0.mk H
                clear H
                have p101 : 0 ≤ (x5_1 : Int) := of_decide_eq_true (by first | (with_reducible assumption) | assumption)
                have q101 : x5_1 < (l0.length : Int) := of_decide_eq_true (by first | (with_reducible assumption) | assumption)
                obtain ⟨ad101, e101, hx101_0⟩ := Kd.at_string HR0.out x5_1 p101 q101
                cases e101
                replace p101 := eq_true p101
                replace q101 := eq_true q101
                have p102 : 0 ≤ (x5_1 : Int) := of_decide_eq_true (by first | (with_reducible assumption) | assumption)
                have q102 : x5_1 < (l1.length : Int) := of_decide_eq_true (by first | (with_reducible assumption) | assumption)
                obtain ⟨ad102, e102, hx102_0⟩ := Kd.at_string HR1.out x5_1 p102 q102
                cases e102
                replace p102 := eq_true p102
                replace q102 := eq_true q102
                go_wp2
                repeat (go_quiet (fail); try go_wp2)
                go_roundg k1
                case measure => have := HK1.out; omega
                case rel => exact ⟨(wrap64 (x5_1 + 1)), (by first | rfl | (simp; done) | (simp [*]; done)), H', ⟨by have := HK1.out; omega⟩, by repeat (first | exact Drawn0.refl _ | apply Drawn0.step)⟩
              · rw [if_neg c7] at H
                have c7b0 : ((rdOf ByteArray.empty l0 x5_1).toList == (rdOf ByteArray.empty l1 x5_1).toList) = false := beq_eq_false_iff_ne.mpr c7
                have c7b1 : ((rdOf ByteArray.empty l0 x5_1).toList != (rdOf ByteArray.empty l1 x5_1).toList) = true := bne_iff_ne.mpr c7
                obtain rfl := Option.some.inj H
                have p101 : 0 ≤ (x5_1 : Int) := of_decide_eq_true (by first | (with_reducible assumption) | assumption)
                have q101 : x5_1 < (l0.length : Int) := of_decide_eq_true (by first | (with_reducible assumption) | assumption)
                obtain ⟨ad101, e101, hx101_0⟩ := Kd.at_string HR0.out x5_1 p101 q101
                cases e101
                replace p101 := eq_true p101
                replace q101 := eq_true q101
                have p102 : 0 ≤ (x5_1 : Int) := of_decide_eq_true (by first | (with_reducible assumption) | assumption)
                have q102 : x5_1 < (l1.length : Int) := of_decide_eq_true (by first | (with_reducible assumption) | assumption)
                obtain ⟨ad102, e102, hx102_0⟩ := Kd.at_string HR1.out x5_1 p102 q102
                cases e102
                replace p102 := eq_true p102
                replace q102 := eq_true q102
                go_wp2
                repeat (go_quiet (fail); try go_wp2)
                go_ret
                exact ⟨by first | rfl | (simp; done) | (simp [*]; done), by repeat (first | exact Drawn0.refl _ | apply Drawn0.step)⟩
            · rw [if_neg c6] at H
              exact absurd H (by simp)
          · rw [if_neg c5] at H
            exact absurd H (by simp)
        · rw [if_neg c4] at H
          have c4b0 : decide (x5_1 < (l0.length : Int)) = false := decide_eq_false c4
          clear c4
          obtain rfl := Option.some.inj H
          go_wp2
          repeat (go_quiet (fail); try go_wp2)
          go_ret
          exact ⟨by first | rfl | (simp; done) | (simp [*]; done), by repeat (first | exact Drawn0.refl _ | apply Drawn0.step)⟩
  · rw [if_neg c3] at H
    have c3b0 : ((l0.length : Int) == (l1.length : Int)) = false := beq_eq_false_iff_ne.mpr c3
    have c3b1 : ((l0.length : Int) != (l1.length : Int)) = true := bne_iff_ne.mpr c3
    have c3b2 : (l0.length == l1.length) = false := by first | simpa using c3 | (simp at c3 ⊢; omega)
    obtain rfl := Option.some.inj H
    go_enter Tryd.func29, Tryd.ntmps29
    go_wp2
    repeat (go_quiet (fail); try go_wp2)
    go_ret
    exact ⟨by first | rfl | (simp; done) | (simp [*]; done), by repeat (first | exact Drawn0.refl _ | apply Drawn0.step)⟩

-- given: function 30 (scan_Structure)

/-! ### mezzotintref04_Structure: function 31 -/
mutual
def mezzotintref04_Structure.l0 : Nat → List Int → List ByteArray → Int → Int → Option (List ByteArray)
  | 0, _, _, _, _ => none
  | k + 1, x0, x3, x4, x5 => if x5 ≤ (x0.length : Int) then (if x5 < (x0.length : Int) then (if 0 ≤ x5 then (if (rd x0 x5) = 10 then (mezzotintref04_Structure.j1 k x0 x3 x4 x5 false) else (mezzotintref04_Structure.j1 k x0 x3 x4 x5 ((rd x0 x5) != 13))) else (none)) else (mezzotintref04_Structure.j1 k x0 x3 x4 x5 false)) else (some x3)
def mezzotintref04_Structure.j1 : Nat → List Int → List ByteArray → Int → Int → Bool → Option (List ByteArray)
  | 0, _, _, _, _, _ => none
  | k + 1, x0, x3, x4, x5, x29 => if x29 = true then (mezzotintref04_Structure.l0 k x0 x3 x4 (wrap64 (x5 + 1))) else (if (wrap64 (x5 - x4)) ≥ 2 then (if 0 ≤ x4 then (if x4 < (x0.length : Int) then (if (rd x0 x4) = 37 then (if 0 ≤ (wrap64 (x4 + 1)) then (if (wrap64 (x4 + 1)) < (x0.length : Int) then (if (rd x0 (wrap64 (x4 + 1))) = 37 then (if 0 ≤ (wrap64 (x4 + 2)) then (if (wrap64 (x4 + 2)) ≤ x5 then (if x5 ≤ (x0.length : Int) then (if x3.length < 8796093022208 then (mezzotintref04_Structure.l0 k x0 (x3 ++ [strOfNums ((x0.take (x5 : Int).toNat).drop ((wrap64 (x4 + 2)) : Int).toNat)]) (wrap64 (x5 + 1)) (wrap64 (x5 + 1))) else (none)) else (none)) else (none)) else (none)) else (if (rd x0 (wrap64 (x4 + 1))) = 33 then (if 0 ≤ (wrap64 (x4 + 2)) then (if (wrap64 (x4 + 2)) ≤ x5 then (if x5 ≤ (x0.length : Int) then (if x3.length < 8796093022208 then (mezzotintref04_Structure.l0 k x0 (x3 ++ [strOfNums ((x0.take (x5 : Int).toNat).drop ((wrap64 (x4 + 2)) : Int).toNat)]) (wrap64 (x5 + 1)) (wrap64 (x5 + 1))) else (none)) else (none)) else (none)) else (none)) else (mezzotintref04_Structure.l0 k x0 x3 (wrap64 (x5 + 1)) (wrap64 (x5 + 1))))) else (none)) else (none)) else (mezzotintref04_Structure.l0 k x0 x3 (wrap64 (x5 + 1)) (wrap64 (x5 + 1)))) else (none)) else (none)) else (mezzotintref04_Structure.l0 k x0 x3 (wrap64 (x5 + 1)) (wrap64 (x5 + 1))))
end
def mezzotintref04_Structure.f (k : Nat) (l0 : List Int) : Option (List ByteArray) := mezzotintref04_Structure.l0 k l0 ([] : List ByteArray) 0 0
theorem mezzotintref04_Structure.mono_l : ∀ k, (∀ y0 y1 y2 y3, LeO (mezzotintref04_Structure.l0 k y0 y1 y2 y3) (mezzotintref04_Structure.l0 (k + 1) y0 y1 y2 y3)) ∧ (∀ y0 y1 y2 y3 y4, LeO (mezzotintref04_Structure.j1 k y0 y1 y2 y3 y4) (mezzotintref04_Structure.j1 (k + 1) y0 y1 y2 y3 y4))
  | 0 => ⟨fun _ _ _ _ r h => by simp [mezzotintref04_Structure.l0] at h, fun _ _ _ _ _ r h => by simp [mezzotintref04_Structure.j1] at h⟩
  | k + 1 => by
    obtain ⟨ih0, ih1⟩ := mezzotintref04_Structure.mono_l k
    refine ⟨?_, ?_⟩
    · intro y0 y1 y2 y3
      unfold mezzotintref04_Structure.l0
      repeat' first
      | (with_reducible exact ih0 _ _ _ _)
      | (with_reducible exact ih1 _ _ _ _ _)
      | (with_reducible exact LeO.refl _)
      | (with_reducible exact LeO.none _)
      | (with_reducible refine LeO.ite ?_ ?_)
      | (with_reducible refine LeO.bind ?_ (fun _ => ?_))
      | exact ih0 _ _ _ _
      | exact ih1 _ _ _ _ _
      | exact LeO.none _
      | refine LeO.ite ?_ ?_
      | refine LeO.bind ?_ (fun _ => ?_)
    · intro y0 y1 y2 y3 y4
      unfold mezzotintref04_Structure.j1
      repeat' first
      | (with_reducible exact ih0 _ _ _ _)
      | (with_reducible exact ih1 _ _ _ _ _)
      | (with_reducible exact LeO.refl _)
      | (with_reducible exact LeO.none _)
      | (with_reducible refine LeO.ite ?_ ?_)
      | (with_reducible refine LeO.bind ?_ (fun _ => ?_))
      | exact ih0 _ _ _ _
      | exact ih1 _ _ _ _ _
      | exact LeO.none _
      | refine LeO.ite ?_ ?_
      | refine LeO.bind ?_ (fun _ => ?_)
theorem mezzotintref04_Structure.mono : ∀ a0 k, LeO (mezzotintref04_Structure.f k a0) (mezzotintref04_Structure.f (k + 1) a0) := by
  intro a0 k
  obtain ⟨ih0, ih1⟩ := mezzotintref04_Structure.mono_l k
  unfold mezzotintref04_Structure.f
  repeat' first
      | (with_reducible exact ih0 _ _ _ _)
      | (with_reducible exact ih1 _ _ _ _ _)
      | (with_reducible exact LeO.refl _)
      | (with_reducible exact LeO.none _)
      | (with_reducible refine LeO.ite ?_ ?_)
      | (with_reducible refine LeO.bind ?_ (fun _ => ?_))
      | exact ih0 _ _ _ _
      | exact ih1 _ _ _ _ _
      | exact LeO.none _
      | refine LeO.ite ?_ ?_
      | refine LeO.bind ?_ (fun _ => ?_)
set_option maxHeartbeats 8000000 in
set_option maxRecDepth 100000 in
theorem mezzotintref04_Structure.calls (k : Nat) (A0 : Option Addr) (c0 : Nat) (l0 : List Int) (r : List ByteArray) (w : World) (hr0 : Kd.C (Kd.int .u8) w A0 l0.length l0) (hc0 : l0.length ≤ c0) (h : mezzotintref04_Structure.f k l0 = some r) :
    Calls Tryd.prog 31 #[.slice A0 l0.length c0] w fun e w' => ∃ v0_ : Value, e = .returned (v0_) ∧ Kd.R Kd.string 9 w' w.heap.size (fun _ => True) v0_ r ∧ Below w.heap.size w w' := by
  have HR0 := Aside0.mk hr0
  have HC0 := Aside0.mk hc0
  clear hr0 hc0
  have HB := Aside0.mk (Below.refl w.heap.size w)
  have H : (mezzotintref04_Structure.l0 k l0 ([] : List ByteArray) 0 0) = some r := h
  clear h
  have H' := Aside0.mk H
  clear H
  go_enter Tryd.func31, Tryd.ntmps31
  go_wp2
  go_loopg [3, 4, 5] k (fun kq v3 v4 v5 w' => ∃ (x3_1 : List ByteArray) (x4_1 : Int) (x5_1 : Int), v4 = .int .i64 x4_1 ∧ v5 = .int .i64 x5_1 ∧ Aside0 (mezzotintref04_Structure.l0 kq l0 x3_1 x4_1 x5_1 = some r) ∧ Aside0 (kq ≤ k) ∧ Aside0 (Kd.R Kd.string 9 w' w.heap.size (fun _ => True) v3 x3_1) ∧ Aside0 (Below w.heap.size w w'))
  case atStart => exact ⟨(([] : List ByteArray)), (0), (0), (by first | rfl | (simp; done) | (simp [*]; done)), (by first | rfl | (simp; done) | (simp [*]; done)), H', ⟨Nat.le_refl _⟩, ⟨by first | exact Kd.R_nil _ _ _ _ _ | exact Kd.N_nil _ _ _ _ _ | exact Kd.V_nil _ _ _ _ _ | exact Kd.Q_nil _ _ _ _ _ | exact Kd.S_nil _ _ _ _ _⟩, ⟨by repeat (first | (with_reducible first | exact HB.out | apply below_alloc | apply pw_below_drewN | apply below_drew1) | exact HB.out)⟩⟩
  case round =>
    clear H'
    obtain ⟨x3_1, x4_1, x5_1, rfl, rfl, HA, HK1, HO_3, HB⟩ := hrel
    cases gk with
    | zero => exact absurd HA.out (by simp [mezzotintref04_Structure.l0])
    | succ k1 =>
      have H := HA.out
      clear HA
      simp only [mezzotintref04_Structure.l0] at H
      by_cases c2 : x5_1 ≤ (l0.length : Int)
      · rw [if_pos c2] at H
        have c2b0 : decide (x5_1 ≤ (l0.length : Int)) = true := decide_eq_true c2
        clear c2
        have HC3 := Aside0.mk H
        clear H
        go_upto_region 6 with (fail)
        go_cut [29] (fun v29 wc => ∃ (kq : Nat) (x29_2 : Bool), v29 = .bool x29_2 ∧ Aside0 (mezzotintref04_Structure.j1 kq l0 x3_1 x4_1 x5_1 x29_2 = some r) ∧ Aside0 (kq ≤ k1) ∧ Aside0 (Kd.R Kd.string 9 wc w.heap.size (fun _ => True) u3 x3_1) ∧ Aside0 (Below w.heap.size w wc))
        case first =>
          have H := HC3.out
          clear HC3
          by_cases c4 : x5_1 < (l0.length : Int)
          · rw [if_pos c4] at H
            have c4b0 : decide (x5_1 < (l0.length : Int)) = true := decide_eq_true c4
            clear c4
            (first | rw [c4b0] | (simp only [i64_w, i32_w]; rw [c4b0]) | skip)
            by_cases c5 : 0 ≤ x5_1
            · rw [if_pos c5] at H
              have c5b0 : decide (0 ≤ x5_1) = true := decide_eq_true c5
              clear c5
              by_cases c6 : (rd l0 x5_1) = 10
              · rw [if_pos c6] at H
                have c6b0 : ((rd l0 x5_1) == 10) = true := beq_iff_eq.mpr c6
                have c6b1 : ((rd l0 x5_1) != 10) = false := bne_eq_false_iff_eq.mpr c6
                clear c6
                have H' := Aside0.mk H
                clear H
                have p103 : 0 ≤ (x5_1 : Int) := of_decide_eq_true (by first | (with_reducible assumption) | assumption)
                have q103 : x5_1 < (l0.length : Int) := of_decide_eq_true (by first | (with_reducible assumption) | assumption)
                obtain ⟨ad103, e103, hx103_0⟩ := Kd.at_int HR0.out x5_1 p103 q103
                cases e103
                replace hx103_0 := (HB.out.cell (World.block_lt_of_cell? w _ hx103_0)).trans hx103_0
                replace p103 := eq_true p103
                replace q103 := eq_true q103
                go_wp2
                go_meet
                case rel => exact ⟨_, (false), (by first | rfl | (simp; done) | (simp [*]; done)), H', ⟨by have := HK1.out; first | omega | exact Nat.le_refl _⟩, ⟨by (with_reducible repeat (first | apply Kd.R_alloc | apply Kd.R_drewN | apply Kd.R_drew)); exact HO_3.out⟩, ⟨by repeat (first | (with_reducible first | exact HB.out | apply below_alloc | apply pw_below_drewN | apply below_drew1) | exact HB.out)⟩⟩
              · rw [if_neg c6] at H
                have c6b0 : ((rd l0 x5_1) == 10) = false := beq_eq_false_iff_ne.mpr c6
                have c6b1 : ((rd l0 x5_1) != 10) = true := bne_iff_ne.mpr c6
                have H' := Aside0.mk H
                clear H
                have p103 : 0 ≤ (x5_1 : Int) := of_decide_eq_true (by first | (with_reducible assumption) | assumption)
                have q103 : x5_1 < (l0.length : Int) := of_decide_eq_true (by first | (with_reducible assumption) | assumption)
                obtain ⟨ad103, e103, hx103_0⟩ := Kd.at_int HR0.out x5_1 p103 q103
                cases e103
                replace hx103_0 := (HB.out.cell (World.block_lt_of_cell? w _ hx103_0)).trans hx103_0
                replace p103 := eq_true p103
                replace q103 := eq_true q103
                have p104 : 0 ≤ (x5_1 : Int) := of_decide_eq_true (by first | (with_reducible assumption) | assumption)
                have q104 : x5_1 < (l0.length : Int) := of_decide_eq_true (by first | (with_reducible assumption) | assumption)
                obtain ⟨ad104, e104, hx104_0⟩ := Kd.at_int HR0.out x5_1 p104 q104
                obtain rfl : ad103 = ad104 := (by injection e104)
                replace hx104_0 := (HB.out.cell (World.block_lt_of_cell? w _ hx104_0)).trans hx104_0
                replace p104 := eq_true p104
                replace q104 := eq_true q104
                go_wp2
                go_meet
                case rel => exact ⟨_, (((rd l0 x5_1) != 13)), (by first | rfl | (simp; done) | (simp [*]; done)), H', ⟨by have := HK1.out; first | omega | exact Nat.le_refl _⟩, ⟨by (with_reducible repeat (first | apply Kd.R_alloc | apply Kd.R_drewN | apply Kd.R_drew)); exact HO_3.out⟩, ⟨by repeat (first | (with_reducible first | exact HB.out | apply below_alloc | apply pw_below_drewN | apply below_drew1) | exact HB.out)⟩⟩
            · rw [if_neg c5] at H
              exact absurd H (by simp)
          · rw [if_neg c4] at H
            have c4b0 : decide (x5_1 < (l0.length : Int)) = false := decide_eq_false c4
            clear c4
            (first | rw [c4b0] | (simp only [i64_w, i32_w]; rw [c4b0]) | skip)
            have H' := Aside0.mk H
            clear H
            go_wp2
            go_meet
            case rel => exact ⟨_, (false), (by first | rfl | (simp; done) | (simp [*]; done)), H', ⟨by have := HK1.out; first | omega | exact Nat.le_refl _⟩, ⟨by (with_reducible repeat (first | apply Kd.R_alloc | apply Kd.R_drewN | apply Kd.R_drew)); exact HO_3.out⟩, ⟨by repeat (first | (with_reducible first | exact HB.out | apply below_alloc | apply pw_below_drewN | apply below_drew1) | exact HB.out)⟩⟩
        case rest =>
          clear HC3
          try clear p1
          try clear q1
          try clear hx1
          try clear c2
          try clear c2b0
          try clear p2
          try clear c3
          try clear c4
          try clear c4b0
          try clear c5
          try clear c5b0
          try clear c6
          try clear c6b0
          try clear c6b1
          try clear hx103_0
          try clear hx104_0
          try clear p103
          try clear p104
          try clear q103
          try clear q104
          obtain ⟨kq, x29_2, rfl, HA, HJ2, HO_3, HB⟩ := hcut
          cases kq with
          | zero => exact absurd HA.out (by simp [mezzotintref04_Structure.j1])
          | succ kj2 =>
            have H := HA.out
            clear HA
            simp only [mezzotintref04_Structure.j1] at H
            by_cases c7 : x29_2 = true
            · subst c7
              have H1 : (mezzotintref04_Structure.l0 kj2 l0 x3_1 x4_1 (wrap64 (x5_1 + 1))) = some r := by rw [if_pos rfl] at H; exact H
              clear H
              have H := H1
              clear H1
              have H' := Aside0.mk H
              clear H
              go_wp2
              go_roundg kj2
              case measure => have := HK1.out; have := HJ2.out; omega
              case rel => exact ⟨(x3_1), (x4_1), (wrap64 (x5_1 + 1)), (by first | rfl | (simp; done) | (simp [*]; done)), (by first | rfl | (simp; done) | (simp [*]; done)), H', ⟨by have := HK1.out; have := HJ2.out; omega⟩, ⟨by (with_reducible repeat (first | apply Kd.R_alloc | apply Kd.R_drewN | apply Kd.R_drew)); exact HO_3.out⟩, ⟨by repeat (first | (with_reducible first | exact HB.out | apply below_alloc | apply pw_below_drewN | apply below_drew1) | exact HB.out)⟩⟩
            · replace c7 := Bool.eq_false_iff.mpr c7
              subst c7
              have H1 : (if (wrap64 (x5_1 - x4_1)) ≥ 2 then (if 0 ≤ x4_1 then (if x4_1 < (l0.length : Int) then (if (rd l0 x4_1) = 37 then (if 0 ≤ (wrap64 (x4_1 + 1)) then (if (wrap64 (x4_1 + 1)) < (l0.length : Int) then (if (rd l0 (wrap64 (x4_1 + 1))) = 37 then (if 0 ≤ (wrap64 (x4_1 + 2)) then (if (wrap64 (x4_1 + 2)) ≤ x5_1 then (if x5_1 ≤ (l0.length : Int) then (if x3_1.length < 8796093022208 then (mezzotintref04_Structure.l0 kj2 l0 (x3_1 ++ [strOfNums ((l0.take (x5_1 : Int).toNat).drop ((wrap64 (x4_1 + 2)) : Int).toNat)]) (wrap64 (x5_1 + 1)) (wrap64 (x5_1 + 1))) else (none)) else (none)) else (none)) else (none)) else (if (rd l0 (wrap64 (x4_1 + 1))) = 33 then (if 0 ≤ (wrap64 (x4_1 + 2)) then (if (wrap64 (x4_1 + 2)) ≤ x5_1 then (if x5_1 ≤ (l0.length : Int) then (if x3_1.length < 8796093022208 then (mezzotintref04_Structure.l0 kj2 l0 (x3_1 ++ [strOfNums ((l0.take (x5_1 : Int).toNat).drop ((wrap64 (x4_1 + 2)) : Int).toNat)]) (wrap64 (x5_1 + 1)) (wrap64 (x5_1 + 1))) else (none)) else (none)) else (none)) else (none)) else (mezzotintref04_Structure.l0 kj2 l0 x3_1 (wrap64 (x5_1 + 1)) (wrap64 (x5_1 + 1))))) else (none)) else (none)) else (mezzotintref04_Structure.l0 kj2 l0 x3_1 (wrap64 (x5_1 + 1)) (wrap64 (x5_1 + 1)))) else (none)) else (none)) else (mezzotintref04_Structure.l0 kj2 l0 x3_1 (wrap64 (x5_1 + 1)) (wrap64 (x5_1 + 1)))) = some r := by rw [if_neg (show ¬ (false = true) by decide)] at H; exact H
              clear H
              have H := H1
              clear H1
              by_cases c8 : (wrap64 (x5_1 - x4_1)) ≥ 2
              · rw [if_pos c8] at H
                have c8b0 : decide (2 ≤ (wrap64 (x5_1 - x4_1))) = true := decide_eq_true c8
                clear c8
                by_cases c9 : 0 ≤ x4_1
                · rw [if_pos c9] at H
                  have c9b0 : decide (0 ≤ x4_1) = true := decide_eq_true c9
                  clear c9
                  by_cases c10 : x4_1 < (l0.length : Int)
                  · rw [if_pos c10] at H
                    have c10b0 : decide (x4_1 < (l0.length : Int)) = true := decide_eq_true c10
                    clear c10
                    by_cases c11 : (rd l0 x4_1) = 37
                    · rw [if_pos c11] at H
                      have c11b0 : ((rd l0 x4_1) == 37) = true := beq_iff_eq.mpr c11
                      have c11b1 : ((rd l0 x4_1) != 37) = false := bne_eq_false_iff_eq.mpr c11
                      clear c11
                      obtain ⟨ji12, hji12⟩ : ∃ j_ : Int, (wrap64 (x4_1 + 1)) = j_ := ⟨_, rfl⟩
                      replace H : (if 0 ≤ (ji12) then (if (ji12) < (l0.length : Int) then (if (rd l0 (ji12)) = 37 then (if 0 ≤ (wrap64 (x4_1 + 2)) then (if (wrap64 (x4_1 + 2)) ≤ x5_1 then (if x5_1 ≤ (l0.length : Int) then (if x3_1.length < 8796093022208 then (mezzotintref04_Structure.l0 kj2 l0 (x3_1 ++ [strOfNums ((l0.take (x5_1 : Int).toNat).drop ((wrap64 (x4_1 + 2)) : Int).toNat)]) (wrap64 (x5_1 + 1)) (wrap64 (x5_1 + 1))) else (none)) else (none)) else (none)) else (none)) else (if (rd l0 (ji12)) = 33 then (if 0 ≤ (wrap64 (x4_1 + 2)) then (if (wrap64 (x4_1 + 2)) ≤ x5_1 then (if x5_1 ≤ (l0.length : Int) then (if x3_1.length < 8796093022208 then (mezzotintref04_Structure.l0 kj2 l0 (x3_1 ++ [strOfNums ((l0.take (x5_1 : Int).toNat).drop ((wrap64 (x4_1 + 2)) : Int).toNat)]) (wrap64 (x5_1 + 1)) (wrap64 (x5_1 + 1))) else (none)) else (none)) else (none)) else (none)) else (mezzotintref04_Structure.l0 kj2 l0 x3_1 (wrap64 (x5_1 + 1)) (wrap64 (x5_1 + 1))))) else (none)) else (none)) = some r := by first | (rw [hji12] at H; exact H) | (simp only [hji12] at H ⊢; exact H)
                      have hji12w : (IntKind.i64.wrap (x4_1 + 1)) = ji12 := (i64_w _).trans hji12
                      by_cases c13 : 0 ≤ (ji12)
                      · rw [if_pos c13] at H
                        have c13b0 : decide (0 ≤ (ji12)) = true := decide_eq_true c13
                        clear c13
                        by_cases c14 : (ji12) < (l0.length : Int)
                        · rw [if_pos c14] at H
                          have c14b0 : decide ((ji12) < (l0.length : Int)) = true := decide_eq_true c14
                          clear c14
                          by_cases c15 : (rd l0 (ji12)) = 37
                          · rw [if_pos c15] at H
                            have c15b0 : ((rd l0 (ji12)) == 37) = true := beq_iff_eq.mpr c15
                            have c15b1 : ((rd l0 (ji12)) != 37) = false := bne_eq_false_iff_eq.mpr c15
                            clear c15
                            obtain ⟨ji16, hji16⟩ : ∃ j_ : Int, (wrap64 (x4_1 + 2)) = j_ := ⟨_, rfl⟩
                            replace H : (if 0 ≤ (ji16) then (if (ji16) ≤ x5_1 then (if x5_1 ≤ (l0.length : Int) then (if x3_1.length < 8796093022208 then (mezzotintref04_Structure.l0 kj2 l0 (x3_1 ++ [strOfNums ((l0.take (x5_1 : Int).toNat).drop ((ji16) : Int).toNat)]) (wrap64 (x5_1 + 1)) (wrap64 (x5_1 + 1))) else (none)) else (none)) else (none)) else (none)) = some r := by first | (rw [hji16] at H; exact H) | (simp only [hji16] at H ⊢; exact H)
                            have hji16w : (IntKind.i64.wrap (x4_1 + 2)) = ji16 := (i64_w _).trans hji16
                            by_cases c17 : 0 ≤ (ji16)
                            · rw [if_pos c17] at H
                              have c17b0 := eq_true c17
                              have c17b1 : decide (0 ≤ (ji16)) = true := decide_eq_true c17
                              clear c17
                              by_cases c18 : (ji16) ≤ x5_1
                              · rw [if_pos c18] at H
                                have c18b0 := eq_true c18
                                have c18b1 : decide ((ji16) ≤ x5_1) = true := decide_eq_true c18
                                clear c18
                                by_cases c19 : x5_1 ≤ (l0.length : Int)
                                · rw [if_pos c19] at H
                                  have c19b0 := eq_true c19
                                  have c19b1 : decide (x5_1 ≤ (l0.length : Int)) = true := decide_eq_true c19
                                  clear c19
                                  by_cases c20 : x3_1.length < 8796093022208
                                  · rw [if_pos c20] at H
                                    have LMc20 := Aside0.mk c20
                                    clear c20
                                    obtain ⟨y108, hy108⟩ : ∃ y_ : List ByteArray, y_ = (x3_1 ++ [strOfNums ((l0.take (x5_1 : Int).toNat).drop ((ji16) : Int).toNat)]) := ⟨_, rfl⟩
                                    replace H : (mezzotintref04_Structure.l0 kj2 l0 y108 (wrap64 (x5_1 + 1)) (wrap64 (x5_1 + 1))) = some r := by first | (rw [hy108]; with_reducible exact H) | (have H2_ := (Option.bind_some _ _).symm.trans H; rw [hy108]; with_reducible exact H2_) | (have H2_ := (Option.bind_some _ _).symm.trans H; with_reducible exact H2_) | with_reducible exact H | (rw [hy108]; exact H) | exact H
                                    have Ny108 := Aside0.mk hy108
                                    clear hy108
                                    have H' := Aside0.mk H
                                    clear H
                                    have p105 : 0 ≤ (x4_1 : Int) := of_decide_eq_true (by first | (with_reducible assumption) | assumption)
                                    have q105 : x4_1 < (l0.length : Int) := of_decide_eq_true (by first | (with_reducible assumption) | assumption)
                                    obtain ⟨ad105, e105, hx105_0⟩ := Kd.at_int HR0.out x4_1 p105 q105
                                    cases e105
                                    replace hx105_0 := (HB.out.cell (World.block_lt_of_cell? w _ hx105_0)).trans hx105_0
                                    replace p105 := eq_true p105
                                    replace q105 := eq_true q105
                                    have p106 : 0 ≤ ((ji12) : Int) := of_decide_eq_true (by first | (with_reducible assumption) | assumption)
                                    have q106 : (ji12) < (l0.length : Int) := of_decide_eq_true (by first | (with_reducible assumption) | assumption)
                                    obtain ⟨ad106, e106, hx106_0⟩ := Kd.at_int HR0.out (ji12) p106 q106
                                    obtain rfl : ad105 = ad106 := (by injection e106)
                                    replace hx106_0 := (HB.out.cell (World.block_lt_of_cell? w _ hx106_0)).trans hx106_0
                                    replace p106 := eq_true p106
                                    replace q106 := eq_true q106
                                    obtain ⟨i021, hi021, _, hsz21, _⟩ := info_parts info5
                                    obtain ⟨A21, hcut21, hA21, hC21⟩ := print_mid_of (P := Tryd.prog) (Value.int .u8) 0 32 5 .i64 .i64 Tryd.underlying32 hi021 hsz21 (some ad105) c0 l0 (ji16) x5_1 (of_decide_eq_true (by first | (with_reducible assumption) | assumption)) (by first | omega | exact of_decide_eq_true (by first | (with_reducible assumption) | assumption)) (of_decide_eq_true (by first | (with_reducible assumption) | assumption)) HC0.out
                                    have HR107 := Aside0.mk (Kd.C_of_reads (h1 := fun _ => rfl) (hA21 _ (Kd.reads_of_C HR0.out)))
                                    have HC107 := Aside0.mk hC21
                                    clear hA21 hC21 hi021 hsz21
                                    have hcv22 := Kd.C_string (P := Tryd.prog) (A := A21) (c := (c0 - (ji16).toNat)) Tryd.underlying32 Tryd.underlying5 Tryd.underlying9 (Kd.C_below HR107.out HB.out)
                                    have hcv22b := hcv22
                                    rw [show ((l0.take (x5_1 : Int).toNat).drop ((ji16) : Int).toNat).length = (x5_1 : Int).toNat - (ji16).toNat from by (simp only [List.length_drop, List.length_take]; have h5_ : x5_1 ≤ (l0.length : Int) := of_decide_eq_true (by first | (with_reducible assumption) | assumption); omega)] at hcv22b
                                    go_wp2_with (first | ((with_reducible refine gate_builtin (b := .append) (xs := #[.tmp 57, .tmp 64]) rfl ?_); at_builtin; refine Kd.R_append Kd.string (w0 := w) w.heap.size rfl (.tmp 57) (.tmp 64) 46 9 (.string ⟨#[]⟩) 16 rfl Tryd.underlying46 info9 rfl (by decide) (by omega) u3 x3_1 (strOfNums ((l0.take (x5_1 : Int).toNat).drop ((ji16) : Int).toNat)) [.string (strOfNums ((l0.take (x5_1 : Int).toNat).drop ((ji16) : Int).toNat))] (fun _ => True) (fun _ => False) rfl rfl ?aP (fun _ hk => hk.elim) ?aF ?aO ?aB ?aS ?aL ?_; (case aP => exact rfl); (case aB => exact (by repeat (first | (with_reducible first | exact HB.out | apply below_alloc | apply pw_below_drewN | apply below_drew1) | exact HB.out))); (case aF => exact (fun _ _ => trivial)); (case aO => exact (by (with_reducible repeat (first | apply Kd.R_alloc | apply Kd.R_drewN | apply Kd.R_drew)); exact HO_3.out)); (case aS => exact (below_size (by repeat (first | (with_reducible first | exact HB.out | apply below_alloc | apply pw_below_drewN | apply below_drew1) | exact HB.out)))); (case aL => have := LMc20.out; omega); intro v109 w23 ho hb hg hat; rw [← Ny108.out] at ho; have n0_ := Aside0.mk (hb); have n1_ := Aside0.mk (ho); clear HB; clear HO_3; have HB := n0_; have HO110 := n1_; clear n0_ n1_; clear ho hb hg hat))
                                    go_roundg kj2
                                    case measure => have := HK1.out; have := HJ2.out; omega
                                    case rel => exact ⟨(y108), (wrap64 (x5_1 + 1)), (wrap64 (x5_1 + 1)), (by first | rfl | (simp; done) | (simp [*]; done)), (by first | rfl | (simp; done) | (simp [*]; done)), H', ⟨by have := HK1.out; have := HJ2.out; omega⟩, ⟨by (with_reducible repeat (first | apply Kd.R_alloc | apply Kd.R_drewN | apply Kd.R_drew)); exact HO110.out⟩, ⟨by repeat (first | (with_reducible first | exact HB.out | apply below_alloc | apply pw_below_drewN | apply below_drew1) | exact HB.out)⟩⟩
                                  · rw [if_neg c20] at H
                                    exact absurd H (by simp)
                                · rw [if_neg c19] at H
                                  exact absurd H (by simp)
                              · rw [if_neg c18] at H
                                exact absurd H (by simp)
                            · rw [if_neg c17] at H
                              exact absurd H (by simp)
                          · rw [if_neg c15] at H
                            have c15b0 : ((rd l0 (ji12)) == 37) = false := beq_eq_false_iff_ne.mpr c15
                            have c15b1 : ((rd l0 (ji12)) != 37) = true := bne_iff_ne.mpr c15
                            by_cases c24 : (rd l0 (ji12)) = 33
                            · rw [if_pos c24] at H
                              have c24b0 : ((rd l0 (ji12)) == 33) = true := beq_iff_eq.mpr c24
                              have c24b1 : ((rd l0 (ji12)) != 33) = false := bne_eq_false_iff_eq.mpr c24
                              clear c24
                              obtain ⟨ji25, hji25⟩ : ∃ j_ : Int, (wrap64 (x4_1 + 2)) = j_ := ⟨_, rfl⟩
                              replace H : (if 0 ≤ (ji25) then (if (ji25) ≤ x5_1 then (if x5_1 ≤ (l0.length : Int) then (if x3_1.length < 8796093022208 then (mezzotintref04_Structure.l0 kj2 l0 (x3_1 ++ [strOfNums ((l0.take (x5_1 : Int).toNat).drop ((ji25) : Int).toNat)]) (wrap64 (x5_1 + 1)) (wrap64 (x5_1 + 1))) else (none)) else (none)) else (none)) else (none)) = some r := by first | (rw [hji25] at H; exact H) | (simp only [hji25] at H ⊢; exact H)
                              have hji25w : (IntKind.i64.wrap (x4_1 + 2)) = ji25 := (i64_w _).trans hji25
                              by_cases c26 : 0 ≤ (ji25)
                              · rw [if_pos c26] at H
                                have c26b0 := eq_true c26
                                have c26b1 : decide (0 ≤ (ji25)) = true := decide_eq_true c26
                                clear c26
                                by_cases c27 : (ji25) ≤ x5_1
                                · rw [if_pos c27] at H
                                  have c27b0 := eq_true c27
                                  have c27b1 : decide ((ji25) ≤ x5_1) = true := decide_eq_true c27
                                  clear c27
                                  by_cases c28 : x5_1 ≤ (l0.length : Int)
                                  · rw [if_pos c28] at H
                                    have c28b0 := eq_true c28
                                    have c28b1 : decide (x5_1 ≤ (l0.length : Int)) = true := decide_eq_true c28
                                    clear c28
                                    by_cases c29 : x3_1.length < 8796093022208
                                    · rw [if_pos c29] at H
                                      have LMc29 := Aside0.mk c29
                                      clear c29
                                      obtain ⟨y113, hy113⟩ : ∃ y_ : List ByteArray, y_ = (x3_1 ++ [strOfNums ((l0.take (x5_1 : Int).toNat).drop ((ji25) : Int).toNat)]) := ⟨_, rfl⟩
                                      replace H : (mezzotintref04_Structure.l0 kj2 l0 y113 (wrap64 (x5_1 + 1)) (wrap64 (x5_1 + 1))) = some r := by first | (rw [hy113]; with_reducible exact H) | (have H2_ := (Option.bind_some _ _).symm.trans H; rw [hy113]; with_reducible exact H2_) | (have H2_ := (Option.bind_some _ _).symm.trans H; with_reducible exact H2_) | with_reducible exact H | (rw [hy113]; exact H) | exact H
                                      have Ny113 := Aside0.mk hy113
                                      clear hy113
                                      have H' := Aside0.mk H
                                      clear H
                                      have p105 : 0 ≤ (x4_1 : Int) := of_decide_eq_true (by first | (with_reducible assumption) | assumption)
                                      have q105 : x4_1 < (l0.length : Int) := of_decide_eq_true (by first | (with_reducible assumption) | assumption)
                                      obtain ⟨ad105, e105, hx105_0⟩ := Kd.at_int HR0.out x4_1 p105 q105
                                      cases e105
                                      replace hx105_0 := (HB.out.cell (World.block_lt_of_cell? w _ hx105_0)).trans hx105_0
                                      replace p105 := eq_true p105
                                      replace q105 := eq_true q105
                                      have p106 : 0 ≤ ((ji12) : Int) := of_decide_eq_true (by first | (with_reducible assumption) | assumption)
                                      have q106 : (ji12) < (l0.length : Int) := of_decide_eq_true (by first | (with_reducible assumption) | assumption)
                                      obtain ⟨ad106, e106, hx106_0⟩ := Kd.at_int HR0.out (ji12) p106 q106
                                      obtain rfl : ad105 = ad106 := (by injection e106)
                                      replace hx106_0 := (HB.out.cell (World.block_lt_of_cell? w _ hx106_0)).trans hx106_0
                                      replace p106 := eq_true p106
                                      replace q106 := eq_true q106
                                      have p111 : 0 ≤ ((ji12) : Int) := of_decide_eq_true (by first | (with_reducible assumption) | assumption)
                                      have q111 : (ji12) < (l0.length : Int) := of_decide_eq_true (by first | (with_reducible assumption) | assumption)
                                      obtain ⟨ad111, e111, hx111_0⟩ := Kd.at_int HR0.out (ji12) p111 q111
                                      obtain rfl : ad105 = ad111 := (by injection e111)
                                      replace hx111_0 := (HB.out.cell (World.block_lt_of_cell? w _ hx111_0)).trans hx111_0
                                      replace p111 := eq_true p111
                                      replace q111 := eq_true q111
                                      obtain ⟨i030, hi030, _, hsz30, _⟩ := info_parts info5
                                      obtain ⟨A30, hcut30, hA30, hC30⟩ := print_mid_of (P := Tryd.prog) (Value.int .u8) 0 32 5 .i64 .i64 Tryd.underlying32 hi030 hsz30 (some ad105) c0 l0 (ji25) x5_1 (of_decide_eq_true (by first | (with_reducible assumption) | assumption)) (by first | omega | exact of_decide_eq_true (by first | (with_reducible assumption) | assumption)) (of_decide_eq_true (by first | (with_reducible assumption) | assumption)) HC0.out
                                      have HR112 := Aside0.mk (Kd.C_of_reads (h1 := fun _ => rfl) (hA30 _ (Kd.reads_of_C HR0.out)))
                                      have HC112 := Aside0.mk hC30
                                      clear hA30 hC30 hi030 hsz30
                                      have hcv31 := Kd.C_string (P := Tryd.prog) (A := A30) (c := (c0 - (ji25).toNat)) Tryd.underlying32 Tryd.underlying5 Tryd.underlying9 (Kd.C_below HR112.out HB.out)
                                      have hcv31b := hcv31
                                      rw [show ((l0.take (x5_1 : Int).toNat).drop ((ji25) : Int).toNat).length = (x5_1 : Int).toNat - (ji25).toNat from by (simp only [List.length_drop, List.length_take]; have h5_ : x5_1 ≤ (l0.length : Int) := of_decide_eq_true (by first | (with_reducible assumption) | assumption); omega)] at hcv31b
                                      go_wp2_with (first | ((with_reducible refine gate_builtin (b := .append) (xs := #[.tmp 57, .tmp 64]) rfl ?_); at_builtin; refine Kd.R_append Kd.string (w0 := w) w.heap.size rfl (.tmp 57) (.tmp 64) 46 9 (.string ⟨#[]⟩) 16 rfl Tryd.underlying46 info9 rfl (by decide) (by omega) u3 x3_1 (strOfNums ((l0.take (x5_1 : Int).toNat).drop ((ji25) : Int).toNat)) [.string (strOfNums ((l0.take (x5_1 : Int).toNat).drop ((ji25) : Int).toNat))] (fun _ => True) (fun _ => False) rfl rfl ?aP (fun _ hk => hk.elim) ?aF ?aO ?aB ?aS ?aL ?_; (case aP => exact rfl); (case aB => exact (by repeat (first | (with_reducible first | exact HB.out | apply below_alloc | apply pw_below_drewN | apply below_drew1) | exact HB.out))); (case aF => exact (fun _ _ => trivial)); (case aO => exact (by (with_reducible repeat (first | apply Kd.R_alloc | apply Kd.R_drewN | apply Kd.R_drew)); exact HO_3.out)); (case aS => exact (below_size (by repeat (first | (with_reducible first | exact HB.out | apply below_alloc | apply pw_below_drewN | apply below_drew1) | exact HB.out)))); (case aL => have := LMc29.out; omega); intro v114 w32 ho hb hg hat; rw [← Ny113.out] at ho; have n0_ := Aside0.mk (hb); have n1_ := Aside0.mk (ho); clear HB; clear HO_3; have HB := n0_; have HO115 := n1_; clear n0_ n1_; clear ho hb hg hat))
                                      go_roundg kj2
                                      case measure => have := HK1.out; have := HJ2.out; omega
                                      case rel => exact ⟨(y113), (wrap64 (x5_1 + 1)), (wrap64 (x5_1 + 1)), (by first | rfl | (simp; done) | (simp [*]; done)), (by first | rfl | (simp; done) | (simp [*]; done)), H', ⟨by have := HK1.out; have := HJ2.out; omega⟩, ⟨by (with_reducible repeat (first | apply Kd.R_alloc | apply Kd.R_drewN | apply Kd.R_drew)); exact HO115.out⟩, ⟨by repeat (first | (with_reducible first | exact HB.out | apply below_alloc | apply pw_below_drewN | apply below_drew1) | exact HB.out)⟩⟩
                                    · rw [if_neg c29] at H
                                      exact absurd H (by simp)
                                  · rw [if_neg c28] at H
                                    exact absurd H (by simp)
                                · rw [if_neg c27] at H
                                  exact absurd H (by simp)
                              · rw [if_neg c26] at H
                                exact absurd H (by simp)
                            · rw [if_neg c24] at H
                              have c24b0 : ((rd l0 (ji12)) == 33) = false := beq_eq_false_iff_ne.mpr c24
                              have c24b1 : ((rd l0 (ji12)) != 33) = true := bne_iff_ne.mpr c24
                              have H' := Aside0.mk H
                              clear H
                              have p105 : 0 ≤ (x4_1 : Int) := of_decide_eq_true (by first | (with_reducible assumption) | assumption)
                              have q105 : x4_1 < (l0.length : Int) := of_decide_eq_true (by first | (with_reducible assumption) | assumption)
                              obtain ⟨ad105, e105, hx105_0⟩ := Kd.at_int HR0.out x4_1 p105 q105
                              cases e105
                              replace hx105_0 := (HB.out.cell (World.block_lt_of_cell? w _ hx105_0)).trans hx105_0
                              replace p105 := eq_true p105
                              replace q105 := eq_true q105
                              have p106 : 0 ≤ ((ji12) : Int) := of_decide_eq_true (by first | (with_reducible assumption) | assumption)
                              have q106 : (ji12) < (l0.length : Int) := of_decide_eq_true (by first | (with_reducible assumption) | assumption)
                              obtain ⟨ad106, e106, hx106_0⟩ := Kd.at_int HR0.out (ji12) p106 q106
                              obtain rfl : ad105 = ad106 := (by injection e106)
                              replace hx106_0 := (HB.out.cell (World.block_lt_of_cell? w _ hx106_0)).trans hx106_0
                              replace p106 := eq_true p106
                              replace q106 := eq_true q106
                              have p111 : 0 ≤ ((ji12) : Int) := of_decide_eq_true (by first | (with_reducible assumption) | assumption)
                              have q111 : (ji12) < (l0.length : Int) := of_decide_eq_true (by first | (with_reducible assumption) | assumption)
                              obtain ⟨ad111, e111, hx111_0⟩ := Kd.at_int HR0.out (ji12) p111 q111
                              obtain rfl : ad105 = ad111 := (by injection e111)
                              replace hx111_0 := (HB.out.cell (World.block_lt_of_cell? w _ hx111_0)).trans hx111_0
                              replace p111 := eq_true p111
                              replace q111 := eq_true q111
                              go_wp2
                              go_roundg kj2
                              case measure => have := HK1.out; have := HJ2.out; omega
                              case rel => exact ⟨(x3_1), (wrap64 (x5_1 + 1)), (wrap64 (x5_1 + 1)), (by first | rfl | (simp; done) | (simp [*]; done)), (by first | rfl | (simp; done) | (simp [*]; done)), H', ⟨by have := HK1.out; have := HJ2.out; omega⟩, ⟨by (with_reducible repeat (first | apply Kd.R_alloc | apply Kd.R_drewN | apply Kd.R_drew)); exact HO_3.out⟩, ⟨by repeat (first | (with_reducible first | exact HB.out | apply below_alloc | apply pw_below_drewN | apply below_drew1) | exact HB.out)⟩⟩
                        · rw [if_neg c14] at H
                          exact absurd H (by simp)
                      · rw [if_neg c13] at H
                        exact absurd H (by simp)
                    · rw [if_neg c11] at H
                      have c11b0 : ((rd l0 x4_1) == 37) = false := beq_eq_false_iff_ne.mpr c11
                      have c11b1 : ((rd l0 x4_1) != 37) = true := bne_iff_ne.mpr c11
                      have H' := Aside0.mk H
                      clear H
                      have p105 : 0 ≤ (x4_1 : Int) := of_decide_eq_true (by first | (with_reducible assumption) | assumption)
                      have q105 : x4_1 < (l0.length : Int) := of_decide_eq_true (by first | (with_reducible assumption) | assumption)
                      obtain ⟨ad105, e105, hx105_0⟩ := Kd.at_int HR0.out x4_1 p105 q105
                      cases e105
                      replace hx105_0 := (HB.out.cell (World.block_lt_of_cell? w _ hx105_0)).trans hx105_0
                      replace p105 := eq_true p105
                      replace q105 := eq_true q105
                      go_wp2
                      go_roundg kj2
                      case measure => have := HK1.out; have := HJ2.out; omega
                      case rel => exact ⟨(x3_1), (wrap64 (x5_1 + 1)), (wrap64 (x5_1 + 1)), (by first | rfl | (simp; done) | (simp [*]; done)), (by first | rfl | (simp; done) | (simp [*]; done)), H', ⟨by have := HK1.out; have := HJ2.out; omega⟩, ⟨by (with_reducible repeat (first | apply Kd.R_alloc | apply Kd.R_drewN | apply Kd.R_drew)); exact HO_3.out⟩, ⟨by repeat (first | (with_reducible first | exact HB.out | apply below_alloc | apply pw_below_drewN | apply below_drew1) | exact HB.out)⟩⟩
                  · rw [if_neg c10] at H
                    exact absurd H (by simp)
                · rw [if_neg c9] at H
                  exact absurd H (by simp)
              · rw [if_neg c8] at H
                have c8b0 : decide (2 ≤ (wrap64 (x5_1 - x4_1))) = false := decide_eq_false c8
                clear c8
                have H' := Aside0.mk H
                clear H
                go_wp2
                go_roundg kj2
                case measure => have := HK1.out; have := HJ2.out; omega
                case rel => exact ⟨(x3_1), (wrap64 (x5_1 + 1)), (wrap64 (x5_1 + 1)), (by first | rfl | (simp; done) | (simp [*]; done)), (by first | rfl | (simp; done) | (simp [*]; done)), H', ⟨by have := HK1.out; have := HJ2.out; omega⟩, ⟨by (with_reducible repeat (first | apply Kd.R_alloc | apply Kd.R_drewN | apply Kd.R_drew)); exact HO_3.out⟩, ⟨by repeat (first | (with_reducible first | exact HB.out | apply below_alloc | apply pw_below_drewN | apply below_drew1) | exact HB.out)⟩⟩
      · rw [if_neg c2] at H
        have c2b0 : decide (x5_1 ≤ (l0.length : Int)) = false := decide_eq_false c2
        clear c2
        obtain rfl := Option.some.inj H
        go_wp2
        go_ret
        exact ⟨_, by first | rfl | (simp [errW_none, errW_some] <;> rfl) | (simp [*, errW_none, errW_some] <;> rfl), by (with_reducible repeat (first | apply Kd.R_alloc | apply Kd.R_drewN | apply Kd.R_drew)); exact HO_3.out, by repeat (first | (with_reducible first | exact HB.out | apply below_alloc | apply pw_below_drewN | apply below_drew1) | exact HB.out)⟩

/-! ### mezzotintlaw04_ScanStructure: function 13 -/
def mezzotintlaw04_ScanStructure.f (k : Nat) (l0 : List Int) : Option (Bool) := if (l0.length : Int) > 20000 then ((mezzotintlaw04_answers.f).bind fun t116 => (some t116)) else ((mezzotintlaw04_answers.f).bind fun t117 => (if t117 = true then ((some (([] : List Int) : List Int)).bind fun y118 => (if y118.length + l0.length < 140737488355328 then ((scan_Structure.f (y118 ++ l0)).bind fun t124 => ((mezzotintref04_Structure.f k l0).bind fun t127 => ((mezzotintref01_Texts.f k t124 t127).bind fun t130 => (some t130)))) else (none))) else (some false)))
theorem mezzotintlaw04_ScanStructure.mono : ∀ a0 k, LeO (mezzotintlaw04_ScanStructure.f k a0) (mezzotintlaw04_ScanStructure.f (k + 1) a0) := by
  intro a0 k
  unfold mezzotintlaw04_ScanStructure.f
  repeat' first
      | (with_reducible exact mezzotintref01_Texts.mono _ _ _)
      | (with_reducible exact mezzotintref04_Structure.mono _ _)
      | (with_reducible exact LeO.refl _)
      | (with_reducible exact LeO.none _)
      | (with_reducible refine LeO.ite ?_ ?_)
      | (with_reducible refine LeO.bind ?_ (fun _ => ?_))
      | exact mezzotintref01_Texts.mono _ _ _
      | exact mezzotintref04_Structure.mono _ _
      | exact LeO.none _
      | refine LeO.ite ?_ ?_
      | refine LeO.bind ?_ (fun _ => ?_)
set_option maxHeartbeats 8000000 in
set_option maxRecDepth 100000 in
theorem mezzotintlaw04_ScanStructure.calls (k : Nat) (A0 : Option Addr) (c0 : Nat) (l0 : List Int) (r : Bool) (w : World) (hr0 : Kd.C (Kd.int .u8) w A0 l0.length l0) (hc0 : l0.length ≤ c0) (h : mezzotintlaw04_ScanStructure.f k l0 = some r) :
    Calls Tryd.prog 13 #[.slice A0 l0.length c0] w fun e w' => e = .returned (.bool r) ∧ Below w.heap.size w w' := by
  have HR0 := Aside0.mk hr0
  have HC0 := Aside0.mk hc0
  clear hr0 hc0
  have HB := Aside0.mk (Below.refl w.heap.size w)
  have H : (if (l0.length : Int) > 20000 then ((mezzotintlaw04_answers.f).bind fun t116 => (some t116)) else ((mezzotintlaw04_answers.f).bind fun t117 => (if t117 = true then ((some (([] : List Int) : List Int)).bind fun y118 => (if y118.length + l0.length < 140737488355328 then ((scan_Structure.f (y118 ++ l0)).bind fun t124 => ((mezzotintref04_Structure.f k l0).bind fun t127 => ((mezzotintref01_Texts.f k t124 t127).bind fun t130 => (some t130)))) else (none))) else (some false)))) = some r := h
  clear h
  by_cases c2 : (l0.length : Int) > 20000
  · rw [if_pos c2] at H
    have c2b0 : decide (20000 < (l0.length : Int)) = true := decide_eq_true c2
    have c2b1 : decide (20000 < l0.length) = true := decide_eq_true (by omega)
    clear c2
    replace H := Option.bind_eq_some_iff.mp H
    obtain ⟨t116, A30, H⟩ := H
    replace H : (some t116) = some r := H
    have A3 := Aside0.mk A30
    clear A30
    obtain rfl := Option.some.inj H
    go_enter Tryd.func13, Tryd.ntmps13
    go_wp2_with (first | ((with_reducible refine gate_callee (f := 23) rfl ?_); refine goesL_ (some 6) rfl rfl Tryd.func23 (by kernel_rfl) rfl #[] rfl (by (try simp only [List.map_toArray, List.map_cons, List.map_nil]); first | done | rfl | (simp only [List.length_drop, List.length_take]; rfl)) ?_; (with_reducible refine (mezzotintlaw04_answers.calls  t116 _ A3.out).mono ?_); rintro e w4 ⟨rfl, hb⟩; refine ⟨_, rfl, ?_⟩; have n0_ := Aside0.mk (below_step (by repeat (first | (with_reducible first | exact HB.out | apply below_alloc | apply pw_below_drewN | apply below_drew1) | exact HB.out)) hb); clear HB; have HB := n0_; clear n0_; (try clear hb); (try clear hb2); (try clear hk); (try clear hi)))
    go_ret
    exact ⟨by first | rfl | (simp [errW_none, errW_some] <;> rfl) | (simp [*, errW_none, errW_some] <;> rfl), by repeat (first | (with_reducible first | exact HB.out | apply below_alloc | apply pw_below_drewN | apply below_drew1) | exact HB.out)⟩
  · rw [if_neg c2] at H
    have c2b0 : decide (20000 < (l0.length : Int)) = false := decide_eq_false c2
    have c2b1 : decide (20000 < l0.length) = false := decide_eq_false (by omega)
    clear c2
    replace H := Option.bind_eq_some_iff.mp H
    obtain ⟨t117, A50, H⟩ := H
    replace H : (if t117 = true then ((some (([] : List Int) : List Int)).bind fun y118 => (if y118.length + l0.length < 140737488355328 then ((scan_Structure.f (y118 ++ l0)).bind fun t124 => ((mezzotintref04_Structure.f k l0).bind fun t127 => ((mezzotintref01_Texts.f k t124 t127).bind fun t130 => (some t130)))) else (none))) else (some false)) = some r := H
    have A5 := Aside0.mk A50
    clear A50
    by_cases c6 : t117 = true
    · subst c6
      have H1 : ((some (([] : List Int) : List Int)).bind fun y118 => (if y118.length + l0.length < 140737488355328 then ((scan_Structure.f (y118 ++ l0)).bind fun t124 => ((mezzotintref04_Structure.f k l0).bind fun t127 => ((mezzotintref01_Texts.f k t124 t127).bind fun t130 => (some t130)))) else (none))) = some r := by rw [if_pos rfl] at H; exact H
      clear H
      have H := H1
      clear H1
      obtain ⟨y118, hy118⟩ : ∃ y_ : List Int, y_ = (([] : List Int)) := ⟨_, rfl⟩
      replace H : (if y118.length + l0.length < 140737488355328 then ((scan_Structure.f (y118 ++ l0)).bind fun t124 => ((mezzotintref04_Structure.f k l0).bind fun t127 => ((mezzotintref01_Texts.f k t124 t127).bind fun t130 => (some t130)))) else (none)) = some r := by first | (rw [hy118]; with_reducible exact H) | (have H2_ := (Option.bind_some _ _).symm.trans H; rw [hy118]; with_reducible exact H2_) | (have H2_ := (Option.bind_some _ _).symm.trans H; with_reducible exact H2_) | with_reducible exact H | (rw [hy118]; exact H) | exact H
      have Ny118 := Aside0.mk hy118
      clear hy118
      by_cases c7 : y118.length + l0.length < 140737488355328
      · rw [if_pos c7] at H
        have LMc7 := Aside0.mk c7
        clear c7
        obtain ⟨y121, hy121⟩ : ∃ y_ : List Int, y_ = (y118 ++ l0) := ⟨_, rfl⟩
        replace H : ((scan_Structure.f y121).bind fun t124 => ((mezzotintref04_Structure.f k l0).bind fun t127 => ((mezzotintref01_Texts.f k t124 t127).bind fun t130 => (some t130)))) = some r := by first | (rw [hy121]; with_reducible exact H) | (have H2_ := (Option.bind_some _ _).symm.trans H; rw [hy121]; with_reducible exact H2_) | (have H2_ := (Option.bind_some _ _).symm.trans H; with_reducible exact H2_) | with_reducible exact H | (rw [hy121]; exact H) | exact H
        have Ny121 := Aside0.mk hy121
        clear hy121
        replace H := Option.bind_eq_some_iff.mp H
        obtain ⟨t124, A80, H⟩ := H
        replace H : ((mezzotintref04_Structure.f k l0).bind fun t127 => ((mezzotintref01_Texts.f k t124 t127).bind fun t130 => (some t130))) = some r := H
        have A8 := Aside0.mk A80
        clear A80
        replace H := Option.bind_eq_some_iff.mp H
        obtain ⟨t127, A90, H⟩ := H
        replace H : ((mezzotintref01_Texts.f k t124 t127).bind fun t130 => (some t130)) = some r := H
        have A9 := Aside0.mk A90
        clear A90
        replace H := Option.bind_eq_some_iff.mp H
        obtain ⟨t130, A100, H⟩ := H
        replace H : (some t130) = some r := H
        have A10 := Aside0.mk A100
        clear A100
        obtain rfl := Option.some.inj H
        go_enter Tryd.func13, Tryd.ntmps13
        go_wp2_with (first | ((with_reducible refine gate_callee (f := 23) rfl ?_); refine goesL_ (some 7) rfl rfl Tryd.func23 (by kernel_rfl) rfl #[] rfl (by (try simp only [List.map_toArray, List.map_cons, List.map_nil]); first | done | rfl | (simp only [List.length_drop, List.length_take]; rfl)) ?_; (with_reducible refine (mezzotintlaw04_answers.calls  true _ A5.out).mono ?_); rintro e w11 ⟨rfl, hb⟩; refine ⟨_, rfl, ?_⟩; have n0_ := Aside0.mk (below_step (by repeat (first | (with_reducible first | exact HB.out | apply below_alloc | apply pw_below_drewN | apply below_drew1) | exact HB.out)) hb); clear HB; have HB := n0_; clear n0_; (try clear hb); (try clear hb2); (try clear hk); (try clear hi)) | ((with_reducible refine gate_dst (N := 9) rfl ?_); (try (refine gate_guard (by rfl) ?_; dsimp only)); refine Kd.R_lit (Kd.int .u8) _ 5 ?hg (N := 9) ?hd (xs := ([] : List Int)) (inner := []) (ok := fun _ => True) (okp := fun _ => True) ?hr ?hp (fun _ hk => hk) trivial (Below.refl _ _) (Nat.le_refl _) (by simp) ?_; (case hd => rfl); (case hg => rfl); (case hr => first | (go_simp; done) | (go_simp; rfl)); (case hp => exact (Reps.none _ _)); intro v119 w12 ho13 hb hg_ hnew_; clear hg_ hnew_; (first | rw [← Ny118.out] at ho13 | (simp only [Int.reduceToNat] at ho13; rw [← Ny118.out] at ho13)); have n0_ := Aside0.mk (Kd.R_lower ho13 (below_size (by repeat (first | (with_reducible first | exact HB.out | apply below_alloc | apply pw_below_drewN | apply below_drew1) | exact HB.out)))); have n1_ := Aside0.mk (below_step (by repeat (first | (with_reducible first | exact HB.out | apply below_alloc | apply pw_below_drewN | apply below_drew1) | exact HB.out)) hb); clear HB; have HO120 := n0_; have HB := n1_; clear n0_ n1_; clear hb ho13) | ((with_reducible refine gate_builtin (b := .append) (xs := #[.tmp 9, .tmp 10]) rfl ?_); (try (refine gate_guard (by rfl) ?_; dsimp only)); at_builtin; refine Kd.R_append_rows (Kd.int .u8) (w0 := w) w.heap.size rfl (.tmp 9) (.tmp 10) 32 5 (.int .u8 0) 1 rfl Tryd.underlying32 info5 rfl (by decide) (by omega) v119 y118 l0 _ _ _ (fun _ => True) (fun _ => False) rfl rfl ?aO ?aR (fun _ _ h => h) (fun _ h => h.elim) ?aF ?aB ?aS ?aL ?_; (case aR => repeat (first | exact (Kd.C_below HR0.out HB.out) | (with_reducible refine Kd.C_alloc ?_ _) | (with_reducible refine Kd.C_drewN ?_ _) | (with_reducible refine Kd.C_drew ?_))); (case aB => exact (by repeat (first | (with_reducible first | exact HB.out | apply below_alloc | apply pw_below_drewN | apply below_drew1) | exact HB.out))); (case aF => exact (fun _ _ => trivial)); (case aO => exact (by (with_reducible repeat (first | apply Kd.R_alloc | apply Kd.R_drewN | apply Kd.R_drew)); exact HO120.out)); (case aS => exact (below_size (by repeat (first | (with_reducible first | exact HB.out | apply below_alloc | apply pw_below_drewN | apply below_drew1) | exact HB.out)))); (case aL => have := LMc7.out; omega); intro v122 w14 ho hb hg hat; rw [← Ny121.out] at ho; have n0_ := Aside0.mk (hb); have n1_ := Aside0.mk (ho); clear HB; clear HO120; have HB := n0_; have HO123 := n1_; clear n0_ n1_; clear ho hb hg hat; obtain ⟨Ao15, co15, eo15⟩ := Kd.R_slice HO123.out; subst eo15) | (go_at_call 30; (with_reducible refine (scan_Structure.calls _ _ y121 t124 _ ?side1 ?side2 A8.out).mono ?_); (case side1 => repeat (first | exact (Kd.R_reads' HO123.out).2.2 | (with_reducible refine Kd.C_alloc ?_ _) | (with_reducible refine Kd.C_drewN ?_ _) | (with_reducible refine Kd.C_drew ?_))); (case side2 => exact (Kd.R_reads' HO123.out).2.1); rintro e w16 ⟨v125, rfl, ho0, hb⟩; have n0_ := Aside0.mk (Kd.R_below (by (with_reducible repeat (first | apply Kd.R_alloc | apply Kd.R_drewN | apply Kd.R_drew)); exact HO123.out) hb); have n1_ := Aside0.mk (Kd.R_lower ho0 (below_size (by repeat (first | (with_reducible first | exact HB.out | apply below_alloc | apply pw_below_drewN | apply below_drew1) | exact HB.out)))); have n2_ := Aside0.mk (below_step (by repeat (first | (with_reducible first | exact HB.out | apply below_alloc | apply pw_below_drewN | apply below_drew1) | exact HB.out)) hb); clear HO123; clear HB; have HO123 := n0_; have HO126 := n1_; have HB := n2_; clear n0_ n1_ n2_; (try clear hb); (try clear hb2); (try clear hk); (try clear hi); (try clear ho0)) | (go_at_call 31; (with_reducible refine (mezzotintref04_Structure.calls k _ _ l0 t127 _ ?side1 ?side2 A9.out).mono ?_); (case side1 => repeat (first | exact (Kd.C_below HR0.out HB.out) | (with_reducible refine Kd.C_alloc ?_ _) | (with_reducible refine Kd.C_drewN ?_ _) | (with_reducible refine Kd.C_drew ?_))); (case side2 => exact HC0.out); rintro e w17 ⟨v128, rfl, ho0, hb⟩; have n0_ := Aside0.mk (Kd.R_below (by (with_reducible repeat (first | apply Kd.R_alloc | apply Kd.R_drewN | apply Kd.R_drew)); exact HO123.out) hb); have n1_ := Aside0.mk (Kd.R_elder' (by (with_reducible repeat (first | apply Kd.R_alloc | apply Kd.R_drewN | apply Kd.R_drew)); exact HO126.out) (Kd.R_base ho0) hb); have n2_ := Aside0.mk (Kd.R_lower (Kd.R_new' ho0 (Kd.R_lt (by (with_reducible repeat (first | apply Kd.R_alloc | apply Kd.R_drewN | apply Kd.R_drew)); exact HO126.out))) (below_size (by repeat (first | (with_reducible first | exact HB.out | apply below_alloc | apply pw_below_drewN | apply below_drew1) | exact HB.out)))); have n3_ := Aside0.mk (below_step (by repeat (first | (with_reducible first | exact HB.out | apply below_alloc | apply pw_below_drewN | apply below_drew1) | exact HB.out)) hb); clear HO123; clear HO126; clear HB; have HO123 := n0_; have HO126 := n1_; have HO129 := n2_; have HB := n3_; clear n0_ n1_ n2_ n3_; (try clear hb); (try clear hb2); (try clear hk); (try clear hi); (try clear ho0); obtain ⟨Ao18, co18, eo18⟩ := Kd.R_slice HO126.out; subst eo18; obtain ⟨Ao19, co19, eo19⟩ := Kd.R_slice HO129.out; subst eo19) | (go_at_call 29; (with_reducible refine (mezzotintref01_Texts.calls k _ _ t124 _ _ t127 t130 _ ?side1 ?side2 ?side3 ?side4 A10.out).mono ?_); (case side1 => repeat (first | exact (Kd.R_reads' HO126.out).2.2 | (with_reducible refine Kd.C_alloc ?_ _) | (with_reducible refine Kd.C_drewN ?_ _) | (with_reducible refine Kd.C_drew ?_))); (case side2 => exact (Kd.R_reads' HO126.out).2.1); (case side3 => repeat (first | exact (Kd.R_reads' HO129.out).2.2 | (with_reducible refine Kd.C_alloc ?_ _) | (with_reducible refine Kd.C_drewN ?_ _) | (with_reducible refine Kd.C_drew ?_))); (case side4 => exact (Kd.R_reads' HO129.out).2.1); rintro e w' ⟨rfl, ⟨nd, rfl⟩⟩))
        go_ret
        exact ⟨by first | rfl | (simp [errW_none, errW_some] <;> rfl) | (simp [*, errW_none, errW_some] <;> rfl), by repeat (first | (with_reducible first | exact HB.out | apply below_alloc | apply pw_below_drewN | apply below_drew1) | exact HB.out)⟩
      · rw [if_neg c7] at H
        exact absurd H (by simp)
    · replace c6 := Bool.eq_false_iff.mpr c6
      subst c6
      have H1 : (some false) = some r := by rw [if_neg (show ¬ (false = true) by decide)] at H; exact H
      clear H
      have H := H1
      clear H1
      obtain rfl := Option.some.inj H
      go_enter Tryd.func13, Tryd.ntmps13
      go_wp2_with (first | ((with_reducible refine gate_callee (f := 23) rfl ?_); refine goesL_ (some 7) rfl rfl Tryd.func23 (by kernel_rfl) rfl #[] rfl (by (try simp only [List.map_toArray, List.map_cons, List.map_nil]); first | done | rfl | (simp only [List.length_drop, List.length_take]; rfl)) ?_; (with_reducible refine (mezzotintlaw04_answers.calls  false _ A5.out).mono ?_); rintro e w20 ⟨rfl, hb⟩; refine ⟨_, rfl, ?_⟩; have n0_ := Aside0.mk (below_step (by repeat (first | (with_reducible first | exact HB.out | apply below_alloc | apply pw_below_drewN | apply below_drew1) | exact HB.out)) hb); clear HB; have HB := n0_; clear n0_; (try clear hb); (try clear hb2); (try clear hk); (try clear hi)))
      go_ret
      exact ⟨by first | rfl | (simp [errW_none, errW_some] <;> rfl) | (simp [*, errW_none, errW_some] <;> rfl), by repeat (first | (with_reducible first | exact HB.out | apply below_alloc | apply pw_below_drewN | apply below_drew1) | exact HB.out)⟩

/-- THE ONE PURE STATEMENT of mezzotintlaw04_ScanStructure: yours. -/
def mezzotintlaw04_ScanStructure.Pure : Prop := ∀ (l0 : List Int), l0.length ≤ maxLen → l0.length * 1 ≤ 140737488351232 → (∀ x ∈ l0, (Lit.int .u8 x).wf = true) → ∃ k, mezzotintlaw04_ScanStructure.f k l0 = some true
theorem mezzotintlaw04_ScanStructure.walk (P : mezzotintlaw04_ScanStructure.Pure) (a0 : Option Addr) (len0 cap0 : Nat) (z0 : List Int) (w : World) (w0 : (a0 = none ∧ len0 = 0 ∧ cap0 = 0 ∧ z0 = []) ∨ ∃ x, a0 = some x ∧ len0 ≤ cap0 ∧ cap0 ≤ maxLen ∧ z0.length = cap0 ∧ (∀ i, i < z0.length → w.cell? (x.add i) = some (.int .u8 (z0.getD i 0))) ∧ ∀ n ∈ z0, (Lit.int .u8 n).wf = true) (y0 : len0 * 1 ≤ 140737488351232) :
    Calls Tryd.prog 13 #[.slice a0 len0 cap0] w fun e w' => e = .returned (.bool true) ∧ Below w.heap.size w w' := by
  obtain ⟨l0, rfl, hr0, hm0, hw0, hc0⟩ := ReadsInt.ofRowC w0
  obtain ⟨k, h⟩ := P l0 hm0 y0 hw0
  refine (mezzotintlaw04_ScanStructure.calls k _ _ l0 true w (Kd.C_of_reads (d := (0 : Int)) (h1 := fun _ => rfl) hr0) hc0 h).mono ?_
  rintro e w' ⟨rfl, hd⟩
  exact ⟨rfl, hd⟩

end Go.Proofs.YtiocgpfnbmlfaaaDoor.PS4
