/- scan: the next token. scan.Next: the token at a place, or the error that the reader gave up with. scan.Next in plain words, in the printed form. The scan laws' answers: its walk. append(s, more...) where s is []byte of a text: what a conversion made may bear the mark of a string's own memory beyond its last cell; a row of bytes with room or without. The law ScanNested: brackets within a string, at any depth. Its walk, at every input. The law ScanStrings in plain words: bytes written as a string in round brackets, escaped or plain, or in hexadecimal digits, are read as these bytes. Made by a program of this session (wip/given.py) out of the translation: Lean functions for the Go functions, with the walks that show it; of a law: its row, at every input, no condition of its own. -/
import Derived.Test.YtiocgpfnbmlfaaaDoorBSt3
import Derived.Test.YtiocgpfnbmlfaaaDoorBSt2
import Derived.Defers
import Derived.Recover
import Derived.RegionTactic
import Derived.BigRegion
import Derived.BigQuiet
import Derived.Lib.SlBytesConst
import Derived.Laws.CopyRow
import Derived.Laws.Append
import Derived.Test.YtiocgpfnbmlfaaaDoorProg
import Derived.Below
import Derived.Deep.Draws
import Derived.Deep.AppendLies
import Derived.Maps.AppendAt
import Derived.OwnWalk
import Derived.Laws.BytesArg
import Derived.Laws.MakeOwn
import Derived.Laws.OwnMore
import Derived.Deep.OwnRows
import Derived.Tactics
import Derived.Lib.ConvBytes
import Derived.Laws.Slices
import Derived.WalkKit
import Derived.KernelRfl
import Derived.RowKit3
import Derived.Deep.LoopGhost
import Derived.Deep.QuietTactic
import Derived.WideLaws
import Derived.Deep.DeepCutAuto
import Derived.Deep.CutBlock
import Derived.Deep.RegionHeld3
import Derived.Laws.Rows
import Derived.Lib.AppendStr
import Derived.ArgAppend
import Derived.Laws.IdiomCopy
import Derived.OrdersHeld
import Derived.Laws.BitsLemmas
import Derived.RowKit
import Derived.Test.YtiocgpfnbmlfaaaDoorWWords
import Derived.Test.YtiocgpfnbmlfaaaDoorWLast
import Derived.Test.YtiocgpfnbmlfaaaDoorWTab
import Derived.Test.YtiocgpfnbmlfaaaDoorWFour
import Derived.Test.YtiocgpfnbmlfaaaDoorWQPut
import Derived.Test.YtiocgpfnbmlfaaaDoorWApart
import Derived.Test.YtiocgpfnbmlfaaaDoorWArr
import Derived.Test.YtiocgpfnbmlfaaaDoorWZeros
import Derived.Test.YtiocgpfnbmlfaaaDoorWFoot
import Derived.Test.YtiocgpfnbmlfaaaDoorWKept
import Derived.Test.YtiocgpfnbmlfaaaDoorWShare
import Derived.Test.YtiocgpfnbmlfaaaDoorWN
import Derived.Test.YtiocgpfnbmlfaaaDoorWFootNe
import Derived.Test.YtiocgpfnbmlfaaaDoorWAt
import Derived.Test.YtiocgpfnbmlfaaaDoorWEqStruct
import Derived.Test.YtiocgpfnbmlfaaaDoorWRepsOne
import Derived.Test.YtiocgpfnbmlfaaaDoorWInv
import Derived.Test.YtiocgpfnbmlfaaaDoorWInvWords
import Derived.Test.YtiocgpfnbmlfaaaDoorWGuard
import Derived.Test.YtiocgpfnbmlfaaaDoorWNEv
import Derived.Test.YtiocgpfnbmlfaaaDoorWMore

/-! ## SH -/
namespace Go.Proofs.YtiocgpfnbmlfaaaDoor.SC
open Go Go.RowKit Go.Proofs.YtiocgpfnbmlfaaaDoor Go.Proofs.YtiocgpfnbmlfaaaDoor.PS1 Go.Proofs.YtiocgpfnbmlfaaaDoor.QD Go.Proofs.YtiocgpfnbmlfaaaDoorW.PrintWords Go.Proofs.YtiocgpfnbmlfaaaDoorW.PrintLast

/-- a word: a number, or a name -/
def wordL (x s : List UInt8) : TkR :=
  if (tokL x).2.2.2 = 0 then (if (tokL x).2.2.1 = true then .inr ((tokL x).1, (tokL x).2.1, [], s) else nameL 3 x s) else .inl (tokL x).2.2.2
/-- behind blanks and comments -/
def tokenC (c : UInt8) (t : List UInt8) : TkR :=
  if c = 40 then strL (rnd 1 t) else if c = 41 then .inl 14 else if c = 60 ∨ c = 62 then angleL c t else if c = 123 then .inr (7, 0, [], t) else if c = 125 then .inr (8, 0, [], t)
  else if c = 91 ∨ c = 93 then .inr (3, 0, [c], t) else if c = 47 then slashL t else wordL ((c :: t).takeWhile regB) ((c :: t).dropWhile regB)
def tokenL (l : List UInt8) : TkR :=
  match skipL false l with
  | [] => .inr (0, 0, [], [])
  | c :: t => tokenC c t

theorem tkQ_cases {r : TkR} {w0 w w' : World} {g cap : Nat} {A : Option Addr} {B : List UInt8} {e : Ending} (h : TkQ r w0 w g A cap B e w') :
    (∃ er, r = .inl er ∧ e = .panicked [{ v := .iface 28 (.int .i64 er), recovered := false }] ∧ Kb g w.heap.size w w') ∨
    (∃ k n o s, r = .inr (k, n, o, s) ∧ e = .returned (.agg #[.int .i64 k, .int .i64 n, .string (S o)]) ∧ At w0 w' g A cap B s ∧ Kb g w.heap.size w w') := by
  match r, h with
  | .inl er, h => exact .inl ⟨er, rfl, h.1, h.2⟩
  | .inr (k, n, o, s), h => exact .inr ⟨k, n, o, s, rfl, h⟩

set_option maxHeartbeats 4000000 in
set_option maxRecDepth 100000 in
theorem token_nil {w0 w : World} {g cap : Nat} {A : Option Addr} {B l : List UInt8} (h : At w0 w g A cap B l) (hl : skipL false l = []) :
    Calls Tryd.prog 49 #[.pointer (some ⟨g, 0, none⟩)] w (TkQ (.inr (0, 0, [], [])) w0 w g A cap B) := by
  have HP := Lib.hid (Tp.start h)
  clear h
  go_enter Tryd.func49, Tryd.ntmps49
  go_wp2_with fail
  refine (skip_any HP.out.at_).mono ?_
  rintro e w1 ⟨rfl, hA, hK⟩
  rw [hl] at hA
  replace HP := Lib.hid (HP.out.read hA hK)
  have HL := Lib.hid hl
  clear hA hK hl
  go_wp2_with fail
  refine (more_nil HP.out.at_).mono ?_
  rintro e w2 ⟨rfl, m, hm⟩
  replace HP := Lib.hid (show Tp w0 w w2 g A cap B [] by rw [hm]; exact HP.out.read (HP.out.at_.drewN m) (Kb.of_below (drewN_below _ m)))
  clear hm
  obtain ⟨⟨c0, c1, c2⟩, f0, f1, f2⟩ := HP.out.blk.facts
  have hlt := HP.out.blk.lt
  go_wp2_with fail
  refine bodyPost_ret (v := .agg #[.int .i64 0, .int .i64 0, .string (S [])]) (by simp [results, Tryd.results49, go_sem, c0, c1, c2, S]) rfl ?_
  exact TkQ.ok rfl rfl HP.out.out

set_option maxHeartbeats 4000000 in
set_option maxRecDepth 100000 in
theorem token_40 {w0 w : World} {g cap : Nat} {A : Option Addr} {B l t : List UInt8} (h : At w0 w g A cap B l) (hl : skipL false l = 40 :: t) :
    Calls Tryd.prog 49 #[.pointer (some ⟨g, 0, none⟩)] w (TkQ (strL (rnd 1 t)) w0 w g A cap B) := by
  have HP := Lib.hid (Tp.start h)
  clear h
  go_enter Tryd.func49, Tryd.ntmps49
  go_wp2_with fail
  refine (skip_any HP.out.at_).mono ?_
  rintro e w1 ⟨rfl, hA, hK⟩
  rw [hl] at hA
  replace HP := Lib.hid (HP.out.read hA hK)
  have HL := Lib.hid hl
  clear hA hK hl
  go_wp2_with fail
  refine (more_cons HP.out.at_).mono ?_
  rintro e w2 ⟨rfl, m, hm⟩
  replace HP := Lib.hid (show Tp w0 w w2 g A cap B (40 :: t) by rw [hm]; exact HP.out.read (HP.out.at_.drewN m) (Kb.of_below (drewN_below _ m)))
  clear hm
  obtain ⟨n, p, ad, rfl, hn, hlt, hsm, hp1, c0, c1, f0, f1, hx, hne⟩ := HP.out.at_.head
  have HPP := Lib.hid hp1
  have g1 : (0 : Int) ≤ (p : Int) := by omega
  have g2 : (p : Int) < (n : Int) := by omega
  have g3 : (n : Int) ≤ 140737488351232 := by omega
  have hx2 : w2.cell? (ad.add p) = some (.int .u8 40) := hx
  clear hx
  clear hn hp1 hlt hsm
  go_wp2_with fail
  go_quiet (fail)
  have HA2 := Lib.hid (show At w0 ((w2.drewN nq).setCell ⟨g, 1, none⟩ (.int .i64 ((p : Int) + 1))) g (some ad) cap B t from (HP.out.at_.drewN nq).set _ (by rw [HPP.out]; push_cast; rfl))
  have HP3 := Lib.hid (show Tp w0 w ((w2.drewN nq).setCell ⟨g, 1, none⟩ (.int .i64 ((p : Int) + 1))) g (some ad) cap B t from HP.out.read HA2.out ((Kb.of_below (drewN_below w2 nq)).trans (Kb.set _ _ _ _ _)))
  go_wp2_with fail
  refine (Calls.mono (round_any HA2.out) (fun e w h => h.tk)).mono ?_
  rintro e w3 hq
  rcases tkQ_cases hq with ⟨er, hr, rfl, hk⟩ | ⟨k, n2, o, s, hr, rfl, ha, hk⟩
  · have HK := Lib.hid (HP3.out.kb.then_ HP3.out.size hk)
    have HR := Lib.hid hr
    clear hr hk hq
    go_wp2_with fail
    exact ⟨rfl, TkQ.err HR.out ⟨rfl, HK.out⟩⟩
  · have HP4 := Lib.hid (HP3.out.read ha hk)
    have HR := Lib.hid hr
    clear hr ha hk hq c0 c1 f0 f1 hx2
    obtain ⟨⟨c0, c1, c2⟩, f0, f1, f2⟩ := HP4.out.blk.facts
    have hlt := HP4.out.blk.lt
    go_wp2_with fail
    refine bodyPost_ret (v := .agg #[.int .i64 k, .int .i64 n2, .string (S o)]) (by simp [results, Tryd.results49, go_sem, c0, c1, c2]) rfl ?_
    exact TkQ.ok HR.out rfl HP4.out.out

set_option maxHeartbeats 4000000 in
set_option maxRecDepth 100000 in
theorem token_41 {w0 w : World} {g cap : Nat} {A : Option Addr} {B l t : List UInt8} (h : At w0 w g A cap B l) (hl : skipL false l = 41 :: t) :
    Calls Tryd.prog 49 #[.pointer (some ⟨g, 0, none⟩)] w (TkQ (.inl 14) w0 w g A cap B) := by
  have HP := Lib.hid (Tp.start h)
  clear h
  go_enter Tryd.func49, Tryd.ntmps49
  go_wp2_with fail
  refine (skip_any HP.out.at_).mono ?_
  rintro e w1 ⟨rfl, hA, hK⟩
  rw [hl] at hA
  replace HP := Lib.hid (HP.out.read hA hK)
  have HL := Lib.hid hl
  clear hA hK hl
  go_wp2_with fail
  refine (more_cons HP.out.at_).mono ?_
  rintro e w2 ⟨rfl, m, hm⟩
  replace HP := Lib.hid (show Tp w0 w w2 g A cap B (41 :: t) by rw [hm]; exact HP.out.read (HP.out.at_.drewN m) (Kb.of_below (drewN_below _ m)))
  clear hm
  obtain ⟨n, p, ad, rfl, hn, hlt, hsm, hp1, c0, c1, f0, f1, hx, hne⟩ := HP.out.at_.head
  have HPP := Lib.hid hp1
  have g1 : (0 : Int) ≤ (p : Int) := by omega
  have g2 : (p : Int) < (n : Int) := by omega
  have g3 : (n : Int) ≤ 140737488351232 := by omega
  have hx2 : w2.cell? (ad.add p) = some (.int .u8 41) := hx
  clear hx
  clear hn hp1 hlt hsm
  go_wp2_with fail
  go_quiet (fail)
  go_wp2_with fail
  exact ⟨rfl, TkQ.err rfl ⟨rfl, HP.out.kb.belows (drewN_below _ _) HP.out.size⟩⟩

set_option maxHeartbeats 4000000 in
set_option maxRecDepth 100000 in
theorem token_60 {w0 w : World} {g cap : Nat} {A : Option Addr} {B l t : List UInt8} (h : At w0 w g A cap B l) (hl : skipL false l = 60 :: t) :
    Calls Tryd.prog 49 #[.pointer (some ⟨g, 0, none⟩)] w (TkQ (angleL 60 t) w0 w g A cap B) := by
  have HP := Lib.hid (Tp.start h)
  clear h
  go_enter Tryd.func49, Tryd.ntmps49
  go_wp2_with fail
  refine (skip_any HP.out.at_).mono ?_
  rintro e w1 ⟨rfl, hA, hK⟩
  rw [hl] at hA
  replace HP := Lib.hid (HP.out.read hA hK)
  have HL := Lib.hid hl
  clear hA hK hl
  go_wp2_with fail
  refine (more_cons HP.out.at_).mono ?_
  rintro e w2 ⟨rfl, m, hm⟩
  replace HP := Lib.hid (show Tp w0 w w2 g A cap B (60 :: t) by rw [hm]; exact HP.out.read (HP.out.at_.drewN m) (Kb.of_below (drewN_below _ m)))
  clear hm
  obtain ⟨n, p, ad, rfl, hn, hlt, hsm, hp1, c0, c1, f0, f1, hx, hne⟩ := HP.out.at_.head
  have HPP := Lib.hid hp1
  have g1 : (0 : Int) ≤ (p : Int) := by omega
  have g2 : (p : Int) < (n : Int) := by omega
  have g3 : (n : Int) ≤ 140737488351232 := by omega
  have hx2 : w2.cell? (ad.add p) = some (.int .u8 60) := hx
  clear hx
  clear hn hp1 hlt hsm
  go_wp2_with fail
  go_quiet (fail)
  have HA2 := Lib.hid (show At w0 ((w2.drewN nq).setCell ⟨g, 1, none⟩ (.int .i64 ((p : Int) + 1))) g (some ad) cap B t from (HP.out.at_.drewN nq).set _ (by rw [HPP.out]; push_cast; rfl))
  have HP3 := Lib.hid (show Tp w0 w ((w2.drewN nq).setCell ⟨g, 1, none⟩ (.int .i64 ((p : Int) + 1))) g (some ad) cap B t from HP.out.read HA2.out ((Kb.of_below (drewN_below w2 nq)).trans (Kb.set _ _ _ _ _)))
  go_wp2_with fail
  refine (angle_60 HA2.out).mono ?_
  rintro e w3 hq
  rcases tkQ_cases hq with ⟨er, hr, rfl, hk⟩ | ⟨k, n2, o, s, hr, rfl, ha, hk⟩
  · have HK := Lib.hid (HP3.out.kb.then_ HP3.out.size hk)
    have HR := Lib.hid hr
    clear hr hk hq
    go_wp2_with fail
    exact ⟨rfl, TkQ.err HR.out ⟨rfl, HK.out⟩⟩
  · have HP4 := Lib.hid (HP3.out.read ha hk)
    have HR := Lib.hid hr
    clear hr ha hk hq c0 c1 f0 f1 hx2
    obtain ⟨⟨c0, c1, c2⟩, f0, f1, f2⟩ := HP4.out.blk.facts
    have hlt := HP4.out.blk.lt
    go_wp2_with fail
    refine bodyPost_ret (v := .agg #[.int .i64 k, .int .i64 n2, .string (S o)]) (by simp [results, Tryd.results49, go_sem, c0, c1, c2]) rfl ?_
    exact TkQ.ok HR.out rfl HP4.out.out

set_option maxHeartbeats 4000000 in
set_option maxRecDepth 100000 in
theorem token_62 {w0 w : World} {g cap : Nat} {A : Option Addr} {B l t : List UInt8} (h : At w0 w g A cap B l) (hl : skipL false l = 62 :: t) :
    Calls Tryd.prog 49 #[.pointer (some ⟨g, 0, none⟩)] w (TkQ (angleL 62 t) w0 w g A cap B) := by
  have HP := Lib.hid (Tp.start h)
  clear h
  go_enter Tryd.func49, Tryd.ntmps49
  go_wp2_with fail
  refine (skip_any HP.out.at_).mono ?_
  rintro e w1 ⟨rfl, hA, hK⟩
  rw [hl] at hA
  replace HP := Lib.hid (HP.out.read hA hK)
  have HL := Lib.hid hl
  clear hA hK hl
  go_wp2_with fail
  refine (more_cons HP.out.at_).mono ?_
  rintro e w2 ⟨rfl, m, hm⟩
  replace HP := Lib.hid (show Tp w0 w w2 g A cap B (62 :: t) by rw [hm]; exact HP.out.read (HP.out.at_.drewN m) (Kb.of_below (drewN_below _ m)))
  clear hm
  obtain ⟨n, p, ad, rfl, hn, hlt, hsm, hp1, c0, c1, f0, f1, hx, hne⟩ := HP.out.at_.head
  have HPP := Lib.hid hp1
  have g1 : (0 : Int) ≤ (p : Int) := by omega
  have g2 : (p : Int) < (n : Int) := by omega
  have g3 : (n : Int) ≤ 140737488351232 := by omega
  have hx2 : w2.cell? (ad.add p) = some (.int .u8 62) := hx
  clear hx
  clear hn hp1 hlt hsm
  go_wp2_with fail
  go_quiet (fail)
  have HA2 := Lib.hid (show At w0 ((w2.drewN nq).setCell ⟨g, 1, none⟩ (.int .i64 ((p : Int) + 1))) g (some ad) cap B t from (HP.out.at_.drewN nq).set _ (by rw [HPP.out]; push_cast; rfl))
  have HP3 := Lib.hid (show Tp w0 w ((w2.drewN nq).setCell ⟨g, 1, none⟩ (.int .i64 ((p : Int) + 1))) g (some ad) cap B t from HP.out.read HA2.out ((Kb.of_below (drewN_below w2 nq)).trans (Kb.set _ _ _ _ _)))
  go_wp2_with fail
  refine (angle_62 HA2.out).mono ?_
  rintro e w3 hq
  rcases tkQ_cases hq with ⟨er, hr, rfl, hk⟩ | ⟨k, n2, o, s, hr, rfl, ha, hk⟩
  · have HK := Lib.hid (HP3.out.kb.then_ HP3.out.size hk)
    have HR := Lib.hid hr
    clear hr hk hq
    go_wp2_with fail
    exact ⟨rfl, TkQ.err HR.out ⟨rfl, HK.out⟩⟩
  · have HP4 := Lib.hid (HP3.out.read ha hk)
    have HR := Lib.hid hr
    clear hr ha hk hq c0 c1 f0 f1 hx2
    obtain ⟨⟨c0, c1, c2⟩, f0, f1, f2⟩ := HP4.out.blk.facts
    have hlt := HP4.out.blk.lt
    go_wp2_with fail
    refine bodyPost_ret (v := .agg #[.int .i64 k, .int .i64 n2, .string (S o)]) (by simp [results, Tryd.results49, go_sem, c0, c1, c2]) rfl ?_
    exact TkQ.ok HR.out rfl HP4.out.out

set_option maxHeartbeats 4000000 in
set_option maxRecDepth 100000 in
theorem token_47 {w0 w : World} {g cap : Nat} {A : Option Addr} {B l t : List UInt8} (h : At w0 w g A cap B l) (hl : skipL false l = 47 :: t) :
    Calls Tryd.prog 49 #[.pointer (some ⟨g, 0, none⟩)] w (TkQ (slashL t) w0 w g A cap B) := by
  have HP := Lib.hid (Tp.start h)
  clear h
  go_enter Tryd.func49, Tryd.ntmps49
  go_wp2_with fail
  refine (skip_any HP.out.at_).mono ?_
  rintro e w1 ⟨rfl, hA, hK⟩
  rw [hl] at hA
  replace HP := Lib.hid (HP.out.read hA hK)
  have HL := Lib.hid hl
  clear hA hK hl
  go_wp2_with fail
  refine (more_cons HP.out.at_).mono ?_
  rintro e w2 ⟨rfl, m, hm⟩
  replace HP := Lib.hid (show Tp w0 w w2 g A cap B (47 :: t) by rw [hm]; exact HP.out.read (HP.out.at_.drewN m) (Kb.of_below (drewN_below _ m)))
  clear hm
  obtain ⟨n, p, ad, rfl, hn, hlt, hsm, hp1, c0, c1, f0, f1, hx, hne⟩ := HP.out.at_.head
  have HPP := Lib.hid hp1
  have g1 : (0 : Int) ≤ (p : Int) := by omega
  have g2 : (p : Int) < (n : Int) := by omega
  have g3 : (n : Int) ≤ 140737488351232 := by omega
  have hx2 : w2.cell? (ad.add p) = some (.int .u8 47) := hx
  clear hx
  clear hn hp1 hlt hsm
  go_wp2_with fail
  go_quiet (fail)
  have HA2 := Lib.hid (show At w0 ((w2.drewN nq).setCell ⟨g, 1, none⟩ (.int .i64 ((p : Int) + 1))) g (some ad) cap B t from (HP.out.at_.drewN nq).set _ (by rw [HPP.out]; push_cast; rfl))
  have HP3 := Lib.hid (show Tp w0 w ((w2.drewN nq).setCell ⟨g, 1, none⟩ (.int .i64 ((p : Int) + 1))) g (some ad) cap B t from HP.out.read HA2.out ((Kb.of_below (drewN_below w2 nq)).trans (Kb.set _ _ _ _ _)))
  go_wp2_with fail
  refine (slash_any HA2.out).mono ?_
  rintro e w3 hq
  rcases tkQ_cases hq with ⟨er, hr, rfl, hk⟩ | ⟨k, n2, o, s, hr, rfl, ha, hk⟩
  · have HK := Lib.hid (HP3.out.kb.then_ HP3.out.size hk)
    have HR := Lib.hid hr
    clear hr hk hq
    go_wp2_with fail
    exact ⟨rfl, TkQ.err HR.out ⟨rfl, HK.out⟩⟩
  · have HP4 := Lib.hid (HP3.out.read ha hk)
    have HR := Lib.hid hr
    clear hr ha hk hq c0 c1 f0 f1 hx2
    obtain ⟨⟨c0, c1, c2⟩, f0, f1, f2⟩ := HP4.out.blk.facts
    have hlt := HP4.out.blk.lt
    go_wp2_with fail
    refine bodyPost_ret (v := .agg #[.int .i64 k, .int .i64 n2, .string (S o)]) (by simp [results, Tryd.results49, go_sem, c0, c1, c2]) rfl ?_
    exact TkQ.ok HR.out rfl HP4.out.out

set_option maxHeartbeats 4000000 in
set_option maxRecDepth 100000 in
theorem token_123 {w0 w : World} {g cap : Nat} {A : Option Addr} {B l t : List UInt8} (h : At w0 w g A cap B l) (hl : skipL false l = 123 :: t) :
    Calls Tryd.prog 49 #[.pointer (some ⟨g, 0, none⟩)] w (TkQ (.inr (7, 0, [], t)) w0 w g A cap B) := by
  have HP := Lib.hid (Tp.start h)
  clear h
  go_enter Tryd.func49, Tryd.ntmps49
  go_wp2_with fail
  refine (skip_any HP.out.at_).mono ?_
  rintro e w1 ⟨rfl, hA, hK⟩
  rw [hl] at hA
  replace HP := Lib.hid (HP.out.read hA hK)
  have HL := Lib.hid hl
  clear hA hK hl
  go_wp2_with fail
  refine (more_cons HP.out.at_).mono ?_
  rintro e w2 ⟨rfl, m, hm⟩
  replace HP := Lib.hid (show Tp w0 w w2 g A cap B (123 :: t) by rw [hm]; exact HP.out.read (HP.out.at_.drewN m) (Kb.of_below (drewN_below _ m)))
  clear hm
  obtain ⟨n, p, ad, rfl, hn, hlt, hsm, hp1, c0, c1, f0, f1, hx, hne⟩ := HP.out.at_.head
  have HPP := Lib.hid hp1
  have g1 : (0 : Int) ≤ (p : Int) := by omega
  have g2 : (p : Int) < (n : Int) := by omega
  have g3 : (n : Int) ≤ 140737488351232 := by omega
  have hx2 : w2.cell? (ad.add p) = some (.int .u8 123) := hx
  clear hx
  clear hn hp1 hlt hsm
  go_wp2_with fail
  go_quiet (fail)
  have HA2 := Lib.hid (show At w0 ((w2.drewN nq).setCell ⟨g, 1, none⟩ (.int .i64 ((p : Int) + 1))) g (some ad) cap B t from (HP.out.at_.drewN nq).set _ (by rw [HPP.out]; push_cast; rfl))
  have HP3 := Lib.hid (show Tp w0 w ((w2.drewN nq).setCell ⟨g, 1, none⟩ (.int .i64 ((p : Int) + 1))) g (some ad) cap B t from HP.out.read HA2.out ((Kb.of_below (drewN_below w2 nq)).trans (Kb.set _ _ _ _ _)))
  clear hx2
  obtain ⟨⟨k0, k1, k2⟩, l0, l1, l2⟩ := HP3.out.blk.facts
  have hlt := HP3.out.blk.lt
  go_wp2_with fail
  refine bodyPost_ret (v := .agg #[.int .i64 7, .int .i64 0, .string (S [])]) (by simp [results, Tryd.results49, go_sem, k0, k1, k2, S]) rfl ?_
  exact TkQ.ok rfl rfl HP3.out.out

set_option maxHeartbeats 4000000 in
set_option maxRecDepth 100000 in
theorem token_125 {w0 w : World} {g cap : Nat} {A : Option Addr} {B l t : List UInt8} (h : At w0 w g A cap B l) (hl : skipL false l = 125 :: t) :
    Calls Tryd.prog 49 #[.pointer (some ⟨g, 0, none⟩)] w (TkQ (.inr (8, 0, [], t)) w0 w g A cap B) := by
  have HP := Lib.hid (Tp.start h)
  clear h
  go_enter Tryd.func49, Tryd.ntmps49
  go_wp2_with fail
  refine (skip_any HP.out.at_).mono ?_
  rintro e w1 ⟨rfl, hA, hK⟩
  rw [hl] at hA
  replace HP := Lib.hid (HP.out.read hA hK)
  have HL := Lib.hid hl
  clear hA hK hl
  go_wp2_with fail
  refine (more_cons HP.out.at_).mono ?_
  rintro e w2 ⟨rfl, m, hm⟩
  replace HP := Lib.hid (show Tp w0 w w2 g A cap B (125 :: t) by rw [hm]; exact HP.out.read (HP.out.at_.drewN m) (Kb.of_below (drewN_below _ m)))
  clear hm
  obtain ⟨n, p, ad, rfl, hn, hlt, hsm, hp1, c0, c1, f0, f1, hx, hne⟩ := HP.out.at_.head
  have HPP := Lib.hid hp1
  have g1 : (0 : Int) ≤ (p : Int) := by omega
  have g2 : (p : Int) < (n : Int) := by omega
  have g3 : (n : Int) ≤ 140737488351232 := by omega
  have hx2 : w2.cell? (ad.add p) = some (.int .u8 125) := hx
  clear hx
  clear hn hp1 hlt hsm
  go_wp2_with fail
  go_quiet (fail)
  have HA2 := Lib.hid (show At w0 ((w2.drewN nq).setCell ⟨g, 1, none⟩ (.int .i64 ((p : Int) + 1))) g (some ad) cap B t from (HP.out.at_.drewN nq).set _ (by rw [HPP.out]; push_cast; rfl))
  have HP3 := Lib.hid (show Tp w0 w ((w2.drewN nq).setCell ⟨g, 1, none⟩ (.int .i64 ((p : Int) + 1))) g (some ad) cap B t from HP.out.read HA2.out ((Kb.of_below (drewN_below w2 nq)).trans (Kb.set _ _ _ _ _)))
  clear hx2
  obtain ⟨⟨k0, k1, k2⟩, l0, l1, l2⟩ := HP3.out.blk.facts
  have hlt := HP3.out.blk.lt
  go_wp2_with fail
  refine bodyPost_ret (v := .agg #[.int .i64 8, .int .i64 0, .string (S [])]) (by simp [results, Tryd.results49, go_sem, k0, k1, k2, S]) rfl ?_
  exact TkQ.ok rfl rfl HP3.out.out

set_option maxHeartbeats 4000000 in
set_option maxRecDepth 100000 in
theorem token_91 {w0 w : World} {g cap : Nat} {A : Option Addr} {B l t : List UInt8} (h : At w0 w g A cap B l) (hl : skipL false l = 91 :: t) :
    Calls Tryd.prog 49 #[.pointer (some ⟨g, 0, none⟩)] w (TkQ (.inr (3, 0, [91], t)) w0 w g A cap B) := by
  have HP := Lib.hid (Tp.start h)
  clear h
  go_enter Tryd.func49, Tryd.ntmps49
  go_wp2_with fail
  refine (skip_any HP.out.at_).mono ?_
  rintro e w1 ⟨rfl, hA, hK⟩
  rw [hl] at hA
  replace HP := Lib.hid (HP.out.read hA hK)
  have HL := Lib.hid hl
  clear hA hK hl
  go_wp2_with fail
  refine (more_cons HP.out.at_).mono ?_
  rintro e w2 ⟨rfl, m, hm⟩
  replace HP := Lib.hid (show Tp w0 w w2 g A cap B (91 :: t) by rw [hm]; exact HP.out.read (HP.out.at_.drewN m) (Kb.of_below (drewN_below _ m)))
  clear hm
  obtain ⟨n, p, ad, rfl, hn, hlt, hsm, hp1, c0, c1, f0, f1, hx, hne⟩ := HP.out.at_.head
  have HPP := Lib.hid hp1
  have g1 : (0 : Int) ≤ (p : Int) := by omega
  have g2 : (p : Int) < (n : Int) := by omega
  have g3 : (n : Int) ≤ 140737488351232 := by omega
  have hx2 : w2.cell? (ad.add p) = some (.int .u8 91) := hx
  clear hx
  clear hn hp1 hlt hsm
  go_wp2_with fail
  go_quiet (fail)
  have HA2 := Lib.hid (show At w0 ((w2.drewN nq).setCell ⟨g, 1, none⟩ (.int .i64 ((p : Int) + 1))) g (some ad) cap B t from (HP.out.at_.drewN nq).set _ (by rw [HPP.out]; push_cast; rfl))
  have HP3 := Lib.hid (show Tp w0 w ((w2.drewN nq).setCell ⟨g, 1, none⟩ (.int .i64 ((p : Int) + 1))) g (some ad) cap B t from HP.out.read HA2.out ((Kb.of_below (drewN_below w2 nq)).trans (Kb.set _ _ _ _ _)))
  clear hx2
  obtain ⟨⟨k0, k1, k2⟩, l0, l1, l2⟩ := HP3.out.blk.facts
  have hlt := HP3.out.blk.lt
  have hsz : ((w2.drewN nq).setCell ⟨g, 1, none⟩ (.int .i64 ((p : Int) + 1))).heap.size = w2.heap.size := by rw [setCell_size, drewN_heap]
  have hcv : (convert 32 9 (.slice (some ⟨w2.heap.size, 0, none⟩) 1 1)).run Tryd.prog (((w2.drewN nq).setCell ⟨g, 1, none⟩ (.int .i64 ((p : Int) + 1))).alloc (.cells #[.int .u8 91] 5)) = .ok (.string (S [91])) (((w2.drewN nq).setCell ⟨g, 1, none⟩ (.int .i64 ((p : Int) + 1))).alloc (.cells #[.int .u8 91] 5)) := by
    rw [← hsz]
    exact str_fresh _ [91] (by decide)
  have hlt2 : w.heap.size < w2.heap.size := by rw [← hsz]; exact hlt
  clear hsz
  go_wp2_with fail
  refine bodyPost_ret (v := .agg #[.int .i64 3, .int .i64 0, .string (S [91])]) (by simp [results, Tryd.results49, go_sem, k0, k1, k2, hlt2]) rfl ?_
  exact TkQ.ok rfl rfl (HP3.out.outA _)

set_option maxHeartbeats 4000000 in
set_option maxRecDepth 100000 in
theorem token_93 {w0 w : World} {g cap : Nat} {A : Option Addr} {B l t : List UInt8} (h : At w0 w g A cap B l) (hl : skipL false l = 93 :: t) :
    Calls Tryd.prog 49 #[.pointer (some ⟨g, 0, none⟩)] w (TkQ (.inr (3, 0, [93], t)) w0 w g A cap B) := by
  have HP := Lib.hid (Tp.start h)
  clear h
  go_enter Tryd.func49, Tryd.ntmps49
  go_wp2_with fail
  refine (skip_any HP.out.at_).mono ?_
  rintro e w1 ⟨rfl, hA, hK⟩
  rw [hl] at hA
  replace HP := Lib.hid (HP.out.read hA hK)
  have HL := Lib.hid hl
  clear hA hK hl
  go_wp2_with fail
  refine (more_cons HP.out.at_).mono ?_
  rintro e w2 ⟨rfl, m, hm⟩
  replace HP := Lib.hid (show Tp w0 w w2 g A cap B (93 :: t) by rw [hm]; exact HP.out.read (HP.out.at_.drewN m) (Kb.of_below (drewN_below _ m)))
  clear hm
  obtain ⟨n, p, ad, rfl, hn, hlt, hsm, hp1, c0, c1, f0, f1, hx, hne⟩ := HP.out.at_.head
  have HPP := Lib.hid hp1
  have g1 : (0 : Int) ≤ (p : Int) := by omega
  have g2 : (p : Int) < (n : Int) := by omega
  have g3 : (n : Int) ≤ 140737488351232 := by omega
  have hx2 : w2.cell? (ad.add p) = some (.int .u8 93) := hx
  clear hx
  clear hn hp1 hlt hsm
  go_wp2_with fail
  go_quiet (fail)
  have HA2 := Lib.hid (show At w0 ((w2.drewN nq).setCell ⟨g, 1, none⟩ (.int .i64 ((p : Int) + 1))) g (some ad) cap B t from (HP.out.at_.drewN nq).set _ (by rw [HPP.out]; push_cast; rfl))
  have HP3 := Lib.hid (show Tp w0 w ((w2.drewN nq).setCell ⟨g, 1, none⟩ (.int .i64 ((p : Int) + 1))) g (some ad) cap B t from HP.out.read HA2.out ((Kb.of_below (drewN_below w2 nq)).trans (Kb.set _ _ _ _ _)))
  clear hx2
  obtain ⟨⟨k0, k1, k2⟩, l0, l1, l2⟩ := HP3.out.blk.facts
  have hlt := HP3.out.blk.lt
  have hsz : ((w2.drewN nq).setCell ⟨g, 1, none⟩ (.int .i64 ((p : Int) + 1))).heap.size = w2.heap.size := by rw [setCell_size, drewN_heap]
  have hcv : (convert 32 9 (.slice (some ⟨w2.heap.size, 0, none⟩) 1 1)).run Tryd.prog (((w2.drewN nq).setCell ⟨g, 1, none⟩ (.int .i64 ((p : Int) + 1))).alloc (.cells #[.int .u8 93] 5)) = .ok (.string (S [93])) (((w2.drewN nq).setCell ⟨g, 1, none⟩ (.int .i64 ((p : Int) + 1))).alloc (.cells #[.int .u8 93] 5)) := by
    rw [← hsz]
    exact str_fresh _ [93] (by decide)
  have hlt2 : w.heap.size < w2.heap.size := by rw [← hsz]; exact hlt
  clear hsz
  go_wp2_with fail
  refine bodyPost_ret (v := .agg #[.int .i64 3, .int .i64 0, .string (S [93])]) (by simp [results, Tryd.results49, go_sem, k0, k1, k2, hlt2]) rfl ?_
  exact TkQ.ok rfl rfl (HP3.out.outA _)

set_option maxHeartbeats 4000000 in
set_option maxRecDepth 100000 in
theorem token_word {w0 w : World} {g cap : Nat} {A : Option Addr} {B l t : List UInt8} {c : UInt8} (h : At w0 w g A cap B l) (hl : skipL false l = c :: t) (m1 : ¬ c = 40) (m2 : ¬ c = 41) (m3 : ¬ c = 60) (m4 : ¬ c = 62) (m5 : ¬ c = 123) (m6 : ¬ c = 125) (m7 : ¬ c = 91) (m8 : ¬ c = 93) (m9 : ¬ c = 47) (x s : List UInt8) (ex : (c :: t).takeWhile regB = x) (es : (c :: t).dropWhile regB = s) :
    Calls Tryd.prog 49 #[.pointer (some ⟨g, 0, none⟩)] w (TkQ (wordL x s) w0 w g A cap B) := by
  have n1 := ne_of c 40 (by omega) m1
  have n2 := ne_of c 41 (by omega) m2
  have n3 := ne_of c 60 (by omega) m3
  have n4 := ne_of c 62 (by omega) m4
  have n5 := ne_of c 123 (by omega) m5
  have n6 := ne_of c 125 (by omega) m6
  have n7 := ne_of c 91 (by omega) m7
  have n8 := ne_of c 93 (by omega) m8
  have n9 := ne_of c 47 (by omega) m9
  have EX := Lib.hid ex
  have ES := Lib.hid es
  clear m1 m2 m3 m4 m5 m6 m7 m8 m9 ex es
  have HP := Lib.hid (Tp.start h)
  clear h
  go_enter Tryd.func49, Tryd.ntmps49
  go_wp2_with fail
  refine (skip_any HP.out.at_).mono ?_
  rintro e w1 ⟨rfl, hA, hK⟩
  rw [hl] at hA
  replace HP := Lib.hid (HP.out.read hA hK)
  have HL := Lib.hid hl
  clear hA hK hl
  go_wp2_with fail
  refine (more_cons HP.out.at_).mono ?_
  rintro e w2 ⟨rfl, m, hm⟩
  replace HP := Lib.hid (show Tp w0 w w2 g A cap B (c :: t) by rw [hm]; exact HP.out.read (HP.out.at_.drewN m) (Kb.of_below (drewN_below _ m)))
  clear hm
  obtain ⟨n, p, ad, rfl, hn, hlt, hsm, hp1, c0, c1, f0, f1, hx, hne⟩ := HP.out.at_.head
  have HPP := Lib.hid hp1
  have g1 : (0 : Int) ≤ (p : Int) := by omega
  have g2 : (p : Int) < (n : Int) := by omega
  have g3 : (n : Int) ≤ 140737488351232 := by omega
  clear hn hp1 hlt hsm
  go_wp2_with fail
  go_quiet (fail)
  go_wp2_with fail
  have HW := word_any (HP.out.at_.drewN nq)
  rw [EX.out, ES.out] at HW
  refine HW.mono ?_
  clear HW
  rintro e w3 ⟨rfl, hA, hK⟩
  have HP3 := Lib.hid (HP.out.read hA ((Kb.of_below (drewN_below w2 nq)).then_ (drewN_below w2 nq).size hK))
  clear hA hK c0 c1 f0 f1 hx n1 n2 n3 n4 n5 n6 n7 n8 n9 hne g1 g2 g3
  go_wp2_with fail
  refine (tok_any x w3).mono ?_
  rintro e w4 ⟨rfl, hb⟩
  have HP4 := Lib.hid (HP3.out.below hb)
  clear hb
  have HT : Hid (∀ k n : Int, ∀ ok : Bool, ∀ er : Int, (tokL x).1 = k → (tokL x).2.1 = n → (tokL x).2.2.1 = ok → (tokL x).2.2.2 = er → wordL x s = if er = 0 then (if ok = true then .inr (k, n, [], s) else nameL 3 x s) else .inl er) := by
    intro k n ok er e1 e2 e3 e4
    subst e1 e2 e3 e4
    rfl
  replace HT := Lib.hid (HT.out _ _ _ _ rfl rfl rfl rfl)
  generalize (tokL x).1 = k at *
  generalize (tokL x).2.1 = n at *
  generalize (tokL x).2.2.1 = ok at *
  generalize (tokL x).2.2.2 = er at *
  by_cases her : er = 0
  · subst her
    cases ok with
    | true =>
      have HR := Lib.hid (show wordL x s = .inr (k, n, [], s) from HT.out)
      obtain ⟨⟨c0, c1, c2⟩, f0, f1, f2⟩ := HP4.out.blk.facts
      have hlt := HP4.out.blk.lt
      go_wp2_with fail
      refine bodyPost_ret (v := .agg #[.int .i64 k, .int .i64 n, .string (S [])]) (by simp [results, Tryd.results49, go_sem, c0, c1, c2, hlt, S]) rfl ?_
      exact TkQ.ok HR.out rfl (HP4.out.outA _)
    | false =>
      by_cases hlong : 127 < x.length
      · have HLG := Lib.hid hlong
        have HR := Lib.hid (show wordL x s = .inl 9 from HT.out.trans (by unfold nameL; rw [if_pos rfl, if_neg Bool.false_ne_true, if_pos hlong]))
        clear hlong
        go_wp2_with fail
        refine (name_long 3 (S x) _ (by rw [S_size]; exact HLG.out)).mono ?_
        rintro e w5 ⟨rfl, hb⟩
        have HK := Lib.hid ((HP4.out.kb.belows ((Below.refl _ _).alloc (Nat.le_refl _) _) HP4.out.size).belows hb (by have := HP4.out.size; simp; omega))
        clear hb
        go_wp2_with fail
        exact ⟨rfl, TkQ.err HR.out ⟨rfl, HK.out⟩⟩
      · have HLG := Lib.hid hlong
        have HR := Lib.hid (show wordL x s = .inr (3, 0, x, s) from HT.out.trans (by unfold nameL; rw [if_pos rfl, if_neg Bool.false_ne_true, if_neg hlong]))
        clear hlong
        go_wp2_with fail
        refine (name_ok 3 (S x) _ (by rw [S_size]; have := HLG.out; omega)).mono ?_
        rintro e w5 ⟨rfl, hb⟩
        have HP5 := Lib.hid ((HP4.out.below ((Below.refl _ _).alloc (Nat.le_refl _) _)).below hb)
        clear hb
        obtain ⟨⟨c0, c1, c2⟩, f0, f1, f2⟩ := HP5.out.blk.facts
        have hlt := HP5.out.blk.lt
        go_wp2_with fail
        refine bodyPost_ret (v := .agg #[.int .i64 3, .int .i64 0, .string (S x)]) (by simp [results, Tryd.results49, go_sem, c0, c1, c2]) rfl ?_
        exact TkQ.ok HR.out rfl HP5.out.out
  · have HR := Lib.hid (show wordL x s = .inl er from by rw [HT.out, if_neg her])
    have hne : (er != 0) = true := by simpa using her
    clear her
    go_wp2_with fail
    exact ⟨rfl, TkQ.err HR.out ⟨rfl, HP4.out.kb.belows ((Below.refl _ _).alloc (Nat.le_refl _) _) HP4.out.size⟩⟩

theorem token_any {w0 w : World} {g cap : Nat} {A : Option Addr} {B l : List UInt8} (h : At w0 w g A cap B l) :
    Calls Tryd.prog 49 #[.pointer (some ⟨g, 0, none⟩)] w (TkQ (tokenL l) w0 w g A cap B) := by
  unfold tokenL
  match hl : skipL false l with
  | [] => exact token_nil h hl
  | c :: t =>
    show Calls Tryd.prog 49 #[.pointer (some ⟨g, 0, none⟩)] w (TkQ (tokenC c t) w0 w g A cap B)
    unfold tokenC
    by_cases m1 : c = 40
    · rw [if_pos m1]; subst m1; exact token_40 h hl
    by_cases m2 : c = 41
    · rw [if_neg m1, if_pos m2]; subst m2; exact token_41 h hl
    by_cases m3 : c = 60
    · rw [if_neg m1, if_neg m2, if_pos (.inl m3)]; subst m3; exact token_60 h hl
    by_cases m4 : c = 62
    · rw [if_neg m1, if_neg m2, if_pos (.inr m4)]; subst m4; exact token_62 h hl
    have m34 : ¬ (c = 60 ∨ c = 62) := fun e => e.elim m3 m4
    by_cases m5 : c = 123
    · rw [if_neg m1, if_neg m2, if_neg m34, if_pos m5]; subst m5; exact token_123 h hl
    by_cases m6 : c = 125
    · rw [if_neg m1, if_neg m2, if_neg m34, if_neg m5, if_pos m6]; subst m6; exact token_125 h hl
    by_cases m7 : c = 91
    · rw [if_neg m1, if_neg m2, if_neg m34, if_neg m5, if_neg m6, if_pos (.inl m7)]; subst m7; exact token_91 h hl
    by_cases m8 : c = 93
    · rw [if_neg m1, if_neg m2, if_neg m34, if_neg m5, if_neg m6, if_pos (.inr m8)]; subst m8; exact token_93 h hl
    have m78 : ¬ (c = 91 ∨ c = 93) := fun e => e.elim m7 m8
    by_cases m9 : c = 47
    · rw [if_neg m1, if_neg m2, if_neg m34, if_neg m5, if_neg m6, if_neg m78, if_pos m9]; subst m9; exact token_47 h hl
    rw [if_neg m1, if_neg m2, if_neg m34, if_neg m5, if_neg m6, if_neg m78, if_neg m9]
    exact token_word h hl m1 m2 m3 m4 m5 m6 m7 m8 m9 _ _ rfl rfl

end Go.Proofs.YtiocgpfnbmlfaaaDoor.SC

/-! ## SI -/
namespace Go.Proofs.YtiocgpfnbmlfaaaDoor.SC
open Go Go.RowKit Go.Proofs.YtiocgpfnbmlfaaaDoor Go.Proofs.YtiocgpfnbmlfaaaDoor.PS1 Go.Proofs.YtiocgpfnbmlfaaaDoor.QD Go.Proofs.YtiocgpfnbmlfaaaDoorW.PrintWords Go.Proofs.YtiocgpfnbmlfaaaDoorW.PrintLast

/-- the three results' blocks -/
def NBlk (b : Nat) (w : World) : Prop := w.heap[b]? = some (.cells #[.int .i64 0, .int .i64 0, .string ⟨#[]⟩] 27 (0, 0)) ∧ w.heap[b + 1]? = some (.cells #[.int .i64 0] 3 (0, 0)) ∧ w.heap[b + 1 + 1]? = some (.cells #[.int .i64 0] 28 (0, 0))

theorem NBlk.facts {b : Nat} {w : World} (h : NBlk b w) : (w.cell? ⟨b, 0, none⟩ = some (.int .i64 0) ∧ w.cell? ⟨b, 1, none⟩ = some (.int .i64 0) ∧ w.cell? ⟨b, 2, none⟩ = some (.string ⟨#[]⟩) ∧ w.cell? ⟨b + 1, 0, none⟩ = some (.int .i64 0) ∧ w.cell? ⟨b + 1 + 1, 0, none⟩ = some (.int .i64 0)) ∧
    (w.frozen? ⟨b, 0, none⟩ = false ∧ w.frozen? ⟨b, 1, none⟩ = false ∧ w.frozen? ⟨b, 2, none⟩ = false ∧ w.frozen? ⟨b + 1, 0, none⟩ = false ∧ w.frozen? ⟨b + 1 + 1, 0, none⟩ = false) := by
  obtain ⟨h0, h1, h2⟩ := h
  refine ⟨⟨?_, ?_, ?_, ?_, ?_⟩, Lib.frozen_of_heap h0 0, Lib.frozen_of_heap h0 1, Lib.frozen_of_heap h0 2, Lib.frozen_of_heap h1 0, Lib.frozen_of_heap h2 0⟩
  · rw [Lib.cell_of_heap h0]; rfl
  · rw [Lib.cell_of_heap h0]; rfl
  · rw [Lib.cell_of_heap h0]; rfl
  · rw [Lib.cell_of_heap h1]; rfl
  · rw [Lib.cell_of_heap h2]; rfl
/-- the world behind the closure that caught a panic -/
def caught (b : Nat) (er : Int) (w : World) : World :=
  ((((w.setCell ⟨b, 0, none⟩ (.int .i64 0)).setCell ⟨b, 1, none⟩ (.int .i64 0)).setCell ⟨b, 2, none⟩ (.string ⟨#[]⟩)).setCell ⟨b + 1, 0, none⟩ (.int .i64 0)).setCell ⟨b + 1 + 1, 0, none⟩ (.int .i64 er)

set_option maxHeartbeats 1000000 in
set_option maxRecDepth 100000 in
theorem catch_gave (b : Nat) (er : Int) (older : List PanicEntry) (w : World) (h : NBlk b w) :
    CallsD Tryd.prog 48 #[.pointer (some ⟨b, 0, none⟩), .pointer (some ⟨b + 1, 0, none⟩), .pointer (some ⟨b + 1 + 1, 0, none⟩)] (.panicking ({ v := .iface 28 (.int .i64 er), recovered := false } :: older)) w fun e u' w' =>
      e = .returned (.tuple #[]) ∧ u' = .panicking ({ v := .iface 28 (.int .i64 er), recovered := true } :: older) ∧ w' = caught b er w := by
  obtain ⟨⟨c0, c1, c2, c3, c4⟩, f0, f1, f2, f3, f4⟩ := h.facts
  clear h
  have hta : ∀ w, (Instr.typeAssert (.iface 28 (.int .i64 er)) 20 28 true).run Tryd.prog w = .ok (.tuple #[.int .i64 er, .bool true]) w := fun _ => by kernel_rfl
  refine callsD_of_wpS Tryd.func48 rfl fun c₀ cs hu => ?_
  apply wpS_seq
  apply wpS_region
  simp [wpOpsS, go_sem, recoverD, hu, Tryd.ntmps48, Exit.thenS]
  refine wpS_of_wp ?_
  generalize hQ : (fun (e : Exit) (a' : Act) (w' : World) => bodyPostS Tryd.prog Tryd.f48 c₀ cs _ e a' _ w') = Q
  clear hu
  have HQ := Lib.hid hQ
  clear hQ
  rw [show (#[Value.pointer (some ⟨b, 0, none⟩), Value.pointer (some ⟨b + 1, 0, none⟩), Value.pointer (some ⟨b + 1 + 1, 0, none⟩)] ++ ((Array.replicate 16 undef).setIfInBounds 3 (Value.iface 28 (Value.int IntKind.i64 er))).setIfInBounds 0 (Value.iface 28 (Value.int IntKind.i64 er)) : Array Value) =
    #[Value.pointer (some ⟨b, 0, none⟩), Value.pointer (some ⟨b + 1, 0, none⟩), Value.pointer (some ⟨b + 1 + 1, 0, none⟩), Value.iface 28 (Value.int IntKind.i64 er), undef, undef, Value.iface 28 (Value.int IntKind.i64 er), undef, undef, undef, undef, undef, undef, undef, undef, undef, undef, undef, undef] from rfl]
  go_wp2_with fail
  rw [← HQ.out]
  simp [bodyPostS, results, Tryd.results48, caught]

set_option maxHeartbeats 1000000 in
set_option maxRecDepth 100000 in
theorem catch_none (p0 p1 p2 : Value) (w : World) :
    CallsD Tryd.prog 48 #[p0, p1, p2] .returning w fun e u' w' => e = .returned (.tuple #[]) ∧ u' = .returning ∧ w' = w := by
  refine callsD_of_wpS Tryd.func48 rfl fun c₀ cs hu => ?_
  apply wpS_seq
  apply wpS_region
  simp [wpOpsS, go_sem, recoverD, hu, Tryd.ntmps48, Exit.thenS]
  refine wpS_of_wp ?_
  generalize hQ : (fun (e : Exit) (a' : Act) (w' : World) => bodyPostS Tryd.prog Tryd.f48 c₀ cs _ e a' _ w') = Q
  have HU := Lib.hid hu
  clear hu
  have HQ := Lib.hid hQ
  clear hQ
  rw [show (#[p0, p1, p2] ++ ((Array.replicate 16 undef).setIfInBounds 3 Value.nilIface).setIfInBounds 0 Value.nilIface : Array Value) =
    #[p0, p1, p2, Value.nilIface, undef, undef, Value.nilIface, undef, undef, undef, undef, undef, undef, undef, undef, undef, undef, undef, undef] from rfl]
  go_wp2_with fail
  rw [← HQ.out]
  cases c₀
  have := HU.out
  simp_all [bodyPostS, results, Tryd.results48]

def NextTQ (k n : Int) (x : List UInt8) (q : Int) (er : Int) (w : World) (e : Ending) (w' : World) : Prop :=
  e = .returned (.tuple #[.agg #[.int .i64 k, .int .i64 n, .string (S x)], .int .i64 q, .int .i64 er]) ∧ Below w.heap.size w w'

set_option maxHeartbeats 1000000 in
set_option maxRecDepth 100000 in
theorem nextT_bad (A : Option Addr) (n cap : Nat) (p : Int) (w : World) (h : p < 0 ∨ (0 ≤ p ∧ (n : Int) < p)) :
    Calls Tryd.prog 24 #[.slice A n cap, .int .i64 p] w (NextTQ 0 0 [] 0 21 w) := by
  rcases h with h | ⟨h0, h⟩
  · go_enter_defers Tryd.func24, Tryd.ntmps24
    go_wp2_with fail
    simp [bodyPostD, Leaves, results, Tryd.results24, go_sem, NextTQ, S]
    exact (((Below.refl _ _).alloc (Nat.le_refl _) _).alloc (by simp) _).alloc (by simp; omega) _
  · have h1 : ¬ p < 0 := by omega
    clear h0
    go_enter_defers Tryd.func24, Tryd.ntmps24
    go_wp2_with fail
    simp [bodyPostD, Leaves, results, Tryd.results24, go_sem, NextTQ, S]
    exact (((Below.refl _ _).alloc (Nat.le_refl _) _).alloc (by simp) _).alloc (by simp; omega) _

/-- the world when the reader stands -/
def stand (w : World) (A : Option Addr) (n cap p : Nat) : World :=
  (((w.alloc (.cells #[.int .i64 0, .int .i64 0, .string ⟨#[]⟩] 27)).alloc (.cells #[.int .i64 0] 3)).alloc (.cells #[.int .i64 0] 28)).alloc (.cells #[.slice A n cap, .int .i64 (p : Int)] 71)
theorem stand_below (w : World) (A : Option Addr) (n cap p : Nat) : Below w.heap.size w (stand w A n cap p) :=
  ((((Below.refl _ _).alloc (Nat.le_refl _) _).alloc (by simp) _).alloc (by simp; omega) _).alloc (by simp; omega) _
theorem stand_at {w : World} {A : Option Addr} {n cap p : Nat} {B : List UInt8} (hrow : (Kd.int .u8).C w A B.length (bI B)) (hn : B.length = n) (hcap : B.length ≤ cap) (hp : p ≤ B.length) (hs : B.length ≤ 140737488351232) :
    At w (stand w A n cap p) (w.heap.size + 1 + 1 + 1) A cap B (B.drop p) := by
  subst hn
  refine ⟨⟨?_, by omega, stand_below ..⟩, hrow, List.drop_suffix _ _, hs, hcap⟩
  have : B.length - (B.drop p).length = p := by rw [List.length_drop]; omega
  rw [this]
  have := heap_alloc_new (((w.alloc (.cells #[.int .i64 0, .int .i64 0, .string ⟨#[]⟩] 27)).alloc (.cells #[.int .i64 0] 3)).alloc (.cells #[.int .i64 0] 28)) (.cells #[.slice A B.length cap, .int .i64 (p : Int)] 71)
  simpa [Rd, stand] using this
theorem stand_blk (w : World) (A : Option Addr) (n cap p : Nat) : NBlk w.heap.size (stand w A n cap p) := by
  have s1 : (w.alloc (.cells #[.int .i64 0, .int .i64 0, .string ⟨#[]⟩] 27)).heap.size = w.heap.size + 1 := by simp
  have s2 : ((w.alloc (.cells #[.int .i64 0, .int .i64 0, .string ⟨#[]⟩] 27)).alloc (.cells #[.int .i64 0] 3)).heap.size = w.heap.size + 1 + 1 := by simp
  have s3 : (((w.alloc (.cells #[.int .i64 0, .int .i64 0, .string ⟨#[]⟩] 27)).alloc (.cells #[.int .i64 0] 3)).alloc (.cells #[.int .i64 0] 28)).heap.size = w.heap.size + 1 + 1 + 1 := by simp
  have h0 := heap_alloc_new w (.cells #[.int .i64 0, .int .i64 0, .string ⟨#[]⟩] 27)
  have h1 := heap_alloc_new (w.alloc (.cells #[.int .i64 0, .int .i64 0, .string ⟨#[]⟩] 27)) (.cells #[.int .i64 0] 3)
  have h2 := heap_alloc_new ((w.alloc (.cells #[.int .i64 0, .int .i64 0, .string ⟨#[]⟩] 27)).alloc (.cells #[.int .i64 0] 3)) (.cells #[.int .i64 0] 28)
  rw [s1] at h1
  rw [s2] at h2
  unfold stand
  refine ⟨?_, ?_, ?_⟩
  · rw [Below.heap_alloc _ _ _ (by omega), Below.heap_alloc _ _ _ (by omega), Below.heap_alloc _ _ _ (by omega)]; exact h0
  · rw [Below.heap_alloc _ _ _ (by omega), Below.heap_alloc _ _ _ (by omega)]; exact h1
  · rw [Below.heap_alloc _ _ _ (by omega)]; exact h2
theorem stand_size (w : World) (A : Option Addr) (n cap p : Nat) : (stand w A n cap p).heap.size = w.heap.size + 1 + 1 + 1 + 1 := by simp [stand]
theorem NBlk.kept {b g : Nat} {w w' : World} (h : NBlk b w) (hk : Kb g w.heap.size w w') (hg : b + 1 + 1 < g) (hs : b + 1 + 1 < w.heap.size) : NBlk b w' :=
  ⟨(hk.block _ (by omega) (by omega)).trans h.1, (hk.block _ (by omega) (by omega)).trans h.2.1, (hk.block _ hs (by omega)).trans h.2.2⟩

theorem blk_set3 {w : World} {b : Nat} {x0 x1 x2 : Value} {t : TypeId} {fr : Nat × Nat} (h : w.heap[b]? = some (.cells #[x0, x1, x2] t fr)) (y0 y1 y2 : Value) :
    (((w.setCell ⟨b, 0, none⟩ y0).setCell ⟨b, 1, none⟩ y1).setCell ⟨b, 2, none⟩ y2).heap[b]? = some (.cells #[y0, y1, y2] t fr) := by
  simp only [World.setCell, Array.getElem?_modify, if_true, h]
  rfl
theorem blk_set1 {w : World} {b : Nat} {x0 : Value} {t : TypeId} {fr : Nat × Nat} (h : w.heap[b]? = some (.cells #[x0] t fr)) (y0 : Value) : (w.setCell ⟨b, 0, none⟩ y0).heap[b]? = some (.cells #[y0] t fr) := by
  simp only [World.setCell, Array.getElem?_modify, if_true, h]
  rfl
theorem blk_far {w : World} {b b' o : Nat} {v : Value} (h : b ≠ b') : (w.setCell ⟨b', o, none⟩ v).heap[b]? = w.heap[b]? := Below.heap_setCell w ⟨b', o, none⟩ v b h
/-- the results, behind the last statement -/
def told (b : Nat) (k z q x : Value) (w : World) : World :=
  (((((((w.setCell ⟨b, 0, none⟩ k).setCell ⟨b, 1, none⟩ z).setCell ⟨b, 2, none⟩ x).setCell ⟨b, 0, none⟩ k).setCell ⟨b, 1, none⟩ z).setCell ⟨b, 2, none⟩ x).setCell ⟨b + 1, 0, none⟩ q).setCell ⟨b + 1 + 1, 0, none⟩ (.int .i64 0)
theorem told_cells {b : Nat} {w : World} (h : NBlk b w) (k z q x : Value) : (told b k z q x w).cell? ⟨b, 0, none⟩ = #[k, z, x][0]? ∧ (told b k z q x w).cell? ⟨b, 1, none⟩ = #[k, z, x][1]? ∧ (told b k z q x w).cell? ⟨b, 2, none⟩ = #[k, z, x][2]? ∧
    (told b k z q x w).cell? ⟨b + 1, 0, none⟩ = #[q][0]? ∧ (told b k z q x w).cell? ⟨b + 1 + 1, 0, none⟩ = #[Value.int .i64 0][0]? := by
  obtain ⟨h0, h1, h2⟩ := h
  have e0 : (told b k z q x w).heap[b]? = some (.cells #[k, z, x] 27 (0, 0)) := by
    unfold told
    rw [blk_far (by omega), blk_far (by omega)]
    exact blk_set3 (blk_set3 h0 _ _ _) _ _ _
  have e1 : (told b k z q x w).heap[b + 1]? = some (.cells #[q] 3 (0, 0)) := by
    unfold told
    rw [blk_far (by omega)]
    refine blk_set1 (x0 := .int .i64 0) ?_ _
    rw [blk_far (by omega), blk_far (by omega), blk_far (by omega), blk_far (by omega), blk_far (by omega), blk_far (by omega)]
    exact h1
  have e2 : (told b k z q x w).heap[b + 1 + 1]? = some (.cells #[.int .i64 0] 28 (0, 0)) := by
    unfold told
    refine blk_set1 (x0 := .int .i64 0) ?_ _
    rw [blk_far (by omega), blk_far (by omega), blk_far (by omega), blk_far (by omega), blk_far (by omega), blk_far (by omega), blk_far (by omega)]
    exact h2
  exact ⟨Lib.cell_of_heap e0 0, Lib.cell_of_heap e0 1, Lib.cell_of_heap e0 2, Lib.cell_of_heap e1 0, Lib.cell_of_heap e2 0⟩
theorem told_below {b : Nat} {w : World} (k z q x : Value) {w0 : World} (h : Below b w0 w) : Below b w0 (told b k z q x w) :=
  (((((((h.setCell (p := ⟨b, 0, none⟩) (Nat.le_refl _) _).setCell (p := ⟨b, 1, none⟩) (Nat.le_refl _) _).setCell (p := ⟨b, 2, none⟩) (Nat.le_refl _) _).setCell (p := ⟨b, 0, none⟩) (Nat.le_refl _) _).setCell (p := ⟨b, 1, none⟩) (Nat.le_refl _) _).setCell (p := ⟨b, 2, none⟩) (Nat.le_refl _) _).setCell (p := ⟨b + 1, 0, none⟩) (Nat.le_succ _) _).setCell (p := ⟨b + 1 + 1, 0, none⟩) (Nat.le_succ_of_le (Nat.le_succ _)) _

/-- what Next answers -/
def nextL (r : TkR) (n : Nat) : Int × Int × List UInt8 × Int × Int :=
  match r with
  | .inl er => (0, 0, [], 0, er)
  | .inr (k, z, x, s) => (k, z, x, ((n - s.length : Nat) : Int), 0)

set_option maxHeartbeats 2000000 in
set_option maxRecDepth 100000 in
theorem nextT_any (A : Option Addr) (n cap p : Nat) (B : List UInt8) (w : World) (hrow : (Kd.int .u8).C w A B.length (bI B)) (hn : B.length = n) (hcap : B.length ≤ cap) (hp : p ≤ n) (hs : n ≤ 140737488351232) (r : TkR) (hr : tokenL (B.drop p) = r) :
    Calls Tryd.prog 24 #[.slice A n cap, .int .i64 (p : Int)] w (NextTQ (nextL r n).1 (nextL r n).2.1 (nextL r n).2.2.1 (nextL r n).2.2.2.1 (nextL r n).2.2.2.2 w) := by
  have hmf : ∀ (fn : Fn) (first cap : Array Value) (w : World), (Instr.makeFunc fn first cap).run Tryd.prog w = .ok (.func fn first cap) w := fun _ _ _ _ => rfl
  have HA := Lib.hid (stand_at (p := p) hrow hn hcap (by omega) (by omega))
  have HN := Lib.hid hn
  have HR := Lib.hid hr
  have p0 : ¬ ((p : Int) < 0) := by omega
  have p1 : ¬ ((n : Int) < (p : Int)) := by omega
  clear hrow hn hcap hr
  go_enter_defers Tryd.func24, Tryd.ntmps24
  go_wp2_with fail
  have HT := token_any HA.out
  rw [HR.out] at HT
  refine HT.mono ?_
  clear HT
  rintro e w1 hq
  rcases tkQ_cases hq with ⟨er, hr, rfl, hk⟩ | ⟨k, z, x, s, hr, rfl, ha, hk⟩
  · have hNB := (stand_blk w A n cap p).kept hk (by omega) (by rw [stand_size]; omega)
    have HB := Lib.hid ((stand_below w A n cap p).trans (hk.below (by omega) (by rw [stand_size]; omega)))
    subst hr
    clear hk hq
    go_wp2_with fail
    refine leaves_cons (f := 48) (args := #[.pointer (some ⟨w.heap.size, 0, none⟩), .pointer (some ⟨w.heap.size + 1, 0, none⟩), .pointer (some ⟨w.heap.size + 1 + 1, 0, none⟩)]) (by simp) (by simp [go_sem]) ?_
    refine (catch_gave w.heap.size er [] w1 hNB).mono ?_
    rintro e u' w'' ⟨rfl, rfl, rfl⟩
    obtain ⟨⟨c0, c1, c2, c3, c4⟩, f0, f1, f2, f3, f4⟩ := hNB.facts
    simp [Leaves, settle, results, Tryd.results24, go_sem, caught, c0, c1, c2, c3, c4, NextTQ, nextL, S]
    exact ((((HB.out.setCell (p := ⟨w.heap.size, 0, none⟩) (Nat.le_refl _) _).setCell (p := ⟨w.heap.size, 1, none⟩) (Nat.le_refl _) _).setCell (p := ⟨w.heap.size, 2, none⟩) (Nat.le_refl _) _).setCell (p := ⟨w.heap.size + 1, 0, none⟩) (Nat.le_succ _) _).setCell (p := ⟨w.heap.size + 1 + 1, 0, none⟩) (Nat.le_succ_of_le (Nat.le_succ _)) _
  · have hNB := (stand_blk w A n cap p).kept hk (by omega) (by rw [stand_size]; omega)
    have HB := Lib.hid ((stand_below w A n cap p).trans (hk.below (by omega) (by rw [stand_size]; omega)))
    have HA2 := Lib.hid ha
    have HNB := Lib.hid hNB
    obtain ⟨⟨c0, c1, c2, c3, c4⟩, f0, f1, f2, f3, f4⟩ := hNB.facts
    obtain ⟨⟨k0, k1⟩, l0, l1⟩ := ha.st.blk.facts
    subst hr
    clear hk hq ha hNB
    go_wp2_with fail
    go_region
    go_wp2_with fail
    refine leaves_cons (f := 48) (args := #[.pointer (some ⟨w.heap.size, 0, none⟩), .pointer (some ⟨w.heap.size + 1, 0, none⟩), .pointer (some ⟨w.heap.size + 1 + 1, 0, none⟩)]) (by simp) (by simp [go_sem]) ?_
    refine (catch_none _ _ _ _).mono ?_
    rintro e u' w'' ⟨rfl, rfl, rfl⟩
    have ht := told_cells HNB.out (.int .i64 k) (.int .i64 z) (.int .i64 ((B.length - s.length : Nat) : Int)) (.string (S x))
    have hb := told_below (.int .i64 k) (.int .i64 z) (.int .i64 ((B.length - s.length : Nat) : Int)) (.string (S x)) HB.out
    unfold told at ht hb
    have HB2 := Lib.hid hb
    clear hb c0 c1 c2 c3 c4 f0 f1 f2 f3 f4 k0 k1 l0 l1
    rw [← HN.out]
    generalize ((((((((w1.setCell ⟨w.heap.size, 0, none⟩ (Value.int .i64 k)).setCell ⟨w.heap.size, 1, none⟩ (Value.int .i64 z)).setCell ⟨w.heap.size, 2, none⟩ (Value.string (S x))).setCell ⟨w.heap.size, 0, none⟩ (Value.int .i64 k)).setCell ⟨w.heap.size, 1, none⟩ (Value.int .i64 z)).setCell ⟨w.heap.size, 2, none⟩ (Value.string (S x))).setCell ⟨w.heap.size + 1, 0, none⟩ (Value.int .i64 ((B.length - s.length : Nat) : Int))).setCell ⟨w.heap.size + 1 + 1, 0, none⟩ (Value.int .i64 0)) = W at *
    obtain ⟨c0, c1, c2, c3, c4⟩ := ht
    simp [Leaves, settle, results, Tryd.results24, go_sem, c0, c1, c2, c3, c4, NextTQ, nextL]
    exact HB2.out.drew

end Go.Proofs.YtiocgpfnbmlfaaaDoor.SC

/-! ## SJ -/
namespace Go.Proofs.YtiocgpfnbmlfaaaDoor.SC
open Go Go.RowKit Go.Proofs.YtiocgpfnbmlfaaaDoor Go.Proofs.YtiocgpfnbmlfaaaDoor.PS1 Go.Proofs.YtiocgpfnbmlfaaaDoor.QD Go.Proofs.YtiocgpfnbmlfaaaDoorW.PrintWords Go.Proofs.YtiocgpfnbmlfaaaDoorW.PrintLast

/-- numbers as bytes -/
def unI (l : List Int) : List UInt8 := l.map fun n => UInt8.ofNat n.toNat
def isB (l : List Int) : Prop := ∀ x ∈ l, 0 ≤ x ∧ x < 256
instance (l : List Int) : Decidable (isB l) := by unfold isB; infer_instance
theorem bI_un (l : List Int) (h : isB l) : bI (unI l) = l := by
  unfold bI unI
  rw [List.map_map]
  conv => rhs; rw [← List.map_id l]
  refine List.map_congr_left fun x hx => ?_
  obtain ⟨h1, h2⟩ := h x hx
  simp only [Function.comp, id_eq, UInt8.toNat_ofNat']
  omega
theorem un_bI (l : List UInt8) : unI (bI l) = l := by
  unfold bI unI
  rw [List.map_map]
  conv => rhs; rw [← List.map_id l]
  refine List.map_congr_left fun x hx => ?_
  simp
theorem bI_isB (l : List UInt8) : isB (bI l) := by
  intro x hx
  unfold bI at hx
  obtain ⟨c, _, rfl⟩ := List.mem_map.1 hx
  have := c.toNat_lt
  omega
theorem unI_len (l : List Int) : (unI l).length = l.length := by simp [unI]
/-- what Next answers at any place -/
def nextP (B : List UInt8) (p : Int) : Int × Int × List UInt8 × Int × Int :=
  if p < 0 ∨ (B.length : Int) < p then (0, 0, [], 0, 21) else nextL (tokenL (B.drop p.toNat)) B.length
theorem nextP_any (A : Option Addr) (cap : Nat) (B : List UInt8) (p : Int) (w : World) (hrow : (Kd.int .u8).C w A B.length (bI B)) (hcap : B.length ≤ cap) (hs : B.length ≤ 140737488351232) :
    Calls Tryd.prog 24 #[.slice A B.length cap, .int .i64 p] w (NextTQ (nextP B p).1 (nextP B p).2.1 (nextP B p).2.2.1 (nextP B p).2.2.2.1 (nextP B p).2.2.2.2 w) := by
  unfold nextP
  by_cases h : p < 0 ∨ (B.length : Int) < p
  · rw [if_pos h]
    exact nextT_bad A B.length cap p w (by omega)
  · rw [if_neg h]
    obtain ⟨q, rfl⟩ : ∃ q : Nat, p = (q : Int) := ⟨p.toNat, by omega⟩
    rw [Int.toNat_natCast]
    exact nextT_any A B.length cap q B w hrow rfl hcap (by omega) hs _ rfl

end Go.Proofs.YtiocgpfnbmlfaaaDoor.SC
namespace Go.Proofs.YtiocgpfnbmlfaaaDoor
open Go Go.RowKit Go.Proofs.YtiocgpfnbmlfaaaDoorW.PrintWords

def scan_Next.f (l0 : List Int) (a1 : Int) : Option (Int × Int × ByteArray × Int × Int) :=
  if SC.isB l0 ∧ l0.length ≤ 140737488351232 then some ((SC.nextP (SC.unI l0) a1).1, (SC.nextP (SC.unI l0) a1).2.1, QD.S (SC.nextP (SC.unI l0) a1).2.2.1, (SC.nextP (SC.unI l0) a1).2.2.2.1, (SC.nextP (SC.unI l0) a1).2.2.2.2) else none
theorem scan_Next.calls (A0 : Option Addr) (c0 : Nat) (l0 : List Int) (a1 : Int) (r1 r2 : Int) (r3 : ByteArray) (r4 r5 : Int) (w : World) (hr0 : Kd.C (Kd.int .u8) w A0 l0.length l0) (hc0 : l0.length ≤ c0) (h : scan_Next.f l0 a1 = some (r1, r2, r3, r4, r5)) :
    Calls Tryd.prog 24 #[.slice A0 l0.length c0, .int .i64 a1] w fun e w' => e = .returned (.tuple #[.agg #[.int .i64 r1, .int .i64 r2, .string r3], .int .i64 r4, .int .i64 r5]) ∧ Below w.heap.size w w' := by
  unfold scan_Next.f at h
  split at h
  · rename_i hb
    simp only [Option.some.injEq, Prod.mk.injEq] at h
    obtain ⟨rfl, rfl, rfl, rfl, rfl⟩ := h
    have hun := SC.bI_un l0 hb.1
    have := SC.nextP_any A0 c0 (SC.unI l0) a1 w (by rw [hun, SC.unI_len]; exact hr0) (by rw [SC.unI_len]; exact hc0) (by rw [SC.unI_len]; exact hb.2)
    rw [SC.unI_len] at this
    exact this
  · cases h

end Go.Proofs.YtiocgpfnbmlfaaaDoor

/-! ## SK -/
namespace Go.Proofs.YtiocgpfnbmlfaaaDoor.SC
open Go Go.RowKit Go.Proofs.YtiocgpfnbmlfaaaDoor Go.Proofs.YtiocgpfnbmlfaaaDoor.PS1 Go.Proofs.YtiocgpfnbmlfaaaDoor.QD Go.Proofs.YtiocgpfnbmlfaaaDoorW.PrintWords Go.Proofs.YtiocgpfnbmlfaaaDoorW.PrintLast

/-- bytes just made, as a row that is read -/
theorem row_fresh (W : World) (l : List UInt8) (hl : l.length ≤ 140737488351232) (fr : Nat × Nat) : (Kd.int .u8).C (W.alloc (.cells ((bI l).map (Value.int .u8)).toArray 5 fr)) (some ⟨W.heap.size, 0, none⟩) l.length (bI l) := by
  refine Kd.C_of_reads (enc := Value.int .u8) (d := (0 : Int)) (h1 := fun _ => rfl) ⟨bI_len l, by omega, fun _ => ⟨_, rfl, fun j hj => ?_⟩⟩
  have hb := heap_alloc_new W (.cells ((bI l).map (Value.int .u8)).toArray 5 fr)
  have ha : (⟨W.heap.size, 0, none⟩ : Addr).add j = ⟨W.heap.size, 0 + j, none⟩ := by
    simp [Addr.add]
    intro h; exact h.symm
  rw [ha, Lib.cell_of_heap hb, Nat.zero_add]
  have hj' : j < (bI l).length := by rw [bI_len]; exact hj
  simp [List.getD, hj']

theorem answer_text : nextP [40, 97, 41, 32, 98] 0 = (6, 0, [97], 3, 0) := by
  have h : tokenL [40, 97, 41, 32, 98] = .inr (6, 0, [97], [32, 98]) := by
    have hs : skipL false [40, 97, 41, 32, 98] = [40, 97, 41, 32, 98] := by decide
    unfold tokenL
    rw [hs]
    show strL (rnd 1 [97, 41, 32, 98]) = _
    rw [rnd_put 1 97 _ (by decide) (by decide) (by decide)]
    show strL ((rnd 1 [41, 32, 98]).map _) = _
    rw [rnd_close]
    rfl
  unfold nextP
  rw [if_neg (by decide)]
  show nextL (tokenL [40, 97, 41, 32, 98]) 5 = _
  rw [h]
  rfl

set_option maxHeartbeats 2000000 in
set_option maxRecDepth 100000 in
theorem answers_any (w : World) : Calls Tryd.prog 23 #[] w fun e w' => e = .returned (.bool true) ∧ Below w.heap.size w w' := by
  have HN := nextP_any (some ⟨w.heap.size, 0, none⟩) 5 [40, 97, 41, 32, 98] 0 (w.alloc (.cells ((bI [40, 97, 41, 32, 98]).map (Value.int .u8)).toArray 5 (5, 6))) (row_fresh w _ (by decide) _) (by decide) (by decide)
  have kc := fun (w : World) (C : Array Value) (n c : Nat) => Lib.run_convert_bytes_const (P := Tryd.prog) w 32 5 C n c Tryd.underlying32 Tryd.underlying5
  rw [answer_text] at HN
  replace HN := Lib.hid HN
  go_enter Tryd.func23, Tryd.ntmps23
  go_wp2_with fail
  refine HN.out.mono ?_
  rintro e w1 ⟨rfl, hb⟩
  have HB := Lib.hid (show Below w.heap.size w w1 from ((Below.refl _ _).alloc (Nat.le_refl _) _).trans (hb.mono (by simp)))
  clear hb
  go_wp2_with fail
  go_ret
  have e97 : (S [97]).toList = [97] := S_list _
  refine ⟨?_, HB.out.trans ((Below.refl _ _).alloc HB.out.size _)⟩
  show Ending.returned (.bool ((S [97]).toList == [97])) = _
  rw [e97]
  rfl

end Go.Proofs.YtiocgpfnbmlfaaaDoor.SC
namespace Go.Proofs.YtiocgpfnbmlfaaaDoor
open Go Go.RowKit Go.Proofs.YtiocgpfnbmlfaaaDoorW.PrintWords

def mezzotintlaw04_answers.f : Option Bool := some true
theorem mezzotintlaw04_answers.calls (r : Bool) (w : World) (h : mezzotintlaw04_answers.f = some r) : Calls Tryd.prog 23 #[] w fun e w' => e = .returned (.bool r) ∧ Below w.heap.size w w' := by
  obtain rfl : true = r := Option.some.inj h
  exact SC.answers_any w

end Go.Proofs.YtiocgpfnbmlfaaaDoor

/-! ## AP -/
namespace Go.Proofs.YtiocgpfnbmlfaaaDoor.SC
open Go Go.RowKit Go.ChangeShapes Go.Proofs.YtiocgpfnbmlfaaaDoor Go.Proofs.YtiocgpfnbmlfaaaDoor.PS1 Go.Proofs.YtiocgpfnbmlfaaaDoor.QD Go.Proofs.YtiocgpfnbmlfaaaDoorW.PrintWords Go.Proofs.YtiocgpfnbmlfaaaDoorW.PrintLast

/-- cells are stored in a row whose frozen range lies beyond it -/
theorem run_storeCells_beyond (P : Program) (g o : Nat) (t : TypeId) (fz : Nat × Nat) : ∀ (vs : List Value) (i : Nat) (cur : Array Value) (w : World), w.heap[g]? = some (.cells cur t fz) → cur.size ≤ fz.1 → o + i + vs.length ≤ cur.size → (∀ v ∈ vs, v.oneCell' = true) →
    (storeCells ⟨g, o, none⟩ vs i).run P w = .ok () (w.setRow g (cur.toList.take (o + i) ++ vs ++ cur.toList.drop (o + i + vs.length)).toArray)
  | [], i, cur, w, hg, _, _, _ => by
    simp only [storeCells, List.append_nil, List.length_nil, Nat.add_zero, List.take_append_drop, Array.toArray_toList]
    rw [setRow_self w g cur t fz hg]
    rfl
  | v :: rest, i, cur, w, hg, hfz, hl, h1 => by
    have hi : o + i < cur.size := by simp at hl; omega
    have hadd : (⟨g, o, none⟩ : Addr).add i = ⟨g, o + i, none⟩ := by unfold Addr.add; split <;> simp_all
    have hcell : w.cell? ⟨g, o + i, none⟩ = some cur[o + i] := by simp [World.cell?, hg, hi]
    have hfro : w.frozen? ⟨g, o + i, none⟩ = false := by
      obtain ⟨lo, hi'⟩ := fz
      simp only [World.frozen?, hg, Bool.and_eq_false_iff, decide_eq_false_iff_not]
      left
      simp only at hfz
      omega
    have hst : (store ((⟨g, o, none⟩ : Addr).add i) v).run P w = .ok () (w.setRow g (cur.setIfInBounds (o + i) v)) := by
      rw [hadd, run_store P w _ v _ (h1 v (by simp)), hcell]
      simp [hfro, setCell_eq_setRow w g (o + i) cur t fz v hg]
    have ih := run_storeCells_beyond P g o t fz rest (i + 1) (cur.setIfInBounds (o + i) v) (w.setRow g (cur.setIfInBounds (o + i) v)) (setRow_heap w g cur _ t _ hg) (by simpa using hfz) (by simp at hl ⊢; omega) (fun x hx => h1 x (by simp [hx]))
    simp only [storeCells, Sem.run_bind, hst, Result.andThen_ok, ih, setRow_setRow]
    congr 3
    have e := list_seg_step cur.toList (o + i) v rest (by simp at hl ⊢; omega)
    simpa [Array.toList_setIfInBounds, Nat.add_assoc] using e

/-- a block that begins with these bytes is their row -/
theorem row_prefix {W : World} {g : Nat} {cur : Array Value} {t : TypeId} {fz : Nat × Nat} {x : List UInt8} {rest : List Value} (hx : x.length ≤ 100000) (h : W.heap[g]? = some (.cells cur t fz)) (hc : cur.toList = (bI x).map (Value.int .u8) ++ rest) :
    (Kd.int .u8).C W (some ⟨g, 0, none⟩) x.length (bI x) := by
  refine Kd.C_of_reads (enc := Value.int .u8) (d := (0 : Int)) (h1 := fun _ => rfl) ⟨bI_len x, by omega, fun _ => ⟨_, rfl, fun j hj => ?_⟩⟩
  have ha : (⟨g, 0, none⟩ : Addr).add j = ⟨g, j, none⟩ := by
    simp [Addr.add]
    intro h; exact h.symm
  have hj' : j < (bI x).length := by rw [bI_len]; exact hj
  rw [ha, Lib.cell_of_heap h j, ← Array.getElem?_toList, hc, List.getElem?_append_left (by simpa using hj')]
  simp [List.getD, hj']

theorem conv_append (s ys : List UInt8) (A : Option Addr) (c : Nat) (hl : s.length + ys.length ≤ 100000) (w : World) (hy : (Kd.int .u8).C w A ys.length (bI ys)) :
    ∃ (W1 W2 : World) (cap1 cap g : Nat), (convert 9 32 (.string (S s))).run Tryd.prog w = .ok (.slice (some ⟨w.heap.size, 0, none⟩) (S s).size cap1) W1 ∧ Below w.heap.size w W1 ∧
      (Builtin.append_ #[32, 32] 32 #[.slice (some ⟨w.heap.size, 0, none⟩) (S s).size cap1, .slice A ys.length c]).run Tryd.prog W1 = .ok (.slice (some ⟨g, 0, none⟩) (s ++ ys).length cap) W2 ∧
      Below w.heap.size w W2 ∧ (s ++ ys).length ≤ cap ∧ (Kd.int .u8).C W2 (some ⟨g, 0, none⟩) (s ++ ys).length (bI (s ++ ys)) := by
  have hcv := Lib.run_convert_string_bytes (P := Tryd.prog) w 9 32 5 (S s) Tryd.underlying9 Tryd.underlying32 Tryd.underlying5
  have hat := Lib.bytesWorld_at_new w 5 (S s)
  have hge := grownCap_ge w (S s).size 0 5
  have hb1 : Below w.heap.size w (Lib.bytesWorld w 5 (S s)) := ⟨rfl, rfl, rfl, by rw [Lib.bytesWorld_size]; omega, fun k hk => Lib.bytesWorld_at_old w _ (S s) k hk⟩
  have hsz := Lib.bytesWorld_size w 5 (S s)
  have hcl : (Lib.bytesCells w 5 (S s)).toList = (bI s).map (Value.int .u8) ++ List.replicate (grownCap w (S s).size 0 5 - (S s).size) (.int .u8 0) := by
    simp [Lib.bytesCells, S, bI]
  have hcz : (Lib.bytesCells w 5 (S s)).size = grownCap w (S s).size 0 5 := by
    rw [← Array.length_toList, hcl]
    simp only [List.length_append, List.length_map, bI_len, List.length_replicate]
    rw [S_size] at hge ⊢
    omega
  have hy1 := Kd.C_below hy hb1
  generalize Lib.bytesWorld w 5 (S s) = W1 at *
  generalize Lib.bytesCells w 5 (S s) = cs at *
  generalize grownCap w (S s).size 0 5 = cap1 at *
  rw [S_size] at hcv hge hcl ⊢
  have ht := Tryd.underlying32
  obtain ⟨i, hi, hz0, hz1, hz2⟩ := info_parts infoU8
  obtain ⟨hyl, hyn, hya⟩ := Kd.reads_of_C (d := (0 : Int)) hy1
  have hsl : (s ++ ys).length = s.length + ys.length := List.length_append
  rcases Nat.eq_zero_or_pos ys.length with h0 | h0
  · obtain rfl : ys = [] := List.length_eq_zero_iff.1 h0
    refine ⟨W1, W1, cap1, cap1, w.heap.size, hcv, hb1, ?_, hb1, by simpa using hge, ?_⟩
    · have hf : (Builtin.firstCells 1 0 (.slice A 0 c)).run Tryd.prog W1 = .ok #[] W1 := by
        cases A with
        | none => exact run_firstCells_none W1 1 0 0 c
        | some a => exact run_firstCells_some (P := Tryd.prog) W1 1 0 a 0 c [] rfl (fun j v h => by simp at h)
      simp [Builtin.append_, run_underlying ht, sizeOf, typeInfo, hi, hz1, Builtin.lenOf, hge, hf, storeCells]
    · rw [List.append_nil]
      exact row_prefix (by omega) hat hcl
  · obtain ⟨ad, rfl, hcell⟩ := hya h0
    have hnews : ∀ j u, ((bI ys).map (Value.int .u8))[j]? = some u → W1.cell? (ad.add j) = some u := by
      intro j u h
      rw [List.getElem?_map] at h
      have hj : j < (bI ys).length := by
        rcases Nat.lt_or_ge j (bI ys).length with h' | h'
        · exact h'
        · rw [List.getElem?_eq_none h'] at h; cases h
      rw [hcell j (by rw [bI_len] at hj; exact hj)]
      rw [List.getElem?_eq_getElem hj] at h
      rw [← h]
      simp [List.getD, List.getElem?_eq_getElem hj]
    have h1c : ∀ u ∈ (bI ys).map (Value.int .u8), u.oneCell' = true := by
      intro u hu
      obtain ⟨z, -, rfl⟩ := List.mem_map.1 hu
      rfl
    have hnl : ((bI ys).map (Value.int .u8)).length = ys.length * 1 := by rw [List.length_map, bI_len, Nat.mul_one]
    by_cases hroom : s.length + ys.length ≤ cap1
    · have hf := run_firstCells_some (P := Tryd.prog) W1 1 ys.length ad ys.length c _ hnl hnews
      have hst := run_storeCells_beyond Tryd.prog w.heap.size s.length 5 _ ((bI ys).map (Value.int .u8)) 0 cs W1 hat (Nat.le_refl _) (by rw [hnl, hcz]; omega) h1c
      simp only [Nat.add_zero] at hst
      refine ⟨W1, W1.setRow w.heap.size (cs.toList.take s.length ++ (bI ys).map (Value.int .u8) ++ cs.toList.drop (s.length + ((bI ys).map (Value.int .u8)).length)).toArray, cap1, cap1, w.heap.size, hcv, hb1, ?_, ?_, by omega, row_prefix (rest := cs.toList.drop (s.length + ((bI ys).map (Value.int .u8)).length)) (by omega) (setRow_heap W1 w.heap.size cs _ 5 _ hat) ?_⟩
      · simp [Builtin.append_, run_underlying ht, sizeOf, typeInfo, hi, hz1, Builtin.lenOf, hroom, hf, Addr.add_lit, hst]
      · refine ⟨hb1.1, hb1.2, hb1.3, ?_, fun k hk => ?_⟩
        · have := hb1.size; simpa using this
        · rw [setRow_other W1 w.heap.size k _ (by omega)]
          exact hb1.block k hk
      · show cs.toList.take s.length ++ _ ++ _ = _
        have e : cs.toList.take s.length = (bI s).map (Value.int .u8) := by
          rw [hcl, List.take_append_of_le_length (by rw [List.length_map, bI_len]; exact Nat.le_refl _), List.take_of_length_le (by rw [List.length_map, bI_len]; exact Nat.le_refl _)]
        rw [e]
        simp [bI]
    · have hr := run_append_grow (P := Tryd.prog) W1 32 32 5 i (.int .u8 0) ht hi hz0 ⟨w.heap.size, 0, none⟩ s.length cap1 ((bI s).map (Value.int .u8)) (by rw [List.length_map, bI_len, hz1, Nat.mul_one]) (fun j v h => ?_)
        ad ys.length c ((bI ys).map (Value.int .u8)) (by rw [hz1]; exact hnl) hnews (by omega) (by omega) (growslice_fits (by omega) (by rw [hz2]; omega))
      · rw [hsl]
        refine ⟨W1, _, cap1, _, W1.heap.size, hcv, hb1, hr, (hb1.trans ((Below.refl W1.heap.size W1).drew.mono hb1.size)).alloc (by simpa using hb1.size) _, grownCap_ge _ _ _ _, ?_⟩
        rw [← hsl]
        refine row_prefix (by omega) (heap_alloc_new W1.drew _) (rest := (Builtin.zeroCells (Value.int .u8 0).cells (grownCap W1 (s.length + ys.length) cap1 5 - (s.length + ys.length))).toList) ?_
        simp [bI]
      · have ha : (⟨w.heap.size, 0, none⟩ : Addr).add j = ⟨w.heap.size, j, none⟩ := by
          simp [Addr.add]
          intro h; exact h.symm
        have hj : j < ((bI s).map (Value.int .u8)).length := by
          rcases Nat.lt_or_ge j ((bI s).map (Value.int .u8)).length with h' | h'
          · exact h'
          · rw [List.getElem?_eq_none h'] at h; cases h
        rw [ha, Lib.cell_of_heap hat j, ← Array.getElem?_toList, hcl, List.getElem?_append_left hj]
        exact h

/-- the operation, for the walk -/
theorem wpList_append_run {P : Program} {w : World} {ops : Array Oper} {rest : List Oper} {o : Oper} {a : Act} {Q : Exit → Act → World → Prop} (hgd : o.guard = none) (s x : Operand) (t : TypeId)
    (ho : o.op = .call { callee := .builtin .append, args := #[s, x], argTypes := #[t, t] }) {v v' u : Value} {w' : World}
    (hr : (Builtin.append_ #[t, t] o.type #[v, u]).run P w = .ok v' w') (hs : a.eval s = v) (hx : a.eval x = u)
    (h : wpList P ops Q rest (a.put o.dst v') w') : wpList P ops Q (o :: rest) a w := by
  refine wpList_plain hgd fun K hK => ?_
  unfold Oper.wp execOp
  simp only [ho, resolve, invoke, builtin, Sem.run_bind, Sem.run_pure, Result.andThen_ok, List.map_toArray, List.map_cons, List.map_nil, hs, hx, hr]
  exact hK _ _ h

end Go.Proofs.YtiocgpfnbmlfaaaDoor.SC

/-! ## SO -/
namespace Go.Proofs.YtiocgpfnbmlfaaaDoor.SC
open Go Go.RowKit Go.ChangeShapes Go.Proofs.YtiocgpfnbmlfaaaDoor Go.Proofs.YtiocgpfnbmlfaaaDoor.PS1 Go.Proofs.YtiocgpfnbmlfaaaDoor.QD Go.Proofs.YtiocgpfnbmlfaaaDoorW.PrintWords Go.Proofs.YtiocgpfnbmlfaaaDoorW.PrintLast

/-- (..(()x)x..)x -/
def nst : Nat → List UInt8
  | 0 => []
  | n + 1 => 40 :: (nst n ++ [41, 120])
theorem nst_len (n : Nat) : (nst n).length = 3 * n := by
  induction n with
  | zero => rfl
  | succ n ih => simp [nst, ih]; omega
theorem rnd_nst (n : Nat) : ∀ (d : Nat) (r : List UInt8), 1 ≤ d → rnd d (nst n ++ r) = (rnd d r).map fun p => (nst n ++ p.1, p.2) := by
  induction n with
  | zero => intro d r _; simp only [nst, List.nil_append]; cases rnd d r <;> rfl
  | succ n ih =>
    intro d r hd
    have e : nst (n + 1) ++ r = 40 :: (nst n ++ (41 :: 120 :: r)) := by simp [nst]
    rw [e, rnd_put d 40 _ (not41 _ _ (by decide)) (by decide) (by decide), if_pos rfl, ih (d + 1) _ (by omega), rnd_put (d + 1) 41 _ (fun h => by omega) (by decide) (by decide),
      if_neg (by decide), if_pos rfl, Nat.add_sub_cancel, rnd_put d 120 _ (not41 _ _ (by decide)) (by decide) (by decide), if_neg (by decide), if_neg (by decide)]
    cases rnd d r <;> simp [nst]
theorem nested_closed (n : Nat) (hn : n ≤ 300) : nextP (40 :: (nst n ++ [41])) 0 = (6, 0, nst n, ((S (40 :: (nst n ++ [41]))).size : Int), 0) := by
  rw [S_size]
  have hl := nst_len n
  have h : tokenL (40 :: (nst n ++ [41])) = .inr (6, 0, nst n, []) := by
    have hs : skipL false (40 :: (nst n ++ [41])) = 40 :: (nst n ++ [41]) := by rw [skipL, if_neg (by decide), if_neg (by decide)]
    unfold tokenL
    rw [hs]
    show strL (rnd 1 (nst n ++ [41])) = _
    rw [rnd_nst n 1 _ (by omega), rnd_close]
    simp only [Option.map_some, List.append_nil, strL]
    rw [if_neg (by omega)]
  unfold nextP
  rw [if_neg (by omega)]
  show nextL (tokenL (40 :: (nst n ++ [41]))) _ = _
  rw [h]
  rfl
theorem nested_open (n : Nat) : nextP (40 :: 40 :: (nst n ++ [41])) 0 = (0, 0, [], 0, 14) := by
  have h : tokenL (40 :: 40 :: (nst n ++ [41])) = .inl 14 := by
    have hs : skipL false (40 :: 40 :: (nst n ++ [41])) = 40 :: 40 :: (nst n ++ [41]) := by rw [skipL, if_neg (by decide), if_neg (by decide)]
    unfold tokenL
    rw [hs]
    show strL (rnd 1 (40 :: (nst n ++ [41]))) = _
    rw [rnd_put 1 40 _ (not41 _ _ (by decide)) (by decide) (by decide), if_pos rfl, rnd_nst n 2 _ (by omega), rnd_put 2 41 _ (by decide) (by decide) (by decide), if_neg (by decide), if_pos rfl, rnd_nil]
    rfl
  unfold nextP
  rw [if_neg (by simp; omega)]
  show nextL (tokenL (40 :: 40 :: (nst n ++ [41]))) _ = _
  rw [h]
  rfl

/-- []byte of a text, and Next over it -/
theorem conv_next (x : List UInt8) (hx : x.length ≤ 100000) (w : World) (k n : Int) (t : List UInt8) (q er : Int) (hp : nextP x 0 = (k, n, t, q, er)) :
    ∃ (W : World) (cap : Nat), (convert 9 32 (.string (S x))).run Tryd.prog w = .ok (.slice (some ⟨w.heap.size, 0, none⟩) (S x).size cap) W ∧ Below w.heap.size w W ∧
      Calls Tryd.prog 24 #[.slice (some ⟨w.heap.size, 0, none⟩) (S x).size cap, .int .i64 0] W (NextTQ k n t q er W) := by
  obtain ⟨W, cap, hcv, hcap, hbW, hsz, hcell, -⟩ := conv_bytes w (S x)
  refine ⟨W, cap, hcv, hbW, ?_⟩
  rw [S_size] at hcap hcell ⊢
  rw [S_data] at hcell
  have hrow : (Kd.int .u8).C W (some ⟨w.heap.size, 0, none⟩) x.length (bI x) := by
    refine Kd.C_of_reads (enc := Value.int .u8) (d := (0 : Int)) (h1 := fun _ => rfl) ⟨bI_len x, by omega, fun _ => ⟨_, rfl, fun j hj => ?_⟩⟩
    have ha : (⟨w.heap.size, 0, none⟩ : Addr).add j = ⟨w.heap.size, j, none⟩ := by
      simp [Addr.add]
      intro h; exact h.symm
    rw [ha, hcell j hj]
    have hj' : j < (bI x).length := by rw [bI_len]; exact hj
    simp [bI, List.getD, hj]
  have := nextP_any (some ⟨w.heap.size, 0, none⟩) cap x 0 W hrow hcap (by omega)
  rw [hp] at this
  exact this

set_option maxHeartbeats 4000000 in
set_option maxRecDepth 100000 in
theorem nested_walk (n : Nat) (o : Bool) (hn : n ≤ 255) (w : World) : Calls Tryd.prog 11 #[.int .u8 (n : Int), .bool o] w fun e w' => e = .returned (.bool true) ∧ Below w.heap.size w w' := by
  have HA := Lib.hid answers_any
  have HN := Lib.hid hn
  have hn0 : (0 : Int) ≤ (n : Int) := by omega
  have hn1 : (n : Int) ≤ 255 := by omega
  go_enter Tryd.func11, Tryd.ntmps11
  go_upto_block 0 with fail
  go_cut [5] (fun s wx => s = .string (S (nst n)) ∧ Hid (w = wx))
  case first => as_aux_lemma =>
    go_wp2_with fail
    go_loop [5, 6] (fun s i => ∃ k : Nat, k ≤ n ∧ s = .string (S (nst k)) ∧ i = .int .i64 (k : Int)) (fun _ i => n - (intOf i).toNat)
    case atStart => exact ⟨0, Nat.zero_le _, rfl, rfl⟩
    case round =>
      obtain ⟨k, hk, rfl, rfl⟩ := hrel
      by_cases hlt : k < n
      · have hki : (k : Int) < (n : Int) := by omega
        have hs := S_size (nst k)
        rw [nst_len] at hs
        have e1 : (⟨#[40]⟩ : ByteArray) ++ S (nst k) = S (40 :: nst k) := by rw [show (⟨#[40]⟩ : ByteArray) = S [40] from rfl, S_append]; rfl
        have e2 : S (40 :: nst k) ++ (⟨#[41, 120]⟩ : ByteArray) = S (nst (k + 1)) := by rw [show (⟨#[41, 120]⟩ : ByteArray) = S [41, 120] from rfl, S_append]; rfl
        have b1 : (⟨#[40]⟩ : ByteArray).size + (S (nst k)).size ≤ 9223372036854775807 := by show 1 + _ ≤ _; omega
        have b1' : 1 + (S (nst k)).size ≤ 9223372036854775807 := b1
        have b2 : (S (40 :: nst k)).size + (⟨#[41, 120]⟩ : ByteArray).size ≤ 9223372036854775807 := by rw [S_size]; show (nst k).length + 1 + 2 ≤ _; rw [nst_len]; omega
        have b2' : (S (40 :: nst k)).size + 2 ≤ 9223372036854775807 := b2
        clear hs
        go_wp2_with fail
        go_round
        case rel => exact ⟨k + 1, by omega, rfl, by go_num⟩
        case measure => simp [intOf]; omega
      · obtain rfl : k = n := by omega
        have hki : ¬ ((k : Int) < (k : Int)) := by omega
        go_wp2_with fail
        go_meet
        exact ⟨rfl, rfl⟩
  obtain ⟨rfl, hw⟩ := hcut
  have hw := hw.out
  subst hw
  have hs := S_size (nst n)
  rw [nst_len] at hs
  have e1 : (⟨#[40]⟩ : ByteArray) ++ S (nst n) = S (40 :: nst n) := by rw [show (⟨#[40]⟩ : ByteArray) = S [40] from rfl, S_append]; rfl
  have e2 : S (40 :: nst n) ++ (⟨#[41]⟩ : ByteArray) = S (40 :: (nst n ++ [41])) := by rw [show (⟨#[41]⟩ : ByteArray) = S [41] from rfl, S_append]; rfl
  have b1 : (⟨#[40]⟩ : ByteArray).size + (S (nst n)).size ≤ 9223372036854775807 := by show 1 + _ ≤ _; omega
  have b1' : 1 + (S (nst n)).size ≤ 9223372036854775807 := b1
  have b2 : (S (40 :: nst n)).size + (⟨#[41]⟩ : ByteArray).size ≤ 9223372036854775807 := by rw [S_size]; show (nst n).length + 1 + 1 ≤ _; rw [nst_len]; omega
  have b2' : (S (40 :: nst n)).size + 1 ≤ 9223372036854775807 := b2
  cases o with
  | false =>
    obtain ⟨W, cap, hcv, hbW, hN⟩ := conv_next (40 :: (nst n ++ [41])) (by simp [nst_len]; omega) w _ _ _ _ _ (nested_closed n (by omega))
    have HBW := Lib.hid hbW
    have HNX := Lib.hid hN
    clear hs hbW hN
    go_wp2_with fail
    refine HNX.out.mono ?_
    rintro e w1 ⟨rfl, hb⟩
    have HB1 := Lib.hid (HBW.out.trans (hb.mono HBW.out.size))
    have hblk := heap_alloc_new w1 (.cells #[.int .i64 6, .int .i64 0, .string (S (nst n))] 27)
    have HBK := Lib.hid hblk
    clear hb hblk hcv
    go_wp2_with fail
    refine (HA.out _).mono ?_
    rintro e w2 ⟨rfl, hb⟩
    have hb2 := (hb.block w1.heap.size (by simp)).trans HBK.out
    have c2 : w2.cell? ⟨w1.heap.size, 2, none⟩ = some (.string (S (nst n))) := by rw [Lib.cell_of_heap hb2]; rfl
    have HB2 := Lib.hid ((HB1.out.alloc HB1.out.size (.cells #[.int .i64 6, .int .i64 0, .string (S (nst n))] 27)).trans (hb.mono (by have := HB1.out.size; simp; omega)))
    clear hb hb2 b1 b1' b2 b2' e1 e2
    go_wp2_with fail
    go_ret
    exact ⟨rfl, HB2.out⟩
  | true =>
    have f1 : (⟨#[40, 40]⟩ : ByteArray) ++ S (nst n) = S (40 :: 40 :: nst n) := by rw [show (⟨#[40, 40]⟩ : ByteArray) = S [40, 40] from rfl, S_append]; rfl
    have f2 : S (40 :: 40 :: nst n) ++ (⟨#[41]⟩ : ByteArray) = S (40 :: 40 :: (nst n ++ [41])) := by rw [show (⟨#[41]⟩ : ByteArray) = S [41] from rfl, S_append]; rfl
    have g1 : (⟨#[40, 40]⟩ : ByteArray).size + (S (nst n)).size ≤ 9223372036854775807 := by show 2 + _ ≤ _; omega
    have g1' : 2 + (S (nst n)).size ≤ 9223372036854775807 := g1
    have g2 : (S (40 :: 40 :: nst n)).size + (⟨#[41]⟩ : ByteArray).size ≤ 9223372036854775807 := by rw [S_size]; show (nst n).length + 1 + 1 + 1 ≤ _; rw [nst_len]; omega
    have g2' : (S (40 :: 40 :: nst n)).size + 1 ≤ 9223372036854775807 := g2
    obtain ⟨W, cap, hcv, hbW, hN⟩ := conv_next (40 :: 40 :: (nst n ++ [41])) (by simp [nst_len]; omega) w _ _ _ _ _ (nested_open n)
    have HBW := Lib.hid hbW
    have HNX := Lib.hid hN
    clear hs hbW hN
    go_wp2_with fail
    refine HNX.out.mono ?_
    rintro e w1 ⟨rfl, hb⟩
    have HB1 := Lib.hid (HBW.out.trans (hb.mono HBW.out.size))
    clear hb hcv
    go_wp2_with fail
    refine (HA.out _).mono ?_
    rintro e w2 ⟨rfl, hb⟩
    have HB2 := Lib.hid ((HB1.out.alloc HB1.out.size (.cells #[.int .i64 0, .int .i64 0, .string (S [])] 27)).trans (hb.mono (by have := HB1.out.size; simp; omega)))
    clear hb b1 b1' b2 b2' e1 e2 g1 g1' g2 g2' f1 f2
    go_wp2_with fail
    go_ret
    exact ⟨rfl, HB2.out⟩

theorem nested_all (a0 : Int) (a1 : Bool) (w : World) (w0 : (Lit.int .u8 a0).wf = true) : Calls Tryd.prog 11 #[.int .u8 a0, .bool a1] w fun e w' => e = .returned (.bool true) ∧ Below w.heap.size w w' := by
  have h := w0
  simp [Lit.wf, IntKind.min, IntKind.max, IntKind.signed, IntKind.bits] at h
  obtain ⟨n, rfl⟩ : ∃ n : Nat, a0 = (n : Int) := ⟨a0.toNat, by omega⟩
  exact nested_walk n a1 (by omega) w

end Go.Proofs.YtiocgpfnbmlfaaaDoor.SC

/-! ## SP -/
namespace Go.Proofs.YtiocgpfnbmlfaaaDoor.SC
open Go Go.RowKit Go.ChangeShapes Go.Proofs.YtiocgpfnbmlfaaaDoor Go.Proofs.YtiocgpfnbmlfaaaDoor.PS1 Go.Proofs.YtiocgpfnbmlfaaaDoor.QD Go.Proofs.YtiocgpfnbmlfaaaDoorW.PrintWords Go.Proofs.YtiocgpfnbmlfaaaDoorW.PrintLast

/-- one byte within round brackets -/
def escP (p : Bool) (c : UInt8) : List UInt8 :=
  if p = true ∧ c ≠ 40 ∧ c ≠ 41 ∧ c ≠ 92 ∧ c ≠ 13 then [c] else [92, 48 + c / 64, 48 + c / 8 % 8, 48 + c % 8]
def bodyE (p : Bool) : List UInt8 → List UInt8
  | [] => []
  | c :: t => escP p c ++ bodyE p t
def hexD (n : Nat) : UInt8 := UInt8.ofNat (if n ≤ 9 then 48 + n else 87 + n)
def bodyH : Nat → List UInt8 → List UInt8
  | _, [] => []
  | i, c :: t => hexD (c.toNat / 16) :: hexD (c.toNat % 16) :: ((if i % 7 = 3 then [10] else []) ++ bodyH (i + 1) t)
/-- the three ways -/
def wayL (i : Nat) (xs : List UInt8) : List UInt8 :=
  match i with
  | 0 => 40 :: bodyE true xs
  | 1 => 40 :: bodyE false xs
  | _ => 60 :: bodyH 0 xs
def endL (i : Nat) : UInt8 := match i with | 0 => 41 | 1 => 41 | _ => 62

theorem oct_fin : ∀ c : Fin 256, escL (48 + UInt8.ofNat c.val / 64) [48 + UInt8.ofNat c.val / 8 % 8, 48 + UInt8.ofNat c.val % 8] = ([UInt8.ofNat c.val], []) ∧ isOct (48 + UInt8.ofNat c.val / 64) = true ∧ isOct (48 + UInt8.ofNat c.val / 8 % 8) = true ∧ isOct (48 + UInt8.ofNat c.val % 8) = true ∧
    UInt8.ofNat (8 * (8 * ((48 + UInt8.ofNat c.val / 64).toNat - 48) + ((48 + UInt8.ofNat c.val / 8 % 8).toNat - 48)) + ((48 + UInt8.ofNat c.val % 8).toNat - 48)) = UInt8.ofNat c.val := by decide +kernel
theorem oct_no : ∀ c : Fin 256, isOct (UInt8.ofNat c.val) = true → UInt8.ofNat c.val ≠ 110 ∧ UInt8.ofNat c.val ≠ 114 ∧ UInt8.ofNat c.val ≠ 116 ∧ UInt8.ofNat c.val ≠ 98 ∧ UInt8.ofNat c.val ≠ 102 ∧ UInt8.ofNat c.val ≠ 10 ∧ UInt8.ofNat c.val ≠ 13 := by decide +kernel
theorem of_fin {p : UInt8 → Prop} (h : ∀ c : Fin 256, p (UInt8.ofNat c.val)) (c : UInt8) : p c := by
  have := h ⟨c.toNat, c.toNat_lt⟩
  simpa using this
theorem oct3 (c : UInt8) (r : List UInt8) : escL (48 + c / 64) ((48 + c / 8 % 8) :: (48 + c % 8) :: r) = ([c], r) := by
  obtain ⟨-, h1, h2, h3, h4⟩ := of_fin (p := fun c => escL (48 + c / 64) [48 + c / 8 % 8, 48 + c % 8] = ([c], []) ∧ isOct (48 + c / 64) = true ∧ isOct (48 + c / 8 % 8) = true ∧ isOct (48 + c % 8) = true ∧
    UInt8.ofNat (8 * (8 * ((48 + c / 64).toNat - 48) + ((48 + c / 8 % 8).toNat - 48)) + ((48 + c % 8).toNat - 48)) = c) oct_fin c
  obtain ⟨n1, n2, n3, n4, n5, n6, n7⟩ := of_fin (p := fun c => isOct c = true → c ≠ 110 ∧ c ≠ 114 ∧ c ≠ 116 ∧ c ≠ 98 ∧ c ≠ 102 ∧ c ≠ 10 ∧ c ≠ 13) oct_no _ h1
  unfold escL
  rw [if_neg n1, if_neg n2, if_neg n3, if_neg n4, if_neg n5, if_neg n6, if_neg n7, if_pos h1, octL, if_pos h2, octL, if_pos h3, octL, h4]

theorem rnd_esc_byte (p : Bool) (c : UInt8) (r : List UInt8) : rnd 1 (escP p c ++ r) = (rnd 1 r).map fun q => (c :: q.1, q.2) := by
  unfold escP
  split
  · rename_i h
    rw [List.singleton_append, rnd_put 1 c r (not41 _ _ h.2.2.1) h.2.2.2.1 h.2.2.2.2, if_neg h.2.1, if_neg h.2.2.1]
    rfl
  · show rnd 1 (92 :: (48 + c / 64) :: (48 + c / 8 % 8) :: (48 + c % 8) :: r) = _
    rw [rnd_esc, oct3]
    rfl
theorem rnd_body (p : Bool) (xs : List UInt8) : ∀ r, rnd 1 (bodyE p xs ++ r) = (rnd 1 r).map fun q => (xs ++ q.1, q.2) := by
  induction xs with
  | nil => intro r; simp only [bodyE, List.nil_append]; cases rnd 1 r <;> rfl
  | cons c t ih =>
    intro r
    rw [bodyE, List.append_assoc, rnd_esc_byte, ih]
    cases rnd 1 r <;> rfl

theorem hexD_fin : ∀ n : Fin 16, blankB (hexD n.val) = false ∧ hexD n.val ≠ 62 ∧ hexD n.val ≠ 60 ∧ hexI (hexD n.val) = (n.val : Int) := by decide +kernel
theorem hexD_is (n : Nat) (h : n < 16) : ¬ blankB (hexD n) = true ∧ hexD n ≠ 62 ∧ hexD n ≠ 60 ∧ hexI (hexD n) = (n : Int) := by
  obtain ⟨h1, h2, h3, h4⟩ := hexD_fin ⟨n, h⟩
  exact ⟨by simp only at h1; rw [h1]; decide, h2, h3, h4⟩
theorem hx_body (xs : List UInt8) : ∀ i r, hx none (bodyH i xs ++ r) = (hx none r).map fun q => (xs ++ q.1, q.2) := by
  induction xs with
  | nil => intro i r; simp only [bodyH, List.nil_append]; cases hx none r <;> rfl
  | cons c t ih =>
    intro i r
    have hc := c.toNat_lt
    obtain ⟨a1, a2, -, a4⟩ := hexD_is (c.toNat / 16) (by omega)
    obtain ⟨b1, b2, -, b4⟩ := hexD_is (c.toNat % 16) (by omega)
    show hx none (hexD (c.toNat / 16) :: hexD (c.toNat % 16) :: (((if i % 7 = 3 then [10] else []) ++ bodyH (i + 1) t) ++ r)) = _
    rw [hx_half _ _ a1 a2 (by rw [a4]; omega), hx_full _ _ _ b1 b2 (by rw [b4]; omega), a4, b4, Int.toNat_natCast, Int.toNat_natCast, Nat.div_add_mod]
    have e : hx none (((if i % 7 = 3 then [10] else []) ++ bodyH (i + 1) t) ++ r) = hx none (bodyH (i + 1) t ++ r) := by
      split
      · exact hx_blank none 10 _ (by decide)
      · rfl
    rw [e, ih]
    cases hx none r <;> simp

theorem next_at0 (B : List UInt8) (c : UInt8) (t : List UInt8) (hB : B = c :: t) (hs : skipL false B = B) : nextP B 0 = nextL (tokenC c t) B.length := by
  unfold nextP
  rw [if_neg (by omega)]
  show nextL (tokenL B) _ = _
  unfold tokenL
  rw [hs, hB]
theorem angle_hex (t : List UInt8) (h : ∀ r, t ≠ 60 :: r) : angleL 60 t = strL (hx none t) := by
  unfold angleL
  cases t with
  | nil => rfl
  | cons d r =>
    show (if d = 60 then _ else if (60 : UInt8) = 60 then _ else _) = _
    rw [if_neg (fun e => h r (by rw [e])), if_pos rfl]
theorem bodyH_60 (xs r : List UInt8) : ∀ r', bodyH 0 xs ++ r ≠ 60 :: r' ∨ xs = [] := by
  intro r'
  cases xs with
  | nil => exact .inr rfl
  | cons c t =>
    refine .inl fun h => ?_
    have hc := c.toNat_lt
    obtain ⟨-, -, a3, -⟩ := hexD_is (c.toNat / 16) (by omega)
    simp only [bodyH, List.cons_append, List.cons.injEq] at h
    exact a3 h.1

/-- what stands there is read as these bytes -/
theorem way_read (i : Nat) (xs more : List UInt8) (hx5 : xs.length ≤ 65535) : nextP ((wayL i xs ++ [endL i]) ++ more) 0 = (6, 0, xs, (((wayL i xs).length + 1 : Nat) : Int), 0) := by
  have key : ∀ (r : TkR) (n : Nat), r = .inr (6, 0, xs, more) → n = (wayL i xs).length + 1 + more.length → nextL r n = (6, 0, xs, (((wayL i xs).length + 1 : Nat) : Int), 0) := by
    intro r n h hn
    rw [h, hn]
    simp only [nextL, Nat.add_sub_cancel]
  have hlen : ((wayL i xs ++ [endL i]) ++ more).length = (wayL i xs).length + 1 + more.length := by simp only [List.length_append, List.length_singleton]
  have hstr : ∀ p, strL (some (xs ++ [], p)) = .inr (6, 0, xs, p) := by
    intro p
    simp only [strL, List.append_nil]
    rw [if_neg (by omega)]
  have round : ∀ p, rnd 1 (bodyE p xs ++ 41 :: more) = some (xs ++ [], more) := fun p => by rw [rnd_body, rnd_close]; rfl
  match i, key, hlen with
  | 0, key, hlen =>
    rw [next_at0 _ 40 (bodyE true xs ++ 41 :: more) (by simp [wayL, endL]) (by simp only [wayL, List.cons_append]; rw [skipL, if_neg (by decide), if_neg (by decide)])]
    refine key _ _ ?_ hlen
    show strL (rnd 1 (bodyE true xs ++ 41 :: more)) = _
    rw [round, hstr]
  | 1, key, hlen =>
    rw [next_at0 _ 40 (bodyE false xs ++ 41 :: more) (by simp [wayL, endL]) (by simp only [wayL, List.cons_append]; rw [skipL, if_neg (by decide), if_neg (by decide)])]
    refine key _ _ ?_ hlen
    show strL (rnd 1 (bodyE false xs ++ 41 :: more)) = _
    rw [round, hstr]
  | n + 2, key, hlen =>
    rw [next_at0 _ 60 (bodyH 0 xs ++ 62 :: more) (by simp [wayL, endL]) (by simp only [wayL, List.cons_append]; rw [skipL, if_neg (by decide), if_neg (by decide)])]
    refine key _ _ ?_ hlen
    show angleL 60 (bodyH 0 xs ++ 62 :: more) = _
    rw [angle_hex, hx_body, hx_end]
    · exact hstr more
    · intro r h
      rcases bodyH_60 xs (62 :: more) r with h' | rfl
      · exact h' h
      · simp [bodyH] at h

/-- without its end it is none -/
theorem way_open (i : Nat) (xs : List UInt8) : nextP (wayL i xs) 0 = (0, 0, [], 0, 14) := by
  have key : ∀ (r : TkR) (n : Nat), r = .inl 14 → nextL r n = (0, 0, [], 0, 14) := by
    intro r n h
    rw [h]
    rfl
  have round : ∀ p, rnd 1 (bodyE p xs) = none := fun p => by
    have := rnd_body p xs []
    rw [List.append_nil, rnd_nil] at this
    exact this
  match i with
  | 0 =>
    show nextP (40 :: bodyE true xs) 0 = _
    rw [next_at0 _ 40 (bodyE true xs) rfl (by rw [skipL, if_neg (by decide), if_neg (by decide)])]
    refine key _ _ ?_
    show strL (rnd 1 (bodyE true xs)) = _
    rw [round]
    rfl
  | 1 =>
    show nextP (40 :: bodyE false xs) 0 = _
    rw [next_at0 _ 40 (bodyE false xs) rfl (by rw [skipL, if_neg (by decide), if_neg (by decide)])]
    refine key _ _ ?_
    show strL (rnd 1 (bodyE false xs)) = _
    rw [round]
    rfl
  | n + 2 =>
    show nextP (60 :: bodyH 0 xs) 0 = _
    rw [next_at0 _ 60 (bodyH 0 xs) rfl (by rw [skipL, if_neg (by decide), if_neg (by decide)])]
    refine key _ _ ?_
    show angleL 60 (bodyH 0 xs) = _
    have hb := hx_body xs 0 []
    rw [List.append_nil, hx_nil] at hb
    rw [angle_hex, hb]
    · rfl
    · intro r h
      rcases bodyH_60 xs [] r with h' | rfl
      · rw [List.append_nil] at h'; exact h' h
      · simp [bodyH] at h

theorem bodyE_len (p : Bool) (xs : List UInt8) : (bodyE p xs).length ≤ 4 * xs.length := by
  induction xs with
  | nil => exact Nat.le_refl _
  | cons c t ih =>
    have : (escP p c).length ≤ 4 := by unfold escP; split <;> simp
    simp only [bodyE, List.length_append, List.length_cons]
    omega
theorem bodyH_len (xs : List UInt8) : ∀ i, (bodyH i xs).length ≤ 3 * xs.length := by
  induction xs with
  | nil => intro i; exact Nat.le_refl _
  | cons c t ih =>
    intro i
    have := ih (i + 1)
    have h2 : (if i % 7 = 3 then [(10 : UInt8)] else []).length ≤ 1 := by split <;> simp
    simp only [bodyH, List.length_append, List.length_cons]
    omega
theorem wayL_len (i : Nat) (xs : List UInt8) : (wayL i xs).length ≤ 4 * xs.length + 1 := by
  have h1 := bodyE_len true xs
  have h2 := bodyE_len false xs
  have h3 := bodyH_len xs 0
  unfold wayL
  split <;> simp only [List.length_cons] <;> omega
theorem wayL_pos (i : Nat) (xs : List UInt8) : 1 ≤ (wayL i xs).length := by
  unfold wayL
  split <;> simp

end Go.Proofs.YtiocgpfnbmlfaaaDoor.SC

/-! ## PS2x0 -/
namespace Go.Proofs.YtiocgpfnbmlfaaaDoor.PS2
open Go.RowKit Go.Proofs.YtiocgpfnbmlfaaaDoorW.PrintWords Go.Proofs.YtiocgpfnbmlfaaaDoorW.PrintLast Go.Proofs.YtiocgpfnbmlfaaaDoorW.PrintMore
attribute [local go_sem] max2_int min2_int max_two min_two max_three min_three max_four min_four   -- for this text's walks alone
set_option linter.unusedVariables false
set_option linter.unusedSimpArgs false



def errW : Option Int → Value
  | none => .nilIface
  | some c => .iface 0 (.int .i64 c)
theorem errW_none : errW none = .nilIface := rfl
theorem errW_some (c : Int) : errW (some c) = .iface 0 (.int .i64 c) := rfl

theorem info5 : (Tryd.prog.info? 5).map (fun i => (i.zero, i.size, i.bytes)) = some (some (.int .u8 0), 1, 1) := by kernel_rfl
-- the values' own types

end Go.Proofs.YtiocgpfnbmlfaaaDoor.PS2
