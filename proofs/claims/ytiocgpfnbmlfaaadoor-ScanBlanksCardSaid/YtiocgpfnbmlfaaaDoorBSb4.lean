/- scan: the next token. scan.Next: the token at a place, or the error that the reader gave up with. scan.Next in plain words, in the printed form. The scan laws' answers: its walk. The law ScanBlanks in plain words: blanks and comments between tokens change no token. The law ScanNested: brackets within a string, at any depth. Its walk, at every input. The law ScanBlanks: its walk, at every input. The laws' arguments that are rows of bytes. The law ScanBlanks at every input. -/
import Derived.Test.YtiocgpfnbmlfaaaDoorBSb3
import Derived.Test.YtiocgpfnbmlfaaaDoorBSb2
import Derived.Defers
import Derived.Recover
import Derived.RegionTactic
import Derived.BigRegion
import Derived.BigQuiet
import Derived.Lib.SlBytesConst

/-! ## SH -/
namespace Go.Proofs.YtiocgpfnbmlfaaaDoor.SC
open Go Go.RowKit Go.Proofs.YtiocgpfnbmlfaaaDoor Go.Proofs.YtiocgpfnbmlfaaaDoor.PS1 Go.Proofs.YtiocgpfnbmlfaaaDoor.QD Go.Proofs.YtiocgpfnbmlfaaaDoorW.PrintWords Go.Proofs.YtiocgpfnbmlfaaaDoorW.PrintLast

/-- a word: a number, or a name -/
def wordL (x s : List UInt8) : TkR :=
  if (tokL x).2.2.2 = 0 then (if (tokL x).2.2.1 = true then .inr ((tokL x).1, (tokL x).2.1, [], s) else nameL 3 x s) else .inl (tokL x).2.2.2
/-- behind blanks and comments -/
def tokenC (c : UInt8) (t : List UInt8) : TkR :=
  if c = 40 then strL (rnd 1 t) else if c = 41 then .inl 14 else if c = 60 ∨ c = 62 then angleL c t else if c = 123 then .inr (7, 0, [], t) else if c = 125 then .inr (8, 0, [], t)
  else if c = 91 ∨ c = 93 then .inr (3, 0, [c], t) else if c = 47 then slashL t else wordL ((c :: t).takeWhile regB) ((c :: t).dropWhile regB)
def tokenL (l : List UInt8) : TkR :=
  match skipL false l with
  | [] => .inr (0, 0, [], [])
  | c :: t => tokenC c t

theorem tkQ_cases {r : TkR} {w0 w w' : World} {g cap : Nat} {A : Option Addr} {B : List UInt8} {e : Ending} (h : TkQ r w0 w g A cap B e w') :
    (∃ er, r = .inl er ∧ e = .panicked [{ v := .iface 28 (.int .i64 er), recovered := false }] ∧ Kb g w.heap.size w w') ∨
    (∃ k n o s, r = .inr (k, n, o, s) ∧ e = .returned (.agg #[.int .i64 k, .int .i64 n, .string (S o)]) ∧ At w0 w' g A cap B s ∧ Kb g w.heap.size w w') := by
  match r, h with
  | .inl er, h => exact .inl ⟨er, rfl, h.1, h.2⟩
  | .inr (k, n, o, s), h => exact .inr ⟨k, n, o, s, rfl, h⟩

set_option maxHeartbeats 4000000 in
set_option maxRecDepth 100000 in
theorem token_nil {w0 w : World} {g cap : Nat} {A : Option Addr} {B l : List UInt8} (h : At w0 w g A cap B l) (hl : skipL false l = []) :
    Calls Tryd.prog 49 #[.pointer (some ⟨g, 0, none⟩)] w (TkQ (.inr (0, 0, [], [])) w0 w g A cap B) := by
  have HP := Lib.hid (Tp.start h)
  clear h
  go_enter Tryd.func49, Tryd.ntmps49
  go_wp2_with fail
  refine (skip_any HP.out.at_).mono ?_
  rintro e w1 ⟨rfl, hA, hK⟩
  rw [hl] at hA
  replace HP := Lib.hid (HP.out.read hA hK)
  have HL := Lib.hid hl
  clear hA hK hl
  go_wp2_with fail
  refine (more_nil HP.out.at_).mono ?_
  rintro e w2 ⟨rfl, m, hm⟩
  replace HP := Lib.hid (show Tp w0 w w2 g A cap B [] by rw [hm]; exact HP.out.read (HP.out.at_.drewN m) (Kb.of_below (drewN_below _ m)))
  clear hm
  obtain ⟨⟨c0, c1, c2⟩, f0, f1, f2⟩ := HP.out.blk.facts
  have hlt := HP.out.blk.lt
  go_wp2_with fail
  refine bodyPost_ret (v := .agg #[.int .i64 0, .int .i64 0, .string (S [])]) (by simp [results, Tryd.results49, go_sem, c0, c1, c2, S]) rfl ?_
  exact TkQ.ok rfl rfl HP.out.out

set_option maxHeartbeats 4000000 in
set_option maxRecDepth 100000 in
theorem token_40 {w0 w : World} {g cap : Nat} {A : Option Addr} {B l t : List UInt8} (h : At w0 w g A cap B l) (hl : skipL false l = 40 :: t) :
    Calls Tryd.prog 49 #[.pointer (some ⟨g, 0, none⟩)] w (TkQ (strL (rnd 1 t)) w0 w g A cap B) := by
  have HP := Lib.hid (Tp.start h)
  clear h
  go_enter Tryd.func49, Tryd.ntmps49
  go_wp2_with fail
  refine (skip_any HP.out.at_).mono ?_
  rintro e w1 ⟨rfl, hA, hK⟩
  rw [hl] at hA
  replace HP := Lib.hid (HP.out.read hA hK)
  have HL := Lib.hid hl
  clear hA hK hl
  go_wp2_with fail
  refine (more_cons HP.out.at_).mono ?_
  rintro e w2 ⟨rfl, m, hm⟩
  replace HP := Lib.hid (show Tp w0 w w2 g A cap B (40 :: t) by rw [hm]; exact HP.out.read (HP.out.at_.drewN m) (Kb.of_below (drewN_below _ m)))
  clear hm
  obtain ⟨n, p, ad, rfl, hn, hlt, hsm, hp1, c0, c1, f0, f1, hx, hne⟩ := HP.out.at_.head
  have HPP := Lib.hid hp1
  have g1 : (0 : Int) ≤ (p : Int) := by omega
  have g2 : (p : Int) < (n : Int) := by omega
  have g3 : (n : Int) ≤ 140737488351232 := by omega
  have hx2 : w2.cell? (ad.add p) = some (.int .u8 40) := hx
  clear hx
  clear hn hp1 hlt hsm
  go_wp2_with fail
  go_quiet (fail)
  have HA2 := Lib.hid (show At w0 ((w2.drewN nq).setCell ⟨g, 1, none⟩ (.int .i64 ((p : Int) + 1))) g (some ad) cap B t from (HP.out.at_.drewN nq).set _ (by rw [HPP.out]; push_cast; rfl))
  have HP3 := Lib.hid (show Tp w0 w ((w2.drewN nq).setCell ⟨g, 1, none⟩ (.int .i64 ((p : Int) + 1))) g (some ad) cap B t from HP.out.read HA2.out ((Kb.of_below (drewN_below w2 nq)).trans (Kb.set _ _ _ _ _)))
  go_wp2_with fail
  refine (Calls.mono (round_any HA2.out) (fun e w h => h.tk)).mono ?_
  rintro e w3 hq
  rcases tkQ_cases hq with ⟨er, hr, rfl, hk⟩ | ⟨k, n2, o, s, hr, rfl, ha, hk⟩
  · have HK := Lib.hid (HP3.out.kb.then_ HP3.out.size hk)
    have HR := Lib.hid hr
    clear hr hk hq
    go_wp2_with fail
    exact ⟨rfl, TkQ.err HR.out ⟨rfl, HK.out⟩⟩
  · have HP4 := Lib.hid (HP3.out.read ha hk)
    have HR := Lib.hid hr
    clear hr ha hk hq c0 c1 f0 f1 hx2
    obtain ⟨⟨c0, c1, c2⟩, f0, f1, f2⟩ := HP4.out.blk.facts
    have hlt := HP4.out.blk.lt
    go_wp2_with fail
    refine bodyPost_ret (v := .agg #[.int .i64 k, .int .i64 n2, .string (S o)]) (by simp [results, Tryd.results49, go_sem, c0, c1, c2]) rfl ?_
    exact TkQ.ok HR.out rfl HP4.out.out

set_option maxHeartbeats 4000000 in
set_option maxRecDepth 100000 in
theorem token_41 {w0 w : World} {g cap : Nat} {A : Option Addr} {B l t : List UInt8} (h : At w0 w g A cap B l) (hl : skipL false l = 41 :: t) :
    Calls Tryd.prog 49 #[.pointer (some ⟨g, 0, none⟩)] w (TkQ (.inl 14) w0 w g A cap B) := by
  have HP := Lib.hid (Tp.start h)
  clear h
  go_enter Tryd.func49, Tryd.ntmps49
  go_wp2_with fail
  refine (skip_any HP.out.at_).mono ?_
  rintro e w1 ⟨rfl, hA, hK⟩
  rw [hl] at hA
  replace HP := Lib.hid (HP.out.read hA hK)
  have HL := Lib.hid hl
  clear hA hK hl
  go_wp2_with fail
  refine (more_cons HP.out.at_).mono ?_
  rintro e w2 ⟨rfl, m, hm⟩
  replace HP := Lib.hid (show Tp w0 w w2 g A cap B (41 :: t) by rw [hm]; exact HP.out.read (HP.out.at_.drewN m) (Kb.of_below (drewN_below _ m)))
  clear hm
  obtain ⟨n, p, ad, rfl, hn, hlt, hsm, hp1, c0, c1, f0, f1, hx, hne⟩ := HP.out.at_.head
  have HPP := Lib.hid hp1
  have g1 : (0 : Int) ≤ (p : Int) := by omega
  have g2 : (p : Int) < (n : Int) := by omega
  have g3 : (n : Int) ≤ 140737488351232 := by omega
  have hx2 : w2.cell? (ad.add p) = some (.int .u8 41) := hx
  clear hx
  clear hn hp1 hlt hsm
  go_wp2_with fail
  go_quiet (fail)
  go_wp2_with fail
  exact ⟨rfl, TkQ.err rfl ⟨rfl, HP.out.kb.belows (drewN_below _ _) HP.out.size⟩⟩

set_option maxHeartbeats 4000000 in
set_option maxRecDepth 100000 in
theorem token_60 {w0 w : World} {g cap : Nat} {A : Option Addr} {B l t : List UInt8} (h : At w0 w g A cap B l) (hl : skipL false l = 60 :: t) :
    Calls Tryd.prog 49 #[.pointer (some ⟨g, 0, none⟩)] w (TkQ (angleL 60 t) w0 w g A cap B) := by
  have HP := Lib.hid (Tp.start h)
  clear h
  go_enter Tryd.func49, Tryd.ntmps49
  go_wp2_with fail
  refine (skip_any HP.out.at_).mono ?_
  rintro e w1 ⟨rfl, hA, hK⟩
  rw [hl] at hA
  replace HP := Lib.hid (HP.out.read hA hK)
  have HL := Lib.hid hl
  clear hA hK hl
  go_wp2_with fail
  refine (more_cons HP.out.at_).mono ?_
  rintro e w2 ⟨rfl, m, hm⟩
  replace HP := Lib.hid (show Tp w0 w w2 g A cap B (60 :: t) by rw [hm]; exact HP.out.read (HP.out.at_.drewN m) (Kb.of_below (drewN_below _ m)))
  clear hm
  obtain ⟨n, p, ad, rfl, hn, hlt, hsm, hp1, c0, c1, f0, f1, hx, hne⟩ := HP.out.at_.head
  have HPP := Lib.hid hp1
  have g1 : (0 : Int) ≤ (p : Int) := by omega
  have g2 : (p : Int) < (n : Int) := by omega
  have g3 : (n : Int) ≤ 140737488351232 := by omega
  have hx2 : w2.cell? (ad.add p) = some (.int .u8 60) := hx
  clear hx
  clear hn hp1 hlt hsm
  go_wp2_with fail
  go_quiet (fail)
  have HA2 := Lib.hid (show At w0 ((w2.drewN nq).setCell ⟨g, 1, none⟩ (.int .i64 ((p : Int) + 1))) g (some ad) cap B t from (HP.out.at_.drewN nq).set _ (by rw [HPP.out]; push_cast; rfl))
  have HP3 := Lib.hid (show Tp w0 w ((w2.drewN nq).setCell ⟨g, 1, none⟩ (.int .i64 ((p : Int) + 1))) g (some ad) cap B t from HP.out.read HA2.out ((Kb.of_below (drewN_below w2 nq)).trans (Kb.set _ _ _ _ _)))
  go_wp2_with fail
  refine (angle_60 HA2.out).mono ?_
  rintro e w3 hq
  rcases tkQ_cases hq with ⟨er, hr, rfl, hk⟩ | ⟨k, n2, o, s, hr, rfl, ha, hk⟩
  · have HK := Lib.hid (HP3.out.kb.then_ HP3.out.size hk)
    have HR := Lib.hid hr
    clear hr hk hq
    go_wp2_with fail
    exact ⟨rfl, TkQ.err HR.out ⟨rfl, HK.out⟩⟩
  · have HP4 := Lib.hid (HP3.out.read ha hk)
    have HR := Lib.hid hr
    clear hr ha hk hq c0 c1 f0 f1 hx2
    obtain ⟨⟨c0, c1, c2⟩, f0, f1, f2⟩ := HP4.out.blk.facts
    have hlt := HP4.out.blk.lt
    go_wp2_with fail
    refine bodyPost_ret (v := .agg #[.int .i64 k, .int .i64 n2, .string (S o)]) (by simp [results, Tryd.results49, go_sem, c0, c1, c2]) rfl ?_
    exact TkQ.ok HR.out rfl HP4.out.out

set_option maxHeartbeats 4000000 in
set_option maxRecDepth 100000 in
theorem token_62 {w0 w : World} {g cap : Nat} {A : Option Addr} {B l t : List UInt8} (h : At w0 w g A cap B l) (hl : skipL false l = 62 :: t) :
    Calls Tryd.prog 49 #[.pointer (some ⟨g, 0, none⟩)] w (TkQ (angleL 62 t) w0 w g A cap B) := by
  have HP := Lib.hid (Tp.start h)
  clear h
  go_enter Tryd.func49, Tryd.ntmps49
  go_wp2_with fail
  refine (skip_any HP.out.at_).mono ?_
  rintro e w1 ⟨rfl, hA, hK⟩
  rw [hl] at hA
  replace HP := Lib.hid (HP.out.read hA hK)
  have HL := Lib.hid hl
  clear hA hK hl
  go_wp2_with fail
  refine (more_cons HP.out.at_).mono ?_
  rintro e w2 ⟨rfl, m, hm⟩
  replace HP := Lib.hid (show Tp w0 w w2 g A cap B (62 :: t) by rw [hm]; exact HP.out.read (HP.out.at_.drewN m) (Kb.of_below (drewN_below _ m)))
  clear hm
  obtain ⟨n, p, ad, rfl, hn, hlt, hsm, hp1, c0, c1, f0, f1, hx, hne⟩ := HP.out.at_.head
  have HPP := Lib.hid hp1
  have g1 : (0 : Int) ≤ (p : Int) := by omega
  have g2 : (p : Int) < (n : Int) := by omega
  have g3 : (n : Int) ≤ 140737488351232 := by omega
  have hx2 : w2.cell? (ad.add p) = some (.int .u8 62) := hx
  clear hx
  clear hn hp1 hlt hsm
  go_wp2_with fail
  go_quiet (fail)
  have HA2 := Lib.hid (show At w0 ((w2.drewN nq).setCell ⟨g, 1, none⟩ (.int .i64 ((p : Int) + 1))) g (some ad) cap B t from (HP.out.at_.drewN nq).set _ (by rw [HPP.out]; push_cast; rfl))
  have HP3 := Lib.hid (show Tp w0 w ((w2.drewN nq).setCell ⟨g, 1, none⟩ (.int .i64 ((p : Int) + 1))) g (some ad) cap B t from HP.out.read HA2.out ((Kb.of_below (drewN_below w2 nq)).trans (Kb.set _ _ _ _ _)))
  go_wp2_with fail
  refine (angle_62 HA2.out).mono ?_
  rintro e w3 hq
  rcases tkQ_cases hq with ⟨er, hr, rfl, hk⟩ | ⟨k, n2, o, s, hr, rfl, ha, hk⟩
  · have HK := Lib.hid (HP3.out.kb.then_ HP3.out.size hk)
    have HR := Lib.hid hr
    clear hr hk hq
    go_wp2_with fail
    exact ⟨rfl, TkQ.err HR.out ⟨rfl, HK.out⟩⟩
  · have HP4 := Lib.hid (HP3.out.read ha hk)
    have HR := Lib.hid hr
    clear hr ha hk hq c0 c1 f0 f1 hx2
    obtain ⟨⟨c0, c1, c2⟩, f0, f1, f2⟩ := HP4.out.blk.facts
    have hlt := HP4.out.blk.lt
    go_wp2_with fail
    refine bodyPost_ret (v := .agg #[.int .i64 k, .int .i64 n2, .string (S o)]) (by simp [results, Tryd.results49, go_sem, c0, c1, c2]) rfl ?_
    exact TkQ.ok HR.out rfl HP4.out.out

set_option maxHeartbeats 4000000 in
set_option maxRecDepth 100000 in
theorem token_47 {w0 w : World} {g cap : Nat} {A : Option Addr} {B l t : List UInt8} (h : At w0 w g A cap B l) (hl : skipL false l = 47 :: t) :
    Calls Tryd.prog 49 #[.pointer (some ⟨g, 0, none⟩)] w (TkQ (slashL t) w0 w g A cap B) := by
  have HP := Lib.hid (Tp.start h)
  clear h
  go_enter Tryd.func49, Tryd.ntmps49
  go_wp2_with fail
  refine (skip_any HP.out.at_).mono ?_
  rintro e w1 ⟨rfl, hA, hK⟩
  rw [hl] at hA
  replace HP := Lib.hid (HP.out.read hA hK)
  have HL := Lib.hid hl
  clear hA hK hl
  go_wp2_with fail
  refine (more_cons HP.out.at_).mono ?_
  rintro e w2 ⟨rfl, m, hm⟩
  replace HP := Lib.hid (show Tp w0 w w2 g A cap B (47 :: t) by rw [hm]; exact HP.out.read (HP.out.at_.drewN m) (Kb.of_below (drewN_below _ m)))
  clear hm
  obtain ⟨n, p, ad, rfl, hn, hlt, hsm, hp1, c0, c1, f0, f1, hx, hne⟩ := HP.out.at_.head
  have HPP := Lib.hid hp1
  have g1 : (0 : Int) ≤ (p : Int) := by omega
  have g2 : (p : Int) < (n : Int) := by omega
  have g3 : (n : Int) ≤ 140737488351232 := by omega
  have hx2 : w2.cell? (ad.add p) = some (.int .u8 47) := hx
  clear hx
  clear hn hp1 hlt hsm
  go_wp2_with fail
  go_quiet (fail)
  have HA2 := Lib.hid (show At w0 ((w2.drewN nq).setCell ⟨g, 1, none⟩ (.int .i64 ((p : Int) + 1))) g (some ad) cap B t from (HP.out.at_.drewN nq).set _ (by rw [HPP.out]; push_cast; rfl))
  have HP3 := Lib.hid (show Tp w0 w ((w2.drewN nq).setCell ⟨g, 1, none⟩ (.int .i64 ((p : Int) + 1))) g (some ad) cap B t from HP.out.read HA2.out ((Kb.of_below (drewN_below w2 nq)).trans (Kb.set _ _ _ _ _)))
  go_wp2_with fail
  refine (slash_any HA2.out).mono ?_
  rintro e w3 hq
  rcases tkQ_cases hq with ⟨er, hr, rfl, hk⟩ | ⟨k, n2, o, s, hr, rfl, ha, hk⟩
  · have HK := Lib.hid (HP3.out.kb.then_ HP3.out.size hk)
    have HR := Lib.hid hr
    clear hr hk hq
    go_wp2_with fail
    exact ⟨rfl, TkQ.err HR.out ⟨rfl, HK.out⟩⟩
  · have HP4 := Lib.hid (HP3.out.read ha hk)
    have HR := Lib.hid hr
    clear hr ha hk hq c0 c1 f0 f1 hx2
    obtain ⟨⟨c0, c1, c2⟩, f0, f1, f2⟩ := HP4.out.blk.facts
    have hlt := HP4.out.blk.lt
    go_wp2_with fail
    refine bodyPost_ret (v := .agg #[.int .i64 k, .int .i64 n2, .string (S o)]) (by simp [results, Tryd.results49, go_sem, c0, c1, c2]) rfl ?_
    exact TkQ.ok HR.out rfl HP4.out.out

set_option maxHeartbeats 4000000 in
set_option maxRecDepth 100000 in
theorem token_123 {w0 w : World} {g cap : Nat} {A : Option Addr} {B l t : List UInt8} (h : At w0 w g A cap B l) (hl : skipL false l = 123 :: t) :
    Calls Tryd.prog 49 #[.pointer (some ⟨g, 0, none⟩)] w (TkQ (.inr (7, 0, [], t)) w0 w g A cap B) := by
  have HP := Lib.hid (Tp.start h)
  clear h
  go_enter Tryd.func49, Tryd.ntmps49
  go_wp2_with fail
  refine (skip_any HP.out.at_).mono ?_
  rintro e w1 ⟨rfl, hA, hK⟩
  rw [hl] at hA
  replace HP := Lib.hid (HP.out.read hA hK)
  have HL := Lib.hid hl
  clear hA hK hl
  go_wp2_with fail
  refine (more_cons HP.out.at_).mono ?_
  rintro e w2 ⟨rfl, m, hm⟩
  replace HP := Lib.hid (show Tp w0 w w2 g A cap B (123 :: t) by rw [hm]; exact HP.out.read (HP.out.at_.drewN m) (Kb.of_below (drewN_below _ m)))
  clear hm
  obtain ⟨n, p, ad, rfl, hn, hlt, hsm, hp1, c0, c1, f0, f1, hx, hne⟩ := HP.out.at_.head
  have HPP := Lib.hid hp1
  have g1 : (0 : Int) ≤ (p : Int) := by omega
  have g2 : (p : Int) < (n : Int) := by omega
  have g3 : (n : Int) ≤ 140737488351232 := by omega
  have hx2 : w2.cell? (ad.add p) = some (.int .u8 123) := hx
  clear hx
  clear hn hp1 hlt hsm
  go_wp2_with fail
  go_quiet (fail)
  have HA2 := Lib.hid (show At w0 ((w2.drewN nq).setCell ⟨g, 1, none⟩ (.int .i64 ((p : Int) + 1))) g (some ad) cap B t from (HP.out.at_.drewN nq).set _ (by rw [HPP.out]; push_cast; rfl))
  have HP3 := Lib.hid (show Tp w0 w ((w2.drewN nq).setCell ⟨g, 1, none⟩ (.int .i64 ((p : Int) + 1))) g (some ad) cap B t from HP.out.read HA2.out ((Kb.of_below (drewN_below w2 nq)).trans (Kb.set _ _ _ _ _)))
  clear hx2
  obtain ⟨⟨k0, k1, k2⟩, l0, l1, l2⟩ := HP3.out.blk.facts
  have hlt := HP3.out.blk.lt
  go_wp2_with fail
  refine bodyPost_ret (v := .agg #[.int .i64 7, .int .i64 0, .string (S [])]) (by simp [results, Tryd.results49, go_sem, k0, k1, k2, S]) rfl ?_
  exact TkQ.ok rfl rfl HP3.out.out

set_option maxHeartbeats 4000000 in
set_option maxRecDepth 100000 in
theorem token_125 {w0 w : World} {g cap : Nat} {A : Option Addr} {B l t : List UInt8} (h : At w0 w g A cap B l) (hl : skipL false l = 125 :: t) :
    Calls Tryd.prog 49 #[.pointer (some ⟨g, 0, none⟩)] w (TkQ (.inr (8, 0, [], t)) w0 w g A cap B) := by
  have HP := Lib.hid (Tp.start h)
  clear h
  go_enter Tryd.func49, Tryd.ntmps49
  go_wp2_with fail
  refine (skip_any HP.out.at_).mono ?_
  rintro e w1 ⟨rfl, hA, hK⟩
  rw [hl] at hA
  replace HP := Lib.hid (HP.out.read hA hK)
  have HL := Lib.hid hl
  clear hA hK hl
  go_wp2_with fail
  refine (more_cons HP.out.at_).mono ?_
  rintro e w2 ⟨rfl, m, hm⟩
  replace HP := Lib.hid (show Tp w0 w w2 g A cap B (125 :: t) by rw [hm]; exact HP.out.read (HP.out.at_.drewN m) (Kb.of_below (drewN_below _ m)))
  clear hm
  obtain ⟨n, p, ad, rfl, hn, hlt, hsm, hp1, c0, c1, f0, f1, hx, hne⟩ := HP.out.at_.head
  have HPP := Lib.hid hp1
  have g1 : (0 : Int) ≤ (p : Int) := by omega
  have g2 : (p : Int) < (n : Int) := by omega
  have g3 : (n : Int) ≤ 140737488351232 := by omega
  have hx2 : w2.cell? (ad.add p) = some (.int .u8 125) := hx
  clear hx
  clear hn hp1 hlt hsm
  go_wp2_with fail
  go_quiet (fail)
  have HA2 := Lib.hid (show At w0 ((w2.drewN nq).setCell ⟨g, 1, none⟩ (.int .i64 ((p : Int) + 1))) g (some ad) cap B t from (HP.out.at_.drewN nq).set _ (by rw [HPP.out]; push_cast; rfl))
  have HP3 := Lib.hid (show Tp w0 w ((w2.drewN nq).setCell ⟨g, 1, none⟩ (.int .i64 ((p : Int) + 1))) g (some ad) cap B t from HP.out.read HA2.out ((Kb.of_below (drewN_below w2 nq)).trans (Kb.set _ _ _ _ _)))
  clear hx2
  obtain ⟨⟨k0, k1, k2⟩, l0, l1, l2⟩ := HP3.out.blk.facts
  have hlt := HP3.out.blk.lt
  go_wp2_with fail
  refine bodyPost_ret (v := .agg #[.int .i64 8, .int .i64 0, .string (S [])]) (by simp [results, Tryd.results49, go_sem, k0, k1, k2, S]) rfl ?_
  exact TkQ.ok rfl rfl HP3.out.out

set_option maxHeartbeats 4000000 in
set_option maxRecDepth 100000 in
theorem token_91 {w0 w : World} {g cap : Nat} {A : Option Addr} {B l t : List UInt8} (h : At w0 w g A cap B l) (hl : skipL false l = 91 :: t) :
    Calls Tryd.prog 49 #[.pointer (some ⟨g, 0, none⟩)] w (TkQ (.inr (3, 0, [91], t)) w0 w g A cap B) := by
  have HP := Lib.hid (Tp.start h)
  clear h
  go_enter Tryd.func49, Tryd.ntmps49
  go_wp2_with fail
  refine (skip_any HP.out.at_).mono ?_
  rintro e w1 ⟨rfl, hA, hK⟩
  rw [hl] at hA
  replace HP := Lib.hid (HP.out.read hA hK)
  have HL := Lib.hid hl
  clear hA hK hl
  go_wp2_with fail
  refine (more_cons HP.out.at_).mono ?_
  rintro e w2 ⟨rfl, m, hm⟩
  replace HP := Lib.hid (show Tp w0 w w2 g A cap B (91 :: t) by rw [hm]; exact HP.out.read (HP.out.at_.drewN m) (Kb.of_below (drewN_below _ m)))
  clear hm
  obtain ⟨n, p, ad, rfl, hn, hlt, hsm, hp1, c0, c1, f0, f1, hx, hne⟩ := HP.out.at_.head
  have HPP := Lib.hid hp1
  have g1 : (0 : Int) ≤ (p : Int) := by omega
  have g2 : (p : Int) < (n : Int) := by omega
  have g3 : (n : Int) ≤ 140737488351232 := by omega
  have hx2 : w2.cell? (ad.add p) = some (.int .u8 91) := hx
  clear hx
  clear hn hp1 hlt hsm
  go_wp2_with fail
  go_quiet (fail)
  have HA2 := Lib.hid (show At w0 ((w2.drewN nq).setCell ⟨g, 1, none⟩ (.int .i64 ((p : Int) + 1))) g (some ad) cap B t from (HP.out.at_.drewN nq).set _ (by rw [HPP.out]; push_cast; rfl))
  have HP3 := Lib.hid (show Tp w0 w ((w2.drewN nq).setCell ⟨g, 1, none⟩ (.int .i64 ((p : Int) + 1))) g (some ad) cap B t from HP.out.read HA2.out ((Kb.of_below (drewN_below w2 nq)).trans (Kb.set _ _ _ _ _)))
  clear hx2
  obtain ⟨⟨k0, k1, k2⟩, l0, l1, l2⟩ := HP3.out.blk.facts
  have hlt := HP3.out.blk.lt
  have hsz : ((w2.drewN nq).setCell ⟨g, 1, none⟩ (.int .i64 ((p : Int) + 1))).heap.size = w2.heap.size := by rw [setCell_size, drewN_heap]
  have hcv : (convert 32 9 (.slice (some ⟨w2.heap.size, 0, none⟩) 1 1)).run Tryd.prog (((w2.drewN nq).setCell ⟨g, 1, none⟩ (.int .i64 ((p : Int) + 1))).alloc (.cells #[.int .u8 91] 5)) = .ok (.string (S [91])) (((w2.drewN nq).setCell ⟨g, 1, none⟩ (.int .i64 ((p : Int) + 1))).alloc (.cells #[.int .u8 91] 5)) := by
    rw [← hsz]
    exact str_fresh _ [91] (by decide)
  have hlt2 : w.heap.size < w2.heap.size := by rw [← hsz]; exact hlt
  clear hsz
  go_wp2_with fail
  refine bodyPost_ret (v := .agg #[.int .i64 3, .int .i64 0, .string (S [91])]) (by simp [results, Tryd.results49, go_sem, k0, k1, k2, hlt2]) rfl ?_
  exact TkQ.ok rfl rfl (HP3.out.outA _)

set_option maxHeartbeats 4000000 in
set_option maxRecDepth 100000 in
theorem token_93 {w0 w : World} {g cap : Nat} {A : Option Addr} {B l t : List UInt8} (h : At w0 w g A cap B l) (hl : skipL false l = 93 :: t) :
    Calls Tryd.prog 49 #[.pointer (some ⟨g, 0, none⟩)] w (TkQ (.inr (3, 0, [93], t)) w0 w g A cap B) := by
  have HP := Lib.hid (Tp.start h)
  clear h
  go_enter Tryd.func49, Tryd.ntmps49
  go_wp2_with fail
  refine (skip_any HP.out.at_).mono ?_
  rintro e w1 ⟨rfl, hA, hK⟩
  rw [hl] at hA
  replace HP := Lib.hid (HP.out.read hA hK)
  have HL := Lib.hid hl
  clear hA hK hl
  go_wp2_with fail
  refine (more_cons HP.out.at_).mono ?_
  rintro e w2 ⟨rfl, m, hm⟩
  replace HP := Lib.hid (show Tp w0 w w2 g A cap B (93 :: t) by rw [hm]; exact HP.out.read (HP.out.at_.drewN m) (Kb.of_below (drewN_below _ m)))
  clear hm
  obtain ⟨n, p, ad, rfl, hn, hlt, hsm, hp1, c0, c1, f0, f1, hx, hne⟩ := HP.out.at_.head
  have HPP := Lib.hid hp1
  have g1 : (0 : Int) ≤ (p : Int) := by omega
  have g2 : (p : Int) < (n : Int) := by omega
  have g3 : (n : Int) ≤ 140737488351232 := by omega
  have hx2 : w2.cell? (ad.add p) = some (.int .u8 93) := hx
  clear hx
  clear hn hp1 hlt hsm
  go_wp2_with fail
  go_quiet (fail)
  have HA2 := Lib.hid (show At w0 ((w2.drewN nq).setCell ⟨g, 1, none⟩ (.int .i64 ((p : Int) + 1))) g (some ad) cap B t from (HP.out.at_.drewN nq).set _ (by rw [HPP.out]; push_cast; rfl))
  have HP3 := Lib.hid (show Tp w0 w ((w2.drewN nq).setCell ⟨g, 1, none⟩ (.int .i64 ((p : Int) + 1))) g (some ad) cap B t from HP.out.read HA2.out ((Kb.of_below (drewN_below w2 nq)).trans (Kb.set _ _ _ _ _)))
  clear hx2
  obtain ⟨⟨k0, k1, k2⟩, l0, l1, l2⟩ := HP3.out.blk.facts
  have hlt := HP3.out.blk.lt
  have hsz : ((w2.drewN nq).setCell ⟨g, 1, none⟩ (.int .i64 ((p : Int) + 1))).heap.size = w2.heap.size := by rw [setCell_size, drewN_heap]
  have hcv : (convert 32 9 (.slice (some ⟨w2.heap.size, 0, none⟩) 1 1)).run Tryd.prog (((w2.drewN nq).setCell ⟨g, 1, none⟩ (.int .i64 ((p : Int) + 1))).alloc (.cells #[.int .u8 93] 5)) = .ok (.string (S [93])) (((w2.drewN nq).setCell ⟨g, 1, none⟩ (.int .i64 ((p : Int) + 1))).alloc (.cells #[.int .u8 93] 5)) := by
    rw [← hsz]
    exact str_fresh _ [93] (by decide)
  have hlt2 : w.heap.size < w2.heap.size := by rw [← hsz]; exact hlt
  clear hsz
  go_wp2_with fail
  refine bodyPost_ret (v := .agg #[.int .i64 3, .int .i64 0, .string (S [93])]) (by simp [results, Tryd.results49, go_sem, k0, k1, k2, hlt2]) rfl ?_
  exact TkQ.ok rfl rfl (HP3.out.outA _)

set_option maxHeartbeats 4000000 in
set_option maxRecDepth 100000 in
theorem token_word {w0 w : World} {g cap : Nat} {A : Option Addr} {B l t : List UInt8} {c : UInt8} (h : At w0 w g A cap B l) (hl : skipL false l = c :: t) (m1 : ¬ c = 40) (m2 : ¬ c = 41) (m3 : ¬ c = 60) (m4 : ¬ c = 62) (m5 : ¬ c = 123) (m6 : ¬ c = 125) (m7 : ¬ c = 91) (m8 : ¬ c = 93) (m9 : ¬ c = 47) (x s : List UInt8) (ex : (c :: t).takeWhile regB = x) (es : (c :: t).dropWhile regB = s) :
    Calls Tryd.prog 49 #[.pointer (some ⟨g, 0, none⟩)] w (TkQ (wordL x s) w0 w g A cap B) := by
  have n1 := ne_of c 40 (by omega) m1
  have n2 := ne_of c 41 (by omega) m2
  have n3 := ne_of c 60 (by omega) m3
  have n4 := ne_of c 62 (by omega) m4
  have n5 := ne_of c 123 (by omega) m5
  have n6 := ne_of c 125 (by omega) m6
  have n7 := ne_of c 91 (by omega) m7
  have n8 := ne_of c 93 (by omega) m8
  have n9 := ne_of c 47 (by omega) m9
  have EX := Lib.hid ex
  have ES := Lib.hid es
  clear m1 m2 m3 m4 m5 m6 m7 m8 m9 ex es
  have HP := Lib.hid (Tp.start h)
  clear h
  go_enter Tryd.func49, Tryd.ntmps49
  go_wp2_with fail
  refine (skip_any HP.out.at_).mono ?_
  rintro e w1 ⟨rfl, hA, hK⟩
  rw [hl] at hA
  replace HP := Lib.hid (HP.out.read hA hK)
  have HL := Lib.hid hl
  clear hA hK hl
  go_wp2_with fail
  refine (more_cons HP.out.at_).mono ?_
  rintro e w2 ⟨rfl, m, hm⟩
  replace HP := Lib.hid (show Tp w0 w w2 g A cap B (c :: t) by rw [hm]; exact HP.out.read (HP.out.at_.drewN m) (Kb.of_below (drewN_below _ m)))
  clear hm
  obtain ⟨n, p, ad, rfl, hn, hlt, hsm, hp1, c0, c1, f0, f1, hx, hne⟩ := HP.out.at_.head
  have HPP := Lib.hid hp1
  have g1 : (0 : Int) ≤ (p : Int) := by omega
  have g2 : (p : Int) < (n : Int) := by omega
  have g3 : (n : Int) ≤ 140737488351232 := by omega
  clear hn hp1 hlt hsm
  go_wp2_with fail
  go_quiet (fail)
  go_wp2_with fail
  have HW := word_any (HP.out.at_.drewN nq)
  rw [EX.out, ES.out] at HW
  refine HW.mono ?_
  clear HW
  rintro e w3 ⟨rfl, hA, hK⟩
  have HP3 := Lib.hid (HP.out.read hA ((Kb.of_below (drewN_below w2 nq)).then_ (drewN_below w2 nq).size hK))
  clear hA hK c0 c1 f0 f1 hx n1 n2 n3 n4 n5 n6 n7 n8 n9 hne g1 g2 g3
  go_wp2_with fail
  refine (tok_any x w3).mono ?_
  rintro e w4 ⟨rfl, hb⟩
  have HP4 := Lib.hid (HP3.out.below hb)
  clear hb
  have HT : Hid (∀ k n : Int, ∀ ok : Bool, ∀ er : Int, (tokL x).1 = k → (tokL x).2.1 = n → (tokL x).2.2.1 = ok → (tokL x).2.2.2 = er → wordL x s = if er = 0 then (if ok = true then .inr (k, n, [], s) else nameL 3 x s) else .inl er) := by
    intro k n ok er e1 e2 e3 e4
    subst e1 e2 e3 e4
    rfl
  replace HT := Lib.hid (HT.out _ _ _ _ rfl rfl rfl rfl)
  generalize (tokL x).1 = k at *
  generalize (tokL x).2.1 = n at *
  generalize (tokL x).2.2.1 = ok at *
  generalize (tokL x).2.2.2 = er at *
  by_cases her : er = 0
  · subst her
    cases ok with
    | true =>
      have HR := Lib.hid (show wordL x s = .inr (k, n, [], s) from HT.out)
      obtain ⟨⟨c0, c1, c2⟩, f0, f1, f2⟩ := HP4.out.blk.facts
      have hlt := HP4.out.blk.lt
      go_wp2_with fail
      refine bodyPost_ret (v := .agg #[.int .i64 k, .int .i64 n, .string (S [])]) (by simp [results, Tryd.results49, go_sem, c0, c1, c2, hlt, S]) rfl ?_
      exact TkQ.ok HR.out rfl (HP4.out.outA _)
    | false =>
      by_cases hlong : 127 < x.length
      · have HLG := Lib.hid hlong
        have HR := Lib.hid (show wordL x s = .inl 9 from HT.out.trans (by unfold nameL; rw [if_pos rfl, if_neg Bool.false_ne_true, if_pos hlong]))
        clear hlong
        go_wp2_with fail
        refine (name_long 3 (S x) _ (by rw [S_size]; exact HLG.out)).mono ?_
        rintro e w5 ⟨rfl, hb⟩
        have HK := Lib.hid ((HP4.out.kb.belows ((Below.refl _ _).alloc (Nat.le_refl _) _) HP4.out.size).belows hb (by have := HP4.out.size; simp; omega))
        clear hb
        go_wp2_with fail
        exact ⟨rfl, TkQ.err HR.out ⟨rfl, HK.out⟩⟩
      · have HLG := Lib.hid hlong
        have HR := Lib.hid (show wordL x s = .inr (3, 0, x, s) from HT.out.trans (by unfold nameL; rw [if_pos rfl, if_neg Bool.false_ne_true, if_neg hlong]))
        clear hlong
        go_wp2_with fail
        refine (name_ok 3 (S x) _ (by rw [S_size]; have := HLG.out; omega)).mono ?_
        rintro e w5 ⟨rfl, hb⟩
        have HP5 := Lib.hid ((HP4.out.below ((Below.refl _ _).alloc (Nat.le_refl _) _)).below hb)
        clear hb
        obtain ⟨⟨c0, c1, c2⟩, f0, f1, f2⟩ := HP5.out.blk.facts
        have hlt := HP5.out.blk.lt
        go_wp2_with fail
        refine bodyPost_ret (v := .agg #[.int .i64 3, .int .i64 0, .string (S x)]) (by simp [results, Tryd.results49, go_sem, c0, c1, c2]) rfl ?_
        exact TkQ.ok HR.out rfl HP5.out.out
  · have HR := Lib.hid (show wordL x s = .inl er from by rw [HT.out, if_neg her])
    have hne : (er != 0) = true := by simpa using her
    clear her
    go_wp2_with fail
    exact ⟨rfl, TkQ.err HR.out ⟨rfl, HP4.out.kb.belows ((Below.refl _ _).alloc (Nat.le_refl _) _) HP4.out.size⟩⟩

theorem token_any {w0 w : World} {g cap : Nat} {A : Option Addr} {B l : List UInt8} (h : At w0 w g A cap B l) :
    Calls Tryd.prog 49 #[.pointer (some ⟨g, 0, none⟩)] w (TkQ (tokenL l) w0 w g A cap B) := by
  unfold tokenL
  match hl : skipL false l with
  | [] => exact token_nil h hl
  | c :: t =>
    show Calls Tryd.prog 49 #[.pointer (some ⟨g, 0, none⟩)] w (TkQ (tokenC c t) w0 w g A cap B)
    unfold tokenC
    by_cases m1 : c = 40
    · rw [if_pos m1]; subst m1; exact token_40 h hl
    by_cases m2 : c = 41
    · rw [if_neg m1, if_pos m2]; subst m2; exact token_41 h hl
    by_cases m3 : c = 60
    · rw [if_neg m1, if_neg m2, if_pos (.inl m3)]; subst m3; exact token_60 h hl
    by_cases m4 : c = 62
    · rw [if_neg m1, if_neg m2, if_pos (.inr m4)]; subst m4; exact token_62 h hl
    have m34 : ¬ (c = 60 ∨ c = 62) := fun e => e.elim m3 m4
    by_cases m5 : c = 123
    · rw [if_neg m1, if_neg m2, if_neg m34, if_pos m5]; subst m5; exact token_123 h hl
    by_cases m6 : c = 125
    · rw [if_neg m1, if_neg m2, if_neg m34, if_neg m5, if_pos m6]; subst m6; exact token_125 h hl
    by_cases m7 : c = 91
    · rw [if_neg m1, if_neg m2, if_neg m34, if_neg m5, if_neg m6, if_pos (.inl m7)]; subst m7; exact token_91 h hl
    by_cases m8 : c = 93
    · rw [if_neg m1, if_neg m2, if_neg m34, if_neg m5, if_neg m6, if_pos (.inr m8)]; subst m8; exact token_93 h hl
    have m78 : ¬ (c = 91 ∨ c = 93) := fun e => e.elim m7 m8
    by_cases m9 : c = 47
    · rw [if_neg m1, if_neg m2, if_neg m34, if_neg m5, if_neg m6, if_neg m78, if_pos m9]; subst m9; exact token_47 h hl
    rw [if_neg m1, if_neg m2, if_neg m34, if_neg m5, if_neg m6, if_neg m78, if_neg m9]
    exact token_word h hl m1 m2 m3 m4 m5 m6 m7 m8 m9 _ _ rfl rfl

end Go.Proofs.YtiocgpfnbmlfaaaDoor.SC

/-! ## SI -/
namespace Go.Proofs.YtiocgpfnbmlfaaaDoor.SC
open Go Go.RowKit Go.Proofs.YtiocgpfnbmlfaaaDoor Go.Proofs.YtiocgpfnbmlfaaaDoor.PS1 Go.Proofs.YtiocgpfnbmlfaaaDoor.QD Go.Proofs.YtiocgpfnbmlfaaaDoorW.PrintWords Go.Proofs.YtiocgpfnbmlfaaaDoorW.PrintLast

/-- the three results' blocks -/
def NBlk (b : Nat) (w : World) : Prop := w.heap[b]? = some (.cells #[.int .i64 0, .int .i64 0, .string ⟨#[]⟩] 27 (0, 0)) ∧ w.heap[b + 1]? = some (.cells #[.int .i64 0] 3 (0, 0)) ∧ w.heap[b + 1 + 1]? = some (.cells #[.int .i64 0] 28 (0, 0))

theorem NBlk.facts {b : Nat} {w : World} (h : NBlk b w) : (w.cell? ⟨b, 0, none⟩ = some (.int .i64 0) ∧ w.cell? ⟨b, 1, none⟩ = some (.int .i64 0) ∧ w.cell? ⟨b, 2, none⟩ = some (.string ⟨#[]⟩) ∧ w.cell? ⟨b + 1, 0, none⟩ = some (.int .i64 0) ∧ w.cell? ⟨b + 1 + 1, 0, none⟩ = some (.int .i64 0)) ∧
    (w.frozen? ⟨b, 0, none⟩ = false ∧ w.frozen? ⟨b, 1, none⟩ = false ∧ w.frozen? ⟨b, 2, none⟩ = false ∧ w.frozen? ⟨b + 1, 0, none⟩ = false ∧ w.frozen? ⟨b + 1 + 1, 0, none⟩ = false) := by
  obtain ⟨h0, h1, h2⟩ := h
  refine ⟨⟨?_, ?_, ?_, ?_, ?_⟩, Lib.frozen_of_heap h0 0, Lib.frozen_of_heap h0 1, Lib.frozen_of_heap h0 2, Lib.frozen_of_heap h1 0, Lib.frozen_of_heap h2 0⟩
  · rw [Lib.cell_of_heap h0]; rfl
  · rw [Lib.cell_of_heap h0]; rfl
  · rw [Lib.cell_of_heap h0]; rfl
  · rw [Lib.cell_of_heap h1]; rfl
  · rw [Lib.cell_of_heap h2]; rfl
/-- the world behind the closure that caught a panic -/
def caught (b : Nat) (er : Int) (w : World) : World :=
  ((((w.setCell ⟨b, 0, none⟩ (.int .i64 0)).setCell ⟨b, 1, none⟩ (.int .i64 0)).setCell ⟨b, 2, none⟩ (.string ⟨#[]⟩)).setCell ⟨b + 1, 0, none⟩ (.int .i64 0)).setCell ⟨b + 1 + 1, 0, none⟩ (.int .i64 er)

set_option maxHeartbeats 1000000 in
set_option maxRecDepth 100000 in
theorem catch_gave (b : Nat) (er : Int) (older : List PanicEntry) (w : World) (h : NBlk b w) :
    CallsD Tryd.prog 48 #[.pointer (some ⟨b, 0, none⟩), .pointer (some ⟨b + 1, 0, none⟩), .pointer (some ⟨b + 1 + 1, 0, none⟩)] (.panicking ({ v := .iface 28 (.int .i64 er), recovered := false } :: older)) w fun e u' w' =>
      e = .returned (.tuple #[]) ∧ u' = .panicking ({ v := .iface 28 (.int .i64 er), recovered := true } :: older) ∧ w' = caught b er w := by
  obtain ⟨⟨c0, c1, c2, c3, c4⟩, f0, f1, f2, f3, f4⟩ := h.facts
  clear h
  have hta : ∀ w, (Instr.typeAssert (.iface 28 (.int .i64 er)) 20 28 true).run Tryd.prog w = .ok (.tuple #[.int .i64 er, .bool true]) w := fun _ => by kernel_rfl
  refine callsD_of_wpS Tryd.func48 rfl fun c₀ cs hu => ?_
  apply wpS_seq
  apply wpS_region
  simp [wpOpsS, go_sem, recoverD, hu, Tryd.ntmps48, Exit.thenS]
  refine wpS_of_wp ?_
  generalize hQ : (fun (e : Exit) (a' : Act) (w' : World) => bodyPostS Tryd.prog Tryd.f48 c₀ cs _ e a' _ w') = Q
  clear hu
  have HQ := Lib.hid hQ
  clear hQ
  rw [show (#[Value.pointer (some ⟨b, 0, none⟩), Value.pointer (some ⟨b + 1, 0, none⟩), Value.pointer (some ⟨b + 1 + 1, 0, none⟩)] ++ ((Array.replicate 16 undef).setIfInBounds 3 (Value.iface 28 (Value.int IntKind.i64 er))).setIfInBounds 0 (Value.iface 28 (Value.int IntKind.i64 er)) : Array Value) =
    #[Value.pointer (some ⟨b, 0, none⟩), Value.pointer (some ⟨b + 1, 0, none⟩), Value.pointer (some ⟨b + 1 + 1, 0, none⟩), Value.iface 28 (Value.int IntKind.i64 er), undef, undef, Value.iface 28 (Value.int IntKind.i64 er), undef, undef, undef, undef, undef, undef, undef, undef, undef, undef, undef, undef] from rfl]
  go_wp2_with fail
  rw [← HQ.out]
  simp [bodyPostS, results, Tryd.results48, caught]

set_option maxHeartbeats 1000000 in
set_option maxRecDepth 100000 in
theorem catch_none (p0 p1 p2 : Value) (w : World) :
    CallsD Tryd.prog 48 #[p0, p1, p2] .returning w fun e u' w' => e = .returned (.tuple #[]) ∧ u' = .returning ∧ w' = w := by
  refine callsD_of_wpS Tryd.func48 rfl fun c₀ cs hu => ?_
  apply wpS_seq
  apply wpS_region
  simp [wpOpsS, go_sem, recoverD, hu, Tryd.ntmps48, Exit.thenS]
  refine wpS_of_wp ?_
  generalize hQ : (fun (e : Exit) (a' : Act) (w' : World) => bodyPostS Tryd.prog Tryd.f48 c₀ cs _ e a' _ w') = Q
  have HU := Lib.hid hu
  clear hu
  have HQ := Lib.hid hQ
  clear hQ
  rw [show (#[p0, p1, p2] ++ ((Array.replicate 16 undef).setIfInBounds 3 Value.nilIface).setIfInBounds 0 Value.nilIface : Array Value) =
    #[p0, p1, p2, Value.nilIface, undef, undef, Value.nilIface, undef, undef, undef, undef, undef, undef, undef, undef, undef, undef, undef, undef] from rfl]
  go_wp2_with fail
  rw [← HQ.out]
  cases c₀
  have := HU.out
  simp_all [bodyPostS, results, Tryd.results48]

def NextTQ (k n : Int) (x : List UInt8) (q : Int) (er : Int) (w : World) (e : Ending) (w' : World) : Prop :=
  e = .returned (.tuple #[.agg #[.int .i64 k, .int .i64 n, .string (S x)], .int .i64 q, .int .i64 er]) ∧ Below w.heap.size w w'

set_option maxHeartbeats 1000000 in
set_option maxRecDepth 100000 in
theorem nextT_bad (A : Option Addr) (n cap : Nat) (p : Int) (w : World) (h : p < 0 ∨ (0 ≤ p ∧ (n : Int) < p)) :
    Calls Tryd.prog 24 #[.slice A n cap, .int .i64 p] w (NextTQ 0 0 [] 0 21 w) := by
  rcases h with h | ⟨h0, h⟩
  · go_enter_defers Tryd.func24, Tryd.ntmps24
    go_wp2_with fail
    simp [bodyPostD, Leaves, results, Tryd.results24, go_sem, NextTQ, S]
    exact (((Below.refl _ _).alloc (Nat.le_refl _) _).alloc (by simp) _).alloc (by simp; omega) _
  · have h1 : ¬ p < 0 := by omega
    clear h0
    go_enter_defers Tryd.func24, Tryd.ntmps24
    go_wp2_with fail
    simp [bodyPostD, Leaves, results, Tryd.results24, go_sem, NextTQ, S]
    exact (((Below.refl _ _).alloc (Nat.le_refl _) _).alloc (by simp) _).alloc (by simp; omega) _

/-- the world when the reader stands -/
def stand (w : World) (A : Option Addr) (n cap p : Nat) : World :=
  (((w.alloc (.cells #[.int .i64 0, .int .i64 0, .string ⟨#[]⟩] 27)).alloc (.cells #[.int .i64 0] 3)).alloc (.cells #[.int .i64 0] 28)).alloc (.cells #[.slice A n cap, .int .i64 (p : Int)] 71)
theorem stand_below (w : World) (A : Option Addr) (n cap p : Nat) : Below w.heap.size w (stand w A n cap p) :=
  ((((Below.refl _ _).alloc (Nat.le_refl _) _).alloc (by simp) _).alloc (by simp; omega) _).alloc (by simp; omega) _
theorem stand_at {w : World} {A : Option Addr} {n cap p : Nat} {B : List UInt8} (hrow : (Kd.int .u8).C w A B.length (bI B)) (hn : B.length = n) (hcap : B.length ≤ cap) (hp : p ≤ B.length) (hs : B.length ≤ 140737488351232) :
    At w (stand w A n cap p) (w.heap.size + 1 + 1 + 1) A cap B (B.drop p) := by
  subst hn
  refine ⟨⟨?_, by omega, stand_below ..⟩, hrow, List.drop_suffix _ _, hs, hcap⟩
  have : B.length - (B.drop p).length = p := by rw [List.length_drop]; omega
  rw [this]
  have := heap_alloc_new (((w.alloc (.cells #[.int .i64 0, .int .i64 0, .string ⟨#[]⟩] 27)).alloc (.cells #[.int .i64 0] 3)).alloc (.cells #[.int .i64 0] 28)) (.cells #[.slice A B.length cap, .int .i64 (p : Int)] 71)
  simpa [Rd, stand] using this
theorem stand_blk (w : World) (A : Option Addr) (n cap p : Nat) : NBlk w.heap.size (stand w A n cap p) := by
  have s1 : (w.alloc (.cells #[.int .i64 0, .int .i64 0, .string ⟨#[]⟩] 27)).heap.size = w.heap.size + 1 := by simp
  have s2 : ((w.alloc (.cells #[.int .i64 0, .int .i64 0, .string ⟨#[]⟩] 27)).alloc (.cells #[.int .i64 0] 3)).heap.size = w.heap.size + 1 + 1 := by simp
  have s3 : (((w.alloc (.cells #[.int .i64 0, .int .i64 0, .string ⟨#[]⟩] 27)).alloc (.cells #[.int .i64 0] 3)).alloc (.cells #[.int .i64 0] 28)).heap.size = w.heap.size + 1 + 1 + 1 := by simp
  have h0 := heap_alloc_new w (.cells #[.int .i64 0, .int .i64 0, .string ⟨#[]⟩] 27)
  have h1 := heap_alloc_new (w.alloc (.cells #[.int .i64 0, .int .i64 0, .string ⟨#[]⟩] 27)) (.cells #[.int .i64 0] 3)
  have h2 := heap_alloc_new ((w.alloc (.cells #[.int .i64 0, .int .i64 0, .string ⟨#[]⟩] 27)).alloc (.cells #[.int .i64 0] 3)) (.cells #[.int .i64 0] 28)
  rw [s1] at h1
  rw [s2] at h2
  unfold stand
  refine ⟨?_, ?_, ?_⟩
  · rw [Below.heap_alloc _ _ _ (by omega), Below.heap_alloc _ _ _ (by omega), Below.heap_alloc _ _ _ (by omega)]; exact h0
  · rw [Below.heap_alloc _ _ _ (by omega), Below.heap_alloc _ _ _ (by omega)]; exact h1
  · rw [Below.heap_alloc _ _ _ (by omega)]; exact h2
theorem stand_size (w : World) (A : Option Addr) (n cap p : Nat) : (stand w A n cap p).heap.size = w.heap.size + 1 + 1 + 1 + 1 := by simp [stand]
theorem NBlk.kept {b g : Nat} {w w' : World} (h : NBlk b w) (hk : Kb g w.heap.size w w') (hg : b + 1 + 1 < g) (hs : b + 1 + 1 < w.heap.size) : NBlk b w' :=
  ⟨(hk.block _ (by omega) (by omega)).trans h.1, (hk.block _ (by omega) (by omega)).trans h.2.1, (hk.block _ hs (by omega)).trans h.2.2⟩

theorem blk_set3 {w : World} {b : Nat} {x0 x1 x2 : Value} {t : TypeId} {fr : Nat × Nat} (h : w.heap[b]? = some (.cells #[x0, x1, x2] t fr)) (y0 y1 y2 : Value) :
    (((w.setCell ⟨b, 0, none⟩ y0).setCell ⟨b, 1, none⟩ y1).setCell ⟨b, 2, none⟩ y2).heap[b]? = some (.cells #[y0, y1, y2] t fr) := by
  simp only [World.setCell, Array.getElem?_modify, if_true, h]
  rfl
theorem blk_set1 {w : World} {b : Nat} {x0 : Value} {t : TypeId} {fr : Nat × Nat} (h : w.heap[b]? = some (.cells #[x0] t fr)) (y0 : Value) : (w.setCell ⟨b, 0, none⟩ y0).heap[b]? = some (.cells #[y0] t fr) := by
  simp only [World.setCell, Array.getElem?_modify, if_true, h]
  rfl
theorem blk_far {w : World} {b b' o : Nat} {v : Value} (h : b ≠ b') : (w.setCell ⟨b', o, none⟩ v).heap[b]? = w.heap[b]? := Below.heap_setCell w ⟨b', o, none⟩ v b h
/-- the results, behind the last statement -/
def told (b : Nat) (k z q x : Value) (w : World) : World :=
  (((((((w.setCell ⟨b, 0, none⟩ k).setCell ⟨b, 1, none⟩ z).setCell ⟨b, 2, none⟩ x).setCell ⟨b, 0, none⟩ k).setCell ⟨b, 1, none⟩ z).setCell ⟨b, 2, none⟩ x).setCell ⟨b + 1, 0, none⟩ q).setCell ⟨b + 1 + 1, 0, none⟩ (.int .i64 0)
theorem told_cells {b : Nat} {w : World} (h : NBlk b w) (k z q x : Value) : (told b k z q x w).cell? ⟨b, 0, none⟩ = #[k, z, x][0]? ∧ (told b k z q x w).cell? ⟨b, 1, none⟩ = #[k, z, x][1]? ∧ (told b k z q x w).cell? ⟨b, 2, none⟩ = #[k, z, x][2]? ∧
    (told b k z q x w).cell? ⟨b + 1, 0, none⟩ = #[q][0]? ∧ (told b k z q x w).cell? ⟨b + 1 + 1, 0, none⟩ = #[Value.int .i64 0][0]? := by
  obtain ⟨h0, h1, h2⟩ := h
  have e0 : (told b k z q x w).heap[b]? = some (.cells #[k, z, x] 27 (0, 0)) := by
    unfold told
    rw [blk_far (by omega), blk_far (by omega)]
    exact blk_set3 (blk_set3 h0 _ _ _) _ _ _
  have e1 : (told b k z q x w).heap[b + 1]? = some (.cells #[q] 3 (0, 0)) := by
    unfold told
    rw [blk_far (by omega)]
    refine blk_set1 (x0 := .int .i64 0) ?_ _
    rw [blk_far (by omega), blk_far (by omega), blk_far (by omega), blk_far (by omega), blk_far (by omega), blk_far (by omega)]
    exact h1
  have e2 : (told b k z q x w).heap[b + 1 + 1]? = some (.cells #[.int .i64 0] 28 (0, 0)) := by
    unfold told
    refine blk_set1 (x0 := .int .i64 0) ?_ _
    rw [blk_far (by omega), blk_far (by omega), blk_far (by omega), blk_far (by omega), blk_far (by omega), blk_far (by omega), blk_far (by omega)]
    exact h2
  exact ⟨Lib.cell_of_heap e0 0, Lib.cell_of_heap e0 1, Lib.cell_of_heap e0 2, Lib.cell_of_heap e1 0, Lib.cell_of_heap e2 0⟩
theorem told_below {b : Nat} {w : World} (k z q x : Value) {w0 : World} (h : Below b w0 w) : Below b w0 (told b k z q x w) :=
  (((((((h.setCell (p := ⟨b, 0, none⟩) (Nat.le_refl _) _).setCell (p := ⟨b, 1, none⟩) (Nat.le_refl _) _).setCell (p := ⟨b, 2, none⟩) (Nat.le_refl _) _).setCell (p := ⟨b, 0, none⟩) (Nat.le_refl _) _).setCell (p := ⟨b, 1, none⟩) (Nat.le_refl _) _).setCell (p := ⟨b, 2, none⟩) (Nat.le_refl _) _).setCell (p := ⟨b + 1, 0, none⟩) (Nat.le_succ _) _).setCell (p := ⟨b + 1 + 1, 0, none⟩) (Nat.le_succ_of_le (Nat.le_succ _)) _

/-- what Next answers -/
def nextL (r : TkR) (n : Nat) : Int × Int × List UInt8 × Int × Int :=
  match r with
  | .inl er => (0, 0, [], 0, er)
  | .inr (k, z, x, s) => (k, z, x, ((n - s.length : Nat) : Int), 0)

set_option maxHeartbeats 2000000 in
set_option maxRecDepth 100000 in
theorem nextT_any (A : Option Addr) (n cap p : Nat) (B : List UInt8) (w : World) (hrow : (Kd.int .u8).C w A B.length (bI B)) (hn : B.length = n) (hcap : B.length ≤ cap) (hp : p ≤ n) (hs : n ≤ 140737488351232) (r : TkR) (hr : tokenL (B.drop p) = r) :
    Calls Tryd.prog 24 #[.slice A n cap, .int .i64 (p : Int)] w (NextTQ (nextL r n).1 (nextL r n).2.1 (nextL r n).2.2.1 (nextL r n).2.2.2.1 (nextL r n).2.2.2.2 w) := by
  have hmf : ∀ (fn : Fn) (first cap : Array Value) (w : World), (Instr.makeFunc fn first cap).run Tryd.prog w = .ok (.func fn first cap) w := fun _ _ _ _ => rfl
  have HA := Lib.hid (stand_at (p := p) hrow hn hcap (by omega) (by omega))
  have HN := Lib.hid hn
  have HR := Lib.hid hr
  have p0 : ¬ ((p : Int) < 0) := by omega
  have p1 : ¬ ((n : Int) < (p : Int)) := by omega
  clear hrow hn hcap hr
  go_enter_defers Tryd.func24, Tryd.ntmps24
  go_wp2_with fail
  have HT := token_any HA.out
  rw [HR.out] at HT
  refine HT.mono ?_
  clear HT
  rintro e w1 hq
  rcases tkQ_cases hq with ⟨er, hr, rfl, hk⟩ | ⟨k, z, x, s, hr, rfl, ha, hk⟩
  · have hNB := (stand_blk w A n cap p).kept hk (by omega) (by rw [stand_size]; omega)
    have HB := Lib.hid ((stand_below w A n cap p).trans (hk.below (by omega) (by rw [stand_size]; omega)))
    subst hr
    clear hk hq
    go_wp2_with fail
    refine leaves_cons (f := 48) (args := #[.pointer (some ⟨w.heap.size, 0, none⟩), .pointer (some ⟨w.heap.size + 1, 0, none⟩), .pointer (some ⟨w.heap.size + 1 + 1, 0, none⟩)]) (by simp) (by simp [go_sem]) ?_
    refine (catch_gave w.heap.size er [] w1 hNB).mono ?_
    rintro e u' w'' ⟨rfl, rfl, rfl⟩
    obtain ⟨⟨c0, c1, c2, c3, c4⟩, f0, f1, f2, f3, f4⟩ := hNB.facts
    simp [Leaves, settle, results, Tryd.results24, go_sem, caught, c0, c1, c2, c3, c4, NextTQ, nextL, S]
    exact ((((HB.out.setCell (p := ⟨w.heap.size, 0, none⟩) (Nat.le_refl _) _).setCell (p := ⟨w.heap.size, 1, none⟩) (Nat.le_refl _) _).setCell (p := ⟨w.heap.size, 2, none⟩) (Nat.le_refl _) _).setCell (p := ⟨w.heap.size + 1, 0, none⟩) (Nat.le_succ _) _).setCell (p := ⟨w.heap.size + 1 + 1, 0, none⟩) (Nat.le_succ_of_le (Nat.le_succ _)) _
  · have hNB := (stand_blk w A n cap p).kept hk (by omega) (by rw [stand_size]; omega)
    have HB := Lib.hid ((stand_below w A n cap p).trans (hk.below (by omega) (by rw [stand_size]; omega)))
    have HA2 := Lib.hid ha
    have HNB := Lib.hid hNB
    obtain ⟨⟨c0, c1, c2, c3, c4⟩, f0, f1, f2, f3, f4⟩ := hNB.facts
    obtain ⟨⟨k0, k1⟩, l0, l1⟩ := ha.st.blk.facts
    subst hr
    clear hk hq ha hNB
    go_wp2_with fail
    go_region
    go_wp2_with fail
    refine leaves_cons (f := 48) (args := #[.pointer (some ⟨w.heap.size, 0, none⟩), .pointer (some ⟨w.heap.size + 1, 0, none⟩), .pointer (some ⟨w.heap.size + 1 + 1, 0, none⟩)]) (by simp) (by simp [go_sem]) ?_
    refine (catch_none _ _ _ _).mono ?_
    rintro e u' w'' ⟨rfl, rfl, rfl⟩
    have ht := told_cells HNB.out (.int .i64 k) (.int .i64 z) (.int .i64 ((B.length - s.length : Nat) : Int)) (.string (S x))
    have hb := told_below (.int .i64 k) (.int .i64 z) (.int .i64 ((B.length - s.length : Nat) : Int)) (.string (S x)) HB.out
    unfold told at ht hb
    have HB2 := Lib.hid hb
    clear hb c0 c1 c2 c3 c4 f0 f1 f2 f3 f4 k0 k1 l0 l1
    rw [← HN.out]
    generalize ((((((((w1.setCell ⟨w.heap.size, 0, none⟩ (Value.int .i64 k)).setCell ⟨w.heap.size, 1, none⟩ (Value.int .i64 z)).setCell ⟨w.heap.size, 2, none⟩ (Value.string (S x))).setCell ⟨w.heap.size, 0, none⟩ (Value.int .i64 k)).setCell ⟨w.heap.size, 1, none⟩ (Value.int .i64 z)).setCell ⟨w.heap.size, 2, none⟩ (Value.string (S x))).setCell ⟨w.heap.size + 1, 0, none⟩ (Value.int .i64 ((B.length - s.length : Nat) : Int))).setCell ⟨w.heap.size + 1 + 1, 0, none⟩ (Value.int .i64 0)) = W at *
    obtain ⟨c0, c1, c2, c3, c4⟩ := ht
    simp [Leaves, settle, results, Tryd.results24, go_sem, c0, c1, c2, c3, c4, NextTQ, nextL]
    exact HB2.out.drew

end Go.Proofs.YtiocgpfnbmlfaaaDoor.SC

/-! ## SJ -/
namespace Go.Proofs.YtiocgpfnbmlfaaaDoor.SC
open Go Go.RowKit Go.Proofs.YtiocgpfnbmlfaaaDoor Go.Proofs.YtiocgpfnbmlfaaaDoor.PS1 Go.Proofs.YtiocgpfnbmlfaaaDoor.QD Go.Proofs.YtiocgpfnbmlfaaaDoorW.PrintWords Go.Proofs.YtiocgpfnbmlfaaaDoorW.PrintLast

/-- numbers as bytes -/
def unI (l : List Int) : List UInt8 := l.map fun n => UInt8.ofNat n.toNat
def isB (l : List Int) : Prop := ∀ x ∈ l, 0 ≤ x ∧ x < 256
instance (l : List Int) : Decidable (isB l) := by unfold isB; infer_instance
theorem bI_un (l : List Int) (h : isB l) : bI (unI l) = l := by
  unfold bI unI
  rw [List.map_map]
  conv => rhs; rw [← List.map_id l]
  refine List.map_congr_left fun x hx => ?_
  obtain ⟨h1, h2⟩ := h x hx
  simp only [Function.comp, id_eq, UInt8.toNat_ofNat']
  omega
theorem un_bI (l : List UInt8) : unI (bI l) = l := by
  unfold bI unI
  rw [List.map_map]
  conv => rhs; rw [← List.map_id l]
  refine List.map_congr_left fun x hx => ?_
  simp
theorem bI_isB (l : List UInt8) : isB (bI l) := by
  intro x hx
  unfold bI at hx
  obtain ⟨c, _, rfl⟩ := List.mem_map.1 hx
  have := c.toNat_lt
  omega
theorem unI_len (l : List Int) : (unI l).length = l.length := by simp [unI]
/-- what Next answers at any place -/
def nextP (B : List UInt8) (p : Int) : Int × Int × List UInt8 × Int × Int :=
  if p < 0 ∨ (B.length : Int) < p then (0, 0, [], 0, 21) else nextL (tokenL (B.drop p.toNat)) B.length
theorem nextP_any (A : Option Addr) (cap : Nat) (B : List UInt8) (p : Int) (w : World) (hrow : (Kd.int .u8).C w A B.length (bI B)) (hcap : B.length ≤ cap) (hs : B.length ≤ 140737488351232) :
    Calls Tryd.prog 24 #[.slice A B.length cap, .int .i64 p] w (NextTQ (nextP B p).1 (nextP B p).2.1 (nextP B p).2.2.1 (nextP B p).2.2.2.1 (nextP B p).2.2.2.2 w) := by
  unfold nextP
  by_cases h : p < 0 ∨ (B.length : Int) < p
  · rw [if_pos h]
    exact nextT_bad A B.length cap p w (by omega)
  · rw [if_neg h]
    obtain ⟨q, rfl⟩ : ∃ q : Nat, p = (q : Int) := ⟨p.toNat, by omega⟩
    rw [Int.toNat_natCast]
    exact nextT_any A B.length cap q B w hrow rfl hcap (by omega) hs _ rfl

end Go.Proofs.YtiocgpfnbmlfaaaDoor.SC
namespace Go.Proofs.YtiocgpfnbmlfaaaDoor
open Go Go.RowKit Go.Proofs.YtiocgpfnbmlfaaaDoorW.PrintWords

def scan_Next.f (l0 : List Int) (a1 : Int) : Option (Int × Int × ByteArray × Int × Int) :=
  if SC.isB l0 ∧ l0.length ≤ 140737488351232 then some ((SC.nextP (SC.unI l0) a1).1, (SC.nextP (SC.unI l0) a1).2.1, QD.S (SC.nextP (SC.unI l0) a1).2.2.1, (SC.nextP (SC.unI l0) a1).2.2.2.1, (SC.nextP (SC.unI l0) a1).2.2.2.2) else none
theorem scan_Next.calls (A0 : Option Addr) (c0 : Nat) (l0 : List Int) (a1 : Int) (r1 r2 : Int) (r3 : ByteArray) (r4 r5 : Int) (w : World) (hr0 : Kd.C (Kd.int .u8) w A0 l0.length l0) (hc0 : l0.length ≤ c0) (h : scan_Next.f l0 a1 = some (r1, r2, r3, r4, r5)) :
    Calls Tryd.prog 24 #[.slice A0 l0.length c0, .int .i64 a1] w fun e w' => e = .returned (.tuple #[.agg #[.int .i64 r1, .int .i64 r2, .string r3], .int .i64 r4, .int .i64 r5]) ∧ Below w.heap.size w w' := by
  unfold scan_Next.f at h
  split at h
  · rename_i hb
    simp only [Option.some.injEq, Prod.mk.injEq] at h
    obtain ⟨rfl, rfl, rfl, rfl, rfl⟩ := h
    have hun := SC.bI_un l0 hb.1
    have := SC.nextP_any A0 c0 (SC.unI l0) a1 w (by rw [hun, SC.unI_len]; exact hr0) (by rw [SC.unI_len]; exact hc0) (by rw [SC.unI_len]; exact hb.2)
    rw [SC.unI_len] at this
    exact this
  · cases h

end Go.Proofs.YtiocgpfnbmlfaaaDoor

/-! ## SK -/
namespace Go.Proofs.YtiocgpfnbmlfaaaDoor.SC
open Go Go.RowKit Go.Proofs.YtiocgpfnbmlfaaaDoor Go.Proofs.YtiocgpfnbmlfaaaDoor.PS1 Go.Proofs.YtiocgpfnbmlfaaaDoor.QD Go.Proofs.YtiocgpfnbmlfaaaDoorW.PrintWords Go.Proofs.YtiocgpfnbmlfaaaDoorW.PrintLast

/-- bytes just made, as a row that is read -/
theorem row_fresh (W : World) (l : List UInt8) (hl : l.length ≤ 140737488351232) (fr : Nat × Nat) : (Kd.int .u8).C (W.alloc (.cells ((bI l).map (Value.int .u8)).toArray 5 fr)) (some ⟨W.heap.size, 0, none⟩) l.length (bI l) := by
  refine Kd.C_of_reads (enc := Value.int .u8) (d := (0 : Int)) (h1 := fun _ => rfl) ⟨bI_len l, by omega, fun _ => ⟨_, rfl, fun j hj => ?_⟩⟩
  have hb := heap_alloc_new W (.cells ((bI l).map (Value.int .u8)).toArray 5 fr)
  have ha : (⟨W.heap.size, 0, none⟩ : Addr).add j = ⟨W.heap.size, 0 + j, none⟩ := by
    simp [Addr.add]
    intro h; exact h.symm
  rw [ha, Lib.cell_of_heap hb, Nat.zero_add]
  have hj' : j < (bI l).length := by rw [bI_len]; exact hj
  simp [List.getD, hj']

theorem answer_text : nextP [40, 97, 41, 32, 98] 0 = (6, 0, [97], 3, 0) := by
  have h : tokenL [40, 97, 41, 32, 98] = .inr (6, 0, [97], [32, 98]) := by
    have hs : skipL false [40, 97, 41, 32, 98] = [40, 97, 41, 32, 98] := by decide
    unfold tokenL
    rw [hs]
    show strL (rnd 1 [97, 41, 32, 98]) = _
    rw [rnd_put 1 97 _ (by decide) (by decide) (by decide)]
    show strL ((rnd 1 [41, 32, 98]).map _) = _
    rw [rnd_close]
    rfl
  unfold nextP
  rw [if_neg (by decide)]
  show nextL (tokenL [40, 97, 41, 32, 98]) 5 = _
  rw [h]
  rfl

set_option maxHeartbeats 2000000 in
set_option maxRecDepth 100000 in
theorem answers_any (w : World) : Calls Tryd.prog 23 #[] w fun e w' => e = .returned (.bool true) ∧ Below w.heap.size w w' := by
  have HN := nextP_any (some ⟨w.heap.size, 0, none⟩) 5 [40, 97, 41, 32, 98] 0 (w.alloc (.cells ((bI [40, 97, 41, 32, 98]).map (Value.int .u8)).toArray 5 (5, 6))) (row_fresh w _ (by decide) _) (by decide) (by decide)
  have kc := fun (w : World) (C : Array Value) (n c : Nat) => Lib.run_convert_bytes_const (P := Tryd.prog) w 32 5 C n c Tryd.underlying32 Tryd.underlying5
  rw [answer_text] at HN
  replace HN := Lib.hid HN
  go_enter Tryd.func23, Tryd.ntmps23
  go_wp2_with fail
  refine HN.out.mono ?_
  rintro e w1 ⟨rfl, hb⟩
  have HB := Lib.hid (show Below w.heap.size w w1 from ((Below.refl _ _).alloc (Nat.le_refl _) _).trans (hb.mono (by simp)))
  clear hb
  go_wp2_with fail
  go_ret
  have e97 : (S [97]).toList = [97] := S_list _
  refine ⟨?_, HB.out.trans ((Below.refl _ _).alloc HB.out.size _)⟩
  show Ending.returned (.bool ((S [97]).toList == [97])) = _
  rw [e97]
  rfl

end Go.Proofs.YtiocgpfnbmlfaaaDoor.SC
namespace Go.Proofs.YtiocgpfnbmlfaaaDoor
open Go Go.RowKit Go.Proofs.YtiocgpfnbmlfaaaDoorW.PrintWords

def mezzotintlaw04_answers.f : Option Bool := some true
theorem mezzotintlaw04_answers.calls (r : Bool) (w : World) (h : mezzotintlaw04_answers.f = some r) : Calls Tryd.prog 23 #[] w fun e w' => e = .returned (.bool r) ∧ Below w.heap.size w w' := by
  obtain rfl : true = r := Option.some.inj h
  exact SC.answers_any w

end Go.Proofs.YtiocgpfnbmlfaaaDoor

/-! ## BL -/
namespace Go.Proofs.YtiocgpfnbmlfaaaDoor.SC
open Go Go.RowKit Go.Proofs.YtiocgpfnbmlfaaaDoor Go.Proofs.YtiocgpfnbmlfaaaDoor.PS1 Go.Proofs.YtiocgpfnbmlfaaaDoor.QD Go.Proofs.YtiocgpfnbmlfaaaDoorW.PrintWords Go.Proofs.YtiocgpfnbmlfaaaDoorW.PrintLast

def wordsB : List (List UInt8) := [[97], [47, 98], [47, 47, 99], [40, 100, 32, 101, 41], [60, 48, 102, 62], [123], [125], [91], [93], [49, 50], [45, 49, 46, 53], [49, 54, 35, 97], [60, 60], [62, 62], [47]]
def fillB : List (List UInt8) := [[32], [10], [9, 13, 10], [37, 99, 10], [32, 37, 40, 32, 13, 32], [0], [12, 37, 37, 100, 12]]
def WB (i : Nat) : List UInt8 := wordsB.getD (i % 15) []
def FB (g : Nat) : List UInt8 := fillB.getD (g % 7) []

/-- what stands behind a word: nothing, a blank, or a comment -/
def sepB : List UInt8 → Prop
  | [] => True
  | c :: _ => blankB c = true ∨ c = 37
theorem sep_fin : ∀ c : Fin 256, (blankN c.val = true ∨ c.val = 37) → regN c.val = false ∧ c.val ≠ 47 ∧ c.val ≠ 60 ∧ c.val ≠ 62 := by decide +kernel
theorem sep_head {c : UInt8} (h : blankB c = true ∨ c = 37) : regB c = false ∧ c ≠ 47 ∧ c ≠ 60 ∧ c ≠ 62 := by
  have := sep_fin ⟨c.toNat, c.toNat_lt⟩ (h.imp id fun e => by rw [e]; rfl)
  exact ⟨this.1, fun e => this.2.1 (by rw [e]; rfl), fun e => this.2.2.1 (by rw [e]; rfl), fun e => this.2.2.2 (by rw [e]; rfl)⟩
theorem take_reg (w s : List UInt8) (hw : w.all regB = true) (hs : sepB s) : (w ++ s).takeWhile regB = w ∧ (w ++ s).dropWhile regB = s := by
  induction w with
  | nil =>
    cases s with
    | nil => exact ⟨rfl, rfl⟩
    | cons c t =>
      have := (sep_head hs).1
      simp [this]
  | cons c t ih =>
    simp only [List.all_cons, Bool.and_eq_true] at hw
    have := ih hw.2
    simp [hw.1, this]
theorem skip_fill (g : Nat) (s : List UInt8) : skipL false (FB g ++ s) = skipL false s := by
  have h : ∀ f ∈ fillB, skipL false (f ++ s) = skipL false s := by
    intro f hf
    simp only [fillB, List.mem_cons, List.not_mem_nil, or_false] at hf
    rcases hf with rfl | rfl | rfl | rfl | rfl | rfl | rfl <;> rfl
  refine h _ ?_
  unfold FB
  have hl : g % 7 < fillB.length := by show g % 7 < 7; omega
  rw [List.getD, List.getElem?_eq_getElem hl]
  exact List.getElem_mem hl
theorem sep_fill (g : Nat) (s : List UInt8) : sepB (FB g ++ s) := by
  have h : ∀ f ∈ fillB, sepB (f ++ s) := by
    intro f hf
    simp only [fillB, List.mem_cons, List.not_mem_nil, or_false] at hf
    rcases hf with rfl | rfl | rfl | rfl | rfl | rfl | rfl
    all_goals first | exact Or.inl (by decide) | exact Or.inr rfl
  refine h _ ?_
  unfold FB
  have hl : g % 7 < fillB.length := by show g % 7 < 7; omega
  rw [List.getD, List.getElem?_eq_getElem hl]
  exact List.getElem_mem hl
theorem tok_word : ∀ w ∈ wordsB, ∃ (k z : Int) (x : List UInt8), ∀ s, sepB s → tokenL (w ++ s) = .inr (k, z, x, s) := by
  intro w hw
  have reg : ∀ (w : List UInt8) (c : UInt8) (t : List UInt8), w = c :: t → w.all regB = true → (¬ blankB c = true ∧ c ≠ 37 ∧ c ≠ 40 ∧ c ≠ 41 ∧ c ≠ 60 ∧ c ≠ 62 ∧ c ≠ 123 ∧ c ≠ 125 ∧ c ≠ 91 ∧ c ≠ 93 ∧ c ≠ 47) → ∀ s, sepB s → tokenL (w ++ s) = wordL w s := by
    intro w c t hw hr ⟨hb, h1, h2, h3, h4, h5, h6, h7, h8, h9, h10⟩ s hs
    have ht := take_reg w s hr hs
    subst hw
    have hsk : skipL false ((c :: t) ++ s) = c :: (t ++ s) := by
      show skipL false (c :: (t ++ s)) = _
      rw [skipL, if_neg hb, if_neg h1]
    unfold tokenL
    rw [hsk]
    simp only
    unfold tokenC
    rw [if_neg h2, if_neg h3, if_neg (fun e => e.elim h4 h5), if_neg h6, if_neg h7, if_neg (fun e => e.elim h8 h9), if_neg h10]
    show wordL (((c :: t) ++ s).takeWhile regB) (((c :: t) ++ s).dropWhile regB) = _
    rw [ht.1, ht.2]
  simp only [wordsB, List.mem_cons, List.not_mem_nil, or_false] at hw
  rcases hw with rfl | rfl | rfl | rfl | rfl | rfl | rfl | rfl | rfl | rfl | rfl | rfl | rfl | rfl | rfl
  · exact ⟨3, 0, [97], fun s hs => (reg _ _ _ rfl (by decide) (by decide) s hs).trans (by rfl)⟩
  · refine ⟨4, 0, [98], fun s hs => ?_⟩
    have ht := take_reg [98] s (by decide) hs
    show (nameL 4 (([98] ++ s).takeWhile regB) (([98] ++ s).dropWhile regB) : TkR) = _
    rw [ht.1, ht.2]; rfl
  · refine ⟨5, 0, [99], fun s hs => ?_⟩
    have ht := take_reg [99] s (by decide) hs
    show (nameL 5 (([99] ++ s).takeWhile regB) (([99] ++ s).dropWhile regB) : TkR) = _
    rw [ht.1, ht.2]; rfl
  · refine ⟨6, 0, [100, 32, 101], fun s _ => ?_⟩
    show strL (rnd 1 ([100, 32, 101, 41] ++ s)) = _
    simp only [List.cons_append, List.nil_append]
    rw [rnd_put 1 100 _ (by decide) (by decide) (by decide), if_neg (by decide), if_neg (by decide), rnd_put 1 32 _ (by decide) (by decide) (by decide), if_neg (by decide), if_neg (by decide), rnd_put 1 101 _ (by decide) (by decide) (by decide), if_neg (by decide), if_neg (by decide), rnd_close]
    rfl
  · refine ⟨6, 0, [15], fun s _ => ?_⟩
    show strL (hx none (48 :: 102 :: 62 :: s)) = _
    rfl
  · exact ⟨7, 0, [], fun s _ => rfl⟩
  · exact ⟨8, 0, [], fun s _ => rfl⟩
  · exact ⟨3, 0, [91], fun s _ => rfl⟩
  · exact ⟨3, 0, [93], fun s _ => rfl⟩
  · exact ⟨1, 12, [], fun s hs => (reg _ _ _ rfl (by decide) (by decide) s hs).trans (by rfl)⟩
  · have h : tokL [45, 49, 46, 53] = (2, -98304, true, 0) := by decide +kernel
    exact ⟨2, -98304, [], fun s hs => (reg _ _ _ rfl (by decide) (by decide) s hs).trans (by unfold wordL; rw [h]; rfl)⟩
  · exact ⟨1, 10, [], fun s hs => (reg _ _ _ rfl (by decide) (by decide) s hs).trans (by rfl)⟩
  · exact ⟨3, 0, [60, 60], fun s _ => rfl⟩
  · exact ⟨3, 0, [62, 62], fun s _ => rfl⟩
  · refine ⟨4, 0, [], fun s hs => ?_⟩
    show slashL s = _
    cases s with
    | nil => rfl
    | cons c t =>
      have hc := sep_head hs
      rw [slashL, if_neg hc.2.1, List.takeWhile_cons, List.dropWhile_cons, if_neg (by rw [hc.1]; decide), if_neg (by rw [hc.1]; decide)]
      rfl
/-! ### the texts -/
def plainL : List (Nat × Nat) → List UInt8
  | [] => []
  | p :: r => WB p.1 ++ 32 :: plainL r
def gapL : List (Nat × Nat) → List UInt8
  | [] => []
  | p :: r => FB p.2 ++ (WB p.1 ++ (FB (p.2 / 7) ++ gapL r))
theorem tok_eq {a b : List UInt8} (h : skipL false a = skipL false b) : tokenL a = tokenL b := by unfold tokenL; rw [h]
theorem blank_word (i : Nat) : ∃ (k z : Int) (x : List UInt8), ∀ s, sepB s → tokenL (WB i ++ s) = .inr (k, z, x, s) := by
  refine tok_word _ ?_
  unfold WB
  have hl : i % 15 < wordsB.length := by show i % 15 < 15; omega
  rw [List.getD, List.getElem?_eq_getElem hl]
  exact List.getElem_mem hl
theorem nextP_at {B s t x : List UInt8} {k z : Int} (h : s <:+ B) (ht : tokenL s = .inr (k, z, x, t)) : nextP B ((B.length - s.length : Nat) : Int) = (k, z, x, ((B.length - t.length : Nat) : Int), 0) := by
  have hl := h.length_le
  have hd : B.drop (B.length - s.length) = s := by
    obtain ⟨a, rfl⟩ := h
    simp
  unfold nextP
  rw [if_neg (by omega), Int.toNat_natCast, hd, ht]
  rfl
theorem steps : ∀ (ws : List (Nat × Nat)) (P G u v : List UInt8), (∀ y, skipL false (u ++ y) = skipL false y) → (∀ y, skipL false (v ++ y) = skipL false y) → (u ++ plainL ws) <:+ P → (v ++ gapL ws) <:+ G →
    ∃ (pa pb K Z : Nat → Int) (X : Nat → List UInt8), pa 0 = ((P.length - (u ++ plainL ws).length : Nat) : Int) ∧ pb 0 = ((G.length - (v ++ gapL ws).length : Nat) : Int) ∧
      ∀ k, k ≤ ws.length → nextP P (pa k) = (K k, Z k, X k, pa (k + 1), 0) ∧ nextP G (pb k) = (K k, Z k, X k, pb (k + 1), 0) := by
  intro ws
  induction ws with
  | nil =>
    intro P G u v hu hv hP hG
    have h1 : tokenL (u ++ plainL []) = .inr (0, 0, [], []) := (tok_eq (hu _)).trans rfl
    have h2 : tokenL (v ++ gapL []) = .inr (0, 0, [], []) := (tok_eq (hv _)).trans rfl
    refine ⟨fun k => if k = 0 then ((P.length - (u ++ plainL []).length : Nat) : Int) else ((P.length - 0 : Nat) : Int), fun k => if k = 0 then ((G.length - (v ++ gapL []).length : Nat) : Int) else ((G.length - 0 : Nat) : Int), fun _ => 0, fun _ => 0, fun _ => [], rfl, rfl, fun k hk => ?_⟩
    obtain rfl : k = 0 := by simpa using hk
    exact ⟨nextP_at hP h1, nextP_at hG h2⟩
  | cons p ws ih =>
    intro P G u v hu hv hP hG
    obtain ⟨k, z, x, ht⟩ := blank_word p.1
    have e1 : plainL (p :: ws) = WB p.1 ++ ([32] ++ plainL ws) := rfl
    have e2 : gapL (p :: ws) = FB p.2 ++ (WB p.1 ++ (FB (p.2 / 7) ++ gapL ws)) := rfl
    have h1 : tokenL (u ++ plainL (p :: ws)) = .inr (k, z, x, [32] ++ plainL ws) := (tok_eq (hu _)).trans (ht _ (.inl (by decide)))
    have h2 : tokenL (v ++ gapL (p :: ws)) = .inr (k, z, x, FB (p.2 / 7) ++ gapL ws) := (tok_eq ((hv _).trans (skip_fill _ _))).trans (ht _ (sep_fill _ _))
    have hP' : ([32] ++ plainL ws) <:+ P := by
      rw [e1, ← List.append_assoc] at hP
      exact (List.suffix_append _ _).trans hP
    have hG' : (FB (p.2 / 7) ++ gapL ws) <:+ G := by
      rw [e2, ← List.append_assoc, ← List.append_assoc] at hG
      exact (List.suffix_append _ _).trans hG
    obtain ⟨pa, pb, K, Z, X, a0, b0, hs⟩ := ih P G [32] (FB (p.2 / 7)) (fun y => by show skipL false (32 :: y) = _; rw [skipL, if_pos (by decide)]) (fun y => skip_fill _ y) hP' hG'
    refine ⟨fun i => if i = 0 then ((P.length - (u ++ plainL (p :: ws)).length : Nat) : Int) else pa (i - 1), fun i => if i = 0 then ((G.length - (v ++ gapL (p :: ws)).length : Nat) : Int) else pb (i - 1), fun i => if i = 0 then k else K (i - 1), fun i => if i = 0 then z else Z (i - 1), fun i => if i = 0 then x else X (i - 1), rfl, rfl, fun i hi => ?_⟩
    cases i with
    | zero =>
      have n1 := nextP_at hP h1
      have n2 := nextP_at hG h2
      rw [← a0] at n1
      rw [← b0] at n2
      exact ⟨n1, n2⟩
    | succ i =>
      have := hs i (by simp only [List.length_cons] at hi; omega)
      exact this
theorem blanks (ws : List (Nat × Nat)) : ∃ (pa pb K Z : Nat → Int) (X : Nat → List UInt8), pa 0 = 0 ∧ pb 0 = 0 ∧
    ∀ k, k ≤ ws.length → nextP (plainL ws) (pa k) = (K k, Z k, X k, pa (k + 1), 0) ∧ nextP (gapL ws) (pb k) = (K k, Z k, X k, pb (k + 1), 0) := by
  obtain ⟨pa, pb, K, Z, X, a0, b0, hs⟩ := steps ws (plainL ws) (gapL ws) [] [] (fun _ => rfl) (fun _ => rfl) (List.suffix_refl _) (List.suffix_refl _)
  exact ⟨pa, pb, K, Z, X, by rw [a0]; simp, by rw [b0]; simp, hs⟩
theorem word_len (i : Nat) : (WB i).length ≤ 5 := by
  have h : ∀ w ∈ wordsB, w.length ≤ 5 := by decide
  refine h _ ?_
  unfold WB
  have hl : i % 15 < wordsB.length := by show i % 15 < 15; omega
  rw [List.getD, List.getElem?_eq_getElem hl]
  exact List.getElem_mem hl
theorem fill_len (g : Nat) : (FB g).length ≤ 6 := by
  have h : ∀ w ∈ fillB, w.length ≤ 6 := by decide
  refine h _ ?_
  unfold FB
  have hl : g % 7 < fillB.length := by show g % 7 < 7; omega
  rw [List.getD, List.getElem?_eq_getElem hl]
  exact List.getElem_mem hl
theorem plain_len : ∀ ws : List (Nat × Nat), (plainL ws).length ≤ 6 * ws.length
  | [] => Nat.le_refl _
  | p :: r => by
    have := plain_len r
    have := word_len p.1
    simp only [plainL, List.length_append, List.length_cons]
    omega
theorem gap_len : ∀ ws : List (Nat × Nat), (gapL ws).length ≤ 17 * ws.length
  | [] => Nat.le_refl _
  | p :: r => by
    have := gap_len r
    have := word_len p.1
    have := fill_len p.2
    have := fill_len (p.2 / 7)
    simp only [gapL, List.length_append, List.length_cons]
    omega
theorem plain_snoc (ws : List (Nat × Nat)) (p : Nat × Nat) : plainL (ws ++ [p]) = plainL ws ++ (WB p.1 ++ [32]) := by
  induction ws with
  | nil => simp [plainL]
  | cons q r ih => simp [plainL, ih]
theorem gap_snoc (ws : List (Nat × Nat)) (p : Nat × Nat) : gapL (ws ++ [p]) = gapL ws ++ (FB p.2 ++ (WB p.1 ++ FB (p.2 / 7))) := by
  induction ws with
  | nil => simp [gapL]
  | cons q r ih => simp [gapL, ih]

end Go.Proofs.YtiocgpfnbmlfaaaDoor.SC

/-! ## SO -/
namespace Go.Proofs.YtiocgpfnbmlfaaaDoor.SC
open Go Go.RowKit Go.ChangeShapes Go.Proofs.YtiocgpfnbmlfaaaDoor Go.Proofs.YtiocgpfnbmlfaaaDoor.PS1 Go.Proofs.YtiocgpfnbmlfaaaDoor.QD Go.Proofs.YtiocgpfnbmlfaaaDoorW.PrintWords Go.Proofs.YtiocgpfnbmlfaaaDoorW.PrintLast

/-- (..(()x)x..)x -/
def nst : Nat → List UInt8
  | 0 => []
  | n + 1 => 40 :: (nst n ++ [41, 120])
theorem nst_len (n : Nat) : (nst n).length = 3 * n := by
  induction n with
  | zero => rfl
  | succ n ih => simp [nst, ih]; omega
theorem rnd_nst (n : Nat) : ∀ (d : Nat) (r : List UInt8), 1 ≤ d → rnd d (nst n ++ r) = (rnd d r).map fun p => (nst n ++ p.1, p.2) := by
  induction n with
  | zero => intro d r _; simp only [nst, List.nil_append]; cases rnd d r <;> rfl
  | succ n ih =>
    intro d r hd
    have e : nst (n + 1) ++ r = 40 :: (nst n ++ (41 :: 120 :: r)) := by simp [nst]
    rw [e, rnd_put d 40 _ (not41 _ _ (by decide)) (by decide) (by decide), if_pos rfl, ih (d + 1) _ (by omega), rnd_put (d + 1) 41 _ (fun h => by omega) (by decide) (by decide),
      if_neg (by decide), if_pos rfl, Nat.add_sub_cancel, rnd_put d 120 _ (not41 _ _ (by decide)) (by decide) (by decide), if_neg (by decide), if_neg (by decide)]
    cases rnd d r <;> simp [nst]
theorem nested_closed (n : Nat) (hn : n ≤ 300) : nextP (40 :: (nst n ++ [41])) 0 = (6, 0, nst n, ((S (40 :: (nst n ++ [41]))).size : Int), 0) := by
  rw [S_size]
  have hl := nst_len n
  have h : tokenL (40 :: (nst n ++ [41])) = .inr (6, 0, nst n, []) := by
    have hs : skipL false (40 :: (nst n ++ [41])) = 40 :: (nst n ++ [41]) := by rw [skipL, if_neg (by decide), if_neg (by decide)]
    unfold tokenL
    rw [hs]
    show strL (rnd 1 (nst n ++ [41])) = _
    rw [rnd_nst n 1 _ (by omega), rnd_close]
    simp only [Option.map_some, List.append_nil, strL]
    rw [if_neg (by omega)]
  unfold nextP
  rw [if_neg (by omega)]
  show nextL (tokenL (40 :: (nst n ++ [41]))) _ = _
  rw [h]
  rfl
theorem nested_open (n : Nat) : nextP (40 :: 40 :: (nst n ++ [41])) 0 = (0, 0, [], 0, 14) := by
  have h : tokenL (40 :: 40 :: (nst n ++ [41])) = .inl 14 := by
    have hs : skipL false (40 :: 40 :: (nst n ++ [41])) = 40 :: 40 :: (nst n ++ [41]) := by rw [skipL, if_neg (by decide), if_neg (by decide)]
    unfold tokenL
    rw [hs]
    show strL (rnd 1 (40 :: (nst n ++ [41]))) = _
    rw [rnd_put 1 40 _ (not41 _ _ (by decide)) (by decide) (by decide), if_pos rfl, rnd_nst n 2 _ (by omega), rnd_put 2 41 _ (by decide) (by decide) (by decide), if_neg (by decide), if_pos rfl, rnd_nil]
    rfl
  unfold nextP
  rw [if_neg (by simp; omega)]
  show nextL (tokenL (40 :: 40 :: (nst n ++ [41]))) _ = _
  rw [h]
  rfl

/-- []byte of a text, and Next over it -/
theorem conv_next (x : List UInt8) (hx : x.length ≤ 100000) (w : World) (k n : Int) (t : List UInt8) (q er : Int) (hp : nextP x 0 = (k, n, t, q, er)) :
    ∃ (W : World) (cap : Nat), (convert 9 32 (.string (S x))).run Tryd.prog w = .ok (.slice (some ⟨w.heap.size, 0, none⟩) (S x).size cap) W ∧ Below w.heap.size w W ∧
      Calls Tryd.prog 24 #[.slice (some ⟨w.heap.size, 0, none⟩) (S x).size cap, .int .i64 0] W (NextTQ k n t q er W) := by
  obtain ⟨W, cap, hcv, hcap, hbW, hsz, hcell, -⟩ := conv_bytes w (S x)
  refine ⟨W, cap, hcv, hbW, ?_⟩
  rw [S_size] at hcap hcell ⊢
  rw [S_data] at hcell
  have hrow : (Kd.int .u8).C W (some ⟨w.heap.size, 0, none⟩) x.length (bI x) := by
    refine Kd.C_of_reads (enc := Value.int .u8) (d := (0 : Int)) (h1 := fun _ => rfl) ⟨bI_len x, by omega, fun _ => ⟨_, rfl, fun j hj => ?_⟩⟩
    have ha : (⟨w.heap.size, 0, none⟩ : Addr).add j = ⟨w.heap.size, j, none⟩ := by
      simp [Addr.add]
      intro h; exact h.symm
    rw [ha, hcell j hj]
    have hj' : j < (bI x).length := by rw [bI_len]; exact hj
    simp [bI, List.getD, hj]
  have := nextP_any (some ⟨w.heap.size, 0, none⟩) cap x 0 W hrow hcap (by omega)
  rw [hp] at this
  exact this

set_option maxHeartbeats 4000000 in
set_option maxRecDepth 100000 in
theorem nested_walk (n : Nat) (o : Bool) (hn : n ≤ 255) (w : World) : Calls Tryd.prog 11 #[.int .u8 (n : Int), .bool o] w fun e w' => e = .returned (.bool true) ∧ Below w.heap.size w w' := by
  have HA := Lib.hid answers_any
  have HN := Lib.hid hn
  have hn0 : (0 : Int) ≤ (n : Int) := by omega
  have hn1 : (n : Int) ≤ 255 := by omega
  go_enter Tryd.func11, Tryd.ntmps11
  go_upto_block 0 with fail
  go_cut [5] (fun s wx => s = .string (S (nst n)) ∧ Hid (w = wx))
  case first => as_aux_lemma =>
    go_wp2_with fail
    go_loop [5, 6] (fun s i => ∃ k : Nat, k ≤ n ∧ s = .string (S (nst k)) ∧ i = .int .i64 (k : Int)) (fun _ i => n - (intOf i).toNat)
    case atStart => exact ⟨0, Nat.zero_le _, rfl, rfl⟩
    case round =>
      obtain ⟨k, hk, rfl, rfl⟩ := hrel
      by_cases hlt : k < n
      · have hki : (k : Int) < (n : Int) := by omega
        have hs := S_size (nst k)
        rw [nst_len] at hs
        have e1 : (⟨#[40]⟩ : ByteArray) ++ S (nst k) = S (40 :: nst k) := by rw [show (⟨#[40]⟩ : ByteArray) = S [40] from rfl, S_append]; rfl
        have e2 : S (40 :: nst k) ++ (⟨#[41, 120]⟩ : ByteArray) = S (nst (k + 1)) := by rw [show (⟨#[41, 120]⟩ : ByteArray) = S [41, 120] from rfl, S_append]; rfl
        have b1 : (⟨#[40]⟩ : ByteArray).size + (S (nst k)).size ≤ 9223372036854775807 := by show 1 + _ ≤ _; omega
        have b1' : 1 + (S (nst k)).size ≤ 9223372036854775807 := b1
        have b2 : (S (40 :: nst k)).size + (⟨#[41, 120]⟩ : ByteArray).size ≤ 9223372036854775807 := by rw [S_size]; show (nst k).length + 1 + 2 ≤ _; rw [nst_len]; omega
        have b2' : (S (40 :: nst k)).size + 2 ≤ 9223372036854775807 := b2
        clear hs
        go_wp2_with fail
        go_round
        case rel => exact ⟨k + 1, by omega, rfl, by go_num⟩
        case measure => simp [intOf]; omega
      · obtain rfl : k = n := by omega
        have hki : ¬ ((k : Int) < (k : Int)) := by omega
        go_wp2_with fail
        go_meet
        exact ⟨rfl, rfl⟩
  obtain ⟨rfl, hw⟩ := hcut
  have hw := hw.out
  subst hw
  have hs := S_size (nst n)
  rw [nst_len] at hs
  have e1 : (⟨#[40]⟩ : ByteArray) ++ S (nst n) = S (40 :: nst n) := by rw [show (⟨#[40]⟩ : ByteArray) = S [40] from rfl, S_append]; rfl
  have e2 : S (40 :: nst n) ++ (⟨#[41]⟩ : ByteArray) = S (40 :: (nst n ++ [41])) := by rw [show (⟨#[41]⟩ : ByteArray) = S [41] from rfl, S_append]; rfl
  have b1 : (⟨#[40]⟩ : ByteArray).size + (S (nst n)).size ≤ 9223372036854775807 := by show 1 + _ ≤ _; omega
  have b1' : 1 + (S (nst n)).size ≤ 9223372036854775807 := b1
  have b2 : (S (40 :: nst n)).size + (⟨#[41]⟩ : ByteArray).size ≤ 9223372036854775807 := by rw [S_size]; show (nst n).length + 1 + 1 ≤ _; rw [nst_len]; omega
  have b2' : (S (40 :: nst n)).size + 1 ≤ 9223372036854775807 := b2
  cases o with
  | false =>
    obtain ⟨W, cap, hcv, hbW, hN⟩ := conv_next (40 :: (nst n ++ [41])) (by simp [nst_len]; omega) w _ _ _ _ _ (nested_closed n (by omega))
    have HBW := Lib.hid hbW
    have HNX := Lib.hid hN
    clear hs hbW hN
    go_wp2_with fail
    refine HNX.out.mono ?_
    rintro e w1 ⟨rfl, hb⟩
    have HB1 := Lib.hid (HBW.out.trans (hb.mono HBW.out.size))
    have hblk := heap_alloc_new w1 (.cells #[.int .i64 6, .int .i64 0, .string (S (nst n))] 27)
    have HBK := Lib.hid hblk
    clear hb hblk hcv
    go_wp2_with fail
    refine (HA.out _).mono ?_
    rintro e w2 ⟨rfl, hb⟩
    have hb2 := (hb.block w1.heap.size (by simp)).trans HBK.out
    have c2 : w2.cell? ⟨w1.heap.size, 2, none⟩ = some (.string (S (nst n))) := by rw [Lib.cell_of_heap hb2]; rfl
    have HB2 := Lib.hid ((HB1.out.alloc HB1.out.size (.cells #[.int .i64 6, .int .i64 0, .string (S (nst n))] 27)).trans (hb.mono (by have := HB1.out.size; simp; omega)))
    clear hb hb2 b1 b1' b2 b2' e1 e2
    go_wp2_with fail
    go_ret
    exact ⟨rfl, HB2.out⟩
  | true =>
    have f1 : (⟨#[40, 40]⟩ : ByteArray) ++ S (nst n) = S (40 :: 40 :: nst n) := by rw [show (⟨#[40, 40]⟩ : ByteArray) = S [40, 40] from rfl, S_append]; rfl
    have f2 : S (40 :: 40 :: nst n) ++ (⟨#[41]⟩ : ByteArray) = S (40 :: 40 :: (nst n ++ [41])) := by rw [show (⟨#[41]⟩ : ByteArray) = S [41] from rfl, S_append]; rfl
    have g1 : (⟨#[40, 40]⟩ : ByteArray).size + (S (nst n)).size ≤ 9223372036854775807 := by show 2 + _ ≤ _; omega
    have g1' : 2 + (S (nst n)).size ≤ 9223372036854775807 := g1
    have g2 : (S (40 :: 40 :: nst n)).size + (⟨#[41]⟩ : ByteArray).size ≤ 9223372036854775807 := by rw [S_size]; show (nst n).length + 1 + 1 + 1 ≤ _; rw [nst_len]; omega
    have g2' : (S (40 :: 40 :: nst n)).size + 1 ≤ 9223372036854775807 := g2
    obtain ⟨W, cap, hcv, hbW, hN⟩ := conv_next (40 :: 40 :: (nst n ++ [41])) (by simp [nst_len]; omega) w _ _ _ _ _ (nested_open n)
    have HBW := Lib.hid hbW
    have HNX := Lib.hid hN
    clear hs hbW hN
    go_wp2_with fail
    refine HNX.out.mono ?_
    rintro e w1 ⟨rfl, hb⟩
    have HB1 := Lib.hid (HBW.out.trans (hb.mono HBW.out.size))
    clear hb hcv
    go_wp2_with fail
    refine (HA.out _).mono ?_
    rintro e w2 ⟨rfl, hb⟩
    have HB2 := Lib.hid ((HB1.out.alloc HB1.out.size (.cells #[.int .i64 0, .int .i64 0, .string (S [])] 27)).trans (hb.mono (by have := HB1.out.size; simp; omega)))
    clear hb b1 b1' b2 b2' e1 e2 g1 g1' g2 g2' f1 f2
    go_wp2_with fail
    go_ret
    exact ⟨rfl, HB2.out⟩

theorem nested_all (a0 : Int) (a1 : Bool) (w : World) (w0 : (Lit.int .u8 a0).wf = true) : Calls Tryd.prog 11 #[.int .u8 a0, .bool a1] w fun e w' => e = .returned (.bool true) ∧ Below w.heap.size w w' := by
  have h := w0
  simp [Lit.wf, IntKind.min, IntKind.max, IntKind.signed, IntKind.bits] at h
  obtain ⟨n, rfl⟩ : ∃ n : Nat, a0 = (n : Int) := ⟨a0.toNat, by omega⟩
  exact nested_walk n a1 (by omega) w

end Go.Proofs.YtiocgpfnbmlfaaaDoor.SC

/-! ## BM -/
namespace Go.Proofs.YtiocgpfnbmlfaaaDoor.SC
open Go Go.RowKit Go.ChangeShapes Go.Proofs.YtiocgpfnbmlfaaaDoor Go.Proofs.YtiocgpfnbmlfaaaDoor.PS1 Go.Proofs.YtiocgpfnbmlfaaaDoor.QD Go.Proofs.YtiocgpfnbmlfaaaDoorW.PrintWords Go.Proofs.YtiocgpfnbmlfaaaDoorW.PrintLast

/-- the words and gaps that two rows of bytes name -/
def wsL (xs ys : List UInt8) (n : Nat) : List (Nat × Nat) := (List.range n).map fun k => ((xs.getD k 0).toNat, (ys.getD k 0).toNat)
theorem ws_len (xs ys : List UInt8) (n : Nat) : (wsL xs ys n).length = n := by simp [wsL]
theorem ws_succ (xs ys : List UInt8) (n : Nat) : wsL xs ys (n + 1) = wsL xs ys n ++ [((xs.getD n 0).toNat, (ys.getD n 0).toNat)] := by simp [wsL, List.range_succ]
def listV : Array Value := #[.string ⟨#[97]⟩, .string ⟨#[47, 98]⟩, .string ⟨#[47, 47, 99]⟩, .string ⟨#[40, 100, 32, 101, 41]⟩, .string ⟨#[60, 48, 102, 62]⟩, .string ⟨#[123]⟩, .string ⟨#[125]⟩, .string ⟨#[91]⟩, .string ⟨#[93]⟩, .string ⟨#[49, 50]⟩, .string ⟨#[45, 49, 46, 53]⟩, .string ⟨#[49, 54, 35, 97]⟩, .string ⟨#[60, 60]⟩, .string ⟨#[62, 62]⟩, .string ⟨#[47]⟩, .string ⟨#[120, 37]⟩]
def fillV : Array Value := #[.string ⟨#[32]⟩, .string ⟨#[10]⟩, .string ⟨#[9, 13, 10]⟩, .string ⟨#[37, 99, 10]⟩, .string ⟨#[32, 37, 40, 32, 13, 32]⟩, .string ⟨#[0]⟩, .string ⟨#[12, 37, 37, 100, 12]⟩]
theorem list_at (i : Nat) : listV[i % 15]? = some (.string (S (WB i))) := by
  have h : ∀ j, j < 15 → listV[j]? = some (.string (S (wordsB.getD j []))) := by
    intro j hj
    match j, hj with
    | 0, _ => rfl
    | 1, _ => rfl
    | 2, _ => rfl
    | 3, _ => rfl
    | 4, _ => rfl
    | 5, _ => rfl
    | 6, _ => rfl
    | 7, _ => rfl
    | 8, _ => rfl
    | 9, _ => rfl
    | 10, _ => rfl
    | 11, _ => rfl
    | 12, _ => rfl
    | 13, _ => rfl
    | 14, _ => rfl
    | n + 15, h => omega
  exact h _ (by omega)
theorem fill_at (i : Nat) : fillV[i % 7]? = some (.string (S (FB i))) := by
  have h : ∀ j, j < 7 → fillV[j]? = some (.string (S (fillB.getD j []))) := by
    intro j hj
    match j, hj with
    | 0, _ => rfl
    | 1, _ => rfl
    | 2, _ => rfl
    | 3, _ => rfl
    | 4, _ => rfl
    | 5, _ => rfl
    | 6, _ => rfl
    | n + 7, h => omega
  exact h _ (by omega)

theorem row_byte {A : Option Addr} {W : World} {xs : List UInt8} (h : (Kd.int .u8).C W A xs.length (bI xs)) {k : Nat} (hk : k < xs.length) : ∃ ad, A = some ad ∧ W.cell? (ad.add k) = some (.int .u8 ((xs.getD k 0).toNat : Int)) := by
  obtain ⟨_, _, h2⟩ := Kd.reads_of_C (d := (0 : Int)) h
  obtain ⟨ad, e, hc⟩ := h2 (by omega)
  refine ⟨ad, e, ?_⟩
  rw [hc k hk]
  simp [bI, List.getD, hk]
theorem block_lt {W : World} {g : Nat} {o : Obj} (h : W.heap[g]? = some o) : g < W.heap.size := by
  rcases Nat.lt_or_ge g W.heap.size with h' | h'
  · exact h'
  · rw [Array.getElem?_eq_none h'] at h; cases h
theorem tok_two {W2 w2 : World} {g : Nat} {t : TypeId} {k z x : Value} (h1 : W2.heap[g]? = some (.cells #[k, z, x] t (0, 0))) (hb : Below W2.heap.size W2 w2) :
    (w2.alloc (.cells #[k, z, x] t)).cell? ⟨g, 0, none⟩ = some k ∧ (w2.alloc (.cells #[k, z, x] t)).cell? ⟨g, 1, none⟩ = some z ∧ (w2.alloc (.cells #[k, z, x] t)).cell? ⟨g, 2, none⟩ = some x ∧
    (w2.alloc (.cells #[k, z, x] t)).cell? ⟨w2.heap.size, 0, none⟩ = some k ∧ (w2.alloc (.cells #[k, z, x] t)).cell? ⟨w2.heap.size, 1, none⟩ = some z ∧ (w2.alloc (.cells #[k, z, x] t)).cell? ⟨w2.heap.size, 2, none⟩ = some x := by
  have hlt := block_lt h1
  have e1 : (w2.alloc (.cells #[k, z, x] t)).heap[g]? = some (.cells #[k, z, x] t (0, 0)) :=
    (((Below.refl w2.heap.size w2).alloc (Nat.le_refl _) (.cells #[k, z, x] t)).block g (Nat.lt_of_lt_of_le hlt hb.size)).trans ((hb.block g hlt).trans h1)
  have e2 := heap_alloc_new w2 (.cells #[k, z, x] t)
  exact ⟨Lib.cell_of_heap e1 0, Lib.cell_of_heap e1 1, Lib.cell_of_heap e1 2, Lib.cell_of_heap e2 0, Lib.cell_of_heap e2 1, Lib.cell_of_heap e2 2⟩
/-- []byte of a text, and Next over it at a place -/
theorem conv_next_at (x : List UInt8) (hx : x.length ≤ 100000) (w : World) (p k n : Int) (t : List UInt8) (q er : Int) (hp : nextP x p = (k, n, t, q, er)) :
    ∃ (W : World) (cap : Nat), (convert 9 32 (.string (S x))).run Tryd.prog w = .ok (.slice (some ⟨w.heap.size, 0, none⟩) (S x).size cap) W ∧ Below w.heap.size w W ∧
      Calls Tryd.prog 24 #[.slice (some ⟨w.heap.size, 0, none⟩) (S x).size cap, .int .i64 p] W (NextTQ k n t q er W) := by
  obtain ⟨W, cap, hcv, hcap, hbW, hsz, hcell, -⟩ := conv_bytes w (S x)
  refine ⟨W, cap, hcv, hbW, ?_⟩
  rw [S_size] at hcap hcell ⊢
  rw [S_data] at hcell
  have hrow : (Kd.int .u8).C W (some ⟨w.heap.size, 0, none⟩) x.length (bI x) := by
    refine Kd.C_of_reads (enc := Value.int .u8) (d := (0 : Int)) (h1 := fun _ => rfl) ⟨bI_len x, by omega, fun _ => ⟨_, rfl, fun j hj => ?_⟩⟩
    have ha : (⟨w.heap.size, 0, none⟩ : Addr).add j = ⟨w.heap.size, j, none⟩ := by
      simp [Addr.add]
      intro h; exact h.symm
    rw [ha, hcell j hj]
    have hj' : j < (bI x).length := by rw [bI_len]; exact hj
    simp [bI, List.getD, hj]
  have := nextP_any (some ⟨w.heap.size, 0, none⟩) cap x p W hrow hcap (by omega)
  rw [hp] at this
  exact this

set_option maxHeartbeats 4000000 in
set_option maxRecDepth 100000 in
theorem blanks_walk (A0 A1 : Option Addr) (c0 c1 : Nat) (xs ys : List UInt8) (w : World) (h0 : (Kd.int .u8).C w A0 xs.length (bI xs)) (h1 : (Kd.int .u8).C w A1 ys.length (bI ys)) (hc0 : xs.length ≤ c0) (hc1 : ys.length ≤ c1) (hx : xs.length ≤ 140737488351232) (hy : ys.length ≤ 140737488351232) :
    Calls Tryd.prog 12 #[.slice A0 xs.length c0, .slice A1 ys.length c1] w fun e w' => e = .returned (.bool true) ∧ Below w.heap.size w w' := by
  have HA := Lib.hid answers_any
  have H0 := Lib.hid h0
  have H1 := Lib.hid h1
  have HC := Lib.hid (And.intro hc0 hc1)
  have HX := Lib.hid (And.intro hx hy)
  clear h0 h1 hc0 hc1 hx hy
  go_enter Tryd.func12, Tryd.ntmps12
  by_cases hl : 200 < xs.length
  · have hli : (200 : Int) < (xs.length : Int) := by omega
    go_wp2_with fail
    refine (HA.out _).mono ?_
    rintro e w1 ⟨rfl, hb⟩
    have HB := Lib.hid (((Below.refl w.heap.size w).alloc (Nat.le_refl _) (.cells listV 9)).alloc (by simp) (.cells fillV 9) |>.trans (hb.mono (by simp; omega)))
    go_wp2_with fail
    go_ret
    exact ⟨rfl, HB.out⟩
  · have hli : ¬ (200 : Int) < (xs.length : Int) := by omega
    have HL := Lib.hid hl
    clear hl
    go_upto_block 0 with fail
    go_cut [7, 8] (fun p g wx => p = .string (S (plainL (wsL xs ys xs.length))) ∧ g = .string (S (gapL (wsL xs ys xs.length))) ∧ Hid (Below w.heap.size w wx))
    case first => as_aux_lemma =>
      have hb5 : ((w.alloc (.cells listV 9)).alloc (.cells fillV 9)).heap[w.heap.size]? = some (.cells listV 9 (0, 0)) :=
        (((Below.refl _ (w.alloc (.cells listV 9))).alloc (Nat.le_refl _) (.cells fillV 9)).block w.heap.size (by simp)).trans (heap_alloc_new w _)
      have hb6 : ((w.alloc (.cells listV 9)).alloc (.cells fillV 9)).heap[w.heap.size + 1]? = some (.cells fillV 9 (0, 0)) := by
        have hs : (w.alloc (.cells listV 9)).heap.size = w.heap.size + 1 := by simp
        rw [← hs]
        exact heap_alloc_new _ _
      have HB0 := Lib.hid (((Below.refl w.heap.size w).alloc (Nat.le_refl _) (.cells listV 9)).alloc (by simp) (.cells fillV 9))
      have HB5 := Lib.hid hb5
      have HB6 := Lib.hid hb6
      clear hb5 hb6
      go_wp2_with fail
      go_loopg [7, 8, 9] xs.length (fun gk v7 v8 v9 wx => ∃ k : Nat, k + gk = xs.length ∧ v7 = .string (S (plainL (wsL xs ys k))) ∧ v8 = .string (S (gapL (wsL xs ys k))) ∧ v9 = .int .i64 (k : Int) ∧ Hid (Below w.heap.size w wx) ∧ Hid (wx.heap[w.heap.size]? = some (.cells listV 9 (0, 0))) ∧ Hid (wx.heap[w.heap.size + 1]? = some (.cells fillV 9 (0, 0))))
      case atStart => exact ⟨0, by omega, rfl, rfl, rfl, HB0, HB5, HB6⟩
      case round =>
        clear HB0 HB5 HB6
        obtain ⟨k, hk, rfl, rfl, rfl, HB, HB5, HB6⟩ := hrel
        by_cases hlt : k < xs.length
        · have hki : (k : Int) < (xs.length : Int) := by omega
          have hk0 : (0 : Int) ≤ (k : Int) := by omega
          obtain ⟨ad, rfl, hx0⟩ := row_byte (Kd.C_below H0.out HB.out) hlt
          have hlp := plain_len (wsL xs ys k)
          have hlg := gap_len (wsL xs ys k)
          have hwn := ws_succ xs ys k
          have hpn := plain_snoc (wsL xs ys k) ((xs.getD k 0).toNat, (ys.getD k 0).toNat)
          have hgn := gap_snoc (wsL xs ys k) ((xs.getD k 0).toNat, (ys.getD k 0).toNat)
          rw [← hwn] at hpn hgn
          rw [ws_len] at hlp hlg
          have HPN := Lib.hid hpn
          have HGN := Lib.hid hgn
          clear hwn hpn hgn
          have hyb : ¬ k < ys.length → (ys.getD k 0).toNat = 0 := fun h => by rw [List.getD, List.getElem?_eq_none (by omega)]; rfl
          generalize plainL (wsL xs ys k) = p at *
          generalize gapL (wsL xs ys k) = g at *
          have hb255 : (xs.getD k 0).toNat < 256 := UInt8.toNat_lt _
          have hg255 : (ys.getD k 0).toNat < 256 := UInt8.toNat_lt _
          have hrow1 : k < ys.length → ∃ ad, A1 = some ad ∧ wr.cell? (ad.add k) = some (.int .u8 ((ys.getD k 0).toNat : Int)) := fun h => row_byte (Kd.C_below H1.out HB.out) h
          generalize (xs.getD k 0).toNat = b at *
          generalize (ys.getD k 0).toNat = q at *
          have t15 : Int.tmod (b : Int) 15 = ((b % 15 : Nat) : Int) := by rw [Int.tmod_eq_emod_of_nonneg (by omega)]; omega
          have c5 : wr.cell? ⟨w.heap.size, b % 15, none⟩ = some (.string (S (WB b))) := by rw [Lib.cell_of_heap HB5.out]; exact list_at b
          have f5 : ((b % 15 : Nat) : Int) < 16 := by omega
          have hkl : k < 200 := by have := HL.out; omega
          have hwl := word_len b
          have e1 : S p ++ S (WB b) = S (p ++ WB b) := S_append _ _
          have e2 : S (p ++ WB b) ++ (⟨#[32]⟩ : ByteArray) = S (p ++ (WB b ++ [32])) := by rw [show (⟨#[32]⟩ : ByteArray) = S [32] from rfl, S_append, List.append_assoc]
          have b1 : (S p).size + (S (WB b)).size ≤ 9223372036854775807 := by rw [S_size, S_size]; omega
          have b2 : (S (p ++ WB b)).size + (⟨#[32]⟩ : ByteArray).size ≤ 9223372036854775807 := by rw [S_size, List.length_append]; show _ + 1 ≤ _; omega
          have b2' : (S (p ++ WB b)).size + 1 ≤ 9223372036854775807 := b2
          have q0 : (0 : Int) ≤ (b : Int) := by omega
          have q1 : (b : Int) < 256 := by omega
          have t7 : Int.tmod (q : Int) 7 = ((q % 7 : Nat) : Int) := by rw [Int.tmod_eq_emod_of_nonneg (by omega)]; omega
          have d7 : Int.tdiv (q : Int) 7 = ((q / 7 : Nat) : Int) := by rw [Int.tdiv_eq_ediv_of_nonneg (by omega)]; omega
          have t77 : Int.tmod ((q / 7 : Nat) : Int) 7 = ((q / 7 % 7 : Nat) : Int) := by rw [Int.tmod_eq_emod_of_nonneg (by omega)]; omega
          have f6 : ((q % 7 : Nat) : Int) < 7 := by omega
          have f66 : ((q / 7 % 7 : Nat) : Int) < 7 := by omega
          have hf1 := fill_len q
          have hf2 := fill_len (q / 7)
          have g1 : S g ++ S (FB q) = S (g ++ FB q) := S_append _ _
          have g2 : S (g ++ FB q) ++ S (WB b) = S (g ++ (FB q ++ WB b)) := by rw [S_append, List.append_assoc]
          have g3 : S (g ++ (FB q ++ WB b)) ++ S (FB (q / 7)) = S (g ++ (FB q ++ (WB b ++ FB (q / 7)))) := by rw [S_append]; simp only [List.append_assoc]
          have j1 : (S g).size + (S (FB q)).size ≤ 9223372036854775807 := by rw [S_size, S_size]; omega
          have j2 : (S (g ++ FB q)).size + (S (WB b)).size ≤ 9223372036854775807 := by rw [S_size, S_size, List.length_append]; omega
          have j3 : (S (g ++ (FB q ++ WB b))).size + (S (FB (q / 7))).size ≤ 9223372036854775807 := by rw [S_size, S_size, List.length_append, List.length_append]; omega
          have c6 : wr.cell? ⟨w.heap.size + 1, q % 7, none⟩ = some (.string (S (FB q))) := by rw [Lib.cell_of_heap HB6.out]; exact fill_at q
          have c66 : wr.cell? ⟨w.heap.size + 1, q / 7 % 7, none⟩ = some (.string (S (FB (q / 7)))) := by rw [Lib.cell_of_heap HB6.out]; exact fill_at (q / 7)
          have q2 : (0 : Int) ≤ (q : Int) := by omega
          have q3 : (q : Int) < 256 := by omega
          have HK := Lib.hid hk
          clear hk hlp hlg hkl hwl hb255 hg255 hf1 hf2
          by_cases hyk : k < ys.length
          · have hyi : (k : Int) < (ys.length : Int) := by omega
            obtain ⟨ad1, rfl, hx1⟩ := hrow1 hyk
            clear hyb hyk hrow1 hlt
            go_wp2_with fail
            go_region
            go_wp2_with fail
            go_roundg (xs.length - k - 1)
            case measure => have := HK.out; omega
            case rel => exact ⟨k + 1, by have := HK.out; omega, by rw [HPN.out], by rw [HGN.out], by push_cast; rfl, Lib.hid HB.out.drew, HB5, HB6⟩
          · have hyi : ¬ (k : Int) < (ys.length : Int) := by omega
            have hq0 := hyb hyk
            subst hq0
            simp only [Nat.zero_div, Nat.zero_mod] at g3 j3 c6 c66
            clear hyb hyk hrow1 hlt
            go_wp2_with fail
            go_region
            go_wp2_with fail
            go_roundg (xs.length - k - 1)
            case measure => have := HK.out; omega
            case rel => exact ⟨k + 1, by have := HK.out; omega, by rw [HPN.out], by rw [HGN.out], by push_cast; rfl, Lib.hid HB.out.drew, HB5, HB6⟩
        · obtain rfl : k = xs.length := by omega
          have hki : ¬ ((xs.length : Int) < (xs.length : Int)) := by omega
          go_wp2_with fail
          go_meet
          exact ⟨rfl, rfl, HB⟩
    obtain ⟨rfl, rfl, HB⟩ := hcut
    obtain ⟨pa, pb, K, Z, X, pa0, pb0, hs⟩ := blanks (wsL xs ys xs.length)
    rw [ws_len] at hs
    have hlp := plain_len (wsL xs ys xs.length)
    have hlg := gap_len (wsL xs ys xs.length)
    rw [ws_len] at hlp hlg
    have hp5 : (plainL (wsL xs ys xs.length)).length ≤ 100000 := by have := HL.out; omega
    have hg5 : (gapL (wsL xs ys xs.length)).length ≤ 100000 := by have := HL.out; omega
    clear hlp hlg
    generalize plainL (wsL xs ys xs.length) = p at *
    generalize gapL (wsL xs ys xs.length) = g at *
    have HS := Lib.hid hs
    have HP := Lib.hid (And.intro hp5 hg5)
    have hu27 := Tryd.underlying27
    clear hs hp5 hg5
    go_wp2_with fail
    go_loopg [12, 13, 14] (xs.length + 1) (fun gk v12 v13 v14 wx => ∃ k : Nat, k + gk = xs.length + 1 ∧ v12 = .int .i64 (pa k) ∧ v13 = .int .i64 (pb k) ∧ v14 = .int .i64 (k : Int) ∧ Hid (Below w.heap.size w wx))
    case atStart => exact ⟨0, by omega, by rw [pa0], by rw [pb0], rfl, HB⟩
    case round =>
      clear HB
      obtain ⟨k, hk, rfl, rfl, rfl, HB⟩ := hrel
      have HK := Lib.hid hk
      clear hk
      by_cases hle : k ≤ xs.length
      · have hki : (k : Int) ≤ (xs.length : Int) := by omega
        obtain ⟨hn1, hn2⟩ := HS.out k hle
        generalize hpa : pa k = a at *
        generalize hpb : pb k = b at *
        have HN2 := Lib.hid hn2
        obtain ⟨W1, cap1, hcv, hbW, hN1⟩ := conv_next_at p HP.out.1 wr a _ _ _ _ _ hn1
        have HB1 := Lib.hid (HB.out.trans (hbW.mono HB.out.size))
        have HN1 := Lib.hid hN1
        have HKL := Lib.hid hle
        clear hn1 hn2 hbW hN1 hpa hpb hle
        go_wp2_with fail
        refine HN1.out.mono ?_
        rintro e w1 ⟨rfl, hb⟩
        have HB2 := Lib.hid ((HB1.out.trans (hb.mono HB1.out.size)).alloc ((HB1.out.trans (hb.mono HB1.out.size)).size) (.cells #[.int .i64 (K k), .int .i64 (Z k), .string (S (X k))] 27))
        have HT1 := Lib.hid (heap_alloc_new w1 (.cells #[.int .i64 (K k), .int .i64 (Z k), .string (S (X k))] 27))
        obtain ⟨W2, cap2, hcv2, hbW, hN2⟩ := conv_next_at g HP.out.2 (w1.alloc (.cells #[.int .i64 (K k), .int .i64 (Z k), .string (S (X k))] 27)) b _ _ _ _ _ HN2.out
        have HB3 := Lib.hid (HB2.out.trans (hbW.mono HB2.out.size))
        rw [show (w1.alloc (.cells #[.int .i64 (K k), .int .i64 (Z k), .string (S (X k))] 27)).heap.size = w1.heap.size + 1 from by simp] at hcv2 hN2
        have HT2 := Lib.hid ((hbW.block w1.heap.size (by simp)).trans HT1.out)
        have HN3 := Lib.hid hN2
        clear hb hbW hN2 hcv HT1
        go_wp2_with fail
        refine HN3.out.mono ?_
        rintro e w2 ⟨rfl, hb⟩
        have HB4a := HB3.out.trans (hb.mono HB3.out.size)
        have HB4 := Lib.hid (HB4a.alloc HB4a.size (.cells #[.int .i64 (K k), .int .i64 (Z k), .string (S (X k))] 27))
        have HBB := Lib.hid hb
        clear hb HB4a hcv2
        go_upto_region 21 with fail
        obtain ⟨a0, a1, a2, b0, b1, b2⟩ := tok_two HT2.out HBB.out
        clear HBB HT2
        generalize w2.alloc (.cells #[.int .i64 (K k), .int .i64 (Z k), .string (S (X k))] 27) = W5 at *
        generalize w2.heap.size = g2 at *
        generalize w1.heap.size = g1 at *
        generalize K k = kk at *
        generalize Z k = zz at *
        generalize S (X k) = xx at *
        go_wp2_with fail
        go_roundg (xs.length - k)
        case measure => have := HK.out; have := HKL.out; omega
        case rel => exact ⟨k + 1, by have := HK.out; have := HKL.out; omega, rfl, rfl, by push_cast; rfl, HB4⟩
      · have hki : ¬ (k : Int) ≤ (xs.length : Int) := by omega
        go_wp2_with fail
        refine (HA.out _).mono ?_
        rintro e w1 ⟨rfl, hb⟩
        have HB2 := Lib.hid (HB.out.trans (hb.mono HB.out.size))
        clear hb
        go_wp2_with fail
        go_ret
        exact ⟨rfl, HB2.out⟩

end Go.Proofs.YtiocgpfnbmlfaaaDoor.SC

/-! ## RA -/
namespace Go.Proofs.YtiocgpfnbmlfaaaDoor.SC
open Go Go.RowKit Go.ChangeShapes Go.Proofs.YtiocgpfnbmlfaaaDoor Go.Proofs.YtiocgpfnbmlfaaaDoor.PS1 Go.Proofs.YtiocgpfnbmlfaaaDoor.QD Go.Proofs.YtiocgpfnbmlfaaaDoorW.PrintWords Go.Proofs.YtiocgpfnbmlfaaaDoorW.PrintLast

theorem row_arg {w : World} {a : Option Addr} {len cap : Nat} {zs : List Int} {m : Nat}
    (h : (a = none ∧ len = 0 ∧ cap = 0 ∧ zs = []) ∨ ∃ x, a = some x ∧ len ≤ cap ∧ cap ≤ maxLen ∧ zs.length = cap ∧ (∀ i, i < zs.length → w.cell? (x.add i) = some (.int .u8 (zs.getD i 0))) ∧ ∀ n ∈ zs, (Lit.int .u8 n).wf = true) (hl : len * 1 ≤ m) :
    ∃ xs : List UInt8, len = xs.length ∧ (Kd.int .u8).C w a xs.length (bI xs) ∧ xs.length ≤ cap ∧ xs.length ≤ m := by
  obtain ⟨l0, rfl, hr0, hm0, hw0, hc0⟩ := ReadsInt.ofRowC h
  have hB : isB l0 := by
    intro x hx
    have h := hw0 x hx
    simp [Lit.wf, IntKind.min, IntKind.max, IntKind.signed, IntKind.bits] at h
    omega
  have hC := Kd.C_of_reads (d := (0 : Int)) (h1 := fun _ => rfl) hr0
  refine ⟨unI l0, (unI_len l0).symm, ?_, by rw [unI_len]; exact hc0, by rw [unI_len]; omega⟩
  rw [unI_len, bI_un l0 hB]
  exact hC

end Go.Proofs.YtiocgpfnbmlfaaaDoor.SC

/-! ## BN -/
namespace Go.Proofs.YtiocgpfnbmlfaaaDoor.SC
open Go Go.RowKit Go.ChangeShapes Go.Proofs.YtiocgpfnbmlfaaaDoor Go.Proofs.YtiocgpfnbmlfaaaDoor.PS1 Go.Proofs.YtiocgpfnbmlfaaaDoor.QD Go.Proofs.YtiocgpfnbmlfaaaDoorW.PrintWords Go.Proofs.YtiocgpfnbmlfaaaDoorW.PrintLast

theorem blanks_all (a0 : Option Addr) (len0 cap0 : Nat) (z0 : List Int) (a1 : Option Addr) (len1 cap1 : Nat) (z1 : List Int) (w : World)
    (w0 : (a0 = none ∧ len0 = 0 ∧ cap0 = 0 ∧ z0 = []) ∨ ∃ x, a0 = some x ∧ len0 ≤ cap0 ∧ cap0 ≤ maxLen ∧ z0.length = cap0 ∧ (∀ i, i < z0.length → w.cell? (x.add i) = some (.int .u8 (z0.getD i 0))) ∧ ∀ n ∈ z0, (Lit.int .u8 n).wf = true) (y0 : len0 * 1 ≤ 140737488351232)
    (w1 : (a1 = none ∧ len1 = 0 ∧ cap1 = 0 ∧ z1 = []) ∨ ∃ x, a1 = some x ∧ len1 ≤ cap1 ∧ cap1 ≤ maxLen ∧ z1.length = cap1 ∧ (∀ i, i < z1.length → w.cell? (x.add i) = some (.int .u8 (z1.getD i 0))) ∧ ∀ n ∈ z1, (Lit.int .u8 n).wf = true) (y1 : len1 * 1 ≤ 140737488351232) :
    Calls Tryd.prog 12 #[.slice a0 len0 cap0, .slice a1 len1 cap1] w fun e w' => e = .returned (.bool true) ∧ Below w.heap.size w w' := by
  obtain ⟨xs, rfl, hr0, hc0, hx⟩ := row_arg w0 y0
  obtain ⟨ys, rfl, hr1, hc1, hy⟩ := row_arg w1 y1
  exact blanks_walk a0 a1 cap0 cap1 xs ys w hr0 hr1 hc0 hc1 hx hy

end Go.Proofs.YtiocgpfnbmlfaaaDoor.SC
