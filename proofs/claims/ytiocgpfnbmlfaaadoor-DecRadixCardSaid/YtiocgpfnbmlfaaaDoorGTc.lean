/- The reference's plain: its Lean function in plain words, in the printed form. -/
import Derived.Test.YtiocgpfnbmlfaaaDoorGTb
namespace Go.Proofs.YtiocgpfnbmlfaaaDoor.QE
open Go Go.RowKit Go.Proofs.YtiocgpfnbmlfaaaDoor Go.Proofs.YtiocgpfnbmlfaaaDoor.PE Go.Proofs.YtiocgpfnbmlfaaaDoor.QD Go.Proofs.YtiocgpfnbmlfaaaDoorW.PrintWords Go.Proofs.YtiocgpfnbmlfaaaDoorW.PrintLast

theorem signIs (l : List UInt8) : SignIs (S l) (S (sgnL l).2) (sgnL l).1 := by
  match l with
  | [] => exact Or.inl ⟨rfl, rfl, rfl⟩
  | c :: t =>
    have hsz : 0 < (S (c :: t)).size := by rw [S_size]; simp
    have hx : (S (c :: t)).extract 1 (S (c :: t)).size = S t := by rw [S_from]; rfl
    have h0 : (S (c :: t))[0]'hsz = c := rfl
    by_cases h45 : c = 45
    · subst h45
      exact Or.inr (Or.inl ⟨hsz, h0, hx, rfl⟩)
    · by_cases h43 : c = 43
      · subst h43
        exact Or.inr (Or.inr (Or.inl ⟨hsz, h0, hx, rfl⟩))
      · have hs : sgnL (c :: t) = (false, c :: t) := by simp [sgnL, h45, h43]
        rw [hs]
        refine Or.inr (Or.inr (Or.inr ⟨hsz, c, h0, beq_eq_false_iff_ne.2 (fun h => h45 (UInt8.toNat_inj.1 (by show c.toNat = 45; omega))), beq_eq_false_iff_ne.2 (fun h => h43 (UInt8.toNat_inj.1 (by show c.toNat = 43; omega))), rfl, rfl⟩))

theorem split_at (r : List UInt8) : r.drop (r.takeWhile isDig).length = r.dropWhile isDig ∧ r.take (r.takeWhile isDig).length = r.takeWhile isDig ∧ r.length = (r.takeWhile isDig).length + (r.dropWhile isDig).length := by
  have hr := (List.takeWhile_append_dropWhile (p := isDig) (l := r)).symm
  refine ⟨?_, ?_, ?_⟩
  · conv => lhs; rw [hr]
    rw [List.drop_left' (by rw [← hr])]
  · conv => lhs; rw [hr]
    rw [List.take_left' (by rw [← hr])]
  · rw [← List.length_append, ← hr]

theorem plain_any (l : List UInt8) (hl : l.length ≤ 100000000) (w : World) :
    Calls Tryd.prog 35 #[.string (S l)] w fun e w' =>
      e = .returned (.tuple #[.bool (sgnL l).1, .string (S (plainL (sgnL l).2).1), .int .i64 ((plainL (sgnL l).2).2.1 : Nat), .bool (plainL (sgnL l).2).2.2.1, .bool (plainL (sgnL l).2).2.2.2]) ∧ Drawn0 w w' := by
  have hS := signIs l
  have hle := sgnL_len l
  generalize (sgnL l).1 = m at *
  generalize (sgnL l).2 = r at *
  obtain ⟨h1, h2, h3⟩ := split_at r
  have hA : (S r).extract 0 (r.takeWhile isDig).length = S (r.takeWhile isDig) := by rw [S_to, h2]
  have hQ : (S r).extract (r.takeWhile isDig).length (S r).size = S (r.dropWhile isDig) := by rw [S_from, h1]
  have hn : ((S r).data.toList.takeWhile isDig).length = (r.takeWhile isDig).length := by rw [S_data]
  have hs : (S l).size ≤ 100000000 := by rw [S_size]; exact hl
  have hr : (S r).size ≤ 100000000 := by rw [S_size]; omega
  have hle' : (r.takeWhile isDig).length ≤ (S r).size := by rw [S_size]; omega
  unfold plainL
  generalize hq : r.dropWhile isDig = q at *
  match q, hq with
  | [], _ =>
    simp only [ptL]
    exact plain_none (S l) (S r) _ (S []) m _ hS hs hr hn hle' hA hQ rfl w _ (by rw [S_size]; simp)
  | c :: t, hq =>
    have hq0 : 0 < (S (c :: t)).size := by rw [S_size]; simp
    by_cases h46 : c = 46
    · subst h46
      obtain ⟨g1, g2, g3⟩ := split_at t
      have htl : t.length ≤ 100000000 := by simp only [List.length_cons] at h3; omega
      simp only [ptL, if_true]
      have ht : (S (46 :: t)).extract 1 (S (46 :: t)).size = S t := by rw [S_from]; rfl
      have hB : (S t).extract 0 (t.takeWhile isDig).length = S (t.takeWhile isDig) := by rw [S_to, g2]
      have hZ : (S t).extract (t.takeWhile isDig).length (S t).size = S (t.dropWhile isDig) := by rw [S_from, g1]
      have hn2 : ((S t).data.toList.takeWhile isDig).length = (t.takeWhile isDig).length := by rw [S_data]
      by_cases hz : t.dropWhile isDig = []
      · exact plain_point (S l) (S r) _ (S (46 :: t)) m _ hS hs hr hn hle' hA hQ hq0 rfl (S t) _ _ ht _ (by rw [S_size]; exact htl) hn2 (by rw [S_size]; omega) (by rw [S_size]; omega) (by rw [S_size]; omega) hB hZ _ (S_append _ _)
          (by rw [S_size, hz]; rfl) w _ (by rw [S_size, hz]; simp)
      · exact plain_more (S l) (S r) _ (S (46 :: t)) m _ hS hs hr hn hle' hA hQ hq0 rfl (S t) _ _ ht _ (by rw [S_size]; exact htl) hn2 (by rw [S_size]; omega) (by rw [S_size]; omega) (by rw [S_size]; omega) hB hZ _ (S_append _ _)
          (by rw [S_size]; exact List.length_pos_iff.2 hz) w _ (by simp [hz])
    · simp only [ptL, if_neg h46]
      exact plain_other (S l) (S r) _ (S (c :: t)) m _ hS hs hr hn hle' hA hQ hq0 c rfl (beq_eq_false_iff_ne.2 (fun h => h46 (UInt8.toNat_inj.1 (by show c.toNat = 46; omega)))) w _ (by simp)

end Go.Proofs.YtiocgpfnbmlfaaaDoor.QE
namespace Go.Proofs.YtiocgpfnbmlfaaaDoor
open Go Go.RowKit Go.Proofs.YtiocgpfnbmlfaaaDoorW.PrintWords

def mezzotintref01_plain.f (a0 : ByteArray) : Option (Bool × ByteArray × Int × Bool × Bool) :=
  if a0.size ≤ 100000000 then some ((sgnL a0.data.toList).1, QD.S (QD.plainL (sgnL a0.data.toList).2).1, ((QD.plainL (sgnL a0.data.toList).2).2.1 : Nat), (QD.plainL (sgnL a0.data.toList).2).2.2.1, (QD.plainL (sgnL a0.data.toList).2).2.2.2) else none

theorem mezzotintref01_plain.calls (a0 : ByteArray) (r1 : Bool) (r2 : ByteArray) (r3 : Int) (r4 r5 : Bool) (w : World) (h : mezzotintref01_plain.f a0 = some (r1, r2, r3, r4, r5)) :
    Calls Tryd.prog 35 #[.string a0] w fun e w' => e = .returned (.tuple #[.bool r1, .string r2, .int .i64 r3, .bool r4, .bool r5]) ∧ Drawn0 w w' := by
  unfold mezzotintref01_plain.f at h
  split at h
  · rename_i hs
    simp only [Option.some.injEq, Prod.mk.injEq] at h
    obtain ⟨rfl, rfl, rfl, rfl, rfl⟩ := h
    have := QE.plain_any a0.data.toList (by rw [← Lib.size_eq]; exact hs) w
    rw [← QD.S_of] at this
    exact this
  · cases h

end Go.Proofs.YtiocgpfnbmlfaaaDoor
