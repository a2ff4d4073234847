/- Parse answers the specified number at every text: the program's answer is the reference's. -/
import Derived.Test.YtiocgpfnbmlfaaaDoorQParse
namespace Go.Proofs.YtiocgpfnbmlfaaaDoor.Pure
open Go Go.RowKit Go.Proofs.YtiocgpfnbmlfaaaDoor.PQ Go.Proofs.YtiocgpfnbmlfaaaDoor.QD Go.Proofs.YtiocgpfnbmlfaaaDoorW.PrintWords Go.Proofs.YtiocgpfnbmlfaaaDoorW.PrintLast

theorem DecParses : mezzotintlaw02_DecParses.Pure := by
  intro a0 _
  obtain ⟨l, rfl⟩ : ∃ l, a0 = S l := ⟨_, S_of a0⟩
  refine Ev.rounds ?_
  unfold mezzotintlaw02_DecParses.f
  by_cases h : 3000 < l.length
  · refine Ev.congr (fun _ => ?_) (Ev.now true)
    rw [if_pos (by rw [S_size]; omega), answers_f]
    rfl
  · have hn : ¬ (((S l).size : Int) > 3000) := by rw [S_size]; omega
    simp only [if_neg hn, dec_Parse_f l (by omega), Option.bind_some, answers_f, if_true]
    refine Ev.bind (ref_Parse_ev l (by omega)) ?_
    refine Ev.congr (fun _ => ?_) (Ev.now true)
    simp

end Go.Proofs.YtiocgpfnbmlfaaaDoor.Pure
