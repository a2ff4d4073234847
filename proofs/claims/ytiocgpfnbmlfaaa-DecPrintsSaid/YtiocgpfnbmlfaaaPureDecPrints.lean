/- Print and PrintReal answer the specified text at every int: the program's texts are the reference's, for every number. -/
import Derived.Test.YtiocgpfnbmlfaaaQPrint
namespace Go.Proofs.Ytiocgpfnbmlfaaa.Pure
open Go Go.RowKit Go.Proofs.Ytiocgpfnbmlfaaa.PQ Go.Proofs.Ytiocgpfnbmlfaaa.QD Go.Proofs.YtiocgpfnbmlfaaaW.PrintWords Go.Proofs.YtiocgpfnbmlfaaaW.PrintLast

theorem DecPrints : mezzotintlaw02_DecPrints.Pure := by
  intro z _
  refine Ev.rounds ?_
  unfold mezzotintlaw02_DecPrints.f
  rw [answers_f, dec_Print_f, dec_PrintReal_f]
  simp only [Option.bind_some, if_true]
  refine Ev.bind (ref_Print_ev z) ?_
  simp only [if_true]
  refine Ev.bind (ref_PrintReal_ev z) ?_
  refine Ev.congr (fun _ => ?_) (Ev.now true)
  simp

end Go.Proofs.Ytiocgpfnbmlfaaa.Pure
