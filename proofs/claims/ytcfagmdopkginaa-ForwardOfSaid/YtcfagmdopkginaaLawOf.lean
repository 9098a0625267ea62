/- The plain law ForwardOf of layer 31, over lists alone. -/
import Derived.Test.YtcfagmdopkginaaSmall
import Derived.Test.YtcfagmdopkginaaPFx22
namespace Go.Proofs.Ytcfagmdopkginaa.Plain
open Go.RowKit Go.Proofs.YtcfagmdopkginaaW.PrintWords Go.Proofs.Ytcfagmdopkginaa.PF Go.Proofs.Ytcfagmdopkginaa.Args

theorem pureOf {regs : Int} {bs : List S37} (h : okFunc (regs, bs)) : ∃ k, seedcornlaw31_ForwardOf.f k regs bs = some true := by
  refine Ev.rounds (g := fun k => seedcornlaw31_ForwardOf.f k regs bs) ?_
  unfold seedcornlaw31_ForwardOf.f
  refine Ev.bind (small_ev h) (Ev.ite (fun hs => ?_) (fun _ => Ev.bind awake_ev (Ev.now _)))
  obtain ⟨hf, h1, hfew, _⟩ := small_ok hs
  refine Ev.bind (Of_ev hf) (Ev.bind (refOf_ev hf) (Ev.bind awake_ev (Ev.pos rfl ?_)))
  refine Ev.bind (one_ev hfew) (Ev.pos (oneB_map h1) ?_)
  refine Ev.bind (same_func hfew) (Ev.pos rfl ?_)
  exact Ev.bind (full_ev hf.r0 hf.r1 hf.n) (Ev.now _)

end Go.Proofs.Ytcfagmdopkginaa.Plain
