/- The plain law ForwardTwice of layer 31, over lists alone. -/
import Derived.Test.YtcfagmdopkginaaSmall
import Derived.Test.YtcfagmdopkginaaPFx39
namespace Go.Proofs.Ytcfagmdopkginaa.Plain
open Go.RowKit Go.Proofs.YtcfagmdopkginaaW.PrintWords Go.Proofs.Ytcfagmdopkginaa.PF Go.Proofs.Ytcfagmdopkginaa.Args

theorem pureTwice {regs : Int} {bs : List S37} (h : okFunc (regs, bs)) : ∃ k, seedcornlaw31_ForwardTwice.f k regs bs = some true := by
  refine Ev.rounds (g := fun k => seedcornlaw31_ForwardTwice.f k regs bs) ?_
  unfold seedcornlaw31_ForwardTwice.f
  refine Ev.bind (small_ev h) (Ev.ite (fun hs => ?_) (fun _ => Ev.bind awake_ev (Ev.now _)))
  obtain ⟨hf, h1, hfew, hf'⟩ := small_ok hs
  refine Ev.bind (Of_ev hf) (Ev.bind (Of_ev hf') (Ev.bind awake_ev (Ev.pos rfl ?_)))
  have e : (bs.map (blockM regs)).map (blockM regs) = bs.map (blockM regs) := by
    rw [List.map_map]
    exact List.map_congr_left fun b hb => block_twice (hf.b b hb).1
  rw [e]
  exact Ev.bind (same_func hfew) (Ev.now _)

end Go.Proofs.Ytcfagmdopkginaa.Plain
