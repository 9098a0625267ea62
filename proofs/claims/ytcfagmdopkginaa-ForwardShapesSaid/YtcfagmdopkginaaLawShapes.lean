/- The plain law ForwardShapes of layer 31, over lists alone. -/
import Derived.Test.YtcfagmdopkginaaSmallB
import Derived.Test.YtcfagmdopkginaaFwdAw
import Derived.Test.YtcfagmdopkginaaPGh
namespace Go.Proofs.Ytcfagmdopkginaa.Plain
open Go.RowKit Go.Proofs.YtcfagmdopkginaaW.PrintWords Go.Proofs.Ytcfagmdopkginaa.PF Go.Proofs.Ytcfagmdopkginaa.Args
/-- What a new instruction shares with the old one. -/
theorem run_same : ∀ (l : List S40) (c : List Int) (i : Nat), i < l.length → ∃ c', rd_T40 (run c l).1 i = insT c' (rd_T40 l i)
  | [], _, _, h => by simp at h
  | t :: l, c, 0, _ => ⟨c, rfl⟩
  | t :: l, c, i + 1, h => by
    obtain ⟨c', e⟩ := run_same l (insC c t) i (by simpa using h)
    refine ⟨c', ?_⟩
    have e1 : rd_T40 (run c (t :: l)).1 ((i + 1 : Nat) : Int) = rd_T40 (run (insC c t) l).1 (i : Nat) := rfl
    have e2 : rd_T40 (t :: l) ((i + 1 : Nat) : Int) = rd_T40 l (i : Nat) := rfl
    rw [e1, e2, e]
theorem pureShapes {regs : Int} {bs : List S37} (h : okFunc (regs, bs)) : ∃ k, seedcornlaw31_ForwardShapes.f k regs bs = some true := by
  refine Ev.rounds (g := fun k => seedcornlaw31_ForwardShapes.f k regs bs) ?_
  unfold seedcornlaw31_ForwardShapes.f
  refine Ev.bind (small_ev h) (Ev.ite (fun hs => ?_) (fun _ => Ev.bind awake_ev (Ev.now _)))
  obtain ⟨hf, h1, hfew, hf'⟩ := small_ok hs
  refine Ev.bind (Of_ev hf) ?_
  have hN := hf.n
  have hin : ∀ (i : Nat), i < bs.length → Ev (fun k => seedcornlaw31_ForwardShapes.l0 k ((i + 1 : Nat) : Int) regs bs regs (bs.map (blockM regs))) true →
      ∀ (n j : Nat), j + n = (rd_T37 bs i).f0.length → Ev (fun k => seedcornlaw31_ForwardShapes.l1 k i j regs bs regs (bs.map (blockM regs)) (rd_T37 bs i).f0 (rd_T37 bs i).f1 (rd_T37 bs i).f2 (rd_T37 bs i).f3 (rd_T37 bs i).f4 (blockM regs (rd_T37 bs i)).f0 (blockM regs (rd_T37 bs i)).f1 (blockM regs (rd_T37 bs i)).f2 (blockM regs (rd_T37 bs i)).f3 (blockM regs (rd_T37 bs i)).f4) true := by
    intro i hi' hnext n
    have hb := (hf.b _ (rd37_mem hi')).2
    have hlen : (blockM regs (rd_T37 bs i)).f0.length = (rd_T37 bs i).f0.length := run_length _ _
    induction n with
    | zero =>
      intro j hj
      refine Ev.step (fun k => by rw [seedcornlaw31_ForwardShapes.l1, if_neg (by omega), wrap_nat (n := bs.length) (by omega) (by omega)]) hnext
    | succ n ih =>
      intro j hj
      obtain ⟨c', e⟩ := run_same (rd_T37 bs i).f0 (none_ regs) j (by omega)
      have e' : rd_T40 (blockM regs (rd_T37 bs i)).f0 j = insT c' (rd_T40 (rd_T37 bs i).f0 j) := e
      refine Ev.step (fun k => by rw [seedcornlaw31_ForwardShapes.l1, if_pos (by omega), if_pos (by omega), if_pos (by rw [hlen]; omega), e', if_neg (by simp [insT]), wrap_nat (n := (rd_T37 bs i).f0.length) (by omega) (by omega)]) ?_
      exact ih (j + 1) (by omega)
  have hloop : ∀ (n i : Nat), i + n = bs.length → Ev (fun k => seedcornlaw31_ForwardShapes.l0 k i regs bs regs (bs.map (blockM regs))) true := by
    intro n
    induction n with
    | zero =>
      intro i hi
      refine Ev.step (fun k => by rw [seedcornlaw31_ForwardShapes.l0, if_neg (by omega)]) ?_
      exact Ev.bind awake_ev (Ev.now _)
    | succ n ih =>
      intro i hi
      have hi' : i < bs.length := by omega
      have hlen : (blockM regs (rd_T37 bs i)).f0.length = (rd_T37 bs i).f0.length := run_length _ _
      have e : rd_T37 (bs.map (blockM regs)) i = blockM regs (rd_T37 bs i) := by
        unfold rd_T37
        rw [Int.toNat_natCast, List.getD_eq_getElem?_getD, List.getD_eq_getElem?_getD, List.getElem?_map, List.getElem?_eq_getElem hi']
        rfl
      refine Ev.step (fun k => by rw [seedcornlaw31_ForwardShapes.l0, if_pos (by omega), if_pos (by omega), if_pos (by rw [List.length_map]; omega), e, if_pos (show (rd_T37 bs i).f1 = (blockM regs (rd_T37 bs i)).f1 from rfl), if_pos (show (rd_T37 bs i).f3 = (blockM regs (rd_T37 bs i)).f3 from rfl), if_pos (show (rd_T37 bs i).f4 = (blockM regs (rd_T37 bs i)).f4 from rfl)]) ?_
      refine Ev.step (fun k => by rw [seedcornlaw31_ForwardShapes.j2, if_neg (by rw [hlen]; simp)]) ?_
      exact hin i hi' (ih (i + 1) (by omega)) (rd_T37 bs i).f0.length 0 (by omega)
  refine Ev.pos rfl ?_
  refine Ev.step (fun k => by rw [seedcornlaw31_ForwardShapes.j0, if_neg (by simp)]) ?_
  exact hloop bs.length 0 (by omega)
end Go.Proofs.Ytcfagmdopkginaa.Plain
