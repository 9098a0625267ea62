/- Layer 31: a full certificate is full; the fixed fact holds. -/
import Derived.Test.YtcfagmdopkginaaFwd
import Derived.Test.YtcfagmdopkginaaFwdEv
import Derived.Test.YtcfagmdopkginaaPFx15
namespace Go.Proofs.Ytcfagmdopkginaa.Plain
open Go.RowKit Go.Proofs.YtcfagmdopkginaaW.PrintWords Go.Proofs.Ytcfagmdopkginaa.PF Go.Proofs.Ytcfagmdopkginaa.Args

/-! ### A full certificate is full -/
theorem rd_cert {regs : Int} {n i : Nat} (h : i < n) : rd_L6 (certM regs n) i = List.replicate regs.toNat true := by
  unfold rd_L6 certM
  rw [Int.toNat_natCast, List.getD_eq_getElem?_getD, List.getElem?_replicate, if_pos h]
  rfl
theorem full_ev {regs : Int} {n : Nat} (hr0 : 0 ≤ regs) (hr : regs ≤ 4000) (hn : n ≤ 1000000) : Ev (fun k => seedcornlaw31_full.f k (certM regs n) n regs) true := by
  have hcl : (certM regs n).length = n := by simp [certM]
  have hl1 : ∀ (i : Nat), i < n → Ev (fun k => seedcornlaw31_full.l0 k n regs (wrap64 (i + 1)) (certM regs n)) true → ∀ (m j : Nat), (j + m : Int) = regs → Ev (fun k => seedcornlaw31_full.l1 k n regs i j (certM regs n)) true := by
    intro i hi h m
    induction m with
    | zero =>
      intro j hj
      refine Ev.step (fun k => by rw [seedcornlaw31_full.l1, if_neg (by omega)]) ?_
      exact h
    | succ m ih =>
      intro j hj
      have hrd : rdOf false (List.replicate regs.toNat true) (j : Int) = true := by
        unfold rdOf
        rw [Int.toNat_natCast, List.getD_eq_getElem?_getD, List.getElem?_replicate, if_pos (by omega)]
        rfl
      refine Ev.step (fun k => by rw [seedcornlaw31_full.l1, if_pos (by omega), if_pos (by omega), if_pos (by omega), if_pos (by omega), rd_cert hi, if_pos (by simp; omega), hrd, if_pos rfl, wrap_nat (n := 5000) (by omega) (by omega)]) ?_
      exact ih (j + 1) (by omega)
  have hl0 : ∀ (m i : Nat), i + m = n → Ev (fun k => seedcornlaw31_full.l0 k n regs i (certM regs n)) true := by
    intro m
    induction m with
    | zero =>
      intro i hi
      refine Ev.step (fun k => by rw [seedcornlaw31_full.l0, if_neg (by omega)]) ?_
      exact Ev.now _
    | succ m ih =>
      intro i hi
      refine Ev.step (fun k => by rw [seedcornlaw31_full.l0, if_pos (by omega), if_pos (by omega), if_pos (by omega), rd_cert (by omega), if_pos (by simp; omega)]) ?_
      exact hl1 i (by omega) (by rw [wrap_nat (n := n) (by omega) (by omega)]; exact ih (i + 1) (by omega)) regs.toNat 0 (by omega)
  unfold seedcornlaw31_full.f
  exact Ev.pos (by rw [hcl]) (hl0 n 0 (by omega))

/-! ### The fixed fact -/
def wk : List S37 := [⟨[⟨2, 1, 0, 0, 0, 0, 0, 0⟩, ⟨9, 0, 1, 0, 0, 0, 0, 0⟩], 3, 0, 0, 0⟩]
theorem awake_ev : Ev (fun k => seedcornlaw31_awake.f k) true := by
  have hf : okF 2 wk := by
    refine ⟨by decide, by decide, by decide, fun b hb => ?_⟩
    have hb' : b = ⟨[⟨2, 1, 0, 0, 0, 0, 0, 0⟩, ⟨9, 0, 1, 0, 0, 0, 0, 0⟩], 3, 0, 0, 0⟩ := by simpa [wk] using hb
    subst hb'
    refine ⟨⟨fun t ht => ?_, fun h => by simp at h⟩, by simp⟩
    have ht' : t = ⟨2, 1, 0, 0, 0, 0, 0, 0⟩ ∨ t = ⟨9, 0, 1, 0, 0, 0, 0, 0⟩ := by simpa using ht
    rcases ht' with rfl | rfl
    · exact ⟨fun _ => ⟨by decide, by decide⟩, fun h => by simp [usesB] at h, fun _ => ⟨by decide, by decide⟩⟩
    · exact ⟨fun _ => ⟨by decide, by decide⟩, fun h => by simp [usesB] at h, fun h => by simp [sets] at h⟩
  have hfull : Ev (fun k => seedcornlaw31_full.f k (certM 2 wk.length) 1 2) true := full_ev (regs := 2) (n := 1) (by decide) (by decide) (by decide)
  have hm : wk.map (blockM 2) = [⟨[⟨2, 1, 0, 0, 0, 0, 0, 0⟩, ⟨9, 0, 0, 0, 0, 0, 0, 0⟩], 3, 0, 0, 0⟩] := by
    simp [wk, blockM, run, insT, insC, usesA, usesB, none_, ofM, rd, setM, clr]
  have hof := Of_ev hf
  rw [hm] at hof
  unfold seedcornlaw31_awake.f
  refine Ev.bind hof (Ev.bind hfull (Ev.pos rfl ?_))
  refine Ev.pos rfl (Ev.pos (by decide) (Ev.pos rfl (Ev.pos (by decide) ?_)))
  exact Ev.now _

end Go.Proofs.Ytcfagmdopkginaa.Plain
