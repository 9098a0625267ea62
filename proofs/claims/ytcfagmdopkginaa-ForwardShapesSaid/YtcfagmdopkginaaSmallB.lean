/- What a small function is, in plain Lean. -/
import Derived.Test.YtcfagmdopkginaaFwdAw
import Derived.Test.YtcfagmdopkginaaFits
namespace Go.Proofs.Ytcfagmdopkginaa.Plain
open Go.RowKit Go.Proofs.YtcfagmdopkginaaW.PrintWords Go.Proofs.Ytcfagmdopkginaa.PF Go.Proofs.Ytcfagmdopkginaa.Args

/-- What a small function is. -/
theorem small_ok {regs : Int} {bs : List S37} (h : smallB regs bs = true) : okF regs bs ∧ oneB 64 2000 regs bs = true ∧ fewIn (bs.map (blockM regs)) ∧ okF regs (bs.map (blockM regs)) := by
  unfold smallB at h
  simp only [Bool.and_eq_true, decide_eq_true_eq] at h
  obtain ⟨⟨⟨h1, h2⟩, h3⟩, h4⟩ := h
  obtain ⟨r0, r1, _, hb⟩ := oneB_b h4
  have hl : ∀ b ∈ bs, b.f0.length ≤ 120 := fun b hb => by
    have := le_sum (l := bs.map fun b => b.f0.length) (x := b.f0.length) (List.mem_map.2 ⟨b, hb, rfl⟩)
    unfold sizeM at h3
    omega
  have hbl : ∀ b ∈ bs.map (blockM regs), b.f0.length ≤ 120 := fun b hb => by
    obtain ⟨b, hb', rfl⟩ := List.mem_map.1 hb
    show (run _ b.f0).1.length ≤ 120
    rw [run_length]
    exact hl b hb'
  refine ⟨⟨r0, r1, by omega, fun b hb' => ⟨blockB_ok (hb b hb'), by have := hl b hb'; omega⟩⟩, h4, ⟨by rw [List.length_map]; omega, fun b hb => by have := hbl b hb; omega⟩, ⟨r0, r1, by rw [List.length_map]; omega, fun b hb' => ⟨?_, by have := hbl b hb'; omega⟩⟩⟩
  obtain ⟨b, hb'', rfl⟩ := List.mem_map.1 hb'
  exact okB_block (blockB_ok (hb b hb''))

end Go.Proofs.Ytcfagmdopkginaa.Plain
