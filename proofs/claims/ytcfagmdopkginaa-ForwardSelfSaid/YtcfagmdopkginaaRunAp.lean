/- Apply, the table of operations, comes to a word, whatever two words it is asked of; plain Lean. -/
import Derived.Test.YtcfagmdopkginaaRunM
namespace Go.Proofs.Ytcfagmdopkginaa.RunW
open Go.RowKit Go.Proofs.YtcfagmdopkginaaW.PrintWords Go.Proofs.Ytcfagmdopkginaa.PF Go.Proofs.Ytcfagmdopkginaa.Plain

/-- It comes, with rounds enough, to a word. -/
def ToU (g : Nat → Option Int) : Prop := ∃ r, Ev g r ∧ 0 ≤ r ∧ r ≤ 4294967295
theorem ToU.pos {c : Prop} [Decidable c] {f g : Nat → Option Int} (h : c) (k : ToU f) : ToU (fun n => if c then f n else g n) := by obtain ⟨r, k, b⟩ := k; exact ⟨r, Ev.pos h k, b⟩
theorem ToU.ite {c : Prop} [Decidable c] {f g : Nat → Option Int} (h : c → ToU f) (k : ¬ c → ToU g) : ToU (fun n => if c then f n else g n) := by
  by_cases hc : c
  · obtain ⟨r, k, b⟩ := h hc; exact ⟨r, Ev.pos hc k, b⟩
  · obtain ⟨r, k, b⟩ := k hc; exact ⟨r, Ev.neg hc k, b⟩
theorem ToU.step {g f : Nat → Option Int} (h : ∀ k, g (k + 1) = f k) (k : ToU f) : ToU g := by obtain ⟨r, k, b⟩ := k; exact ⟨r, Ev.step h k, b⟩
theorem ToU.now {r : Int} (h0 : 0 ≤ r) (h1 : r ≤ 4294967295) : ToU (fun _ => some r) := ⟨r, Ev.now r, h0, h1⟩

theorem bits_ev : ∀ (n : Nat) (x : Int) (xs : List Int), xs.length + n = 32 → ∃ r, r.length = 32 ∧ Ev (fun k => seedcornref01_Bits.l0 k x xs xs.length) r
  | 0, x, xs, h => ⟨xs, by omega, Ev.step (fun k => by rw [seedcornref01_Bits.l0, if_neg (by omega)]) (Ev.now _)⟩
  | n + 1, x, xs, h => by
    obtain ⟨r, h1, h2⟩ := bits_ev n ((Int.tdiv x 2) % 4294967296) (xs ++ [wrap64 (Int.tmod x 2)]) (by simp; omega)
    refine ⟨r, h1, Ev.step (fun k => by rw [seedcornref01_Bits.l0, if_pos (by omega), if_pos (by omega), wrap_nat (n := 32) (by omega) (by omega)]) ?_⟩
    rw [List.length_append] at h2
    exact h2
theorem bits (x : Int) : ∃ r, r.length = 32 ∧ Ev (fun k => seedcornref01_Bits.f k x) r := bits_ev 32 x [] rfl

theorem of_to (l : List Int) (hl : l.length = 32) : ∀ (n : Nat) (x : Int), n ≤ 32 → ToU (fun k => seedcornref01_Of.l0 k l x ((n : Int) - 1))
  | 0, x, h => ToU.step (fun k => by rw [seedcornref01_Of.l0, if_neg (by omega)]) (ToU.now (by omega) (by omega))
  | n + 1, x, h => by
    refine ToU.step (fun k => by rw [seedcornref01_Of.l0, if_pos (by omega), if_pos (by omega), if_pos (by omega), show wrap64 (((n + 1 : Nat) : Int) - 1 - 1) = (n : Int) - 1 by rw [wrap_id] <;> omega]) ?_
    exact of_to l hl n _ (by omega)
theorem of_all (l : List Int) (hl : l.length = 32) : ToU (fun k => seedcornref01_Of.f k l) := by
  have := of_to l hl 32 0 (by omega)
  unfold seedcornref01_Of.f
  rw [hl, show wrap64 (((32 : Nat) : Int) - 1) = ((32 : Nat) : Int) - 1 by rw [wrap_id] <;> omega]
  exact this

theorem both_to (op : Int) (ys : List Int) (hy : ys.length = 32) : ∀ (n i : Nat) (xs : List Int), i + n = 32 → xs.length = 32 → ToU (fun k => seedcornref01_both.l0 k op xs ys i)
  | 0, i, xs, h, hx => by
    refine ToU.step (fun k => by rw [seedcornref01_both.l0, if_neg (by omega)]) ?_
    obtain ⟨r, h1, h2⟩ := of_all xs hx
    exact ⟨r, Ev.bind h1 (Ev.now _), h2⟩
  | n + 1, i, xs, h, hx => by
    have next : ∀ zs : List Int, zs.length = 32 → ToU (fun k => seedcornref01_both.l0 k op zs ys ((i + 1 : Nat) : Int)) := fun zs hz => both_to op ys hy n (i + 1) zs (by omega) hz
    refine ToU.step (fun k => by rw [seedcornref01_both.l0, if_pos (by omega), if_pos (by omega), if_pos (by omega), if_pos (by omega), wrap_nat (n := 32) (by omega) (by omega), Option.bind_some]) ?_
    have hl : (xs.set (i : Int).toNat 0).length = 32 := by simp [hx]
    have hl2 : ((xs.set (i : Int).toNat 0).set (i : Int).toNat 1).length = 32 := by simp [hx]
    refine ToU.ite (fun h2 => ToU.ite (fun h11 => ToU.ite (fun h1 => by omega) (fun _ => next _ hl)) (fun _ => next _ hl2)) (fun _ => ToU.ite (fun _ => ToU.ite (fun _ => next _ hl) (fun _ => next _ hl2)) (fun _ => next _ hl))
theorem both_all (op a b : Int) : ToU (fun k => seedcornref01_both.f k op a b) := by
  obtain ⟨x, hx, hx'⟩ := bits a
  obtain ⟨y, hy, hy'⟩ := bits b
  obtain ⟨r, h, hr⟩ := both_to op y hy 32 0 x rfl hx
  exact ⟨r, Ev.bind hx' (Ev.bind hy' h), hr⟩

theorem shift_to (op b : Int) (hb : b < 32) : ∀ (n i : Nat) (x : Int), (i + n : Int) = b → ToU (fun k => seedcornref01_shift.l0 k op b x i)
  | 0, i, x, h => ToU.step (fun k => by rw [seedcornref01_shift.l0, if_neg (by omega)]) (ToU.now (by omega) (by omega))
  | n + 1, i, x, h => by
    refine ToU.step (fun k => by rw [seedcornref01_shift.l0, if_pos (by omega), show ((i : Int) + 1) % 4294967296 = ((i + 1 : Nat) : Int) by omega]) ?_
    exact ToU.ite (fun _ => shift_to op b hb n (i + 1) _ (by omega)) (fun _ => shift_to op b hb n (i + 1) _ (by omega))
theorem shift_all (op a b : Int) (hb : 0 ≤ b) : ToU (fun k => seedcornref01_shift.f k op a b) := by
  unfold seedcornref01_shift.f
  refine ToU.ite (fun _ => ToU.now (by omega) (by omega)) (fun h => ?_)
  exact shift_to op b (by omega) b.toNat 0 _ (by omega)

theorem flag_all (c : Bool) : ∃ r, seedcornref01_flag.f c = some r ∧ 0 ≤ r ∧ r ≤ 4294967295 := by
  unfold seedcornref01_flag.f
  split
  · exact ⟨1, rfl, by omega, by omega⟩
  · exact ⟨0, rfl, by omega, by omega⟩

def ToP (g : Nat → Option (Int × Int)) : Prop := ∃ r, Ev g r ∧ 0 ≤ r.1 ∧ r.1 ≤ 4294967295
theorem ToP.ite {c : Prop} [Decidable c] {f g : Nat → Option (Int × Int)} (h : c → ToP f) (k : ¬ c → ToP g) : ToP (fun n => if c then f n else g n) := by
  by_cases hc : c
  · obtain ⟨r, k, b⟩ := h hc; exact ⟨r, Ev.pos hc k, b⟩
  · obtain ⟨r, k, b⟩ := k hc; exact ⟨r, Ev.neg hc k, b⟩
theorem ToP.step {g f : Nat → Option (Int × Int)} (h : ∀ k, g (k + 1) = f k) (k : ToP f) : ToP g := by obtain ⟨r, k, b⟩ := k; exact ⟨r, Ev.step h k, b⟩
theorem ToP.now {r e : Int} (h0 : 0 ≤ r) (h1 : r ≤ 4294967295) : ToP (fun _ => some (r, e)) := ⟨(r, e), Ev.now _, h0, h1⟩
theorem ToP.of_ {g : Nat → Option Int} (h : ToU g) : ToP (fun n => (g n).bind fun t => some (t, 0)) := by
  obtain ⟨r, h, h0, h1⟩ := h
  exact ⟨(r, 0), Ev.bind h (Ev.now _), h0, h1⟩
theorem ToP.flag (c : Bool) : ToP (fun _ => (seedcornref01_flag.f c).bind fun t => some (t, 0)) := by
  obtain ⟨r, h, h0, h1⟩ := flag_all c
  rw [h]
  exact ToP.now h0 h1

theorem apply_j1 (op a b x : Int) (c : Bool) (hb : 0 ≤ b) : ToP (fun k => seedcornref01_Apply.j1 k op a b x c) := by
  refine ToP.step (fun k => by rw [seedcornref01_Apply.j1]) ?_
  exact ToP.ite (fun _ => ToP.of_ (shift_all _ _ _ hb)) (fun _ => ToP.ite (fun _ => ToP.flag _) (fun _ => ToP.ite (fun _ => ToP.flag _) (fun _ => ToP.now (by omega) (by omega))))
theorem apply_j0 (op a b x : Int) (c : Bool) (hb : 0 ≤ b) : ToP (fun k => seedcornref01_Apply.j0 k op a b x c) := by
  refine ToP.step (fun k => by rw [seedcornref01_Apply.j0]) ?_
  exact ToP.ite (fun _ => ToP.of_ (both_all _ _ _)) (fun _ => ToP.ite (fun _ => apply_j1 _ _ _ _ _ hb) (fun _ => apply_j1 _ _ _ _ _ hb))

theorem u64_id {x : Int} (h0 : 0 ≤ x) (h1 : x ≤ 4294967295) : IntKind.u64.wrap x = x := by
  rw [IntKind.wrap_u64]; omega
theorem apply_all (op a b : Int) (hb : 0 ≤ b) (hb1 : b ≤ 4294967295) : ToP (fun k => seedcornref01_Apply.f k op a b) := by
  unfold seedcornref01_Apply.f
  refine ToP.ite (fun _ => ToP.now (by omega) (by omega)) (fun _ => ToP.ite (fun _ => ToP.now (by omega) (by omega)) (fun _ => ToP.ite (fun _ => ToP.now (by omega) (by omega)) (fun _ => ToP.ite (fun _ => ?_) (fun _ => ToP.ite (fun _ => ?_) (fun _ => ?_)))))
  · exact ToP.ite (fun _ => ToP.now (by omega) (by omega)) (fun h => ToP.ite (fun h2 => absurd ((u64_id hb hb1).symm.trans h2) h) (fun _ => ToP.now (by omega) (by omega)))
  · exact ToP.ite (fun _ => ToP.now (by omega) (by omega)) (fun h => ToP.ite (fun h2 => absurd ((u64_id hb hb1).symm.trans h2) h) (fun _ => ToP.now (by omega) (by omega)))
  · repeat' (first | exact apply_j0 _ _ _ _ _ hb | refine ToP.ite (fun _ => ?_) (fun _ => ?_))

/-- Apply comes to a word, with rounds enough. -/
theorem apply_ok : ApplyOk := fun op a b _ _ _ _ hb hb1 => by
  obtain ⟨r, h, h0, h1⟩ := apply_all op a b hb hb1
  exact ⟨r, ap_ev h, h0, h1⟩
end Go.Proofs.Ytcfagmdopkginaa.RunW
