/- A program that may be, in plain Lean. -/
import Derived.Test.YtcfagmdopkginaaRunSim
import Derived.Test.YtcfagmdopkginaaSmallB
namespace Go.Proofs.Ytcfagmdopkginaa.RunW
open Go.RowKit Go.Proofs.YtcfagmdopkginaaW.PrintWords Go.Proofs.Ytcfagmdopkginaa.PF Go.Proofs.Ytcfagmdopkginaa.Plain Go.Proofs.Ytcfagmdopkginaa.Args

theorem drop_r24 {l : List S24} {i : Nat} (h : i < l.length) : l.drop i = rd_T24 l i :: l.drop (i + 1) := by
  rw [List.drop_eq_getElem_cons h]
  congr 1
  unfold rd_T24
  rw [Int.toNat_natCast, List.getD_eq_getElem?_getD, List.getElem?_eq_getElem h]
  rfl
theorem r24_mem {l : List S24} {i : Nat} (h : i < l.length) : rd_T24 l i ∈ l := by
  unfold rd_T24
  rw [Int.toNat_natCast, List.getD_eq_getElem?_getD, List.getElem?_eq_getElem h]
  exact List.getElem_mem h

/-- Every function from one on may be, by its number. -/
def onesB (words : Int) : Nat → List S24 → Bool
  | _, [] => true
  | i, f :: l => oneB i words f.f0 f.f1 && onesB words (i + 1) l
def rightB (words : Int) (fs : List S24) : Bool := decide (0 ≤ words) && decide (words ≤ 1048576) && !(fs.length == 0) && onesB words 0 fs
def fewFs (fs : List S24) : Prop := fs.length ≤ 1000000 ∧ ∀ f ∈ fs, fewIn f.f1

theorem right_l0 {words : Int} {fs : List S24} (hf : fewFs fs) : ∀ (n i : Nat), i + n = fs.length → Ev (fun k => seedcornref24_Right.l0 k i words fs) (onesB words i (fs.drop i))
  | 0, i, hi => by
    rw [List.drop_eq_nil_of_le (by omega)]
    refine Ev.step (fun k => by rw [seedcornref24_Right.l0, if_neg (by omega)]) ?_
    exact Ev.now _
  | n + 1, i, hi => by
    have hn := hf.1
    rw [drop_r24 (show i < fs.length by omega)]
    refine Ev.step (fun k => by rw [seedcornref24_Right.l0, if_pos (by omega), if_pos (by omega), wrap_nat (n := fs.length) (by omega) (by omega)]) ?_
    refine Ev.bind (one_ev (hf.2 _ (r24_mem (by omega)))) ?_
    rw [onesB]
    refine Ev.ite (fun h => ?_) (fun h => ?_)
    · rw [h, Bool.true_and]
      exact right_l0 hf n (i + 1) (by omega)
    · rw [Bool.eq_false_iff.2 h, Bool.false_and]
      exact Ev.now _
theorem right_ev {words : Int} {fs : List S24} (hf : fewFs fs) : Ev (fun k => seedcornref24_Right.f k words fs) (rightB words fs) := by
  have hj : ∀ b : Bool, Ev (fun k => seedcornref24_Right.j0 k b words fs) (!b && onesB words 0 fs) := fun b => by
    refine Ev.step (fun k => by rw [seedcornref24_Right.j0]) ?_
    cases b with
    | true => exact Ev.pos rfl (Ev.now _)
    | false => exact Ev.neg (by simp) (right_l0 hf fs.length 0 (by omega))
  unfold seedcornref24_Right.f rightB
  refine Ev.ite (fun h => ?_) (fun h => Ev.ite (fun h1 => ?_) (fun h1 => ?_))
  · rw [decide_eq_false (by omega)]; exact hj true
  · rw [decide_eq_false (p := words ≤ 1048576) (by omega), Bool.and_false]; exact hj true
  · rw [decide_eq_true (by omega), decide_eq_true (by omega)]
    refine Ev.eq (hj _) ?_
    cases fs with
    | nil => rfl
    | cons f l => simp; intro _; omega

theorem onesB_at {words : Int} : ∀ (l : List S24) (i : Nat), onesB words i l = true → ∀ (j : Nat) (f : S24), l[j]? = some f → oneB ((i + j : Nat) : Int) words f.f0 f.f1 = true
  | [], _, _, j, f, hj => by simp at hj
  | g :: l, i, h, j, f, hj => by
    rw [onesB, Bool.and_eq_true] at h
    cases j with
    | zero =>
      have : g = f := by simpa using hj
      subst this
      exact h.1
    | succ j =>
      have := onesB_at l (i + 1) h.2 j f (by simpa using hj)
      rwa [show i + 1 + j = i + (j + 1) by omega] at this
theorem onesB_map {words : Int} : ∀ (l : List S24) (i : Nat), onesB words i l = true → onesB words i (l.map fwdF) = true
  | [], _, _ => rfl
  | g :: l, i, h => by
    rw [onesB, Bool.and_eq_true] at h
    rw [List.map_cons, onesB, Bool.and_eq_true]
    exact ⟨oneB_map h.1, onesB_map l (i + 1) h.2⟩
theorem rightB_map {words : Int} {fs : List S24} (h : rightB words fs = true) : rightB words (fs.map fwdF) = true := by
  unfold rightB at h ⊢
  simp only [Bool.and_eq_true, List.length_map] at h ⊢
  exact ⟨h.1, onesB_map _ _ h.2⟩

/-- How great the instructions' numbers are. -/
def u32F (f : S24) : Prop := ∀ b ∈ f.f1, ∀ t ∈ b.f0, u32 t.f7
theorem run_f7 : ∀ (l : List S40) (c : List Int), (∀ t ∈ l, u32 t.f7) → ∀ t ∈ (run c l).1, u32 t.f7
  | [], _, _ => fun t ht => by simp [run] at ht
  | t :: l, c, hl => fun u hu => by
    simp only [run, List.mem_cons] at hu
    rcases hu with rfl | hu
    · exact hl t (by simp)
    · exact run_f7 l _ (fun u hu => hl u (by simp [hu])) u hu
theorem u32F_map {f : S24} (h : u32F f) : u32F (fwdF f) := fun b hb t ht => by
  obtain ⟨b0, hb0, rfl⟩ := List.mem_map.1 hb
  exact run_f7 _ _ (h b0 hb0) t ht

theorem okFn_of {i : Nat} {words : Int} {f : S24} (hw0 : 0 ≤ words) (hw1 : words ≤ 1048576) (h : oneB i words f.f0 f.f1 = true) (hn : f.f1.length ≤ 1000000) (hb : ∀ b ∈ f.f1, b.f0.length ≤ 1000000) (hu : u32F f) : okFn i words f := by
  obtain ⟨h0, h1, h2, h3⟩ := oneB_b h
  refine ⟨h0, h1, by omega, hn, fun b hbm => ?_⟩
  have hB := h3 b hbm
  have hok := blockB_ok hB
  unfold blockB at hB
  rw [Bool.and_eq_true] at hB
  obtain ⟨he, hi⟩ := hB
  refine ⟨fun t ht => ?_, hb b hbm, ?_, hok.2, ?_, ?_⟩
  · have hf := List.all_eq_true.1 hi t ht
    have hT := fitsB_okT hf
    unfold fitsB at hf
    simp only [Bool.and_eq_true, decide_eq_true_eq] at hf
    obtain ⟨⟨⟨⟨⟨⟨⟨g0, g1⟩, _⟩, _⟩, _⟩, g4⟩, g5⟩, _⟩ := hf
    have hu7 := hu b hbm t ht
    refine ⟨⟨g0, g1⟩, hT, ⟨hu7.1, hu7.2⟩, fun h3 => ?_, fun h45 => ?_, fun h67 => ?_, fun h10 => ?_⟩
    · rw [if_pos h3] at g4
      simpa using g4
    · rw [if_pos (by simpa using h45)] at g5
      simp only [Bool.and_eq_true] at g5
      exact inB_iff.1 g5.1
    · rw [if_neg (by simp; omega), if_pos (by simpa using h67)] at g5
      simp only [Bool.and_eq_true, decide_eq_true_eq] at g5
      obtain ⟨⟨⟨a1, a2⟩, a3⟩, a4⟩ := g5
      rw [wrap_id (by omega) (by omega)] at a4
      exact ⟨a1, a2, a3, by omega⟩
    · rw [if_neg (by simp; omega), if_neg (by simp; omega), if_pos h10] at g5
      simp only [Bool.and_eq_true] at g5
      exact inB_iff.1 g5.1
  · unfold endsB at he
    split at he
    · omega
    · split at he
      · omega
      · simp only [Bool.and_eq_true, beq_iff_eq] at he
        omega
  · intro h12
    unfold endsB at he
    split at he
    · simp only [Bool.and_eq_true] at he
      exact inB_iff.1 he.1
    · rename_i hn1
      split at he
      · simp only [Bool.and_eq_true] at he
        exact inB_iff.1 he.1
      · omega
  · intro h2'
    unfold endsB at he
    rw [if_neg (by omega), if_pos h2'] at he
    simp only [Bool.and_eq_true] at he
    exact inB_iff.1 he.2.1

/-- Functions that are small, with numbers that are Go's. -/
def okSm (f : S24) : Prop := smallB f.f0 f.f1 = true ∧ u32F f
theorem okSm_n {f : S24} (h : okSm f) : f.f1.length ≤ 12 ∧ ∀ b ∈ f.f1, b.f0.length ≤ 120 := by
  have h1 := h.1
  unfold smallB at h1
  simp only [Bool.and_eq_true, decide_eq_true_eq] at h1
  obtain ⟨⟨⟨h1, h2⟩, h3⟩, h4⟩ := h1
  refine ⟨h1, fun b hb => ?_⟩
  have := le_sum (l := f.f1.map fun b => b.f0.length) (x := b.f0.length) (List.mem_map.2 ⟨b, hb, rfl⟩)
  unfold sizeM at h3
  omega

/-- A program's numbers are Go's. -/
def okProg (x : Int × List S24) : Prop := i64 x.1 ∧ x.2.length * 32 ≤ 140737488351232 ∧ ∀ f ∈ x.2, okFunc (f.f0, f.f1)
end Go.Proofs.Ytcfagmdopkginaa.RunW
