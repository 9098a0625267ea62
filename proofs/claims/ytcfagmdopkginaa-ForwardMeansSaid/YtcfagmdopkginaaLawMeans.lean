/- The plain law ForwardMeans of layer 31, over lists alone. -/
import Derived.Test.YtcfagmdopkginaaRunSim
import Derived.Test.YtcfagmdopkginaaPGm
namespace Go.Proofs.Ytcfagmdopkginaa.RunW
open Go.RowKit Go.Proofs.YtcfagmdopkginaaW.PrintWords Go.Proofs.Ytcfagmdopkginaa.PF Go.Proofs.Ytcfagmdopkginaa.Plain Go.Proofs.Ytcfagmdopkginaa.Args

theorem drop_r24 {l : List S24} {i : Nat} (h : i < l.length) : l.drop i = rd_T24 l i :: l.drop (i + 1) := by
  rw [List.drop_eq_getElem_cons h]
  congr 1
  unfold rd_T24
  rw [Int.toNat_natCast, List.getD_eq_getElem?_getD, List.getElem?_eq_getElem h]
  rfl
theorem r24_mem {l : List S24} {i : Nat} (h : i < l.length) : rd_T24 l i ∈ l := by
  unfold rd_T24
  rw [Int.toNat_natCast, List.getD_eq_getElem?_getD, List.getElem?_eq_getElem h]
  exact List.getElem_mem h

/-- Every function from one on may be, by its number. -/
def onesB (words : Int) : Nat → List S24 → Bool
  | _, [] => true
  | i, f :: l => oneB i words f.f0 f.f1 && onesB words (i + 1) l
def rightB (words : Int) (fs : List S24) : Bool := decide (0 ≤ words) && decide (words ≤ 1048576) && !(fs.length == 0) && onesB words 0 fs
def fewFs (fs : List S24) : Prop := fs.length ≤ 1000000 ∧ ∀ f ∈ fs, fewIn f.f1

theorem right_l0 {words : Int} {fs : List S24} (hf : fewFs fs) : ∀ (n i : Nat), i + n = fs.length → Ev (fun k => seedcornref24_Right.l0 k i words fs) (onesB words i (fs.drop i))
  | 0, i, hi => by
    rw [List.drop_eq_nil_of_le (by omega)]
    refine Ev.step (fun k => by rw [seedcornref24_Right.l0, if_neg (by omega)]) ?_
    exact Ev.now _
  | n + 1, i, hi => by
    have hn := hf.1
    rw [drop_r24 (show i < fs.length by omega)]
    refine Ev.step (fun k => by rw [seedcornref24_Right.l0, if_pos (by omega), if_pos (by omega), wrap_nat (n := fs.length) (by omega) (by omega)]) ?_
    refine Ev.bind (one_ev (hf.2 _ (r24_mem (by omega)))) ?_
    rw [onesB]
    refine Ev.ite (fun h => ?_) (fun h => ?_)
    · rw [h, Bool.true_and]
      exact right_l0 hf n (i + 1) (by omega)
    · rw [Bool.eq_false_iff.2 h, Bool.false_and]
      exact Ev.now _
theorem right_ev {words : Int} {fs : List S24} (hf : fewFs fs) : Ev (fun k => seedcornref24_Right.f k words fs) (rightB words fs) := by
  have hj : ∀ b : Bool, Ev (fun k => seedcornref24_Right.j0 k b words fs) (!b && onesB words 0 fs) := fun b => by
    refine Ev.step (fun k => by rw [seedcornref24_Right.j0]) ?_
    cases b with
    | true => exact Ev.pos rfl (Ev.now _)
    | false => exact Ev.neg (by simp) (right_l0 hf fs.length 0 (by omega))
  unfold seedcornref24_Right.f rightB
  refine Ev.ite (fun h => ?_) (fun h => Ev.ite (fun h1 => ?_) (fun h1 => ?_))
  · rw [decide_eq_false (by omega)]; exact hj true
  · rw [decide_eq_false (p := words ≤ 1048576) (by omega), Bool.and_false]; exact hj true
  · rw [decide_eq_true (by omega), decide_eq_true (by omega)]
    refine Ev.eq (hj _) ?_
    cases fs with
    | nil => rfl
    | cons f l => simp; intro _; omega

theorem onesB_at {words : Int} : ∀ (l : List S24) (i : Nat), onesB words i l = true → ∀ (j : Nat) (f : S24), l[j]? = some f → oneB ((i + j : Nat) : Int) words f.f0 f.f1 = true
  | [], _, _, j, f, hj => by simp at hj
  | g :: l, i, h, j, f, hj => by
    rw [onesB, Bool.and_eq_true] at h
    cases j with
    | zero =>
      have : g = f := by simpa using hj
      subst this
      exact h.1
    | succ j =>
      have := onesB_at l (i + 1) h.2 j f (by simpa using hj)
      rwa [show i + 1 + j = i + (j + 1) by omega] at this
theorem onesB_map {words : Int} : ∀ (l : List S24) (i : Nat), onesB words i l = true → onesB words i (l.map fwdF) = true
  | [], _, _ => rfl
  | g :: l, i, h => by
    rw [onesB, Bool.and_eq_true] at h
    rw [List.map_cons, onesB, Bool.and_eq_true]
    exact ⟨oneB_map h.1, onesB_map l (i + 1) h.2⟩
theorem rightB_map {words : Int} {fs : List S24} (h : rightB words fs = true) : rightB words (fs.map fwdF) = true := by
  unfold rightB at h ⊢
  simp only [Bool.and_eq_true, List.length_map] at h ⊢
  exact ⟨h.1, onesB_map _ _ h.2⟩

/-- How great the instructions' numbers are. -/
def u32F (f : S24) : Prop := ∀ b ∈ f.f1, ∀ t ∈ b.f0, u32 t.f7
theorem run_f7 : ∀ (l : List S40) (c : List Int), (∀ t ∈ l, u32 t.f7) → ∀ t ∈ (run c l).1, u32 t.f7
  | [], _, _ => fun t ht => by simp [run] at ht
  | t :: l, c, hl => fun u hu => by
    simp only [run, List.mem_cons] at hu
    rcases hu with rfl | hu
    · exact hl t (by simp)
    · exact run_f7 l _ (fun u hu => hl u (by simp [hu])) u hu
theorem u32F_map {f : S24} (h : u32F f) : u32F (fwdF f) := fun b hb t ht => by
  obtain ⟨b0, hb0, rfl⟩ := List.mem_map.1 hb
  exact run_f7 _ _ (h b0 hb0) t ht

theorem okFn_of {i : Nat} {words : Int} {f : S24} (hw0 : 0 ≤ words) (hw1 : words ≤ 1048576) (h : oneB i words f.f0 f.f1 = true) (hn : f.f1.length ≤ 1000000) (hb : ∀ b ∈ f.f1, b.f0.length ≤ 1000000) (hu : u32F f) : okFn i words f := by
  obtain ⟨h0, h1, h2, h3⟩ := oneB_b h
  refine ⟨h0, h1, by omega, hn, fun b hbm => ?_⟩
  have hB := h3 b hbm
  have hok := blockB_ok hB
  unfold blockB at hB
  rw [Bool.and_eq_true] at hB
  obtain ⟨he, hi⟩ := hB
  refine ⟨fun t ht => ?_, hb b hbm, ?_, hok.2, ?_, ?_⟩
  · have hf := List.all_eq_true.1 hi t ht
    have hT := fitsB_okT hf
    unfold fitsB at hf
    simp only [Bool.and_eq_true, decide_eq_true_eq] at hf
    obtain ⟨⟨⟨⟨⟨⟨⟨g0, g1⟩, _⟩, _⟩, _⟩, g4⟩, g5⟩, _⟩ := hf
    have hu7 := hu b hbm t ht
    refine ⟨⟨g0, g1⟩, hT, ⟨hu7.1, hu7.2⟩, fun h3 => ?_, fun h45 => ?_, fun h67 => ?_, fun h10 => ?_⟩
    · rw [if_pos h3] at g4
      simpa using g4
    · rw [if_pos (by simpa using h45)] at g5
      simp only [Bool.and_eq_true] at g5
      exact inB_iff.1 g5.1
    · rw [if_neg (by simp; omega), if_pos (by simpa using h67)] at g5
      simp only [Bool.and_eq_true, decide_eq_true_eq] at g5
      obtain ⟨⟨⟨a1, a2⟩, a3⟩, a4⟩ := g5
      rw [wrap_id (by omega) (by omega)] at a4
      exact ⟨a1, a2, a3, by omega⟩
    · rw [if_neg (by simp; omega), if_neg (by simp; omega), if_pos h10] at g5
      simp only [Bool.and_eq_true] at g5
      exact inB_iff.1 g5.1
  · unfold endsB at he
    split at he
    · omega
    · split at he
      · omega
      · simp only [Bool.and_eq_true, beq_iff_eq] at he
        omega
  · intro h12
    unfold endsB at he
    split at he
    · simp only [Bool.and_eq_true] at he
      exact inB_iff.1 he.1
    · rename_i hn1
      split at he
      · simp only [Bool.and_eq_true] at he
        exact inB_iff.1 he.1
      · omega
  · intro h2'
    unfold endsB at he
    rw [if_neg (by omega), if_pos h2'] at he
    simp only [Bool.and_eq_true] at he
    exact inB_iff.1 he.2.1

/-- Functions that are small, with numbers that are Go's. -/
def okSm (f : S24) : Prop := smallB f.f0 f.f1 = true ∧ u32F f
theorem okSm_n {f : S24} (h : okSm f) : f.f1.length ≤ 12 ∧ ∀ b ∈ f.f1, b.f0.length ≤ 120 := by
  have h1 := h.1
  unfold smallB at h1
  simp only [Bool.and_eq_true, decide_eq_true_eq] at h1
  obtain ⟨⟨⟨h1, h2⟩, h3⟩, h4⟩ := h1
  refine ⟨h1, fun b hb => ?_⟩
  have := le_sum (l := f.f1.map fun b => b.f0.length) (x := b.f0.length) (List.mem_map.2 ⟨b, hb, rfl⟩)
  unfold sizeM at h3
  omega
theorem fwdF_n {f : S24} (h : f.f1.length ≤ 12 ∧ ∀ b ∈ f.f1, b.f0.length ≤ 120) : (fwdF f).f1.length ≤ 12 ∧ ∀ b ∈ (fwdF f).f1, b.f0.length ≤ 120 := by
  refine ⟨by show (f.f1.map _).length ≤ 12; rw [List.length_map]; exact h.1, fun b hb => ?_⟩
  obtain ⟨b0, hb0, rfl⟩ := List.mem_map.1 hb
  show (run _ b0.f0).1.length ≤ 120
  rw [run_length]
  exact h.2 b0 hb0
theorem okP_of {words fuel : Int} {fs : List S24} {inp : ByteArray} (hr : rightB words fs = true) (hs : ∀ f ∈ fs, (f.f1.length ≤ 12 ∧ ∀ b ∈ f.f1, b.f0.length ≤ 120) ∧ u32F f) : okP words ⟨fs, bytesOf inp, fuel⟩ ∧ 0 < fs.length := by
  unfold rightB at hr
  simp only [Bool.and_eq_true, decide_eq_true_eq, Bool.not_eq_true', beq_eq_false_iff_ne] at hr
  obtain ⟨⟨⟨h0, h1⟩, h2⟩, h3⟩ := hr
  refine ⟨⟨h0, h1, fun i hi => ?_, fun y hy => ?_⟩, by omega⟩
  · have hi' : i < fs.length := hi
    have hm := r24_mem hi'
    have hone := onesB_at fs 0 h3 i (rd_T24 fs i) (by
      unfold rd_T24
      rw [Int.toNat_natCast, List.getD_eq_getElem?_getD, List.getElem?_eq_getElem hi']
      rfl)
    rw [Nat.zero_add] at hone
    obtain ⟨⟨a1, a2⟩, a3⟩ := hs _ hm
    exact okFn_of (f := rd_T24 fs i) h0 h1 hone (Nat.le_trans a1 (by omega)) (fun b hb => Nat.le_trans (a2 b hb) (by omega)) a3
  · unfold bytesOf at hy
    obtain ⟨b, _, rfl⟩ := List.mem_map.1 hy
    have := b.toNat_lt
    omega

theorem means_end {words fuel : Int} {fs : List S24} {inp : ByteArray} (h0 : 0 ≤ fuel) (h1 : fuel ≤ 255) (hi : inp.size ≤ 60) (hn : fs.length ≤ 6) (hr : rightB words fs = true) (hs : ∀ f ∈ fs, okSm f) :
    ∃ x, Ev (fun k => seedcornref24_Run.f k words fs inp fuel) x ∧ Ev (fun k => seedcornref24_Run.f k words (fs.map fwdF) inp fuel) x := by
  obtain ⟨hp, hpos⟩ := okP_of (fuel := fuel) (inp := inp) hr (fun f hf => ⟨okSm_n (hs f hf), (hs f hf).2⟩)
  obtain ⟨hp2, _⟩ := okP_of (fuel := fuel) (inp := inp) (rightB_map hr) (fun f hf => by
    obtain ⟨f0, hf0, rfl⟩ := List.mem_map.1 hf
    exact ⟨fwdF_n (okSm_n (hs f0 hf0)), u32F_map (hs f0 hf0).2⟩)
  obtain ⟨s', r', K, hK⟩ := exec_ends hp hpos
  have hok : okFs ⟨fs, bytesOf inp, fuel⟩ := fun f hf => by
    obtain ⟨hfo, _⟩ := small_ok (hs f hf).1
    exact ⟨hfo.r0, fun b hb => (hfo.b b hb).1⟩
  refine ⟨_, runF_ev ⟨hp, h0, by omega, by omega, hpos, by omega⟩ ⟨K, hK⟩, runF_ev (b := true) (r' := r') ⟨hp2, h0, by omega, by omega, by rw [List.length_map]; exact hpos, by rw [List.length_map]; omega⟩ ⟨K, fun k hk => ?_⟩⟩
  have := (sim_all hok k).fn _ _ rfl _ (hK k hk)
  rw [List.length_map]
  exact this

theorem means_l0 {words fuel : Int} {fs : List S24} {inp : ByteArray} (h0 : 0 ≤ fuel) (h1 : fuel ≤ 255) (hi : inp.size ≤ 60) (hn : fs.length ≤ 6) (hr : rightB words fs = true) (hok : ∀ f ∈ fs, okFunc (f.f0, f.f1)) :
    ∀ (n i : Nat), i + n = fs.length → (∀ f ∈ fs.take i, okSm f) → Ev (fun k => seedcornlaw31_ForwardMeans.l0 k inp fuel i words fs words ((fs.take i).map fwdF)) true
  | 0, i, hin, hsm => by
    rw [List.take_of_length_le (by omega)] at hsm ⊢
    refine Ev.step (fun k => by rw [seedcornlaw31_ForwardMeans.l0, if_neg (by omega)]) ?_
    refine Ev.bind awake_ev (Ev.pos rfl ?_)
    have hfew : fewFs (fs.map fwdF) := ⟨by rw [List.length_map]; omega, fun f hf => by
      obtain ⟨f0, hf0, rfl⟩ := List.mem_map.1 hf
      obtain ⟨a1, a2⟩ := fwdF_n (okSm_n (hsm f0 hf0))
      exact ⟨by omega, fun b hb => by have := a2 b hb; omega⟩⟩
    refine Ev.bind (right_ev hfew) (Ev.pos (rightB_map hr) ?_)
    rw [wrap_id (by omega) (by omega)]
    obtain ⟨x, hx1, hx2⟩ := means_end h0 h1 hi hn hr hsm
    refine Ev.bind hx1 (Ev.bind hx2 (Ev.eq (Ev.now _) (by simp)))
  | n + 1, i, hin, hsm => by
    have hlt : i < fs.length := by omega
    have hm := r24_mem hlt
    have hfo := hok _ hm
    refine Ev.step (fun k => by rw [seedcornlaw31_ForwardMeans.l0, if_pos (by omega), if_pos (by omega)]) ?_
    refine Ev.bind (small_ev hfo) (Ev.ite (fun hs => ?_) (fun _ => Ev.bind awake_ev (Ev.now _)))
    obtain ⟨hf, _, _, _⟩ := small_ok hs
    refine Ev.bind (Of_ev hf) (Ev.pos (by rw [List.length_map, List.length_take]; omega) ?_)
    have htk : (fs.take (i + 1)).map fwdF = (fs.take i).map fwdF ++ [fwdF (rd_T24 fs i)] := by
      rw [List.take_add_one, List.map_append]
      congr 1
      unfold rd_T24
      rw [Int.toNat_natCast, List.getD_eq_getElem?_getD, List.getElem?_eq_getElem hlt]
      rfl
    have := means_l0 h0 h1 hi hn hr hok n (i + 1) (by omega) (fun f hf' => by
      rw [List.take_add_one] at hf'
      rcases List.mem_append.1 hf' with h | h
      · exact hsm f h
      · rw [List.getElem?_eq_getElem hlt] at h
        have e : f = fs[i] := by simpa using h
        have e2 : rd_T24 fs i = fs[i] := by
          unfold rd_T24
          rw [Int.toNat_natCast, List.getD_eq_getElem?_getD, List.getElem?_eq_getElem hlt]
          rfl
        rw [e, ← e2]
        exact ⟨hs, fun b hb t ht => ((hfo.2.2 b hb).2.1 t ht).2.2.2.2.2.2.2⟩)
    rw [htk] at this
    rw [wrap_nat (n := fs.length) hlt (by omega)]
    exact this

/-- A program's numbers are Go's. -/
def okProg (x : Int × List S24) : Prop := i64 x.1 ∧ x.2.length * 32 ≤ 140737488351232 ∧ ∀ f ∈ x.2, okFunc (f.f0, f.f1)

theorem pureMeans {words fuel : Int} {fs : List S24} {inp : ByteArray} (h : okProg (words, fs)) (h0 : 0 ≤ fuel) (h1 : fuel ≤ 255) : ∃ k, seedcornlaw31_ForwardMeans.f k words fs inp fuel = some true := by
  refine Ev.rounds (g := fun k => seedcornlaw31_ForwardMeans.f k words fs inp fuel) ?_
  have hj : Ev (fun k => seedcornlaw31_ForwardMeans.j0 k inp fuel true words fs) true := by
    refine Ev.step (fun k => by rw [seedcornlaw31_ForwardMeans.j0]) ?_
    exact Ev.pos rfl (Ev.bind awake_ev (Ev.now _))
  unfold seedcornlaw31_ForwardMeans.f
  refine Ev.ite (fun _ => hj) (fun hn => Ev.ite (fun _ => hj) (fun _ => Ev.ite (fun _ => hj) (fun hi => ?_)))
  have hfew : fewFs fs := ⟨by omega, fun f hf => by
    obtain ⟨_, h2, h3⟩ := h.2.2 f hf
    dsimp only at h2 h3
    refine ⟨by omega, fun b hb => ?_⟩
    have := (h3 b hb).1
    omega⟩
  refine Ev.bind (right_ev hfew) ?_
  cases hr : rightB words fs with
  | false => exact hj
  | true =>
    refine Ev.step (fun k => by rw [seedcornlaw31_ForwardMeans.j0]) ?_
    refine Ev.neg (by simp) ?_
    exact means_l0 h0 h1 (by omega) (by omega) hr h.2.2 fs.length 0 (by omega) (fun f hf => by simp at hf)
end Go.Proofs.Ytcfagmdopkginaa.RunW
