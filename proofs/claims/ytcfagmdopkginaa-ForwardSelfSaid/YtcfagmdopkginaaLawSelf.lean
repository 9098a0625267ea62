/- The plain law ForwardSelf of layer 31, over lists alone. -/
import Derived.Test.YtcfagmdopkginaaSelfSim
import Derived.Test.YtcfagmdopkginaaRightB
import Derived.Test.YtcfagmdopkginaaPGs
namespace Go.Proofs.Ytcfagmdopkginaa.RunW
open Go.RowKit Go.Proofs.YtcfagmdopkginaaW.PrintWords Go.Proofs.Ytcfagmdopkginaa.PF Go.Proofs.Ytcfagmdopkginaa.Plain Go.Proofs.Ytcfagmdopkginaa.Args

theorem selfV_in {two R : Int} (h : 0 ≤ two) (hR : 0 < R) : inR R (selfV two R) := ⟨Int.tmod_nonneg _ h, Int.tmod_lt_of_pos _ hR⟩
theorem fits_self {f words R v : Int} (h : inR R v) : fitsB f R words (selfI v) = true := by
  have hin : inB v R = true := inB_iff.2 h
  simp [fitsB, selfI, sets, usesA, usesB, hin]
theorem block_self {f words R two n : Int} {b : S37} (h2 : 0 ≤ two) (h : blockB f R words n b = true) : blockB f R words n (selfB two R b) = true := by
  unfold selfB
  by_cases hR : 0 < R
  · rw [if_pos hR]
    unfold blockB at h ⊢
    rw [Bool.and_eq_true] at h ⊢
    refine ⟨h.1, ?_⟩
    show ((selfI (selfV two R)) :: b.f0).all (fitsB f R words) = true
    rw [List.all_cons, fits_self (selfV_in h2 hR), Bool.true_and]
    exact h.2
  · rw [if_neg hR]
    exact h
theorem one_self {f words two : Int} {g : S24} (h2 : 0 ≤ two) (h : oneB f words g.f0 g.f1 = true) : oneB f words (selfF two g).f0 (selfF two g).f1 = true := by
  obtain ⟨h0, h1, h3, h4⟩ := oneB_b h
  show oneB f words g.f0 (g.f1.map (selfB two g.f0)) = true
  unfold oneB
  simp only [Bool.and_eq_true, decide_eq_true_eq, List.all_eq_true, Bool.not_eq_true', beq_eq_false_iff_ne, List.length_map]
  refine ⟨⟨⟨h0, h1⟩, h3⟩, fun b hb => ?_⟩
  obtain ⟨b, hb', rfl⟩ := List.mem_map.1 hb
  exact block_self h2 (h4 b hb')
theorem ones_self {words two : Int} (h2 : 0 ≤ two) : ∀ (l : List S24) (i : Nat), onesB words i l = true → onesB words i (l.map (selfF two)) = true
  | [], _, _ => rfl
  | g :: l, i, h => by
    rw [onesB, Bool.and_eq_true] at h
    rw [List.map_cons, onesB, Bool.and_eq_true]
    exact ⟨one_self h2 h.1, ones_self h2 l (i + 1) h.2⟩
theorem right_self {words two : Int} {fs : List S24} (h2 : 0 ≤ two) (h : rightB words fs = true) : rightB words (fs.map (selfF two)) = true := by
  unfold rightB at h ⊢
  simp only [Bool.and_eq_true, List.length_map] at h ⊢
  exact ⟨h.1, ones_self h2 _ _ h.2⟩
theorem selfB_length {two R : Int} (b : S37) : (selfB two R b).f0.length ≤ b.f0.length + 1 := by
  unfold selfB
  split
  · simp
  · omega
theorem u32F_self {two : Int} {f : S24} (h : u32F f) : u32F (selfF two f) := fun b hb t ht => by
  obtain ⟨b0, hb0, rfl⟩ := List.mem_map.1 hb
  unfold selfB at ht
  split at ht
  · rcases List.mem_cons.1 ht with rfl | ht
    · exact ⟨Int.le_refl _, by show (0 : Int) ≤ 4294967295; omega⟩
    · exact h b0 hb0 t ht
  · exact h b0 hb0 t ht
/-- A program that may be, with bounds that are wide. -/
theorem okP_wide {words fuel : Int} {fs : List S24} {inp : ByteArray} (hr : rightB words fs = true) (hs : ∀ f ∈ fs, (f.f1.length ≤ 1000000 ∧ ∀ b ∈ f.f1, b.f0.length ≤ 1000000) ∧ u32F f) : okP words ⟨fs, bytesOf inp, fuel⟩ ∧ 0 < fs.length := by
  unfold rightB at hr
  simp only [Bool.and_eq_true, decide_eq_true_eq, Bool.not_eq_true', beq_eq_false_iff_ne] at hr
  obtain ⟨⟨⟨h0, h1⟩, h2⟩, h3⟩ := hr
  refine ⟨⟨h0, h1, fun i hi => ?_, fun y hy => ?_⟩, by omega⟩
  · have hi' : i < fs.length := hi
    have hm := r24_mem hi'
    have hone := onesB_at fs 0 h3 i (rd_T24 fs i) (by
      unfold rd_T24
      rw [Int.toNat_natCast, List.getD_eq_getElem?_getD, List.getElem?_eq_getElem hi']
      rfl)
    rw [Nat.zero_add] at hone
    obtain ⟨⟨a1, a2⟩, a3⟩ := hs _ hm
    exact okFn_of (f := rd_T24 fs i) h0 h1 hone a1 a2 a3
  · unfold bytesOf at hy
    obtain ⟨b, _, rfl⟩ := List.mem_map.1 hy
    have := b.toNat_lt
    omega

theorem take37 {l : List S37} {i : Nat} (g : S37 → S37) (h : i < l.length) : (l.take (i + 1)).map g = (l.take i).map g ++ [g (rd_T37 l i)] := by
  rw [List.take_add_one, List.map_append]
  congr 1
  unfold rd_T37
  rw [Int.toNat_natCast, List.getD_eq_getElem?_getD, List.getElem?_eq_getElem h]
  rfl
theorem take24 {l : List S24} {i : Nat} (g : S24 → S24) (h : i < l.length) : (l.take (i + 1)).map g = (l.take i).map g ++ [g (rd_T24 l i)] := by
  rw [List.take_add_one, List.map_append]
  congr 1
  unfold rd_T24
  rw [Int.toNat_natCast, List.getD_eq_getElem?_getD, List.getElem?_eq_getElem h]
  rfl

section
variable {words two n1 : Int} {fs : List S24} {inp : ByteArray}
/-- The blocks of one function. -/
theorem self_l1 (h0 : 0 ≤ two) (h1 : two ≤ 255) (hn : fs.length ≤ 6) {i : Nat} (hi : i < fs.length) (hlen : (rd_T24 fs i).f1.length ≤ 12) (hbl : ∀ b ∈ (rd_T24 fs i).f1, b.f0.length ≤ 120) {acc : List S24} {r : Bool}
    (hnext : Ev (fun k => (forward_Of.f k (rd_T24 fs i).f0 (selfF two (rd_T24 fs i)).f1).bind fun bt => if acc.length < 4398046511104 then seedcornlaw31_ForwardSelf.l0 k inp (wrap64 (i + 1)) words fs two n1 words (acc ++ [(⟨bt.1, bt.2.1⟩ : S24)]) else none) r) :
    ∀ (m j : Nat), j + m = (rd_T24 fs i).f1.length → Ev (fun k => seedcornlaw31_ForwardSelf.l1 k inp i j words fs two n1 words acc (rd_T24 fs i).f0 (((rd_T24 fs i).f1.take j).map (selfB two (rd_T24 fs i).f0))) r
  | 0, j, hj => by
    rw [List.take_of_length_le (by omega)]
    refine Ev.step (fun k => by rw [seedcornlaw31_ForwardSelf.l1, if_pos (by omega), if_pos (by omega), if_neg (by omega)]) ?_
    exact hnext
  | m + 1, j, hj => by
    have hjl : j < (rd_T24 fs i).f1.length := by omega
    have hm := rd37_mem0 hjl
    have hb := hbl _ hm
    have ih := self_l1 h0 h1 hn hi hlen hbl hnext m (j + 1) (by omega)
    rw [take37 _ hjl] at ih
    have hacc : (((rd_T24 fs i).f1.take j).map (selfB two (rd_T24 fs i).f0)).length < 2513169434916 := by
      rw [List.length_map, List.length_take]
      omega
    by_cases hR : 0 < (rd_T24 fs i).f0
    · refine Ev.step (fun k => by rw [seedcornlaw31_ForwardSelf.l1, if_pos (by omega), if_pos (by omega), if_pos (by omega), if_pos (by omega), if_pos (by omega), if_neg (by omega), Option.bind_some, if_pos (by simp; omega), if_pos hacc, wrap_nat (n := 20) (by omega) (by omega), wrap_id (x := two) (by omega) (by omega)]) ?_
      have e : selfB two (rd_T24 fs i).f0 (rd_T37 (rd_T24 fs i).f1 j) = ⟨selfI (selfV two (rd_T24 fs i).f0) :: (rd_T37 (rd_T24 fs i).f1 j).f0, (rd_T37 (rd_T24 fs i).f1 j).f1, (rd_T37 (rd_T24 fs i).f1 j).f2, (rd_T37 (rd_T24 fs i).f1 j).f3, (rd_T37 (rd_T24 fs i).f1 j).f4⟩ := by
        unfold selfB
        rw [if_pos hR]
      rw [e] at ih
      exact ih
    · refine Ev.step (fun k => by rw [seedcornlaw31_ForwardSelf.l1, if_pos (by omega), if_pos (by omega), if_pos (by omega), if_pos (by omega), if_neg (by omega), if_pos hacc, wrap_nat (n := 20) (by omega) (by omega)]) ?_
      have e : selfB two (rd_T24 fs i).f0 (rd_T37 (rd_T24 fs i).f1 j) = rd_T37 (rd_T24 fs i).f1 j := by
        unfold selfB
        rw [if_neg hR]
      rw [e] at ih
      exact ih

def selfG (two : Int) (f : S24) : S24 := fwdF (selfF two f)
theorem selfG_n {f : S24} (h : f.f1.length ≤ 12 ∧ ∀ b ∈ f.f1, b.f0.length ≤ 120) : (selfG two f).f1.length ≤ 1000000 ∧ ∀ b ∈ (selfG two f).f1, b.f0.length ≤ 1000000 := by
  refine ⟨by show ((f.f1.map _).map _).length ≤ 1000000; rw [List.length_map, List.length_map]; omega, fun b hb => ?_⟩
  obtain ⟨b1, hb1, rfl⟩ := List.mem_map.1 hb
  obtain ⟨b0, hb0, rfl⟩ := List.mem_map.1 hb1
  show (run _ (selfB two f.f0 b0).f0).1.length ≤ 1000000
  rw [run_length]
  have := selfB_length (two := two) (R := f.f0) b0
  have := h.2 b0 hb0
  omega

/-- Both runs. -/
theorem self_end (h0 : 0 ≤ two) (g0 : 0 ≤ n1) (g1 : n1 ≤ 255) (hi : inp.size ≤ 60) (hn : fs.length ≤ 6) (hr : rightB words fs = true) (hs : ∀ f ∈ fs, okSm f) :
    ∃ x y, Ev (fun k => seedcornref24_Run.f k words fs inp n1) x ∧ Ev (fun k => seedcornref24_Run.f k words (fs.map (selfG two)) inp (2 * n1 + 2)) y ∧ (x.1 ≠ 5 → y.1 = x.1 ∧ y.2.1 = x.2.1) := by
  obtain ⟨hp, hpos⟩ := okP_wide (fuel := n1) (inp := inp) hr (fun f hf => ⟨⟨by have := (okSm_n (hs f hf)).1; omega, fun b hb => by have := (okSm_n (hs f hf)).2 b hb; omega⟩, (hs f hf).2⟩)
  have hr2 : rightB words (fs.map (selfG two)) = true := by
    have := rightB_map (right_self h0 hr)
    rwa [List.map_map] at this
  obtain ⟨hp2, hpos2⟩ := okP_wide (fuel := 2 * n1 + 2) (inp := inp) hr2 (fun f hf => by
    obtain ⟨f0, hf0, rfl⟩ := List.mem_map.1 hf
    exact ⟨selfG_n (okSm_n (hs f0 hf0)), u32F_map (u32F_self (hs f0 hf0).2)⟩)
  obtain ⟨s', r', K, hK⟩ := exec_ends hp hpos
  obtain ⟨s2, r2, K2, hK2⟩ := exec_ends hp2 hpos2
  refine ⟨_, _, runF_ev ⟨hp, g0, by omega, by omega, hpos, by omega⟩ ⟨K, hK⟩, runF_ev ⟨hp2, by omega, by omega, by omega, hpos2, by rw [List.length_map]; omega⟩ ⟨K2, hK2⟩, fun hne => ?_⟩
  have hf5 : s'.fin ≠ 5 := fun e => hne (by unfold resOf; rw [e]; rfl)
  obtain ⟨n', _, hsim⟩ := (simS_all (two := two) (c := ⟨fs, bytesOf inp, n1⟩) K).fn ((fs.length : Int) - 1) (initS words) 0 rfl (by show (0 : Int) ≤ 2 * 0; omega) true s' r' (hK K (Nat.le_refl _)) hf5
  have hok : okFs (selfC two ⟨fs, bytesOf inp, n1⟩) := fun f hf => by
    obtain ⟨f0, hf0, rfl⟩ := List.mem_map.1 hf
    obtain ⟨hfo, hone, _, _⟩ := small_ok (hs f0 hf0).1
    obtain ⟨q0, _, _, q3⟩ := oneB_b (one_self (f := 64) (words := 2000) (g := f0) h0 hone)
    exact ⟨q0, fun b hb => blockB_ok (q3 b hb)⟩
  have hfw := (sim_all hok (2 * K)).fn _ _ rfl _ hsim
  have hcf : fwdC (selfC two ⟨fs, bytesOf inp, n1⟩) = ⟨fs.map (selfG two), bytesOf inp, 2 * n1 + 2⟩ := by
    show (⟨(fs.map (selfF two)).map fwdF, bytesOf inp, 2 * n1 + 2⟩ : Cf) = _
    rw [List.map_map]
    rfl
  rw [hcf] at hfw
  have hb1 := exec_at _ (Nat.le_max_left (2 * K) K2) hfw
  have hb2 := hK2 (max (2 * K) K2) (Nat.le_max_right _ _)
  dsimp only at hb2
  rw [List.length_map] at hb2
  have e := Option.some.inj (hb1.symm.trans hb2)
  injection e with _ e
  injection e with e _
  subst e
  exact ⟨rfl, rfl⟩

theorem self_l0 (h0 : 0 ≤ two) (h1 : two ≤ 255) (g0 : 0 ≤ n1) (g1 : n1 ≤ 255) (hi : inp.size ≤ 60) (hn : fs.length ≤ 6) (hr : rightB words fs = true) (hok : ∀ f ∈ fs, okFunc (f.f0, f.f1)) :
    ∀ (n i : Nat), i + n = fs.length → (∀ f ∈ fs.take i, okSm f) → Ev (fun k => seedcornlaw31_ForwardSelf.l0 k inp i words fs two n1 words ((fs.take i).map (selfG two))) true
  | 0, i, hin, hsm => by
    rw [List.take_of_length_le (by omega)] at hsm ⊢
    refine Ev.step (fun k => by rw [seedcornlaw31_ForwardSelf.l0, if_neg (by omega)]) ?_
    rw [wrap_id (x := n1) (by omega) (by omega), wrap_id (x := 2 * n1) (by omega) (by omega), wrap_id (x := 2 * n1 + 2) (by omega) (by omega)]
    obtain ⟨x, y, hx, hy, hxy⟩ := self_end (two := two) h0 g0 g1 hi hn hr hsm
    refine Ev.bind hx (Ev.bind hy (Ev.bind awake_ev (Ev.pos rfl (Ev.ite (fun _ => Ev.now _) (fun h5 => ?_)))))
    obtain ⟨e1, e2⟩ := hxy h5
    refine Ev.pos e1 (Ev.eq (Ev.now _) ?_)
    rw [e2]
    exact beq_self_eq_true _
  | n + 1, i, hin, hsm => by
    have hlt : i < fs.length := by omega
    have hm := r24_mem hlt
    have hfo := hok _ hm
    refine Ev.step (fun k => by rw [seedcornlaw31_ForwardSelf.l0, if_pos (by omega), if_pos (by omega)]) ?_
    refine Ev.bind (small_ev hfo) (Ev.ite (fun hs => ?_) (fun _ => Ev.bind awake_ev (Ev.now _)))
    have hu : u32F (rd_T24 fs i) := fun b hb t ht => ((hfo.2.2 b hb).2.1 t ht).2.2.2.2.2.2.2
    have hsz := okSm_n (f := rd_T24 fs i) ⟨hs, hu⟩
    obtain ⟨hf, hone, _, _⟩ := small_ok hs
    obtain ⟨q0, q1, _, q3⟩ := oneB_b (one_self (f := 64) (words := 2000) (g := rd_T24 fs i) h0 hone)
    have hof : okF (rd_T24 fs i).f0 (selfF two (rd_T24 fs i)).f1 := by
      refine ⟨q0, q1, by show ((rd_T24 fs i).f1.map _).length ≤ 1000000; rw [List.length_map]; omega, fun b hb => ⟨blockB_ok (q3 b hb), ?_⟩⟩
      obtain ⟨b0, hb0, rfl⟩ := List.mem_map.1 hb
      have := selfB_length (two := two) (R := (rd_T24 fs i).f0) b0
      have := hsz.2 b0 hb0
      omega
    have ih := self_l0 h0 h1 g0 g1 hi hn hr hok n (i + 1) (by omega) (fun f hf' => by
      rw [List.take_add_one] at hf'
      rcases List.mem_append.1 hf' with h | h
      · exact hsm f h
      · rw [List.getElem?_eq_getElem hlt] at h
        have e : f = fs[i] := by simpa using h
        have e2 : rd_T24 fs i = fs[i] := by
          unfold rd_T24
          rw [Int.toNat_natCast, List.getD_eq_getElem?_getD, List.getElem?_eq_getElem hlt]
          rfl
        rw [e, ← e2]
        exact ⟨hs, hu⟩)
    rw [take24 _ hlt] at ih
    refine self_l1 h0 h1 hn hlt hsz.1 hsz.2 ?_ (rd_T24 fs i).f1.length 0 (by omega)
    refine Ev.bind (Of_ev hof) (Ev.pos (by rw [List.length_map, List.length_take]; omega) ?_)
    rw [wrap_nat (n := fs.length) hlt (by omega)]
    exact ih
end

theorem pureSelf {words t0 t1 : Int} {fs : List S24} {inp : ByteArray} (h : okProg (words, fs)) (h0 : 0 ≤ t0) (h1 : t0 ≤ 255) (g0 : 0 ≤ t1) (g1 : t1 ≤ 255) : ∃ k, seedcornlaw31_ForwardSelf.f k words fs inp t0 t1 = some true := by
  refine Ev.rounds (g := fun k => seedcornlaw31_ForwardSelf.f k words fs inp t0 t1) ?_
  have hj : Ev (fun k => seedcornlaw31_ForwardSelf.j0 k inp true words fs t0 t1) true := by
    refine Ev.step (fun k => by rw [seedcornlaw31_ForwardSelf.j0]) ?_
    exact Ev.pos rfl (Ev.bind awake_ev (Ev.now _))
  unfold seedcornlaw31_ForwardSelf.f
  refine Ev.ite (fun _ => hj) (fun hn => Ev.ite (fun _ => hj) (fun _ => Ev.ite (fun _ => hj) (fun hi => ?_)))
  have hfew : fewFs fs := ⟨by omega, fun f hf => by
    obtain ⟨_, h2, h3⟩ := h.2.2 f hf
    dsimp only at h2 h3
    refine ⟨by omega, fun b hb => ?_⟩
    have := (h3 b hb).1
    omega⟩
  refine Ev.bind (right_ev hfew) ?_
  cases hr : rightB words fs with
  | false => exact hj
  | true =>
    refine Ev.step (fun k => by rw [seedcornlaw31_ForwardSelf.j0]) ?_
    refine Ev.neg (by simp) ?_
    exact self_l0 h0 h1 g0 g1 (by omega) (by omega) hr h.2.2 fs.length 0 (by omega) (fun f hf => by simp at hf)
end Go.Proofs.Ytcfagmdopkginaa.RunW
