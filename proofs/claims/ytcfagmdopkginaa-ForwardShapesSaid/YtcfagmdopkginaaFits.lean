/- Layer 24 in plain Lean: what functions in blocks may be ('One', 'small'), with rounds enough. -/
import Derived.Test.YtcfagmdopkginaaFwd
import Derived.Test.YtcfagmdopkginaaPFx9
import Derived.Test.YtcfagmdopkginaaArgs
namespace Go.Proofs.Ytcfagmdopkginaa.Plain
open Go.RowKit Go.Proofs.YtcfagmdopkginaaW.PrintWords Go.Proofs.Ytcfagmdopkginaa.PF Go.Proofs.Ytcfagmdopkginaa.Args

theorem Ev.after {α : Type} {g : Nat → Option α} {r : α} (j : Nat) (h : ∀ k, g (k + j) = some r) : Ev g r :=
  ⟨j, fun k hk => by obtain ⟨m, rfl⟩ : ∃ m, k = m + j := ⟨k - j, by omega⟩; exact h m⟩

def inB (v n : Int) : Bool := decide (0 ≤ v) && decide (v < n)
def fitsB (f regs words : Int) (t : S40) : Bool :=
  decide (1 ≤ t.f0) && decide (t.f0 ≤ 10) && (if sets t.f0 then inB t.f1 regs else t.f1 == 0) && (if usesA t.f0 then inB t.f2 regs else t.f2 == 0) && (if usesB t.f0 then inB t.f3 regs else t.f3 == 0) &&
  (if t.f0 = 3 then decide (4 ≤ t.f4) && decide (t.f4 ≤ 15) else t.f4 == 0) &&
  (if t.f0 = 4 || t.f0 = 5 then inB t.f5 words && t.f6 == 0 else if t.f0 = 6 || t.f0 = 7 then decide (1 ≤ t.f6) && decide (t.f6 ≤ 4096) && decide (0 ≤ t.f5) && decide (t.f5 ≤ wrap64 (words - t.f6)) else if t.f0 = 10 then inB t.f5 f && t.f6 == 0 else t.f5 == 0 && t.f6 == 0) &&
  (t.f0 == 1 || t.f7 == 0)

theorem within_eq (v n : Int) : seedcornref24_within.f v n = some (inB v n) := by
  unfold seedcornref24_within.f inB
  split
  · simp_all
  · rw [decide_eq_false (by omega), Bool.false_and]
theorem rd_one (a : Int) : rd [a] 0 = a := rfl
theorem rd_two0 (a b : Int) : rd [a, b] 0 = a := rfl
theorem rd_two1 (a b : Int) : rd [a, b] 1 = b := rfl
theorem wrap_1 : wrap64 1 = 1 := by unfold wrap64; omega
theorem wrap_2 : wrap64 2 = 2 := by unfold wrap64; omega

theorem fits_at (t : S40) (f regs words : Int) (k : Nat) : seedcornref24_fits.f (k + 12) t.f0 t.f1 t.f2 t.f3 t.f4 t.f5 t.f6 t.f7 f regs words = some (fitsB f regs words t) := by
  obtain ⟨op, d, a, b, kk, base, size, n⟩ := t
  dsimp only
  by_cases h0 : op < 1
  · simp [seedcornref24_fits.f, seedcornref24_fits.j0, h0, fitsB]
    omega
  by_cases h10 : op > 10
  · simp [seedcornref24_fits.f, seedcornref24_fits.j0, h0, h10, fitsB]
    omega
  have hop : op = 1 ∨ op = 2 ∨ op = 3 ∨ op = 4 ∨ op = 5 ∨ op = 6 ∨ op = 7 ∨ op = 8 ∨ op = 9 ∨ op = 10 := by omega
  rcases hop with rfl | rfl | rfl | rfl | rfl | rfl | rfl | rfl | rfl | rfl
  all_goals
    simp [seedcornref24_fits.f, seedcornref24_fits.j0, seedcornref24_fits.j1, seedcornref24_fits.j2, seedcornref24_fits.l0, seedcornref24_fits.j4, seedcornref24_fits.j5, seedcornref24_fits.j6, seedcornref24_fits.j7, seedcornref24_Sets.f, seedcornref24_Uses.f, seedcornref24_Uses.j0, within_eq, rd_one, rd_two0, rd_two1, wrap_1, wrap_2, fitsB, sets, usesA, usesB]
    grind

theorem fits_ev (t : S40) (f regs words : Int) : Ev (fun k => seedcornref24_fits.f k t.f0 t.f1 t.f2 t.f3 t.f4 t.f5 t.f6 t.f7 f regs words) (fitsB f regs words t) :=
  Ev.after 12 (fits_at t f regs words)

def endsB (n regs : Int) (b : S37) : Bool :=
  if b.f1 = 1 then inB b.f3 n && (b.f2 == 0 && b.f4 == 0) else if b.f1 = 2 then inB b.f3 n && (inB b.f4 n && inB b.f2 regs) else b.f1 == 3 && (b.f2 == 0 && (b.f3 == 0 && b.f4 == 0))
theorem ends_eq (b : S37) (n regs : Int) : seedcornref24_ends.f b.f0 b.f1 b.f2 b.f3 b.f4 n regs = some (endsB n regs b) := by
  simp only [seedcornref24_ends.f, endsB, within_eq, Option.bind_some]
  grind

theorem drop_r40 {l : List S40} {i : Nat} (h : i < l.length) : l.drop i = rd_T40 l i :: l.drop (i + 1) := by
  rw [List.drop_eq_getElem_cons h]
  congr 1
  unfold rd_T40
  rw [Int.toNat_natCast, List.getD_eq_getElem?_getD, List.getElem?_eq_getElem h]
  rfl
theorem drop_r37 {l : List S37} {i : Nat} (h : i < l.length) : l.drop i = rd_T37 l i :: l.drop (i + 1) := by
  rw [List.drop_eq_getElem_cons h]
  congr 1
  unfold rd_T37
  rw [Int.toNat_natCast, List.getD_eq_getElem?_getD, List.getElem?_eq_getElem h]
  rfl
theorem r37_mem {l : List S37} {i : Nat} (h : i < l.length) : rd_T37 l i ∈ l := by
  unfold rd_T37
  rw [Int.toNat_natCast, List.getD_eq_getElem?_getD, List.getElem?_eq_getElem h]
  exact List.getElem_mem h

def blockB (f regs words n : Int) (b : S37) : Bool := endsB n regs b && b.f0.all (fitsB f regs words)
def oneB (f words regs : Int) (bs : List S37) : Bool := decide (0 ≤ regs) && decide (regs ≤ 4000) && !(bs.length == 0) && bs.all (blockB f regs words bs.length)
/-- No more than memory holds. -/
def fewIn (bs : List S37) : Prop := bs.length ≤ 4611686018427387904 ∧ ∀ b ∈ bs, b.f0.length ≤ 4611686018427387904

theorem one_l1 {f words regs : Int} {bs : List S37} {i : Nat} (hi : i < bs.length) (hb : fewIn bs) {r : Bool} (hnext : Ev (fun k => seedcornref24_One.l0 k f words (wrap64 (i + 1)) regs bs) r) :
    ∀ (n j : Nat), j + n = (rd_T37 bs i).f0.length → Ev (fun k => seedcornref24_One.l1 k f words i j regs bs) (((rd_T37 bs i).f0.drop j).all (fitsB f regs words) && r)
  | 0, j, hj => by
    rw [List.drop_eq_nil_of_le (by omega)]
    refine Ev.step (fun k => by rw [seedcornref24_One.l1, if_pos (by omega), if_pos (by omega), if_neg (by omega)]) ?_
    exact hnext
  | n + 1, j, hj => by
    have := hb.2 _ (r37_mem hi)
    rw [drop_r40 (show j < (rd_T37 bs i).f0.length by omega), List.all_cons]
    refine Ev.step (fun k => by rw [seedcornref24_One.l1, if_pos (by omega), if_pos (by omega), if_pos (by omega), if_pos (by omega), wrap_nat (n := (rd_T37 bs i).f0.length) (by omega) (by omega)]) ?_
    refine Ev.bind (fits_ev _ _ _ _) (Ev.ite (fun h => ?_) (fun h => ?_))
    · rw [h, Bool.true_and]
      exact one_l1 hi hb hnext n (j + 1) (by omega)
    · rw [Bool.not_eq_true] at h
      rw [h]
      exact Ev.now _
theorem one_l0 {f words regs : Int} {bs : List S37} (hb : fewIn bs) : ∀ (n i : Nat), i + n = bs.length → Ev (fun k => seedcornref24_One.l0 k f words i regs bs) ((bs.drop i).all (blockB f regs words bs.length))
  | 0, i, hi => by
    rw [List.drop_eq_nil_of_le (by omega)]
    refine Ev.step (fun k => by rw [seedcornref24_One.l0, if_neg (by omega)]) ?_
    exact Ev.now _
  | n + 1, i, hi => by
    have := hb.1
    have ih := one_l0 (f := f) (words := words) (regs := regs) hb n (i + 1) (by omega)
    rw [drop_r37 (show i < bs.length by omega), List.all_cons, blockB]
    refine Ev.step (fun k => by rw [seedcornref24_One.l0, if_pos (by omega), if_pos (by omega)]) ?_
    refine Ev.at_ (fun k => ends_eq _ _ _) (Ev.ite (fun h => ?_) (fun h => ?_))
    · rw [h, Bool.true_and]
      have := one_l1 (f := f) (words := words) (regs := regs) (show i < bs.length by omega) hb (r := (bs.drop (i + 1)).all (blockB f regs words bs.length)) (by rwa [wrap_nat (n := bs.length) (by omega) (by omega)]) (rd_T37 bs i).f0.length 0 (by omega)
      rwa [List.drop_zero] at this
    · rw [Bool.not_eq_true] at h
      rw [h]
      exact Ev.now _
theorem one_ev {f words regs : Int} {bs : List S37} (hb : fewIn bs) : Ev (fun k => seedcornref24_One.f k regs bs f words) (oneB f words regs bs) := by
  have hj : ∀ b : Bool, Ev (fun k => seedcornref24_One.j0 k f words b regs bs) (!b && bs.all (blockB f regs words bs.length)) := by
    intro b
    refine Ev.step (fun k => by rw [seedcornref24_One.j0]) ?_
    cases b with
    | true => exact Ev.pos rfl (Ev.now _)
    | false => exact Ev.neg (by simp) (by simpa using one_l0 hb bs.length 0 (by omega))
  unfold seedcornref24_One.f oneB
  refine Ev.ite (fun h => Ev.eq (hj true) ?_) (fun h0 => Ev.ite (fun h => Ev.eq (hj true) ?_) (fun h1 => Ev.eq (hj _) ?_))
  · rw [decide_eq_false (by omega)]; rfl
  · rw [decide_eq_false (show ¬ regs ≤ 4000 by omega)]; simp
  · rw [decide_eq_true (show 0 ≤ regs by omega), decide_eq_true (show regs ≤ 4000 by omega), Bool.true_and, Bool.true_and]
    congr 2
    rw [Bool.eq_iff_iff]
    simp

def sizeM (bs : List S37) : Nat := bs.length + (bs.map fun b => b.f0.length).sum
theorem size_l0 {regs : Int} {bs : List S37} (hb : sizeM bs ≤ 4611686018427387904) : ∀ (n i m : Nat), i + n = bs.length → m + ((bs.drop i).map fun b => b.f0.length).sum ≤ 4611686018427387904 →
    Ev (fun k => seedcornref24_SizeFunc.l0 k m i regs bs) ((m + ((bs.drop i).map fun b => b.f0.length).sum : Nat) : Int)
  | 0, i, m, hi, _ => by
    rw [List.drop_eq_nil_of_le (by omega)]
    refine Ev.step (fun k => by rw [seedcornref24_SizeFunc.l0, if_neg (by omega)]) ?_
    exact Ev.now _
  | n + 1, i, m, hi, hm => by
    have h1 : bs.length ≤ 4611686018427387904 := by unfold sizeM at hb; omega
    rw [drop_r37 (show i < bs.length by omega), List.map_cons, List.sum_cons] at hm ⊢
    refine Ev.step (fun k => by rw [seedcornref24_SizeFunc.l0, if_pos (by omega), if_pos (by omega), wrap_nat (n := bs.length) (by omega) (by omega), wrap_id (by omega) (by omega)]) ?_
    have := size_l0 (regs := regs) hb n (i + 1) (m + (rd_T37 bs i).f0.length) (by omega) (by omega)
    rw [Nat.add_assoc] at this
    exact this
theorem size_ev {regs : Int} {bs : List S37} (hb : sizeM bs ≤ 4611686018427387904) : Ev (fun k => seedcornref24_SizeFunc.f k regs bs) (sizeM bs : Int) := by
  have := size_l0 (regs := regs) hb bs.length 0 bs.length (by omega) (by simpa [sizeM] using hb)
  exact this

theorem sum_le {l : List Nat} {n : Nat} (h : ∀ x ∈ l, x ≤ n) : l.sum ≤ l.length * n := by
  induction l with
  | nil => simp
  | cons a l ih =>
    have := ih (fun x hx => h x (by simp [hx]))
    have := h a (by simp)
    rw [List.sum_cons, List.length_cons, Nat.add_mul]
    omega
theorem le_sum {l : List Nat} {x : Nat} (h : x ∈ l) : x ≤ l.sum := by
  induction l with
  | nil => simp at h
  | cons a l ih =>
    rw [List.sum_cons]
    rcases List.mem_cons.1 h with rfl | h
    · omega
    · have := ih h
      omega

def smallB (regs : Int) (bs : List S37) : Bool := decide (bs.length ≤ 12) && decide (regs ≤ 20) && decide (sizeM bs ≤ 120) && oneB 64 2000 regs bs
theorem small_ev {regs : Int} {bs : List S37} (h : okFunc (regs, bs)) : Ev (fun k => seedcornlaw31_small.f k regs bs) (smallB regs bs) := by
  obtain ⟨_, h2, h3⟩ := h
  dsimp only at h2 h3
  have hl : ∀ b ∈ bs, b.f0.length ≤ 4398046511104 := fun b hb => by
    have := (h3 b hb).1
    omega
  unfold seedcornlaw31_small.f smallB
  refine Ev.ite (fun a => ?_) (fun a => by rw [decide_eq_false (by omega)]; exact Ev.now _)
  have hs : sizeM bs ≤ 4611686018427387904 := by
    unfold sizeM
    have := sum_le (l := bs.map fun b => b.f0.length) (n := 4398046511104) (by
      intro x hx
      obtain ⟨b, hb, rfl⟩ := List.mem_map.1 hx
      exact hl b hb)
    rw [List.length_map] at this
    omega
  have hf : fewIn bs := ⟨by omega, fun b hb => by have := hl b hb; omega⟩
  rw [decide_eq_true (show bs.length ≤ 12 by omega), Bool.true_and]
  refine Ev.ite (fun b => ?_) (fun b => by rw [decide_eq_false (by omega)]; exact Ev.now _)
  rw [decide_eq_true b, Bool.true_and]
  refine Ev.bind (size_ev hs) (Ev.ite (fun c => ?_) (fun c => by rw [decide_eq_false (by omega)]; exact Ev.now _))
  rw [decide_eq_true (by omega), Bool.true_and]
  exact Ev.bind (one_ev hf) (Ev.now _)

theorem inB_iff {v n : Int} : inB v n = true ↔ inR n v := by simp [inB, inR]
theorem fitsB_okT {f regs words : Int} {t : S40} (h : fitsB f regs words t = true) : okT regs t := by
  unfold fitsB at h
  simp only [Bool.and_eq_true] at h
  obtain ⟨⟨⟨⟨⟨⟨_, h1⟩, h2⟩, h3⟩, _⟩, _⟩, _⟩ := h
  exact ⟨fun ha => by rw [if_pos ha] at h2; exact inB_iff.1 h2, fun hb => by rw [if_pos hb] at h3; exact inB_iff.1 h3, fun hd => by rw [if_pos hd] at h1; exact inB_iff.1 h1⟩
theorem oneB_b {f words regs : Int} {bs : List S37} (h : oneB f words regs bs = true) : 0 ≤ regs ∧ regs ≤ 4000 ∧ bs.length ≠ 0 ∧ ∀ b ∈ bs, blockB f regs words bs.length b = true := by
  unfold oneB at h
  simp only [Bool.and_eq_true, decide_eq_true_eq, List.all_eq_true, Bool.not_eq_true', beq_eq_false_iff_ne] at h
  exact ⟨h.1.1.1, h.1.1.2, h.1.2, h.2⟩
theorem blockB_ok {f regs words n : Int} {b : S37} (h : blockB f regs words n b = true) : okB regs b := by
  unfold blockB at h
  rw [Bool.and_eq_true] at h
  refine ⟨fun t ht => fitsB_okT (List.all_eq_true.1 h.2 t ht), fun h2 => ?_⟩
  have := h.1
  unfold endsB at this
  rw [if_neg (by omega), if_pos h2] at this
  simp only [Bool.and_eq_true] at this
  exact inB_iff.1 this.2.2
theorem fitsB_ins {f regs words : Int} {t : S40} {c : List Int} (hc : okC regs c) (h : fitsB f regs words t = true) : fitsB f regs words (insT c t) = true := by
  have hT := okT_ins hc (fitsB_okT h)
  unfold fitsB at h ⊢
  simp only [Bool.and_eq_true] at h ⊢
  obtain ⟨⟨⟨⟨⟨⟨h0, h1⟩, h2⟩, h3⟩, h4⟩, h5⟩, h6⟩ := h
  refine ⟨⟨⟨⟨⟨⟨h0, h1⟩, ?_⟩, ?_⟩, h4⟩, h5⟩, h6⟩
  · by_cases ha : usesA t.f0 = true
    · show (if usesA t.f0 = true then _ else _) = true
      rw [if_pos ha]
      exact inB_iff.2 (hT.a ha)
    · show (if usesA t.f0 = true then _ else _) = true
      rw [if_neg ha] at h2 ⊢
      show ((if usesA t.f0 = true then _ else t.f2) == 0) = true
      rw [if_neg ha]
      exact h2
  · by_cases hb : usesB t.f0 = true
    · show (if usesB t.f0 = true then _ else _) = true
      rw [if_pos hb]
      exact inB_iff.2 (hT.b hb)
    · show (if usesB t.f0 = true then _ else _) = true
      rw [if_neg hb] at h3 ⊢
      show ((if usesB t.f0 = true then _ else t.f3) == 0) = true
      rw [if_neg hb]
      exact h3
theorem fits_run {f regs words : Int} : ∀ (l : List S40) {c : List Int}, okC regs c → (∀ t ∈ l, fitsB f regs words t = true) → ∀ t ∈ (run c l).1, fitsB f regs words t = true
  | [], _, _, _ => fun t ht => by simp [run] at ht
  | t :: l, c, h, hl => fun u hu => by
    simp only [run, List.mem_cons] at hu
    rcases hu with rfl | hu
    · exact fitsB_ins h (hl t (by simp))
    · exact fits_run l (okC_ins h (fitsB_okT (hl t (by simp)))) (fun u hu => hl u (by simp [hu])) u hu
theorem blockB_block {f regs words n : Int} {b : S37} (h : blockB f regs words n b = true) : blockB f regs words n (blockM regs b) = true := by
  have hok := blockB_ok h
  have hok' := okB_block hok
  unfold blockB at h ⊢
  rw [Bool.and_eq_true] at h ⊢
  refine ⟨?_, List.all_eq_true.2 (fits_run b.f0 okC_none (List.all_eq_true.1 h.2))⟩
  have he := h.1
  unfold endsB at he ⊢
  by_cases h1 : b.f1 = 1
  · have h2 : ¬ b.f1 = 2 := by omega
    rw [if_pos h1] at he
    rw [if_pos (show (blockM regs b).f1 = 1 from h1)]
    simp only [blockM, if_neg h2]
    exact he
  · rw [if_neg h1] at he
    rw [if_neg (show ¬ (blockM regs b).f1 = 1 from h1)]
    by_cases h2 : b.f1 = 2
    · rw [if_pos h2] at he
      rw [if_pos (show (blockM regs b).f1 = 2 from h2)]
      simp only [Bool.and_eq_true] at he ⊢
      exact ⟨he.1, he.2.1, inB_iff.2 (hok'.2 h2)⟩
    · rw [if_neg h2] at he
      rw [if_neg (show ¬ (blockM regs b).f1 = 2 from h2)]
      simp only [blockM, if_neg h2]
      exact he
theorem oneB_map {f words regs : Int} {bs : List S37} (h : oneB f words regs bs = true) : oneB f words regs (bs.map (blockM regs)) = true := by
  obtain ⟨h0, h1, h2, h3⟩ := oneB_b h
  unfold oneB
  simp only [Bool.and_eq_true, decide_eq_true_eq, List.all_eq_true, Bool.not_eq_true', beq_eq_false_iff_ne, List.length_map]
  refine ⟨⟨⟨h0, h1⟩, h2⟩, fun b hb => ?_⟩
  obtain ⟨b, hb', rfl⟩ := List.mem_map.1 hb
  exact blockB_block (h3 b hb')

end Go.Proofs.Ytcfagmdopkginaa.Plain
