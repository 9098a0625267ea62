/- Layer 31: the printed functions of 'forward' and of its reference, with rounds enough, are the plain ones. -/
import Derived.Test.YtcfagmdopkginaaFwd
import Derived.Test.YtcfagmdopkginaaPFx13
import Derived.Test.YtcfagmdopkginaaArgs
namespace Go.Proofs.Ytcfagmdopkginaa.Plain
open Go.RowKit Go.Proofs.YtcfagmdopkginaaW.PrintWords Go.Proofs.Ytcfagmdopkginaa.PF Go.Proofs.Ytcfagmdopkginaa.Args

theorem of_some {regs : Int} {c : List Int} (h : okC regs c) {v : Int} (hv : inR regs v) : forward_copies_of.f c v = some (ofM c v) := by
  have := h.inL hv
  unfold inR at this
  unfold forward_copies_of.f ofM
  rw [if_pos this.1, if_pos this.2]
  split <;> rfl

/-- The clearing loop of 'set', from an index on. -/
def clrFrom (d : Int) : Nat → Nat → List Int → List Int
  | 0, _, c => c
  | n + 1, i, c => clrFrom d n (i + 1) (if rd c i = d then c.set i (-1) else c)
theorem clrFrom_length (d : Int) : ∀ (n i : Nat) (c : List Int), (clrFrom d n i c).length = c.length
  | 0, _, _ => rfl
  | n + 1, i, c => by rw [clrFrom, clrFrom_length]; split <;> simp
theorem rd_nat (c : List Int) (i : Nat) : rd c i = c.getD i 0 := by unfold rd; simp
theorem getD_set {c : List Int} {i j : Nat} {x : Int} : (c.set i x).getD j 0 = if i = j ∧ j < c.length then x else c.getD j 0 := by
  simp only [List.getD_eq_getElem?_getD, List.getElem?_set]
  by_cases h : i = j
  · subst h
    by_cases hj : i < c.length
    · simp [hj]
    · simp [hj]
  · simp [h]
theorem clrFrom_get (d : Int) : ∀ (n i : Nat) (c : List Int) (j : Nat), (clrFrom d n i c).getD j 0 = if (i ≤ j ∧ j < i + n ∧ j < c.length) ∧ c.getD j 0 = d then -1 else c.getD j 0
  | 0, i, c, j => by rw [clrFrom, if_neg (by omega)]
  | n + 1, i, c, j => by
    rw [clrFrom, clrFrom_get d n (i + 1)]
    have hl : (if rd c i = d then c.set i (-1) else c).length = c.length := by split <;> simp
    have he : (if rd c i = d then c.set i (-1) else c).getD j 0 = if (i = j ∧ j < c.length) ∧ c.getD j 0 = d then -1 else c.getD j 0 := by
      rw [rd_nat]
      by_cases hi : c.getD i 0 = d
      · rw [if_pos hi, getD_set]
        grind
      · rw [if_neg hi]
        grind
    rw [hl, he]
    generalize c.getD j 0 = x
    grind
theorem clrFrom_all (d : Int) (c : List Int) : (clrFrom d c.length 0 c).set d.toNat (-1) = clr c d := by
  unfold clr
  congr 1
  apply List.ext_getElem
  · rw [clrFrom_length]; simp
  · intro j h1 h2
    rw [clrFrom_length] at h1
    have := clrFrom_get d c.length 0 c j
    simp only [List.getD_eq_getElem?_getD, List.getElem?_eq_getElem h1, List.getElem?_eq_getElem (show j < (clrFrom d c.length 0 c).length by rw [clrFrom_length]; exact h1), Option.getD_some] at this
    rw [this]
    simp [h1]

theorem set_loop {d f : Int} : ∀ (n i : Nat) (c : List Int), i + n = c.length → inR c.length d → (c.length : Int) ≤ 4611686018427387904 →
    Ev (fun k => forward_copies_set.l0 k c d f c.length i) (if f = d then (clrFrom d n i c).set d.toNat (-1) else ((clrFrom d n i c).set d.toNat (-1)).set d.toNat f)
  | 0, i, c, hi, hd, hc => by
    unfold inR at hd
    refine Ev.step (fun k => by rw [forward_copies_set.l0, if_neg (by omega), if_pos hd.1, if_pos hd.2]) ?_
    refine Ev.some_ ?_
    refine Ev.ite (fun h => ?_) (fun h => ?_)
    · rw [if_pos h]; exact Ev.now _
    · rw [if_neg h]; exact Ev.now _
  | n + 1, i, c, hi, hd, hc => by
    refine Ev.step (fun k => by rw [forward_copies_set.l0, if_pos (by omega), if_pos (by omega), if_pos (by omega), wrap_nat (n := c.length) (by omega) (by omega), Int.toNat_natCast]) ?_
    rw [clrFrom]
    by_cases h : rd c i = d
    · refine Ev.pos h ?_
      rw [if_pos h]
      have hl : (c.set i (-1)).length = c.length := by simp
      have := set_loop (d := d) (f := f) n (i + 1) (c.set i (-1)) (by rw [hl]; omega) (by rw [hl]; exact hd) (by rw [hl]; exact hc)
      rwa [hl] at this
    · refine Ev.neg h ?_
      rw [if_neg h]
      exact set_loop n (i + 1) c (by omega) hd hc

theorem set_ev {regs : Int} {c : List Int} (h : okC regs c) (hr : regs ≤ 4000) {d : Int} (hd : inR regs d) (f : Int) : Ev (fun k => forward_copies_set.f k c d f) (setM c d f) := by
  have hl := h.len
  have := set_loop (d := d) (f := f) c.length 0 c (by omega) (h.inL hd) (by omega)
  rw [clrFrom_all] at this
  refine Ev.congr (fun k => by unfold forward_copies_set.f; rfl) (Ev.eq this ?_)
  unfold setM
  rfl

def flat (t : S40) : Int × Int × Int × Int × Int × Int × Int × Int := (t.f0, t.f1, t.f2, t.f3, t.f4, t.f5, t.f6, t.f7)
def flatC (t : S40) (c : List Int) : Int × Int × Int × Int × Int × Int × Int × Int × List Int := (t.f0, t.f1, t.f2, t.f3, t.f4, t.f5, t.f6, t.f7, c)

theorem ins_j2 {regs : Int} {c : List Int} (h : okC regs c) (hr : regs ≤ 4000) (t : S40) (hd : sets t.f0 = true → inR regs t.f1) :
    Ev (fun k => forward_copies_ins.j2 k c t.f0 t.f1 t.f2 t.f3 t.f4 t.f5 t.f6 t.f7) (flatC t (if t.f0 = 2 then setM c t.f1 t.f2 else if sets t.f0 then setM c t.f1 (-1) else c)) := by
  refine Ev.step (fun k => by rw [forward_copies_ins.j2]) ?_
  refine Ev.ite (fun h2 => ?_) (fun h2 => ?_)
  · rw [if_pos h2]
    exact Ev.bind (set_ev h hr (hd (by rw [h2]; rfl)) _) (Ev.now _)
  rw [if_neg h2]
  by_cases hs : sets t.f0 = true
  · rw [if_pos hs]
    have hb : Ev (fun k => (forward_copies_set.f k c t.f1 (-1)).bind fun r => some (flatC t r)) (flatC t (setM c t.f1 (-1))) := Ev.bind (set_ev h hr (hd hs) _) (Ev.now _)
    refine Ev.ite (fun _ => hb) (fun h1 => Ev.ite (fun _ => hb) (fun h3 => Ev.ite (fun _ => hb) (fun h4 => Ev.ite (fun _ => hb) (fun h6 => Ev.ite (fun _ => hb) (fun h8 => ?_)))))
    simp [sets, h1, h2, h3, h4, h6, h8] at hs
  · rw [if_neg hs]
    have hs' : ∀ n : Int, (n = 1 ∨ n = 3 ∨ n = 4 ∨ n = 6 ∨ n = 8) → t.f0 ≠ n := fun n hn e => hs (by rcases hn with rfl | rfl | rfl | rfl | rfl <;> rw [e] <;> rfl)
    exact Ev.neg (hs' 1 (by simp)) (Ev.neg (hs' 3 (by simp)) (Ev.neg (hs' 4 (by simp)) (Ev.neg (hs' 6 (by simp)) (Ev.neg (hs' 8 (by simp)) (Ev.now _)))))

theorem ins_ev {regs : Int} {c : List Int} (h : okC regs c) (hr : regs ≤ 4000) {t : S40} (ht : okT regs t) :
    Ev (fun k => forward_copies_ins.f k c t.f0 t.f1 t.f2 t.f3 t.f4 t.f5 t.f6 t.f7) (flatC (insT c t) (insC c t)) := by
  have hend := ins_j2 h hr (insT c t) ht.d
  have he : (if (insT c t).f0 = 2 then setM c (insT c t).f1 (insT c t).f2 else if sets (insT c t).f0 then setM c (insT c t).f1 (-1) else c) = insC c t := by
    unfold insC insT
    dsimp only
    by_cases h2 : t.f0 = 2
    · rw [if_pos h2, if_pos h2, if_pos (by rw [h2]; rfl)]
    · rw [if_neg h2, if_neg h2]
  rw [he] at hend
  have ja : ∀ (op : Int) (b : Bool), b = (usesA t.f0 && !usesB t.f0) → (b = false → op = t.f0) → Ev (fun k => forward_copies_ins.j0 k c op b t.f0 t.f1 t.f2 t.f3 t.f4 t.f5 t.f6 t.f7) (flatC (insT c t) (insC c t)) := by
    intro op b hb hop
    refine Ev.step (fun k => by rw [forward_copies_ins.j0]) ?_
    cases b with
    | true =>
      refine Ev.pos rfl ?_
      have ha : usesA t.f0 = true ∧ usesB t.f0 = false := by simpa using hb.symm
      refine Ev.at_ (fun n => of_some h (ht.a ha.1)) ?_
      refine Ev.congr (fun k => ?_) hend
      show forward_copies_ins.j2 _ _ _ _ _ _ _ _ _ _ = forward_copies_ins.j2 _ _ _ _ _ _ _ _ _ _
      simp [insT, ha.1, ha.2]
    | false =>
      refine Ev.neg (by simp) ?_
      obtain rfl := hop rfl
      have hbb : ∀ b' : Bool, b' = usesB t.f0 → Ev (fun k => forward_copies_ins.j1 k c b' t.f0 t.f1 t.f2 t.f3 t.f4 t.f5 t.f6 t.f7) (flatC (insT c t) (insC c t)) := by
        intro b' hb'
        refine Ev.step (fun k => by rw [forward_copies_ins.j1]) ?_
        cases b' with
        | true =>
          have hB : usesB t.f0 = true := hb'.symm
          have hA : usesA t.f0 = true := by
            simp [usesB, usesA] at hB ⊢
            omega
          refine Ev.pos rfl (Ev.at_ (fun n => of_some h (ht.a hA)) (Ev.at_ (fun n => of_some h (ht.b hB)) ?_))
          refine Ev.congr (fun k => ?_) hend
          simp [insT, hA, hB]
        | false =>
          have hB : usesB t.f0 = false := hb'.symm
          have hA : usesA t.f0 = false := by simpa [hB] using hb.symm
          refine Ev.neg (by simp) (Ev.congr (fun k => ?_) hend)
          simp [insT, hA, hB]
      refine Ev.ite (fun h3 => hbb _ (by rw [h3]; rfl)) (fun h3 => hbb _ ?_)
      rw [Bool.eq_iff_iff]
      simp [usesB, h3]
  unfold forward_copies_ins.f
  refine Ev.ite (fun e => ja _ _ ?_ (fun _ => rfl)) (fun h2 => Ev.ite (fun e => ja _ _ ?_ (fun _ => rfl)) (fun h5 => Ev.ite (fun e => ja _ _ ?_ (fun _ => rfl)) (fun h6 => ja _ _ ?_ (fun _ => rfl))))
  · rw [e]; rfl
  · rw [e]; rfl
  · rw [e]; rfl
  · rw [Bool.eq_iff_iff]
    simp [usesA, usesB]
    omega


/-! ### forward.Of -/
structure okF (regs : Int) (bs : List S37) : Prop where
  r0 : 0 ≤ regs
  r1 : regs ≤ 4000
  n : bs.length ≤ 1000000
  b : ∀ b ∈ bs, okB regs b ∧ b.f0.length ≤ 1000000

theorem drop_rd40 {l : List S40} {i : Nat} (h : i < l.length) : l.drop i = rd_T40 l i :: l.drop (i + 1) := by
  rw [List.drop_eq_getElem_cons h]
  congr 1
  unfold rd_T40
  rw [Int.toNat_natCast, List.getD_eq_getElem?_getD, List.getElem?_eq_getElem h]
  rfl
theorem drop_rd37 {l : List S37} {i : Nat} (h : i < l.length) : l.drop i = rd_T37 l i :: l.drop (i + 1) := by
  rw [List.drop_eq_getElem_cons h]
  congr 1
  unfold rd_T37
  rw [Int.toNat_natCast, List.getD_eq_getElem?_getD, List.getElem?_eq_getElem h]
  rfl
theorem rd40_mem {l : List S40} {i : Nat} (h : i < l.length) : rd_T40 l i ∈ l := by
  unfold rd_T40
  rw [Int.toNat_natCast, List.getD_eq_getElem?_getD, List.getElem?_eq_getElem h]
  exact List.getElem_mem h
theorem rd37_mem {l : List S37} {i : Nat} (h : i < l.length) : rd_T37 l i ∈ l := by
  unfold rd_T37
  rw [Int.toNat_natCast, List.getD_eq_getElem?_getD, List.getElem?_eq_getElem h]
  exact List.getElem_mem h

section
variable {regs a a2 : Int} {fr : List Int} {bl b : List S37} {out : List S37} {cert : List (List Bool)} {r : Int × List S37 × List (List Bool)}

theorem l2_loop (hr : regs ≤ 4000) {x33 x34 b1 b2 b3 b4 e v to_ els : Int} {b0 ins : List S40} (hins : ∀ t ∈ ins, okT regs t) (hn : ins.length ≤ 1000000) (hb2 : b1 = 2 → inR regs b2) :
    ∀ (n i : Nat) (c : List Int) (acc : List S40), i + n = ins.length → okC regs c → acc.length + n ≤ 1000000 →
    Ev (fun k => forward_Of.j3 k fr bl x33 x34 a b a2 out cert (acc ++ (run c (ins.drop i)).1) e (if b1 = 2 then ofM (run c (ins.drop i)).2 b2 else v) to_ els) r →
    Ev (fun k => forward_Of.l2 k fr c bl x33 x34 ins ins.length i a b a2 out cert b0 b1 b2 b3 b4 acc e v to_ els) r
  | 0, i, c, acc, hi, hc, _, h => by
    rw [List.drop_eq_nil_of_le (by omega), run, List.append_nil] at h
    refine Ev.step (fun k => by rw [forward_Of.l2, if_neg (by omega)]) ?_
    refine Ev.ite (fun h2 => Ev.at_ (fun n => of_some hc (hb2 h2)) ?_) (fun h2 => ?_)
    · rwa [if_pos h2] at h
    · rwa [if_neg h2] at h
  | n + 1, i, c, acc, hi, hc, hacc, h => by
    have ht := hins _ (rd40_mem (show i < ins.length by omega))
    refine Ev.step (fun k => by rw [forward_Of.l2, if_pos (by omega), if_pos (by omega), if_pos (by omega), wrap_nat (n := ins.length) (by omega) (by omega)]) ?_
    refine Ev.bind (ins_ev hc hr ht) ?_
    refine Ev.pos (by omega) ?_
    rw [drop_rd40 (show i < ins.length by omega)] at h
    refine l2_loop hr hins hn hb2 n (i + 1) _ _ (by omega) (okC_ins hc ht) (by simp; omega) ?_
    simp only [run, List.append_assoc, List.cons_append, List.nil_append] at h ⊢
    exact h

theorem l3_loop {x33 x34 : Int} (hn : cert.length ≤ 1000000) (h34 : 0 ≤ x34) (h34' : x34 < 1000000) :
    ∀ (n i : Nat) (s : List Bool), i + n = s.length → s.length ≤ 1000000 → (∀ j, j < i → s[j]? = some true) →
    Ev (fun k => forward_Of.l1 k fr bl x33 (x34 + 1) a b a2 out (cert ++ [List.replicate s.length true])) r →
    Ev (fun k => forward_Of.l3 k fr s bl x33 x34 s.length i a b a2 out cert) r
  | 0, i, s, hi, hs, hj, h => by
    refine Ev.step (fun k => by rw [forward_Of.l3, if_neg (by omega), if_pos (by omega), wrap_id (by omega) (by omega)]) ?_
    have e : s = List.replicate s.length true := by
      apply List.ext_getElem?
      intro j
      by_cases hjs : j < s.length
      · rw [hj j (by omega), List.getElem?_replicate, if_pos hjs]
      · rw [List.getElem?_eq_none (by omega), List.getElem?_eq_none (by simp; omega)]
    rw [← e] at h
    exact h
  | n + 1, i, s, hi, hs, hj, h => by
    refine Ev.step (fun k => by rw [forward_Of.l3, if_pos (by omega), if_pos (by omega), if_pos (by omega), wrap_nat (n := s.length) (by omega) (by omega), Int.toNat_natCast]) ?_
    have hl : (s.set i true).length = s.length := by simp
    have := l3_loop (x33 := x33) hn h34 h34' n (i + 1) (s.set i true) (by rw [hl]; omega) (by rw [hl]; exact hs) (fun j hji => by
      by_cases hij : i = j
      · subst hij; rw [List.getElem?_set, if_pos rfl, if_pos (by omega)]
      · rw [List.getElem?_set, if_neg hij]; exact hj j (by omega)) (by rw [hl]; exact h)
    rwa [hl] at this

theorem l1_loop (hf : okF regs bl) : ∀ (n i : Nat) (out : List S37) (cert : List (List Bool)), i + n = bl.length → out.length = i → cert.length = i →
    Ev (fun k => forward_Of.l1 k (none_ regs) bl bl.length i regs bl regs out cert) (regs, out ++ (bl.drop i).map (blockM regs), cert ++ certM regs n)
  | 0, i, out, cert, hi, _, _ => by
    refine Ev.step (fun k => by rw [forward_Of.l1, if_neg (by omega)]) ?_
    rw [List.drop_eq_nil_of_le (by omega)]
    simp only [List.map_nil, List.append_nil, certM, List.replicate_zero]
    exact Ev.now _
  | n + 1, i, out, cert, hi, ho, hc => by
    have hN := hf.n
    have hr0 := hf.r0
    have hr1 := hf.r1
    obtain ⟨hb, hbl⟩ := hf.b _ (rd37_mem (show i < bl.length by omega))
    have hfr : (none_ regs).length = regs.toNat := by simp [none_]
    refine Ev.step (fun k => by rw [forward_Of.l1, if_pos (by omega), if_pos (by omega), if_pos (by omega)]) ?_
    refine Ev.some_ (Ev.pos (by rw [hfr]; simp; omega) ?_)
    have hl2 := l2_loop (regs := regs) (a := regs) (a2 := regs) (fr := none_ regs) (bl := bl) (b := bl) (out := out) (cert := cert) (r := (regs, out ++ (bl.drop i).map (blockM regs), cert ++ certM regs (n + 1))) hr1 (x33 := bl.length) (x34 := i) (b1 := (rd_T37 bl i).f1) (b2 := (rd_T37 bl i).f2) (b3 := (rd_T37 bl i).f3) (b4 := (rd_T37 bl i).f4) (e := (rd_T37 bl i).f1) (v := (rd_T37 bl i).f2) (to_ := (rd_T37 bl i).f3) (els := (rd_T37 bl i).f4) (b0 := (rd_T37 bl i).f0) (ins := (rd_T37 bl i).f0) hb.1 hbl hb.2
      (rd_T37 bl i).f0.length 0 (none_ regs) [] (by omega) okC_none (by simpa using hbl) ?_
    · exact hl2
    · refine Ev.step (fun k => by rw [forward_Of.j3, if_pos (by omega), if_pos (by omega), if_pos (by omega)]) (Ev.some_ ?_)
      have hx : ((List.replicate regs.toNat false).length : Nat) = regs.toNat := by simp
      refine l3_loop (by omega) (by omega) (by omega) regs.toNat 0 _ (by simp) (by simp; omega) (fun j hj => by omega) ?_
      have := l1_loop hf n (i + 1) (out ++ [blockM regs (rd_T37 bl i)]) (cert ++ [List.replicate regs.toNat true]) (by omega) (by simp [ho]) (by simp [hc])
      rw [drop_rd37 (show i < bl.length by omega)]
      simp only [List.append_assoc, List.cons_append, List.nil_append, List.map_cons, certM, List.replicate_succ, hx] at this ⊢
      exact this
end

theorem l0_loop {regs : Int} {bs : List S37} {r : Int × List S37 × List (List Bool)} : ∀ (n i : Nat) (c : List Int), i + n = c.length → c.length ≤ 1000000 → (∀ j, j < i → c[j]? = some (-1)) →
    Ev (fun k => forward_Of.l1 k (List.replicate c.length (-1)) bs bs.length 0 regs bs regs [] []) r → Ev (fun k => forward_Of.l0 k c c.length i regs bs regs) r
  | 0, i, c, hi, hc, hj, h => by
    refine Ev.step (fun k => by rw [forward_Of.l0, if_neg (by omega)]) ?_
    have e : c = List.replicate c.length (-1) := by
      apply List.ext_getElem?
      intro j
      by_cases hjs : j < c.length
      · rw [hj j (by omega), List.getElem?_replicate, if_pos hjs]
      · rw [List.getElem?_eq_none (by omega), List.getElem?_eq_none (by simp; omega)]
    rw [← e] at h
    exact h
  | n + 1, i, c, hi, hc, hj, h => by
    refine Ev.step (fun k => by rw [forward_Of.l0, if_pos (by omega), if_pos (by omega), if_pos (by omega), wrap_nat (n := c.length) (by omega) (by omega), Int.toNat_natCast]) ?_
    have hl : (c.set i (-1)).length = c.length := by simp
    have := l0_loop (regs := regs) (bs := bs) (r := r) n (i + 1) (c.set i (-1)) (by rw [hl]; omega) (by rw [hl]; exact hc) (fun j hji => by
      by_cases hij : i = j
      · subst hij; rw [List.getElem?_set, if_pos rfl, if_pos (by omega)]
      · rw [List.getElem?_set, if_neg hij]; exact hj j (by omega)) (by rw [hl]; exact h)
    rwa [hl] at this

/-- WHAT 'forward.Of' COMPUTES. -/
theorem Of_ev {regs : Int} {bs : List S37} (hf : okF regs bs) : Ev (fun k => forward_Of.f k regs bs) (regs, bs.map (blockM regs), certM regs bs.length) := by
  have hr0 := hf.r0
  have hr1 := hf.r1
  have h1 := l1_loop hf bs.length 0 [] [] (by omega) rfl rfl
  have h0 := l0_loop (regs := regs) (bs := bs) (r := (regs, bs.map (blockM regs), certM regs bs.length)) regs.toNat 0 (List.replicate regs.toNat 0) (by simp) (by simp; omega) (fun j hj => by omega) (by simpa [none_] using h1)
  refine Ev.congr (fun k => ?_) h0
  unfold forward_Of.f
  rw [if_pos (by omega), if_pos (by omega), Option.bind_some]
  rfl

end Go.Proofs.Ytcfagmdopkginaa.Plain
