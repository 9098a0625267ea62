/- Layer 31: the reference's answer is the same as the plain one; equal functions are the same; a full certificate is full; the fixed fact holds. -/
import Derived.Test.YtcfagmdopkginaaFits
import Derived.Test.YtcfagmdopkginaaFwdEv
import Derived.Test.YtcfagmdopkginaaPFx15
import Derived.Test.YtcfagmdopkginaaPFx19
import Derived.Test.YtcfagmdopkginaaPFx21
namespace Go.Proofs.Ytcfagmdopkginaa.Plain
open Go.RowKit Go.Proofs.YtcfagmdopkginaaW.PrintWords Go.Proofs.Ytcfagmdopkginaa.PF Go.Proofs.Ytcfagmdopkginaa.Args

def usesL (t : S40) : List Int := if usesB t.f0 then [t.f2, t.f3] else if usesA t.f0 then [t.f2] else []
theorem uses_at (t : S40) (k : Nat) : seedcornref24_Uses.f (k + 1) t.f0 t.f1 t.f2 t.f3 t.f4 t.f5 t.f6 t.f7 = some (usesL t) := by
  simp only [seedcornref24_Uses.f, seedcornref24_Uses.j0, usesL, usesA, usesB]
  grind
theorem sets_eq (t : S40) : seedcornref24_Sets.f t.f0 t.f1 t.f2 t.f3 t.f4 t.f5 t.f6 t.f7 = some (if sets t.f0 then t.f1 else -1) := by
  simp only [seedcornref24_Sets.f, sets]
  grind (splits := 20)

theorem rd_set' {c : List Int} {i : Nat} {v x : Int} (hi : i < c.length) (hv : 0 ≤ v) : rd (c.set i x) v = if v = i then x else rd c v := by
  have := rd_set (c := c) (d := (i : Int)) (v := v) (x := x) ⟨by omega, by omega⟩ hv
  rwa [Int.toNat_natCast] at this

theorem forget_loop {d : Int} {r : List Int} (hd : inR r.length d) (hr : (r.length : Int) ≤ 4611686018427387904) : ∀ (n i : Nat) (s : List Int), i + n = r.length → s.length = r.length →
    (∀ v, inR r.length v → rd s v = if v < i then (if rd r v = d then v else rd r v) else rd r v) →
    ∃ r', r'.length = r.length ∧ (∀ v, inR r.length v → rd r' v = if v = d then d else if rd r v = d then v else rd r v) ∧ Ev (fun k => seedcornref31_forget.l0 k s d i) r'
  | 0, i, s, hi, hs, hv => by
    refine ⟨s.set d.toNat d, by simp [hs], fun v hvr => ?_, ?_⟩
    · rw [rd_set (by rw [hs]; exact hd) hvr.1, hv v hvr]
      unfold inR at hvr
      rw [if_pos (show v < (i : Int) by omega)]
    · unfold inR at hd
      refine Ev.step (fun k => by rw [seedcornref31_forget.l0, if_neg (by omega), if_pos (by omega), if_pos (by omega)]) ?_
      exact Ev.now _
  | n + 1, i, s, hi, hs, hv => by
    have hin : inR r.length (i : Int) := ⟨by omega, by omega⟩
    have hsi : rd s i = rd r i := by rw [hv _ hin, if_neg (by omega)]
    by_cases h : rd s i = d
    · obtain ⟨r', h1, h2, h3⟩ := forget_loop hd hr n (i + 1) (s.set i i) (by omega) (by simp [hs]) (fun v hvr => by
        rw [rd_set' (by omega) hvr.1, hv v hvr]
        by_cases hvi : v = i
        · subst hvi
          rw [if_pos rfl, if_pos (show (i : Int) < (i + 1 : Nat) by omega), ← hsi, if_pos h]
        · rw [if_neg hvi]
          unfold inR at hvr
          by_cases hlt : v < i
          · rw [if_pos hlt, if_pos (show v < (i + 1 : Nat) by omega)]
          · rw [if_neg hlt, if_neg (show ¬ v < (i + 1 : Nat) by omega)])
      refine ⟨r', h1, h2, ?_⟩
      refine Ev.step (fun k => by rw [seedcornref31_forget.l0, if_pos (by omega), if_pos (by omega), if_pos h, wrap_nat (n := r.length) (by omega) (by omega), Int.toNat_natCast]) ?_
      exact h3
    · obtain ⟨r', h1, h2, h3⟩ := forget_loop hd hr n (i + 1) s (by omega) hs (fun v hvr => by
        rw [hv v hvr]
        by_cases hvi : v = i
        · subst hvi
          rw [if_neg (show ¬ (i : Int) < (i : Nat) by omega), if_pos (show (i : Int) < (i + 1 : Nat) by omega), ← hsi, if_neg h]
        · unfold inR at hvr
          by_cases hlt : v < i
          · rw [if_pos hlt, if_pos (show v < (i + 1 : Nat) by omega)]
          · rw [if_neg hlt, if_neg (show ¬ v < (i + 1 : Nat) by omega)])
      refine ⟨r', h1, h2, ?_⟩
      refine Ev.step (fun k => by rw [seedcornref31_forget.l0, if_pos (by omega), if_pos (by omega), if_neg h, wrap_nat (n := r.length) (by omega) (by omega)]) ?_
      exact h3
theorem forget_ev {d : Int} {r : List Int} (hd : inR r.length d) (hr : (r.length : Int) ≤ 4611686018427387904) :
    ∃ r', r'.length = r.length ∧ (∀ v, inR r.length v → rd r' v = if v = d then d else if rd r v = d then v else rd r v) ∧ Ev (fun k => seedcornref31_forget.f k r d) r' :=
  forget_loop hd hr r.length 0 r (by omega) rfl (fun v hv => by rw [if_neg (by unfold inR at hv; omega)])

/-- The reference's copies: a register that is a copy of nothing is its own. -/
structure rel (regs : Int) (c r : List Int) : Prop where
  len : r.length = regs.toNat
  at_ : ∀ v, inR regs v → rd r v = ofM c v

theorem rel.inL {regs : Int} {c r : List Int} (h : rel regs c r) {v : Int} (hv : inR regs v) : inR r.length v := by
  have := h.len
  unfold inR at *
  omega
theorem from_some {regs : Int} {c r : List Int} (h : rel regs c r) {v : Int} (hv : inR regs v) : seedcornref31_from.f r v = some (ofM c v) := by
  have := h.inL hv
  unfold inR at this
  unfold seedcornref31_from.f
  rw [if_pos this.1, if_pos this.2, h.at_ v hv]
theorem ofM_setM {regs : Int} {c : List Int} (h : okC regs c) {d f v : Int} (hd : inR regs d) (hv : inR regs v) :
    ofM (setM c d f) v = if v = d then (if f = -1 then d else f) else if ofM c v = d then v else ofM c v := by
  unfold ofM
  rw [rd_setM (h.inL hd) (h.inL hv)]
  have : d ≠ -1 := by unfold inR at hd; omega
  grind

section
variable {regs : Int} {b0 ins : List S40} {b1 b2 b3 b4 e v to_ els : Int}
theorem ref_l1 (hr0 : 0 ≤ regs) (hr : regs ≤ 4000) (hins : ∀ t ∈ ins, okT regs t) (hn : ins.length ≤ 1000000) (hb2 : b1 = 2 → inR regs b2) :
    ∀ (n i : Nat) (c r : List Int) (acc : List S40), i + n = ins.length → okC regs c → rel regs c r → acc.length + n ≤ 1000000 →
    Ev (fun k => seedcornref31_Block.l1 k r i ins b1 b2 b3 b4 acc e v to_ els) (acc ++ (run c (ins.drop i)).1, e, if b1 = 2 then ofM (run c (ins.drop i)).2 b2 else v, to_, els)
  | 0, i, c, r, acc, hi, hc, hrel, _ => by
    rw [List.drop_eq_nil_of_le (by omega), run, List.append_nil]
    refine Ev.step (fun k => by rw [seedcornref31_Block.l1, if_neg (by omega)]) ?_
    refine Ev.ite (fun h2 => ?_) (fun h2 => ?_)
    · rw [if_pos h2]
      exact Ev.at_ (fun n => from_some hrel (hb2 h2)) (Ev.now _)
    · rw [if_neg h2]
      exact Ev.now _
  | n + 1, i, c, r, acc, hi, hc, hrel, hacc => by
    have hi' : i < ins.length := by omega
    have ht := hins _ (rd40_mem hi')
    have hrl : (r.length : Int) ≤ 4000 := by have := hrel.len; omega
    have hd := drop_rd40 hi'
    generalize htd : rd_T40 ins i = t at ht hd
    -- what comes behind the instruction
    have next : ∀ (r' : List Int), rel regs (insC c t) r' → Ev (fun k => seedcornref31_Block.l1 k r' (wrap64 (i + 1)) ins b1 b2 b3 b4 (acc ++ [insT c t]) e v to_ els) (acc ++ (run c (ins.drop i)).1, e, if b1 = 2 then ofM (run c (ins.drop i)).2 b2 else v, to_, els) := fun r' hr' => by
      have := ref_l1 hr0 hr hins hn hb2 n (i + 1) (insC c t) r' (acc ++ [insT c t]) (by omega) (okC_ins hc ht) hr' (by simp; omega)
      rw [wrap_nat (n := ins.length) hi' (by omega), hd]
      simp only [run, List.append_assoc, List.cons_append, List.nil_append] at this ⊢
      exact this
    have hj3 : Ev (fun k => seedcornref31_Block.j3 k r i ins b1 b2 b3 b4 acc e v to_ els (insT c t).f0 (insT c t).f1 (insT c t).f2 (insT c t).f3 (insT c t).f4 (insT c t).f5 (insT c t).f6 (insT c t).f7) (acc ++ (run c (ins.drop i)).1, e, if b1 = 2 then ofM (run c (ins.drop i)).2 b2 else v, to_, els) := by
      refine Ev.step (fun k => by rw [seedcornref31_Block.j3]) ?_
      refine Ev.at_ (fun k => sets_eq (insT c t)) ?_
      have h0 : (insT c t).f0 = t.f0 := rfl
      by_cases hs : sets t.f0 = true
      · have hD := ht.d hs
        have hD0 : 0 ≤ t.f1 := hD.1
        have hDl : t.f1 < (r.length : Int) := (hrel.inL hD).2
        obtain ⟨r', h1, h2, h3⟩ := forget_ev (hrel.inL hD) (by omega)
        rw [h0, if_pos hs]
        refine Ev.pos (show (insT c t).f1 ≥ 0 from hD0) (Ev.bind h3 ?_)
        refine Ev.ite (fun hop => ?_) (fun hop => ?_)
        · have hop' : t.f0 = 2 := hop
          have hA : usesA t.f0 = true := by rw [hop']; rfl
          have hA2 : (insT c t).f2 = ofM c t.f2 := by show (if usesA t.f0 = true then _ else _) = _; rw [if_pos hA]
          refine Ev.pos hD0 (Ev.pos hDl (Ev.pos (by omega) (next _ ?_)))
          refine ⟨by simp [h1, hrel.len], fun w hw => ?_⟩
          have hne : ofM c t.f2 ≠ -1 := by have := (ofM_range hc (ht.a hA)).1; unfold inR at this; omega
          show rd (r'.set t.f1.toNat (insT c t).f2) w = _
          rw [rd_set (by rw [h1]; exact hrel.inL hD) hw.1, insC, if_pos hop', ofM_setM hc hD hw, h2 w (hrel.inL hw), hrel.at_ w hw, hA2, if_neg hne]
          split <;> rfl
        · have hop' : ¬ t.f0 = 2 := hop
          refine Ev.pos (by omega) (next _ ?_)
          refine ⟨by simp [h1, hrel.len], fun w hw => ?_⟩
          rw [insC, if_neg hop', if_pos hs, ofM_setM hc hD hw, h2 w (hrel.inL hw), hrel.at_ w hw, if_pos rfl]
      · rw [h0, if_neg hs]
        have hop' : ¬ t.f0 = 2 := fun e => hs (by rw [e]; rfl)
        refine Ev.neg (by omega) (Ev.neg hop' (Ev.pos (by omega) (next _ ?_)))
        rw [insC, if_neg hop', if_neg hs]
        exact hrel
    have hj2 : ∀ A, A = (insT c t).f2 → Ev (fun k => seedcornref31_Block.j2 k r i (usesL t) ins b1 b2 b3 b4 acc e v to_ els t.f0 t.f1 A t.f3 t.f4 t.f5 t.f6 t.f7) (acc ++ (run c (ins.drop i)).1, e, if b1 = 2 then ofM (run c (ins.drop i)).2 b2 else v, to_, els) := by
      rintro A rfl
      refine Ev.step (fun k => by rw [seedcornref31_Block.j2]) ?_
      by_cases hb : usesB t.f0 = true
      · have hB3 : (insT c t).f3 = ofM c t.f3 := by show (if usesB t.f0 = true then _ else _) = _; rw [if_pos hb]
        refine Ev.pos (by rw [usesL, if_pos hb]; simp) (Ev.at_ (fun k => from_some hrel (ht.b hb)) ?_)
        rw [← hB3]
        exact hj3
      · have hB3 : (insT c t).f3 = t.f3 := by show (if usesB t.f0 = true then _ else _) = _; rw [if_neg hb]
        refine Ev.neg (by rw [usesL, if_neg hb]; split <;> simp) ?_
        have := hj3
        rw [hB3] at this
        exact this
    refine Ev.step (fun k => by rw [seedcornref31_Block.l1, if_pos (by omega), if_pos (by omega), htd]) ?_
    refine Ev.bind (Ev.after 1 (uses_at t)) ?_
    by_cases ha : usesA t.f0 = true
    · have hA2 : (insT c t).f2 = ofM c t.f2 := by show (if usesA t.f0 = true then _ else _) = _; rw [if_pos ha]
      exact Ev.pos (by rw [usesL, if_pos ha]; split <;> simp) (Ev.at_ (fun k => from_some hrel (ht.a ha)) (hj2 _ hA2.symm))
    · have hA2 : (insT c t).f2 = t.f2 := by show (if usesA t.f0 = true then _ else _) = _; rw [if_neg ha]
      have hB : ¬ usesB t.f0 = true := fun h => ha (by simp [usesA, usesB] at h ⊢; omega)
      exact Ev.neg (by rw [usesL, if_neg hB, if_neg ha]; simp) (hj2 _ hA2.symm)
end

theorem ref_l0 {regs : Int} {b0 : List S40} {b1 b2 b3 b4 : Int} {r : List S40 × Int × Int × Int × Int} (hr0 : 0 ≤ regs) (hr : regs ≤ 4000) : ∀ (n i : Nat) (s : List Int), (i + n : Int) = regs → s.length = i → (∀ j, j < i → s[j]? = some (j : Int)) →
    (∀ s', rel regs (none_ regs) s' → Ev (fun k => seedcornref31_Block.l1 k s' 0 b0 b1 b2 b3 b4 [] b1 b2 b3 b4) r) → Ev (fun k => seedcornref31_Block.l0 k regs s i b0 b1 b2 b3 b4) r
  | 0, i, s, hi, hs, hv, h => by
    refine Ev.step (fun k => by rw [seedcornref31_Block.l0, if_neg (by omega)]) (h s ⟨by omega, fun v hvr => ?_⟩)
    have hc := (okC_none (regs := regs)).rng v hvr
    unfold inR at hvr
    have h0 : rd (none_ regs) v = -1 := by
      unfold rd none_
      have h : v.toNat < (List.replicate regs.toNat (-1 : Int)).length := by simp; omega
      simp [List.getD_eq_getElem?_getD, List.getElem?_eq_getElem h]
    rw [ofM, if_pos h0]
    unfold rd
    rw [List.getD_eq_getElem?_getD, hv v.toNat (by omega)]
    simp
    omega
  | n + 1, i, s, hi, hs, hv, h => by
    refine Ev.step (fun k => by rw [seedcornref31_Block.l0, if_pos (by omega), if_pos (by omega), wrap_nat (n := 5000) (by omega) (by omega)]) ?_
    refine ref_l0 hr0 hr n (i + 1) (s ++ [(i : Int)]) (by omega) (by simp [hs]) (fun j hj => ?_) h
    by_cases hji : j < i
    · rw [List.getElem?_append_left (by omega)]
      exact hv j hji
    · obtain rfl : j = i := by omega
      rw [List.getElem?_append_right (by omega), hs]
      simp

theorem refBlock_ev {regs : Int} {b : S37} (hr0 : 0 ≤ regs) (hr : regs ≤ 4000) (hb : okB regs b) (hn : b.f0.length ≤ 1000000) :
    Ev (fun k => seedcornref31_Block.f k b.f0 b.f1 b.f2 b.f3 b.f4 regs) ((blockM regs b).f0, (blockM regs b).f1, (blockM regs b).f2, (blockM regs b).f3, (blockM regs b).f4) := by
  refine ref_l0 hr0 hr regs.toNat 0 [] (by omega) rfl (fun j hj => by omega) (fun s' hs' => ?_)
  have := ref_l1 (regs := regs) (ins := b.f0) (b1 := b.f1) (b2 := b.f2) (b3 := b.f3) (b4 := b.f4) (e := b.f1) (v := b.f2) (to_ := b.f3) (els := b.f4) hr0 hr hb.1 hn hb.2 b.f0.length 0 (none_ regs) s' [] (by omega) okC_none hs' (by simpa using hn)
  exact this

section
variable {regs : Int} {bs : List S37}
theorem refOf_l1 (hr0 : 0 ≤ regs) (hr : regs ≤ 4000) {i : Nat} {out : List S37} {cert : List (List Bool)} {r : Int × List S37 × List (List Bool)} (hc : cert.length ≤ 1000000) (hi : i < 1000000)
    (h : Ev (fun k => seedcornref31_Of.l0 k (i + 1 : Nat) regs bs regs out (cert ++ [List.replicate regs.toNat true])) r) : ∀ (n j : Nat), (j + n : Int) = regs →
    Ev (fun k => seedcornref31_Of.l1 k i (List.replicate j true) j regs bs regs out cert) r
  | 0, j, hj => by
    refine Ev.step (fun k => by rw [seedcornref31_Of.l1, if_neg (by omega), if_pos (by omega), wrap_nat (n := 1000000) hi (by omega)]) ?_
    rw [show j = regs.toNat by omega]
    exact h
  | n + 1, j, hj => by
    refine Ev.step (fun k => by rw [seedcornref31_Of.l1, if_pos (by omega), if_pos (by simp; omega), wrap_nat (n := 5000) (by omega) (by omega)]) ?_
    have := refOf_l1 hr0 hr hc hi h n (j + 1) (by omega)
    rwa [List.replicate_succ'] at this
theorem refOf_l0 (hf : okF regs bs) : ∀ (n i : Nat) (out : List S37) (cert : List (List Bool)), i + n = bs.length → out.length = i → cert.length = i →
    Ev (fun k => seedcornref31_Of.l0 k i regs bs regs out cert) (regs, out ++ (bs.drop i).map (blockM regs), cert ++ certM regs n)
  | 0, i, out, cert, hi, _, _ => by
    refine Ev.step (fun k => by rw [seedcornref31_Of.l0, if_neg (by omega)]) ?_
    rw [List.drop_eq_nil_of_le (by omega)]
    simp only [List.map_nil, List.append_nil, certM, List.replicate_zero]
    exact Ev.now _
  | n + 1, i, out, cert, hi, ho, hc => by
    have hN := hf.n
    obtain ⟨hb, hbl⟩ := hf.b _ (rd37_mem (show i < bs.length by omega))
    refine Ev.step (fun k => by rw [seedcornref31_Of.l0, if_pos (by omega), if_pos (by omega)]) ?_
    refine Ev.bind (refBlock_ev hf.r0 hf.r1 hb hbl) (Ev.pos (by omega) ?_)
    have := refOf_l0 hf n (i + 1) (out ++ [blockM regs (rd_T37 bs i)]) (cert ++ [List.replicate regs.toNat true]) (by omega) (by simp [ho]) (by simp [hc])
    refine refOf_l1 hf.r0 hf.r1 (by omega) (by omega) (n := regs.toNat) (j := 0) ?_ (by have := hf.r0; omega)
    rw [drop_rd37 (show i < bs.length by omega)]
    simp only [List.append_assoc, List.cons_append, List.nil_append, List.map_cons, certM, List.replicate_succ] at this ⊢
    exact this
theorem refOf_ev (hf : okF regs bs) : Ev (fun k => seedcornref31_Of.f k regs bs) (regs, bs.map (blockM regs), certM regs bs.length) :=
  refOf_l0 hf bs.length 0 [] [] (by omega) rfl rfl
end

/-! ### Equal functions are the same -/
theorem same_block {b : S37} (hn : b.f0.length ≤ 4611686018427387904) : Ev (fun k => seedcornref24_SameBlock.f k b.f0 b.f1 b.f2 b.f3 b.f4 b.f0 b.f1 b.f2 b.f3 b.f4) true := by
  have hl : ∀ (n i : Nat), i + n = b.f0.length → Ev (fun k => seedcornref24_SameBlock.l0 k i b.f0 b.f1 b.f2 b.f3 b.f4 b.f0 b.f1 b.f2 b.f3 b.f4) true := by
    intro n
    induction n with
    | zero =>
      intro i hi
      refine Ev.step (fun k => by rw [seedcornref24_SameBlock.l0, if_neg (by omega)]) ?_
      exact Ev.now _
    | succ n ih =>
      intro i hi
      refine Ev.step (fun k => by rw [seedcornref24_SameBlock.l0, if_pos (by omega), if_pos (by omega), if_pos (by omega), if_neg (by simp), wrap_nat (n := b.f0.length) (by omega) (by omega)]) ?_
      exact ih (i + 1) (by omega)
  unfold seedcornref24_SameBlock.f
  refine Ev.pos rfl (Ev.pos rfl (Ev.pos rfl (Ev.pos rfl ?_)))
  refine Ev.step (fun k => by rw [seedcornref24_SameBlock.j0, if_neg (by simp)]) ?_
  exact hl b.f0.length 0 (by omega)
theorem same_func {regs : Int} {bs : List S37} (hb : fewIn bs) : Ev (fun k => seedcornref24_SameFunc.f k regs bs regs bs) true := by
  have hl : ∀ (n i : Nat), i + n = bs.length → Ev (fun k => seedcornref24_SameFunc.l0 k i regs bs regs bs) true := by
    intro n
    induction n with
    | zero =>
      intro i hi
      refine Ev.step (fun k => by rw [seedcornref24_SameFunc.l0, if_neg (by omega)]) ?_
      exact Ev.now _
    | succ n ih =>
      intro i hi
      have := hb.1
      refine Ev.step (fun k => by rw [seedcornref24_SameFunc.l0, if_pos (by omega), if_pos (by omega), if_pos (by omega), wrap_nat (n := bs.length) (by omega) (by omega)]) ?_
      exact Ev.bind (same_block (hb.2 _ (r37_mem (by omega)))) (Ev.pos rfl (ih (i + 1) (by omega)))
  unfold seedcornref24_SameFunc.f
  refine Ev.pos rfl ?_
  refine Ev.step (fun k => by rw [seedcornref24_SameFunc.j0, if_neg (by simp)]) ?_
  exact hl bs.length 0 (by omega)

/-! ### A full certificate is full -/
theorem rd_cert {regs : Int} {n i : Nat} (h : i < n) : rd_L6 (certM regs n) i = List.replicate regs.toNat true := by
  unfold rd_L6 certM
  rw [Int.toNat_natCast, List.getD_eq_getElem?_getD, List.getElem?_replicate, if_pos h]
  rfl
theorem full_ev {regs : Int} {n : Nat} (hr0 : 0 ≤ regs) (hr : regs ≤ 4000) (hn : n ≤ 1000000) : Ev (fun k => seedcornlaw31_full.f k (certM regs n) n regs) true := by
  have hcl : (certM regs n).length = n := by simp [certM]
  have hl1 : ∀ (i : Nat), i < n → Ev (fun k => seedcornlaw31_full.l0 k n regs (wrap64 (i + 1)) (certM regs n)) true → ∀ (m j : Nat), (j + m : Int) = regs → Ev (fun k => seedcornlaw31_full.l1 k n regs i j (certM regs n)) true := by
    intro i hi h m
    induction m with
    | zero =>
      intro j hj
      refine Ev.step (fun k => by rw [seedcornlaw31_full.l1, if_neg (by omega)]) ?_
      exact h
    | succ m ih =>
      intro j hj
      have hrd : rdOf false (List.replicate regs.toNat true) (j : Int) = true := by
        unfold rdOf
        rw [Int.toNat_natCast, List.getD_eq_getElem?_getD, List.getElem?_replicate, if_pos (by omega)]
        rfl
      refine Ev.step (fun k => by rw [seedcornlaw31_full.l1, if_pos (by omega), if_pos (by omega), if_pos (by omega), if_pos (by omega), rd_cert hi, if_pos (by simp; omega), hrd, if_pos rfl, wrap_nat (n := 5000) (by omega) (by omega)]) ?_
      exact ih (j + 1) (by omega)
  have hl0 : ∀ (m i : Nat), i + m = n → Ev (fun k => seedcornlaw31_full.l0 k n regs i (certM regs n)) true := by
    intro m
    induction m with
    | zero =>
      intro i hi
      refine Ev.step (fun k => by rw [seedcornlaw31_full.l0, if_neg (by omega)]) ?_
      exact Ev.now _
    | succ m ih =>
      intro i hi
      refine Ev.step (fun k => by rw [seedcornlaw31_full.l0, if_pos (by omega), if_pos (by omega), if_pos (by omega), rd_cert (by omega), if_pos (by simp; omega)]) ?_
      exact hl1 i (by omega) (by rw [wrap_nat (n := n) (by omega) (by omega)]; exact ih (i + 1) (by omega)) regs.toNat 0 (by omega)
  unfold seedcornlaw31_full.f
  exact Ev.pos (by rw [hcl]) (hl0 n 0 (by omega))

/-! ### The fixed fact -/
def wk : List S37 := [⟨[⟨2, 1, 0, 0, 0, 0, 0, 0⟩, ⟨9, 0, 1, 0, 0, 0, 0, 0⟩], 3, 0, 0, 0⟩]
theorem awake_ev : Ev (fun k => seedcornlaw31_awake.f k) true := by
  have hf : okF 2 wk := by
    refine ⟨by decide, by decide, by decide, fun b hb => ?_⟩
    have hb' : b = ⟨[⟨2, 1, 0, 0, 0, 0, 0, 0⟩, ⟨9, 0, 1, 0, 0, 0, 0, 0⟩], 3, 0, 0, 0⟩ := by simpa [wk] using hb
    subst hb'
    refine ⟨⟨fun t ht => ?_, fun h => by simp at h⟩, by simp⟩
    have ht' : t = ⟨2, 1, 0, 0, 0, 0, 0, 0⟩ ∨ t = ⟨9, 0, 1, 0, 0, 0, 0, 0⟩ := by simpa using ht
    rcases ht' with rfl | rfl
    · exact ⟨fun _ => ⟨by decide, by decide⟩, fun h => by simp [usesB] at h, fun _ => ⟨by decide, by decide⟩⟩
    · exact ⟨fun _ => ⟨by decide, by decide⟩, fun h => by simp [usesB] at h, fun h => by simp [sets] at h⟩
  have hfull : Ev (fun k => seedcornlaw31_full.f k (certM 2 wk.length) 1 2) true := full_ev (regs := 2) (n := 1) (by decide) (by decide) (by decide)
  have hm : wk.map (blockM 2) = [⟨[⟨2, 1, 0, 0, 0, 0, 0, 0⟩, ⟨9, 0, 0, 0, 0, 0, 0, 0⟩], 3, 0, 0, 0⟩] := by
    simp [wk, blockM, run, insT, insC, usesA, usesB, none_, ofM, rd, setM, clr]
  have hof := Of_ev hf
  rw [hm] at hof
  unfold seedcornlaw31_awake.f
  refine Ev.bind hof (Ev.bind hfull (Ev.pos rfl ?_))
  refine Ev.pos rfl (Ev.pos (by decide) (Ev.pos rfl (Ev.pos (by decide) ?_)))
  exact Ev.now _

end Go.Proofs.Ytcfagmdopkginaa.Plain
