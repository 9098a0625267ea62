/- Layer 31 in plain Lean: what the new functions of 'forward' compute, as functions on lists; no program, no memory. -/
import Derived.Test.YtcfagmdopkginaaPFx0
namespace Go.Proofs.Ytcfagmdopkginaa.Plain
open Go.RowKit Go.Proofs.YtcfagmdopkginaaW.PrintWords Go.Proofs.Ytcfagmdopkginaa.PF

/-! ### Rounds -/
section
variable {α β : Type}
theorem Ev.pos {c : Prop} [Decidable c] {f g : Nat → Option α} {r : α} (h : c) (k : Ev f r) : Ev (fun n => if c then f n else g n) r := by simpa only [if_pos h] using k
theorem Ev.neg {c : Prop} [Decidable c] {f g : Nat → Option α} {r : α} (h : ¬ c) (k : Ev g r) : Ev (fun n => if c then f n else g n) r := by simpa only [if_neg h] using k
theorem Ev.ite {c : Prop} [Decidable c] {f g : Nat → Option α} {r : α} (h : c → Ev f r) (k : ¬ c → Ev g r) : Ev (fun n => if c then f n else g n) r := by
  by_cases hc : c
  · exact Ev.pos hc (h hc)
  · exact Ev.neg hc (k hc)
theorem Ev.some_ {a : α} {f : Nat → α → Option β} {r : β} (k : Ev (fun n => f n a) r) : Ev (fun n => (some a).bind (f n)) r := k
theorem Ev.at_ {g : Nat → Option α} {a : α} {f : Nat → α → Option β} {r : β} (h : ∀ n, g n = some a) (k : Ev (fun n => f n a) r) : Ev (fun n => (g n).bind (f n)) r := Ev.bind ⟨0, fun n _ => h n⟩ k
theorem Ev.eq {g : Nat → Option α} {r r' : α} (h : Ev g r) (e : r = r') : Ev g r' := e ▸ h
end

theorem wrap_id {x : Int} (h0 : -9223372036854775808 ≤ x) (h1 : x ≤ 9223372036854775807) : wrap64 x = x := by unfold wrap64; omega
theorem wrap_nat {i n : Nat} (h : i < n) (hn : n ≤ 4611686018427387904) : wrap64 ((i : Int) + 1) = ((i + 1 : Nat) : Int) := by rw [wrap_id] <;> omega

/-! ### The model -/
def usesA (op : Int) : Bool := op = 2 || op = 5 || op = 6 || op = 9 || op = 3 || op = 7
def usesB (op : Int) : Bool := op = 3 || op = 7
def sets (op : Int) : Bool := op = 1 || op = 2 || op = 3 || op = 4 || op = 6 || op = 8
def ofM (c : List Int) (v : Int) : Int := if rd c v = -1 then v else rd c v
def clr (c : List Int) (d : Int) : List Int := (c.map fun x => if x = d then -1 else x).set d.toNat (-1)
def setM (c : List Int) (d f : Int) : List Int := if f = d then clr c d else (clr c d).set d.toNat f
def insT (c : List Int) (t : S40) : S40 := ⟨t.f0, t.f1, if usesA t.f0 then ofM c t.f2 else t.f2, if usesB t.f0 then ofM c t.f3 else t.f3, t.f4, t.f5, t.f6, t.f7⟩
def insC (c : List Int) (t : S40) : List Int := if t.f0 = 2 then setM c t.f1 (ofM c t.f2) else if sets t.f0 then setM c t.f1 (-1) else c
def run : List Int → List S40 → List S40 × List Int
  | c, [] => ([], c)
  | c, t :: l => let r := run (insC c t) l; (insT c t :: r.1, r.2)
def none_ (regs : Int) : List Int := List.replicate regs.toNat (-1)
def blockM (regs : Int) (b : S37) : S37 := let r := run (none_ regs) b.f0; ⟨r.1, b.f1, if b.f1 = 2 then ofM r.2 b.f2 else b.f2, b.f3, b.f4⟩
def certM (regs : Int) (n : Nat) : List (List Bool) := List.replicate n (List.replicate regs.toNat true)

/-! ### What may be -/
def inR (regs v : Int) : Prop := 0 ≤ v ∧ v < regs
structure okT (regs : Int) (t : S40) : Prop where
  a : usesA t.f0 = true → inR regs t.f2
  b : usesB t.f0 = true → inR regs t.f3
  d : sets t.f0 = true → inR regs t.f1
structure okC (regs : Int) (c : List Int) : Prop where
  len : c.length = regs.toNat
  rng : ∀ v, inR regs v → rd c v = -1 ∨ (inR regs (rd c v) ∧ rd c v ≠ v ∧ rd c (rd c v) = -1)
def okB (regs : Int) (b : S37) : Prop := (∀ t ∈ b.f0, okT regs t) ∧ (b.f1 = 2 → inR regs b.f2)

theorem rd_set {c : List Int} {d v x : Int} (hd : inR c.length d) (hv : 0 ≤ v) : rd (c.set d.toNat x) v = if v = d then x else rd c v := by
  unfold rd inR at *
  simp only [List.getD_eq_getElem?_getD, List.getElem?_set]
  by_cases h : v = d
  · subst h
    simp only [if_pos]
    rw [if_pos (by omega)]
    rfl
  · rw [if_neg (by omega), if_neg h]
theorem rd_map {c : List Int} {f : Int → Int} {v : Int} (hv : inR c.length v) : rd (c.map f) v = f (rd c v) := by
  unfold rd inR at *
  have h : v.toNat < c.length := by omega
  simp [List.getD_eq_getElem?_getD, List.getElem?_map, List.getElem?_eq_getElem h]
theorem clr_length (c : List Int) (d : Int) : (clr c d).length = c.length := by simp [clr]
theorem rd_clr {c : List Int} {d v : Int} (hd : inR c.length d) (hv : inR c.length v) : rd (clr c d) v = if v = d then -1 else if rd c v = d then -1 else rd c v := by
  unfold clr
  rw [rd_set (by simpa using hd) hv.1, rd_map hv]
theorem setM_length (c : List Int) (d f : Int) : (setM c d f).length = c.length := by unfold setM; split <;> simp [clr_length]
theorem rd_setM {c : List Int} {d f v : Int} (hd : inR c.length d) (hv : inR c.length v) : rd (setM c d f) v = if v = d then (if f = d then -1 else f) else if rd c v = d then -1 else rd c v := by
  unfold setM
  split
  · rw [rd_clr hd hv]
  · rw [rd_set (by rw [clr_length]; exact hd) hv.1, rd_clr hd hv]
    split <;> simp_all

theorem okC.inL {regs : Int} {c : List Int} (h : okC regs c) {v : Int} (hv : inR regs v) : inR c.length v := by
  have := h.len
  unfold inR at *
  omega
theorem ofM_range {regs : Int} {c : List Int} (h : okC regs c) {v : Int} (hv : inR regs v) : inR regs (ofM c v) ∧ rd c (ofM c v) = -1 := by
  unfold ofM
  split
  · exact ⟨hv, by assumption⟩
  · rcases h.rng v hv with h0 | ⟨h1, _, h2⟩
    · contradiction
    · exact ⟨h1, h2⟩
theorem okC_none {regs : Int} : okC regs (none_ regs) := by
  refine ⟨by simp [none_], fun v hv => .inl ?_⟩
  unfold rd none_ inR at *
  have h : v.toNat < (List.replicate regs.toNat (-1 : Int)).length := by simp; omega
  simp [List.getD_eq_getElem?_getD, List.getElem?_eq_getElem h]
theorem okC_set {regs : Int} {c : List Int} (h : okC regs c) {d f : Int} (hd : inR regs d) (hf : f = -1 ∨ (inR regs f ∧ rd c f = -1)) : okC regs (setM c d f) := by
  refine ⟨by rw [setM_length, h.len], fun v hv => ?_⟩
  rw [rd_setM (h.inL hd) (h.inL hv)]
  by_cases hvd : v = d
  · subst hvd
    simp only [if_true]
    by_cases hfd : f = v
    · simp [hfd]
    · rw [if_neg hfd]
      rcases hf with rfl | ⟨hr, hc⟩
      · exact .inl rfl
      · refine .inr ⟨hr, hfd, ?_⟩
        rw [rd_setM (h.inL hd) (h.inL hr), if_neg hfd, if_neg (by rw [hc]; unfold inR at hd; omega), hc]
  · rw [if_neg hvd]
    by_cases hcd : rd c v = d
    · simp [hcd]
    · rw [if_neg hcd]
      rcases h.rng v hv with h0 | ⟨h1, h2, h3⟩
      · exact .inl h0
      · refine .inr ⟨h1, h2, ?_⟩
        rw [rd_setM (h.inL hd) (h.inL h1), if_neg hcd, h3]
        rw [if_neg (by unfold inR at hd; omega)]
theorem okC_ins {regs : Int} {c : List Int} (h : okC regs c) {t : S40} (ht : okT regs t) : okC regs (insC c t) := by
  unfold insC
  split
  · rename_i h2
    exact okC_set h (ht.d (by rw [h2]; rfl)) (.inr (ofM_range h (ht.a (by rw [h2]; rfl))))
  · split
    · exact okC_set h (ht.d (by assumption)) (.inl rfl)
    · exact h
theorem okT_ins {regs : Int} {c : List Int} (h : okC regs c) {t : S40} (ht : okT regs t) : okT regs (insT c t) := by
  refine ⟨fun ha => ?_, fun hb => ?_, ht.d⟩
  · show inR regs (if usesA t.f0 then ofM c t.f2 else t.f2)
    have ha' : usesA t.f0 = true := ha
    rw [if_pos ha']
    exact (ofM_range h (ht.a ha)).1
  · show inR regs (if usesB t.f0 then ofM c t.f3 else t.f3)
    have hb' : usesB t.f0 = true := hb
    rw [if_pos hb']
    exact (ofM_range h (ht.b hb)).1
theorem okC_run {regs : Int} : ∀ (l : List S40) {c : List Int}, okC regs c → (∀ t ∈ l, okT regs t) → okC regs (run c l).2
  | [], _, h, _ => h
  | t :: l, _, h, hl => okC_run l (okC_ins h (hl t (by simp))) (fun u hu => hl u (by simp [hu]))
theorem okT_run {regs : Int} : ∀ (l : List S40) {c : List Int}, okC regs c → (∀ t ∈ l, okT regs t) → ∀ t ∈ (run c l).1, okT regs t
  | [], _, _, _ => fun t ht => by simp [run] at ht
  | t :: l, c, h, hl => fun u hu => by
    simp only [run, List.mem_cons] at hu
    rcases hu with rfl | hu
    · exact okT_ins h (hl t (by simp))
    · exact okT_run l (okC_ins h (hl t (by simp))) (fun u hu => hl u (by simp [hu])) u hu
theorem okB_block {regs : Int} {b : S37} (h : okB regs b) : okB regs (blockM regs b) := by
  refine ⟨okT_run b.f0 okC_none h.1, fun h2 => ?_⟩
  show inR regs (if b.f1 = 2 then _ else _)
  have h2' : b.f1 = 2 := h2
  rw [if_pos h2']
  exact (ofM_range (okC_run b.f0 okC_none h.1) (h.2 h2)).1
theorem run_length : ∀ (l : List S40) (c : List Int), (run c l).1.length = l.length
  | [], _ => rfl
  | _ :: l, c => by simp [run, run_length l]

/-! ### Twice is once -/
theorem ofM_of {regs : Int} {c : List Int} (h : okC regs c) {v : Int} (hv : inR regs v) : ofM c (ofM c v) = ofM c v := by
  rw [ofM, if_pos (ofM_range h hv).2]
theorem insC_twice {regs : Int} {c : List Int} (h : okC regs c) {t : S40} (ht : okT regs t) : insC c (insT c t) = insC c t := by
  unfold insC insT
  dsimp only
  by_cases h2 : t.f0 = 2
  · have ha : usesA t.f0 = true := by rw [h2]; rfl
    rw [if_pos h2, if_pos h2, if_pos ha, ofM_of h (ht.a ha)]
  · rw [if_neg h2, if_neg h2]
theorem insT_twice {regs : Int} {c : List Int} (h : okC regs c) {t : S40} (ht : okT regs t) : insT c (insT c t) = insT c t := by
  unfold insT
  dsimp only
  congr 1
  · by_cases ha : usesA t.f0 = true
    · rw [if_pos ha, if_pos ha, ofM_of h (ht.a ha)]
    · rw [if_neg ha, if_neg ha]
  · by_cases hb : usesB t.f0 = true
    · rw [if_pos hb, if_pos hb, ofM_of h (ht.b hb)]
    · rw [if_neg hb, if_neg hb]
theorem run_twice {regs : Int} : ∀ (l : List S40) {c : List Int}, okC regs c → (∀ t ∈ l, okT regs t) → run c (run c l).1 = run c l
  | [], _, _, _ => rfl
  | t :: l, c, h, hl => by
    have ht := hl t (by simp)
    have ih := run_twice l (okC_ins h ht) (fun u hu => hl u (by simp [hu]))
    simp only [run]
    rw [insC_twice h ht, insT_twice h ht, ih]
theorem block_twice {regs : Int} {b : S37} (h : okB regs b) : blockM regs (blockM regs b) = blockM regs b := by
  have hr := run_twice b.f0 okC_none h.1
  have hc := okC_run b.f0 okC_none h.1
  unfold blockM
  dsimp only
  rw [hr]
  congr 1
  by_cases h2 : b.f1 = 2
  · rw [if_pos h2, if_pos h2, ofM_of hc (h.2 h2)]
  · rw [if_neg h2, if_neg h2]

end Go.Proofs.Ytcfagmdopkginaa.Plain
