/- An argument of a struct, slice, string or number type, read as data, opened into the cells' own kinds ('Kd'): for the rows of laws over structs. -/
import Derived.Test.YtcfagmdopkginaaV
import Derived.Deep.Slices
import Derived.SizedLaws
import Derived.WideShapes
import Derived.ProofKit
namespace Go.Proofs.Ytcfagmdopkginaa.Opens
open Go.ChangeShapes Go.WideShapes Go.Deep Go.Proofs.YtcfagmdopkginaaW.PrintWords
set_option linter.unusedVariables false

/-- Whatever reads as data of type t, and is no longer than its weights allow, is of the kind d. -/
def Opens (P : Program) {α : Type} (d : Kd α) (t : TypeId) (Q : α → Prop) : Prop :=
  P.cellsOf t = d.sz ∧ ∀ (H : Type) (enc : TypeId × Value → H) (w : World) (base : Nat) (spare : Nat → Bool) (held : Bool) (fuel : Nat) (cs : List Value) (x : DataW H × List MemPlace),
    DataW.trod enc P w base spare held fuel t cs = some x → (∀ n ∈ x.1.weights P t, n ≤ reachBytes) → ∃ v : α, d.K w v cs ∧ Q v

theorem Opens.mono {P : Program} {α : Type} {d : Kd α} {t : TypeId} {Q Q' : α → Prop} (h : Opens P d t Q) (hq : ∀ v, Q v → Q' v) : Opens P d t Q' :=
  ⟨h.1, fun H enc w base spare held fuel cs x hx hw => let ⟨v, hv, q⟩ := h.2 H enc w base spare held fuel cs x hx hw; ⟨v, hv, hq v q⟩⟩

theorem opens_int {P : Program} {t : TypeId} {k : IntKind} (hu : P.underlying t = some (.int k)) (hc : P.cellsOf t = 1) : Opens P (Kd.int k) t (fun x => (Lit.int k x).wf = true) := by
  refine ⟨hc, fun H enc w base spare held fuel cs x hx _ => ?_⟩
  obtain ⟨n, rfl, _, hw⟩ := DataW.trod_int hu hx
  exact ⟨n, rfl, hw⟩

theorem opens_bool {P : Program} {t : TypeId} (hu : P.underlying t = some .bool) (hc : P.cellsOf t = 1) : Opens P Kd.bool t (fun _ => True) := by
  refine ⟨hc, fun H enc w base spare held fuel cs x hx _ => ?_⟩
  obtain ⟨n, rfl, _⟩ := DataW.trod_bool hu hx
  exact ⟨n, rfl, trivial⟩

theorem opens_string {P : Program} {t : TypeId} (hu : P.underlying t = some .string) (hc : P.cellsOf t = 1) : Opens P Kd.string t (fun s => s.size ≤ 140737488351232) := by
  refine ⟨hc, fun H enc w base spare held fuel cs x hx hw => ?_⟩
  obtain ⟨s, rfl, rfl, _⟩ := DataW.trod_string hu hx
  refine ⟨s, rfl, ?_⟩
  have := hw s.data.toList.length (by simp [DataW.weights])
  simpa [reachBytes] using this

theorem opens_iso {P : Program} {α β : Type} {d : Kd α} {t : TypeId} {Q : α → Prop} (g : β → α) (mk : α → β) (hg : ∀ a, g (mk a) = a) (h : Opens P d t Q) : Opens P (Kd.iso d g) t (fun b => Q (g b)) := by
  refine ⟨h.1, fun H enc w base spare held fuel cs x hx hw => ?_⟩
  obtain ⟨v, hv, q⟩ := h.2 H enc w base spare held fuel cs x hx hw
  exact ⟨mk v, by show d.K w (g (mk v)) cs; rw [hg]; exact hv, by show Q (g (mk v)); rw [hg]; exact q⟩

theorem weightsAll_mem {H : Type} {P : Program} {e : TypeId} {l : List (DataW H)} {y : DataW H} (hy : y ∈ l) {n : Nat} (hn : n ∈ y.weights P e) : n ∈ DataW.weightsAll P e l := by
  induction l with
  | nil => simp at hy
  | cons a r ih =>
    rw [DataW.weightsAll]
    rcases List.mem_cons.1 hy with rfl | hy
    · exact List.mem_append_left _ hn
    · exact List.mem_append_right _ (ih hy)

theorem opens_slice {P : Program} {α : Type} (z : α) {d : Kd α} {t e : TypeId} {Q : α → Prop} {B : Nat} (hu : P.underlying t = some (.slice e)) (hc : P.cellsOf t = 1) (hB : P.bytesOf e = B) (h : Opens P d e Q) :
    Opens P (Kd.slice e d) t (fun l => l.length * B ≤ 140737488351232 ∧ l.length ≤ 9223372036854775807 ∧ ∀ x ∈ l, Q x) := by
  refine ⟨hc, fun H enc w base spare held fuel cs x hx hw => ?_⟩
  rcases open_slice hu hx with ⟨rfl, rfl⟩ | ⟨a, len, cap, m, n, D, Pl, rfl, hb, hl, hm, hmm, rfl, hel⟩
  · exact ⟨[], ⟨none, 0, rfl, Nat.le_refl _, rfl, by simp, fun hp => absurd hp (by simp)⟩, by simp, by simp, by simp⟩
  · have hlm : len ≤ m := by rw [hmm]; split <;> omega
    have hws : ∀ i, i < len → ∀ n ∈ (D i).weights P e, n ≤ reachBytes := fun i hi n hn => hw n (by
      show n ∈ DataW.weights P t (.slice _ _)
      rw [DataW.weights, hu]
      exact List.mem_cons_of_mem _ (List.mem_append_left _ (weightsAll_mem (List.mem_map.2 ⟨i, List.mem_range.2 hi, rfl⟩) hn)))
    haveI : Inhabited α := ⟨z⟩
    obtain ⟨f, hf⟩ := choose_lt (α := α) (n := len) (p := fun i v => ∃ cs', w.cells? base (a.add (i * P.cellsOf e)) (P.cellsOf e) = some cs' ∧ d.K w v cs' ∧ Q v) (fun i hi => by
      obtain ⟨cs', h1, h2⟩ := hel i (by omega)
      obtain ⟨v, hv, q⟩ := h.2 H enc w base spare held _ cs' _ h2 (hws i hi)
      exact ⟨v, cs', h1, hv, q⟩)
    refine ⟨(List.range len).map f, ⟨some a, cap, by simp, by simpa using hl, ?_⟩, ?_, ?_, ?_⟩
    · rw [List.length_map, List.length_range]
      refine ⟨by simp, by have := hm; unfold maxLen at this; omega, fun _ => ⟨a, rfl, fun j p hj => ?_⟩⟩
      have hlt : j < len := by
        rcases Nat.lt_or_ge j len with h0 | h0
        · exact h0
        · rw [List.getElem?_eq_none (by simpa using h0)] at hj; simp at hj
      obtain rfl : f j = p := by
        rw [List.getElem?_map, List.getElem?_range hlt] at hj
        simpa using hj
      obtain ⟨cs', h1, h2, _⟩ := hf j hlt
      obtain ⟨_, hlen, hcell⟩ := World.cells?_some h1
      refine ⟨cs', by rw [hlen]; exact h.1, h2, fun i u hiu => ?_⟩
      have hi : i < cs'.length := (List.getElem?_eq_some_iff.1 hiu).1
      rw [← h.1, ← Deep.add_add]
      rw [hcell i (by omega), hiu]
    · rw [List.length_map, List.length_range]
      have := hw ((len + (m - len)) * P.bytesOf e) (by
        show _ ∈ DataW.weights P t (.slice _ _)
        rw [DataW.weights, hu]
        simp)
      rw [hB] at this
      have h2 : len * B ≤ (len + (m - len)) * B := Nat.mul_le_mul_right _ (by omega)
      have h3 : reachBytes = 140737488351232 := rfl
      omega
    · rw [List.length_map, List.length_range]
      have := hm
      unfold maxLen at this
      omega
    · intro x hx
      obtain ⟨i, hi, rfl⟩ := List.mem_map.1 hx
      obtain ⟨_, _, _, q⟩ := hf i (List.mem_range.1 hi)
      exact q

/-- The fields of a struct from one on. -/
def OpensF (P : Program) {α : Type} (d : Kd α) (fs : List Field) (off : Nat) (Q : α → Prop) : Prop :=
  ∀ (H : Type) (enc : TypeId × Value → H) (w : World) (base : Nat) (spare : Nat → Bool) (held : Bool) (fuel : Nat) (cs : List Value) (xs : List (DataW H × List MemPlace)),
    cs.length = off + d.sz → xs.length = fs.length → (∀ (i : Nat) (f : Field), fs[i]? = some f → DataW.trod enc P w base spare held fuel f.type ((cs.drop f.offset).take (P.cellsOf f.type)) = xs[i]?) →
    (∀ n ∈ DataW.weightsEach P (fs.map (·.type)) (xs.map (·.1)), n ≤ reachBytes) → ∃ v : α, d.K w v (cs.drop off) ∧ Q v

theorem opensF_one {P : Program} {α : Type} {d : Kd α} {f : Field} {off : Nat} {Q : α → Prop} (h : Opens P d f.type Q) (ho : f.offset = off) : OpensF P d [f] off Q := by
  intro H enc w base spare held fuel cs xs hl hx hi hw
  match xs, hx with
  | [x], _ =>
    have h0 := hi 0 f rfl
    rw [ho, h.1, List.take_of_length_le (by simp; omega)] at h0
    exact h.2 H enc w base spare held fuel _ x h0 (fun n hn => hw n (by simp only [List.map_cons, List.map_nil, DataW.weightsEach]; exact List.mem_append_left _ hn))

theorem opensF_cons {P : Program} {α β : Type} {d : Kd α} {d' : Kd β} {f : Field} {fs : List Field} {off off' : Nat} {Q : α → Prop} {Q' : β → Prop} (h : Opens P d f.type Q) (ho : f.offset = off) (hoff : off + d.sz = off') (h' : OpensF P d' fs off' Q') :
    OpensF P (Kd.pair d d') (f :: fs) off (fun v => Q v.1 ∧ Q' v.2) := by
  intro H enc w base spare held fuel cs xs hl hx hi hw
  match xs, hx with
  | x :: xs, hx =>
    have hl' : cs.length = off + (d.sz + d'.sz) := hl
    have h0 := hi 0 f rfl
    rw [ho, h.1] at h0
    obtain ⟨v, hv, q⟩ := h.2 H enc w base spare held fuel _ x h0 (fun n hn => hw n (by simp only [List.map_cons, DataW.weightsEach]; exact List.mem_append_left _ hn))
    obtain ⟨v', hv', q'⟩ := h' H enc w base spare held fuel cs xs (by omega) (by simpa using hx) (fun i g hg => hi (i + 1) g hg) (fun n hn => hw n (by simp only [List.map_cons, DataW.weightsEach]; exact List.mem_append_right _ hn))
    refine ⟨(v, v'), ⟨(cs.drop off).take d.sz, cs.drop off', ?_, hv, hv'⟩, q, q'⟩
    rw [← hoff, ← List.drop_drop, List.take_append_drop]

theorem opens_struct {P : Program} {α : Type} {d : Kd α} {t : TypeId} {fs : Array Field} {Q : α → Prop} (hu : P.underlying t = some (.struct fs)) (hc : P.cellsOf t = d.sz) (h : OpensF P d fs.toList 0 Q) : Opens P d t Q := by
  refine ⟨hc, fun H enc w base spare held fuel cs x hx hw => ?_⟩
  obtain ⟨xs, n, rfl, rfl, hlen, hxl, hi⟩ := DataW.trod_struct hu hx
  have := h H enc w base spare held n cs xs (by rw [hlen, hc, Nat.zero_add]) (by simpa using hxl) (fun i f hf => hi i f (by simpa using hf)) (fun m hm => hw m (by
    show m ∈ DataW.weights P t (.agg _)
    rw [DataW.weights, hu]
    exact hm))
  rwa [List.drop_zero] at this

/-- A struct's argument: its value, and what its cells are. -/
theorem open_struct_arg {P : Program} {α : Type} {d : Kd α} {t : TypeId} {fs : Array Field} {Q : α → Prop} (hu : P.underlying t = some (.struct fs)) (h : Opens P d t Q) {H : Type} {enc : TypeId × Value → H} {w : World} {base : Nat} {spare : Nat → Bool} {held : Bool} {r : Reach} {b0 : Nat} {v : Value} {dd : DataW H} {ps : List MemPlace}
    (hv : Value.okWide P w r b0 t v) (ht : DataW.Trod enc P w base spare held t v dd ps) {ts : List TypeId} {ds : List (DataW H)} {j : Nat} (hsz : (DataW.weightsEach P ts ds).all (· ≤ reachBytes) = true) (hts : ts[j]? = some t) (hds : ds[j]? = some dd) :
    ∃ (cs : Array Value) (x : α), v = .agg cs ∧ d.K w x cs.toList ∧ Q x := by
  obtain ⟨cs, rfl, hsz'⟩ := okWide_struct hu hv
  obtain ⟨fuel, hf⟩ := ht
  obtain ⟨x, hx, q⟩ := h.2 H enc w base spare held fuel _ _ hf (fun n hn => by
    have := List.all_eq_true.1 hsz n (DataW.weights_mem_each hts hds n hn)
    simpa using this)
  exact ⟨cs, x, rfl, hx, q⟩

end Go.Proofs.Ytcfagmdopkginaa.Opens
