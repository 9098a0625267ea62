/- What single instructions of a run do, in memory (printed in part by a program of this session). -/
import Derived.Test.YtcfagmdopkginaaRunA
import Derived.Test.YtcfagmdopkginaaPFx34
namespace Go.Proofs.Ytcfagmdopkginaa.RunW
open Go.RowKit Go.Proofs.YtcfagmdopkginaaW.PrintWords Go.Proofs.YtcfagmdopkginaaW.PrintLast Go.Proofs.YtcfagmdopkginaaW.PrintMore
set_option linter.unusedVariables false
variable {x : Fx} {w W : World} {vo0 vo vr : Value} {s : RS} {S : Nat → Prop} {regs : List Int}

set_option maxHeartbeats 4000000 in
set_option maxRecDepth 100000 in
theorem one_bin_ok {d n a b k bs sz : Int} (h : St x w w vo vo s S) (hr : U32.R 38 w x.w0.heap.size (fun _ => True) vr regs) (hne : ∀ k, vr.ownBlock = some k → x.vw.ownBlock ≠ some k) (hS : ∀ k, vr.ownBlock = some k → S k) (hd0 : 0 ≤ d) (hd1 : d < (regs.length : Int)) (ha0 : 0 ≤ a) (ha1 : a < (regs.length : Int)) (hb0 : 0 ≤ b) (hb1 : b < (regs.length : Int)) {kk : Nat} {r : Int} (hap : PF.seedcornref01_Apply.f kk k (rdOf 0 regs a) (rdOf 0 regs b) = some (r, 0)) :
    Calls Try.prog 37 #[.pointer (some ⟨x.g, 0, none⟩), tacV 3 d a b k bs sz n, vr] w (OneQ x w vo vr s (regs.set d.toNat r) S) := by
  obtain ⟨gr, cr, rfl, hg0, hg1, cl, HG⟩ := Kd.R_form hr (by omega)
  have hne := hne gr rfl
  have hS := hS gr rfl
  clear HG
  have H := Aside0.mk h
  have HR := Aside0.mk hr
  clear hr h
  go_enter Try.func37, Try.ntmps37
  go_wp2
  have hbx := blk_new w (Obj.cells #[.int .i64 3, .int .i64 d, .int .i64 a, .int .i64 b, .int .i64 k, .int .i64 bs, .int .i64 sz, .int .u32 n] 40)
  have HR' := Aside0.mk (Kd.R_alloc HR.out (Obj.cells #[.int .i64 3, .int .i64 d, .int .i64 a, .int .i64 b, .int .i64 k, .int .i64 bs, .int .i64 sz, .int .u32 n] 40))
  have H' := Aside0.mk (H.out.alloc (Obj.cells #[.int .i64 3, .int .i64 d, .int .i64 a, .int .i64 b, .int .i64 k, .int .i64 bs, .int .i64 sz, .int .u32 n] 40))
  generalize w.alloc (Obj.cells #[.int .i64 3, .int .i64 d, .int .i64 a, .int .i64 b, .int .i64 k, .int .i64 bs, .int .i64 sz, .int .u32 n] 40) = W at *
  generalize w.heap.size = bx at *
  have Zr := blk9 H'.out.blk
  have Z := blk8 hbx
  obtain ⟨hxa, hfa⟩ := Kd.R_celln 0 HR'.out a ha0 ha1
  obtain ⟨hxb, hfb⟩ := Kd.R_celln 0 HR'.out b hb0 hb1
  clear HR H
  have lx : bx < W.drew.heap.size := blk_lt (blk_drew hbx)
  have lr : gr < W.drew.heap.size := (Kd.R_form (Kd.R_drew HR'.out) (by omega)).elim fun _ h => h.elim fun _ h => by obtain ⟨h1, _, h3, _⟩ := h; injection h1 with h1 _ _; injection h1 with h1; injection h1 with h1; omega
  go_region_held3 (fun w' => w'.cell? ⟨bx, 2, none⟩ = some (.int .i64 a) ∧ w'.cell? ⟨bx, 3, none⟩ = some (.int .i64 b) ∧ w'.cell? ⟨bx, 4, none⟩ = some (.int .i64 k) ∧ w'.cell? ⟨gr, a.toNat, none⟩ = some (.int .u32 (rdOf 0 regs a)) ∧ w'.cell? ⟨gr, b.toNat, none⟩ = some (.int .u32 (rdOf 0 regs b)))
    (first | (simp [*]; done) | exact ⟨k1, k2, k3, k4, k5⟩)
    ((go_at_call 38; refine (PF.seedcornref01_Apply.calls kk k (rdOf 0 regs a) (rdOf 0 regs b) r 0 _ hap).mono ?_; rintro e w' ⟨rfl, hb⟩; have k1 := (hb.cell (p := ⟨bx, 2, none⟩) lx).trans Z.2.2.1; have k2 := (hb.cell (p := ⟨bx, 3, none⟩) lx).trans Z.2.2.2.1; have k3 := (hb.cell (p := ⟨bx, 4, none⟩) lx).trans Z.2.2.2.2.1; have k4 := (hb.cell (p := ⟨gr, a.toNat, none⟩) lr).trans hxa; have k5 := (hb.cell (p := ⟨gr, b.toNat, none⟩) lr).trans hxb))
  have H2 := Aside0.mk (H'.out.drew.of_below hb)
  have HR2 := Aside0.mk (Kd.R_below (Kd.R_drew HR'.out) hb)
  have hbx2 := Aside0.mk (blk_below (blk_drew hbx) hb)
  clear Z Zr hbx hb
  have Z := blk8 hbx2.out
  have Zr := blk9 H2.out.blk
  obtain ⟨hxd, hfd⟩ := Kd.R_celln 0 HR2.out d hd0 hd1
  go_wp2
  go_end0
  exact ⟨rfl, _, St.reg H2.out HR2.out hne (.inl hS) d _⟩
set_option maxHeartbeats 4000000 in
set_option maxRecDepth 100000 in
theorem one_bin_bad {d n a b k bs sz : Int} (h : St x w w vo vo s S) (hr : U32.R 38 w x.w0.heap.size (fun _ => True) vr regs) (hne : ∀ k, vr.ownBlock = some k → x.vw.ownBlock ≠ some k) (hS : ∀ k, vr.ownBlock = some k → S k) (ha0 : 0 ≤ a) (ha1 : a < (regs.length : Int)) (hb0 : 0 ≤ b) (hb1 : b < (regs.length : Int)) {kk : Nat} {r ee : Int} (hap : PF.seedcornref01_Apply.f kk k (rdOf 0 regs a) (rdOf 0 regs b) = some (r, ee)) (hee : ee ≠ 0) :
    Calls Try.prog 37 #[.pointer (some ⟨x.g, 0, none⟩), tacV 3 d a b k bs sz n, vr] w (OneQ x w vo vr { s with fin := 2 } regs S) := by
  obtain ⟨gr, cr, rfl, hg0, hg1, cl, HG⟩ := Kd.R_form hr (by omega)
  have hne := hne gr rfl
  have hS := hS gr rfl
  clear HG
  have H := Aside0.mk h
  have HR := Aside0.mk hr
  clear hr h
  go_enter Try.func37, Try.ntmps37
  go_wp2
  have hbx := blk_new w (Obj.cells #[.int .i64 3, .int .i64 d, .int .i64 a, .int .i64 b, .int .i64 k, .int .i64 bs, .int .i64 sz, .int .u32 n] 40)
  have HR' := Aside0.mk (Kd.R_alloc HR.out (Obj.cells #[.int .i64 3, .int .i64 d, .int .i64 a, .int .i64 b, .int .i64 k, .int .i64 bs, .int .i64 sz, .int .u32 n] 40))
  have H' := Aside0.mk (H.out.alloc (Obj.cells #[.int .i64 3, .int .i64 d, .int .i64 a, .int .i64 b, .int .i64 k, .int .i64 bs, .int .i64 sz, .int .u32 n] 40))
  generalize w.alloc (Obj.cells #[.int .i64 3, .int .i64 d, .int .i64 a, .int .i64 b, .int .i64 k, .int .i64 bs, .int .i64 sz, .int .u32 n] 40) = W at *
  generalize w.heap.size = bx at *
  have Zr := blk9 H'.out.blk
  have Z := blk8 hbx
  obtain ⟨hxa, hfa⟩ := Kd.R_celln 0 HR'.out a ha0 ha1
  obtain ⟨hxb, hfb⟩ := Kd.R_celln 0 HR'.out b hb0 hb1
  clear HR H
  have lx : bx < W.drew.heap.size := blk_lt (blk_drew hbx)
  have lr : gr < W.drew.heap.size := (Kd.R_form (Kd.R_drew HR'.out) (by omega)).elim fun _ h => h.elim fun _ h => by obtain ⟨h1, _, h3, _⟩ := h; injection h1 with h1 _ _; injection h1 with h1; injection h1 with h1; omega
  go_region_held3 (fun w' => w'.cell? ⟨bx, 2, none⟩ = some (.int .i64 a) ∧ w'.cell? ⟨bx, 3, none⟩ = some (.int .i64 b) ∧ w'.cell? ⟨bx, 4, none⟩ = some (.int .i64 k) ∧ w'.cell? ⟨gr, a.toNat, none⟩ = some (.int .u32 (rdOf 0 regs a)) ∧ w'.cell? ⟨gr, b.toNat, none⟩ = some (.int .u32 (rdOf 0 regs b)))
    (first | (simp [*]; done) | exact ⟨k1, k2, k3, k4, k5⟩)
    ((go_at_call 38; refine (PF.seedcornref01_Apply.calls kk k (rdOf 0 regs a) (rdOf 0 regs b) r ee _ hap).mono ?_; rintro e w' ⟨rfl, hb⟩; have k1 := (hb.cell (p := ⟨bx, 2, none⟩) lx).trans Z.2.2.1; have k2 := (hb.cell (p := ⟨bx, 3, none⟩) lx).trans Z.2.2.2.1; have k3 := (hb.cell (p := ⟨bx, 4, none⟩) lx).trans Z.2.2.2.2.1; have k4 := (hb.cell (p := ⟨gr, a.toNat, none⟩) lr).trans hxa; have k5 := (hb.cell (p := ⟨gr, b.toNat, none⟩) lr).trans hxb))
  have H2 := Aside0.mk (H'.out.drew.of_below hb)
  have HR2 := Aside0.mk (Kd.R_below (Kd.R_drew HR'.out) hb)
  have hbx2 := Aside0.mk (blk_below (blk_drew hbx) hb)
  clear Z Zr hbx hb
  have Z := blk8 hbx2.out
  have Zr := blk9 H2.out.blk
  have hee1 : decide (ee = 0) = false := decide_eq_false hee
  go_wp2
  go_end0
  exact ⟨rfl, _, H2.out.cell 8 _ { s with fin := 2 } rfl rfl rfl, H2.out.cell_regs HR2.out 8 _⟩
set_option maxHeartbeats 4000000 in
set_option maxRecDepth 100000 in
theorem one_put {d n a b k bs sz : Int} (h : St x w w vo vo s S) (hr : U32.R 38 w x.w0.heap.size (fun _ => True) vr regs) (hne : ∀ k, vr.ownBlock = some k → x.vw.ownBlock ≠ some k) (hS : ∀ k, vr.ownBlock = some k → S k) (ha0 : 0 ≤ a) (ha1 : a < (regs.length : Int)) (hfl : (s.out.length : Int) < 65536) :
    Calls Try.prog 37 #[.pointer (some ⟨x.g, 0, none⟩), tacV 9 d a b k bs sz n, vr] w (OneQ x w vo vr { s with out := s.out ++ [rdOf 0 regs a % 256] } regs S) := by
  obtain ⟨gr, cr, rfl, hg0, hg1, cl, HG⟩ := Kd.R_form hr (by omega)
  have hne := hne gr rfl
  have hS := hS gr rfl
  clear HG
  obtain ⟨A, co, rfl⟩ := Kd.R_slice h.ou
  have hfd0 : decide ((65536 : Int) ≤ s.out.length) = false := decide_eq_false (by omega)
  have HFL := Aside0.mk hfl
  clear hfl
  have H := Aside0.mk h
  have HR := Aside0.mk hr
  clear hr h
  have Zr := blk9 H.out.blk
  have hgl : x.g < w.heap.size := blk_lt H.out.blk
  go_enter Try.func37, Try.ntmps37
  go_wp2
  have hbx := blk_new w (Obj.cells #[.int .i64 9, .int .i64 d, .int .i64 a, .int .i64 b, .int .i64 k, .int .i64 bs, .int .i64 sz, .int .u32 n] 40)
  have HR' := Aside0.mk (Kd.R_alloc HR.out (Obj.cells #[.int .i64 9, .int .i64 d, .int .i64 a, .int .i64 b, .int .i64 k, .int .i64 bs, .int .i64 sz, .int .u32 n] 40))
  have H' := Aside0.mk (H.out.alloc (Obj.cells #[.int .i64 9, .int .i64 d, .int .i64 a, .int .i64 b, .int .i64 k, .int .i64 bs, .int .i64 sz, .int .u32 n] 40))
  generalize w.alloc (Obj.cells #[.int .i64 9, .int .i64 d, .int .i64 a, .int .i64 b, .int .i64 k, .int .i64 bs, .int .i64 sz, .int .u32 n] 40) = W at *
  generalize w.heap.size = bx at *
  clear HR Zr hgl
  have Zr := blk9 H'.out.blk
  have Z := blk8 hbx
  obtain ⟨hxa, hfa⟩ := Kd.R_celln 0 HR'.out a ha0 ha1
  have lx : bx < W.drew.heap.size := blk_lt (blk_drew hbx)
  have lr : gr < W.drew.heap.size := Kd.R_lt (Kd.R_drew HR'.out) gr rfl
  have lg : x.g < W.drew.heap.size := blk_lt (blk_drew H'.out.blk)
  have kv : IntKind.u8.wrap (rdOf 0 regs a) = rdOf 0 regs a % 256 := by rw [IntKind.wrap_u8]
  have hbg : bx ≠ x.g := fun e => by have h1 := H'.out.blk; rw [← e, hbx] at h1; injection h1 with h1; injection h1 with h1; simp at h1
  refine start_ (S := fun w' => w'.cell? ⟨bx, 2, none⟩ = some (.int .i64 a) ∧ w'.cell? ⟨gr, a.toNat, none⟩ = some (.int .u32 (rdOf 0 regs a)) ∧ w'.cell? ⟨x.g, 5, none⟩ = some (.slice A s.out.length co)) (ds := [15]) #[false, false, false, false, false, false, false, false, false, false, false, false, false, false, false, false] (by kernel_rfl) rfl (by rfl) ⟨Z.2.2.1, hxa, Zr.2.2.2.2.2.1⟩ (fun hHeld => ?_)
  refine pure_ (i := 0) (N := some 190) (v := ?_) (a' := ?_) #[true, false, false, false, false, false, false, false, false, false, false, false, false, false, false, false] rfl rfl (by kernel_rfl) (fun _ _ _ h => h) (Or.inl ⟨by rfl, ?_⟩) ?_ ?_; rotate_left
  · intro w'
    go_simp
    with_reducible rfl
  rotate_left
  · simp only [Act.put, List.setIfInBounds_toArray, List.set_cons_zero, List.set_cons_succ]
    rfl
  refine pure_ (i := 1) (N := some 191) (v := ?_) (a' := ?_) #[true, true, false, false, false, false, false, false, false, false, false, false, false, false, false, false] rfl rfl (by kernel_rfl) (fun _ _ _ h => h) (Or.inl ⟨by rfl, ?_⟩) ?_ ?_; rotate_left
  · intro w'
    go_simp
    with_reducible rfl
  rotate_left
  · simp only [Act.put, List.setIfInBounds_toArray, List.set_cons_zero, List.set_cons_succ]
    rfl
  refine pure_ (i := 2) (N := some 192) (v := ?_) (a' := ?_) #[true, true, true, false, false, false, false, false, false, false, false, false, false, false, false, false] rfl rfl (by kernel_rfl) (fun _ _ _ h => h) (Or.inl ⟨by rfl, ?_⟩) ?_ ?_; rotate_left
  · intro w'
    go_simp
    with_reducible rfl
  rotate_left
  · simp only [Act.put, List.setIfInBounds_toArray, List.set_cons_zero, List.set_cons_succ]
    rfl
  refine pure_ (i := 3) (N := some 193) (v := ?_) (a' := ?_) #[true, true, true, true, false, false, false, false, false, false, false, false, false, false, false, false] rfl rfl (by kernel_rfl) (fun _ _ _ h => h) (Or.inl ⟨by rfl, ?_⟩) ?_ ?_; rotate_left
  · intro w'
    go_simp
    with_reducible rfl
  rotate_left
  · simp only [Act.put, List.setIfInBounds_toArray, List.set_cons_zero, List.set_cons_succ]
    rfl
  refine take_ (i := 4) (N := some 194) (v := ?_) (a' := ?_) #[true, true, true, true, true, false, false, false, false, false, false, false, false, false, false, false] rfl rfl (by kernel_rfl) (fun _ _ _ h => h) (Or.inl ⟨by rfl, ?_⟩) hHeld ?_ ?_; rotate_left
  · rintro w' ⟨s0, s1, s2⟩
    go_simp
    with_reducible rfl
  rotate_left
  · simp only [Act.put, List.setIfInBounds_toArray, List.set_cons_zero, List.set_cons_succ]
    rfl
  refine pure_ (i := 5) (N := some 195) (v := ?_) (a' := ?_) #[true, true, true, true, true, true, false, false, false, false, false, false, false, false, false, false] rfl rfl (by kernel_rfl) (fun _ _ _ h => h) (Or.inl ⟨by rfl, ?_⟩) ?_ ?_; rotate_left
  · intro w'
    go_simp
    with_reducible rfl
  rotate_left
  · simp only [Act.put, List.setIfInBounds_toArray, List.set_cons_zero, List.set_cons_succ]
    rfl
  refine pure_ (i := 6) (N := some 196) (v := ?_) (a' := ?_) #[true, true, true, true, true, true, true, false, false, false, false, false, false, false, false, false] rfl rfl (by kernel_rfl) (fun _ _ _ h => h) (Or.inl ⟨by rfl, ?_⟩) ?_ ?_; rotate_left
  · intro w'
    go_simp
    with_reducible rfl
  rotate_left
  · simp only [Act.put, List.setIfInBounds_toArray, List.set_cons_zero, List.set_cons_succ]
    rfl
  refine take_ (i := 7) (N := some 197) (v := ?_) (a' := ?_) #[true, true, true, true, true, true, true, true, false, false, false, false, false, false, false, false] rfl rfl (by kernel_rfl) (fun _ _ _ h => h) (Or.inl ⟨by rfl, ?_⟩) hHeld ?_ ?_; rotate_left
  · rintro w' ⟨s0, s1, s2⟩
    go_simp
    with_reducible rfl
  rotate_left
  · simp only [Act.put, List.setIfInBounds_toArray, List.set_cons_zero, List.set_cons_succ]
    rfl
  refine pure_ (i := 8) (N := some 198) (v := ?_) (a' := ?_) #[true, true, true, true, true, true, true, true, true, false, false, false, false, false, false, false] rfl rfl (by kernel_rfl) (fun _ _ _ h => h) (Or.inl ⟨by rfl, ?_⟩) ?_ ?_; rotate_left
  · intro w'
    go_simp
    with_reducible rfl
  rotate_left
  · simp only [Act.put, List.setIfInBounds_toArray, List.set_cons_zero, List.set_cons_succ]
    rfl
  refine take_ (i := 9) (N := some 199) (v := ?_) (a' := ?_) #[true, true, true, true, true, true, true, true, true, true, false, false, false, false, false, false] rfl rfl (by kernel_rfl) (fun _ _ _ h => h) (Or.inl ⟨by rfl, ?_⟩) hHeld ?_ ?_; rotate_left
  · rintro w' ⟨s0, s1, s2⟩
    go_simp
    with_reducible rfl
  rotate_left
  · simp only [Act.put, List.setIfInBounds_toArray, List.set_cons_zero, List.set_cons_succ]
    rfl
  refine pure_ (i := 10) (N := some 200) (v := ?_) (a' := ?_) #[true, true, true, true, true, true, true, true, true, true, true, false, false, false, false, false] rfl rfl (by kernel_rfl) (fun _ _ _ h => h) (Or.inl ⟨by rfl, ?_⟩) ?_ ?_; rotate_left
  · intro w'
    go_simp
    with_reducible rfl
  rotate_left
  · simp only [Act.put, List.setIfInBounds_toArray, List.set_cons_zero, List.set_cons_succ]
    rfl
  refine one_ (i := 11) (N := some 201) #[true, true, true, true, true, true, true, true, true, true, true, true, false, false, false, false] rfl rfl (by kernel_rfl) (by decide) (fun K hK => ?_)
  refine value_ (w1 := ?_) (v := ?_) (by rfl) rfl ?_ ?_; rotate_left 2
  · go_simp
    constructor
    · rfl
    · rfl
  refine hK.out _ _ ⟨pw_cell_below (below_alloc (Below.refl _ _) _) Z.2.2.1, pw_cell_below (below_alloc (Below.refl _ _) _) hxa, pw_cell_below (below_alloc (Below.refl _ _) _) Zr.2.2.2.2.2.1⟩ (fun hHeld => ?_); clear hK K
  refine norm_ (a' := ?_) ?_ ?_; rotate_left
  · show Act.put _ (some 201) _ = _
    simp only [Act.put, List.setIfInBounds_toArray, List.set_cons_zero, List.set_cons_succ]
    rfl
  refine one_ (i := 12) (N := some 202) #[true, true, true, true, true, true, true, true, true, true, true, true, true, false, false, false] rfl rfl (by kernel_rfl) (by decide) (fun K hK => ?_)
  refine Kd.R_append_step U8 (w0 := x.w0) x.w0.heap.size (by rfl) (.tmp 194) (.tmp 201) 66 5 (.int .u8 0) 1 rfl (by kernel_rfl) (by kernel_rfl) rfl (by decide) (by decide) (.slice A s.out.length co) s.out (rdOf 0 regs a % 256) [.int .u8 (rdOf 0 regs a % 256)] (fun _ => True) (fun _ => False) rfl rfl rfl (fun _ hk => hk.elim) (fun _ _ => trivial) H'.out.drew.ou H'.out.drew.below H'.out.drew.below.size (by have := HFL.out; omega) ?_; intro v1 w1 hr1 hb1 hg1 hat1
  have hb1x := blk_grown (blk_drew hbx) hg1 (Kd.R_ne H'.out.drew.ou (blk_drew hbx) (by decide))
  have hb1g := blk_grown (blk_drew H'.out.blk) hg1 (Kd.R_ne H'.out.drew.ou (blk_drew H'.out.blk) (by decide))
  obtain ⟨A1, c1, rfl⟩ := Kd.R_slice hr1
  refine hK.out _ _ ⟨(blk8 hb1x).2.2.1, (Kd.R_celln 0 (H'.out.drew.grown_regs (Kd.R_drew HR'.out) hg1) a ha0 ha1).1, (blk9 hb1g).2.2.2.2.2.1⟩ (fun hHeld => ?_); clear hK K
  refine norm_ (a' := ?_) ?_ ?_; rotate_left
  · show Act.put _ (some 202) _ = _
    simp only [Act.put, List.setIfInBounds_toArray, List.set_cons_zero, List.set_cons_succ]
    rfl
  refine pure_ (i := 13) (N := some 203) (v := ?_) (a' := ?_) #[true, true, true, true, true, true, true, true, true, true, true, true, true, true, false, false] rfl rfl (by kernel_rfl) (fun _ _ _ h => h) (Or.inl ⟨by rfl, ?_⟩) ?_ ?_; rotate_left
  · intro w'
    go_simp
    with_reducible rfl
  rotate_left
  · simp only [Act.put, List.setIfInBounds_toArray, List.set_cons_zero, List.set_cons_succ]
    rfl
  refine pure_ (i := 14) (N := some 204) (v := ?_) (a' := ?_) #[true, true, true, true, true, true, true, true, true, true, true, true, true, true, true, false] rfl rfl (by kernel_rfl) (fun _ _ _ h => h) (Or.inl ⟨by rfl, ?_⟩) ?_ ?_; rotate_left
  · intro w'
    go_simp
    with_reducible rfl
  rotate_left
  · simp only [Act.put, List.setIfInBounds_toArray, List.set_cons_zero, List.set_cons_succ]
    rfl
  refine last_ (i := 15) (N := none) #[true, true, true, true, true, true, true, true, true, true, true, true, true, true, true, true] rfl rfl (by kernel_rfl) (by decide) (fun K hK => ?_)
  have hs5 := (blk9 hb1g).2.2.2.2.2.1
  have hf5 := blk_frozen hb1g 5
  refine skip_ (w1 := ?_) (by rfl) rfl ?_ ?_; rotate_left
  · go_simp
    rfl
  refine hK.out _ _ ?_; clear hK K; refine done_ (by kernel_rfl) ?_; (try go_wp2)
  go_end0
  rw [List.length_append] at hr1 hat1
  exact ⟨rfl, _, H'.out.drew.append hr1 hb1 hg1 hat1, H'.out.drew.append_regs (Kd.R_drew HR'.out) hg1 _⟩
end Go.Proofs.Ytcfagmdopkginaa.RunW
