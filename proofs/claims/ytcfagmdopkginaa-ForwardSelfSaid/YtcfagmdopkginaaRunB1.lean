/- What single instructions of a run do, in memory (printed in part by a program of this session). -/
import Derived.Test.YtcfagmdopkginaaRunA
import Derived.Test.YtcfagmdopkginaaPFx34
namespace Go.Proofs.Ytcfagmdopkginaa.RunW
open Go.RowKit Go.Proofs.YtcfagmdopkginaaW.PrintWords Go.Proofs.YtcfagmdopkginaaW.PrintLast Go.Proofs.YtcfagmdopkginaaW.PrintMore
set_option linter.unusedVariables false
variable {x : Fx} {w W : World} {vo0 vo vr : Value} {s : RS} {S : Nat → Prop} {regs : List Int}

set_option maxHeartbeats 4000000 in
set_option maxRecDepth 100000 in
theorem one_const {d n a b k bs sz : Int} (h : St x w w vo vo s S) (hr : U32.R 38 w x.w0.heap.size (fun _ => True) vr regs) (hne : ∀ k, vr.ownBlock = some k → x.vw.ownBlock ≠ some k) (hS : ∀ k, vr.ownBlock = some k → S k) (hd0 : 0 ≤ d) (hd1 : d < (regs.length : Int)) :
    Calls Try.prog 37 #[.pointer (some ⟨x.g, 0, none⟩), tacV 1 d a b k bs sz n, vr] w (OneQ x w vo vr s (regs.set d.toNat n) S) := by
  obtain ⟨gr, cr, rfl, hg0, hg1, cl, HG⟩ := Kd.R_form hr (by omega)
  have hne := hne gr rfl
  have hS := hS gr rfl
  clear HG
  have H := Aside0.mk h
  have HR := Aside0.mk hr
  clear hr h
  obtain ⟨hxd, hfd⟩ := Kd.R_celln 0 HR.out d hd0 hd1
  go_enter Try.func37, Try.ntmps37
  go_wp2
  go_end0
  exact ⟨rfl, _, (St.reg H.out HR.out hne (.inl hS) d n).1.alloc _, Kd.R_alloc (St.reg H.out HR.out hne (.inl hS) d n).2 _⟩
set_option maxHeartbeats 4000000 in
set_option maxRecDepth 100000 in
theorem one_copy {d n a b k bs sz : Int} (h : St x w w vo vo s S) (hr : U32.R 38 w x.w0.heap.size (fun _ => True) vr regs) (hne : ∀ k, vr.ownBlock = some k → x.vw.ownBlock ≠ some k) (hS : ∀ k, vr.ownBlock = some k → S k) (hd0 : 0 ≤ d) (hd1 : d < (regs.length : Int)) (ha0 : 0 ≤ a) (ha1 : a < (regs.length : Int)) :
    Calls Try.prog 37 #[.pointer (some ⟨x.g, 0, none⟩), tacV 2 d a b k bs sz n, vr] w (OneQ x w vo vr s (regs.set d.toNat (rd regs a)) S) := by
  obtain ⟨gr, cr, rfl, hg0, hg1, cl, HG⟩ := Kd.R_form hr (by omega)
  have hne := hne gr rfl
  have hS := hS gr rfl
  clear HG
  have H := Aside0.mk h
  have HR := Aside0.mk hr
  clear hr h
  go_enter Try.func37, Try.ntmps37
  go_wp2
  have hbx := blk_new w (Obj.cells #[.int .i64 2, .int .i64 d, .int .i64 a, .int .i64 b, .int .i64 k, .int .i64 bs, .int .i64 sz, .int .u32 n] 40)
  have HR' := Aside0.mk (Kd.R_alloc HR.out (Obj.cells #[.int .i64 2, .int .i64 d, .int .i64 a, .int .i64 b, .int .i64 k, .int .i64 bs, .int .i64 sz, .int .u32 n] 40))
  have H' := Aside0.mk (H.out.alloc (Obj.cells #[.int .i64 2, .int .i64 d, .int .i64 a, .int .i64 b, .int .i64 k, .int .i64 bs, .int .i64 sz, .int .u32 n] 40))
  generalize w.alloc (Obj.cells #[.int .i64 2, .int .i64 d, .int .i64 a, .int .i64 b, .int .i64 k, .int .i64 bs, .int .i64 sz, .int .u32 n] 40) = W at *
  generalize w.heap.size = bx at *
  have Zr := blk9 H'.out.blk
  have Z := blk8 hbx
  obtain ⟨hxd, hfd⟩ := Kd.R_celln 0 HR'.out d hd0 hd1
  obtain ⟨hxa, hfa⟩ := Kd.R_celln 0 HR'.out a ha0 ha1
  clear HR H
  refine wp_region_still_tail 9 (by kernel_rfl) (by kernel_rfl) ?_
  simp only [List.take_succ_cons, List.take_zero, List.drop_succ_cons, List.drop_zero]
  change wpStill _ _ (World.drew _) _ _ _
  repeat still_step
  try refine wpStill_nil ?_
  go_wp2
  go_end0
  exact ⟨rfl, _, St.reg H'.out.drew (Kd.R_drew HR'.out) hne (.inl hS) d _⟩
set_option maxHeartbeats 4000000 in
set_option maxRecDepth 100000 in
theorem one_load {d n a b k bs sz : Int} (h : St x w w vo vo s S) (hr : U32.R 38 w x.w0.heap.size (fun _ => True) vr regs) (hne : ∀ k, vr.ownBlock = some k → x.vw.ownBlock ≠ some k) (hS : ∀ k, vr.ownBlock = some k → S k) (hd0 : 0 ≤ d) (hd1 : d < (regs.length : Int)) (hb0 : 0 ≤ bs) (hb1 : bs < (s.words.length : Int)) :
    Calls Try.prog 37 #[.pointer (some ⟨x.g, 0, none⟩), tacV 4 d a b k bs sz n, vr] w (OneQ x w vo vr s (regs.set d.toNat (rd s.words bs)) S) := by
  obtain ⟨gr, cr, rfl, hg0, hg1, cl, HG⟩ := Kd.R_form hr (by omega)
  have hne := hne gr rfl
  have hS := hS gr rfl
  clear HG
  obtain ⟨gw, cw, hvw, hw0, hw1, clw, HGW⟩ := Kd.R_form h.ws (by omega)
  clear HGW
  obtain ⟨w0, g, bw, fuel, vf, inp, vw⟩ := x
  dsimp only at *
  subst hvw
  have H := Aside0.mk h
  have HR := Aside0.mk hr
  clear hr h
  go_enter Try.func37, Try.ntmps37
  go_wp2
  have hbx := blk_new w (Obj.cells #[.int .i64 4, .int .i64 d, .int .i64 a, .int .i64 b, .int .i64 k, .int .i64 bs, .int .i64 sz, .int .u32 n] 40)
  have HR' := Aside0.mk (Kd.R_alloc HR.out (Obj.cells #[.int .i64 4, .int .i64 d, .int .i64 a, .int .i64 b, .int .i64 k, .int .i64 bs, .int .i64 sz, .int .u32 n] 40))
  have H' := Aside0.mk (H.out.alloc (Obj.cells #[.int .i64 4, .int .i64 d, .int .i64 a, .int .i64 b, .int .i64 k, .int .i64 bs, .int .i64 sz, .int .u32 n] 40))
  generalize w.alloc (Obj.cells #[.int .i64 4, .int .i64 d, .int .i64 a, .int .i64 b, .int .i64 k, .int .i64 bs, .int .i64 sz, .int .u32 n] 40) = W at *
  generalize w.heap.size = bx at *
  have Zr := blk9 H'.out.blk
  have Z := blk8 hbx
  obtain ⟨hxd, hfd⟩ := Kd.R_celln 0 HR'.out d hd0 hd1
  clear HR H
  obtain ⟨hxw, hfw⟩ := Kd.R_celln 0 H'.out.ws bs hb0 hb1
  refine wp_region_still_tail 11 (by kernel_rfl) (by kernel_rfl) ?_
  simp only [List.take_succ_cons, List.take_zero, List.drop_succ_cons, List.drop_zero]
  change wpStill _ _ (World.drew _) _ _ _
  repeat still_step
  try refine wpStill_nil ?_
  go_wp2
  go_end0
  exact ⟨rfl, _, St.reg H'.out.drew (Kd.R_drew HR'.out) hne (.inl hS) d _⟩
set_option maxHeartbeats 4000000 in
set_option maxRecDepth 100000 in
theorem one_store {d n a b k bs sz : Int} (h : St x w w vo vo s S) (hr : U32.R 38 w x.w0.heap.size (fun _ => True) vr regs) (hne : ∀ k, vr.ownBlock = some k → x.vw.ownBlock ≠ some k) (hS : ∀ k, vr.ownBlock = some k → S k) (ha0 : 0 ≤ a) (ha1 : a < (regs.length : Int)) (hb0 : 0 ≤ bs) (hb1 : bs < (s.words.length : Int)) :
    Calls Try.prog 37 #[.pointer (some ⟨x.g, 0, none⟩), tacV 5 d a b k bs sz n, vr] w (OneQ x w vo vr { s with words := s.words.set bs.toNat (rd regs a) } regs S) := by
  obtain ⟨gr, cr, rfl, hg0, hg1, cl, HG⟩ := Kd.R_form hr (by omega)
  have hne := hne gr rfl
  have hS := hS gr rfl
  clear HG
  obtain ⟨gw, cw, hvw, hw0, hw1, clw, HGW⟩ := Kd.R_form h.ws (by omega)
  clear HGW
  obtain ⟨w0, g, bw, fuel, vf, inp, vw⟩ := x
  dsimp only at *
  subst hvw
  have H := Aside0.mk h
  have HR := Aside0.mk hr
  clear hr h
  go_enter Try.func37, Try.ntmps37
  go_wp2
  have hbx := blk_new w (Obj.cells #[.int .i64 5, .int .i64 d, .int .i64 a, .int .i64 b, .int .i64 k, .int .i64 bs, .int .i64 sz, .int .u32 n] 40)
  have HR' := Aside0.mk (Kd.R_alloc HR.out (Obj.cells #[.int .i64 5, .int .i64 d, .int .i64 a, .int .i64 b, .int .i64 k, .int .i64 bs, .int .i64 sz, .int .u32 n] 40))
  have H' := Aside0.mk (H.out.alloc (Obj.cells #[.int .i64 5, .int .i64 d, .int .i64 a, .int .i64 b, .int .i64 k, .int .i64 bs, .int .i64 sz, .int .u32 n] 40))
  generalize w.alloc (Obj.cells #[.int .i64 5, .int .i64 d, .int .i64 a, .int .i64 b, .int .i64 k, .int .i64 bs, .int .i64 sz, .int .u32 n] 40) = W at *
  generalize w.heap.size = bx at *
  have Zr := blk9 H'.out.blk
  have Z := blk8 hbx
  obtain ⟨hxa, hfa⟩ := Kd.R_celln 0 HR'.out a ha0 ha1
  clear HR H
  obtain ⟨hxw, hfw⟩ := Kd.R_celln 0 H'.out.ws bs hb0 hb1
  refine wp_region_still_tail 11 (by kernel_rfl) (by kernel_rfl) ?_
  simp only [List.take_succ_cons, List.take_zero, List.drop_succ_cons, List.drop_zero]
  change wpStill _ _ (World.drew _) _ _ _
  repeat still_step
  try refine wpStill_nil ?_
  go_wp2
  go_end0
  obtain ⟨h1, h2⟩ := St.word H'.out.drew rfl (Kd.R_drew HR'.out) (fun e => hne e.symm) bs (rd regs a)
  exact ⟨rfl, _, h1, h2⟩
set_option maxHeartbeats 4000000 in
set_option maxRecDepth 100000 in
theorem one_aload_bad {d n a b k bs sz : Int} (h : St x w w vo vo s S) (hr : U32.R 38 w x.w0.heap.size (fun _ => True) vr regs) (hne : ∀ k, vr.ownBlock = some k → x.vw.ownBlock ≠ some k) (hS : ∀ k, vr.ownBlock = some k → S k) (ha0 : 0 ≤ a) (ha1 : a < (regs.length : Int)) (hz0 : 1 ≤ sz) (hz1 : sz ≤ 1048576) (hb0 : 0 ≤ bs) (hb1 : bs + sz ≤ (s.words.length : Int)) (hwl : (s.words.length : Int) ≤ 1048576) (hv0 : 0 ≤ rdOf 0 regs a) (hv1 : rdOf 0 regs a < 4294967296) (hix : sz ≤ rdOf 0 regs a) :
    Calls Try.prog 37 #[.pointer (some ⟨x.g, 0, none⟩), tacV 6 d a b k bs sz n, vr] w (OneQ x w vo vr { s with fin := 3 } regs S) := by
  obtain ⟨gr, cr, rfl, hg0, hg1, cl, HG⟩ := Kd.R_form hr (by omega)
  have hne := hne gr rfl
  have hS := hS gr rfl
  clear HG
  have H := Aside0.mk h
  have HR := Aside0.mk hr
  clear hr h
  go_enter Try.func37, Try.ntmps37
  go_wp2
  have hbx := blk_new w (Obj.cells #[.int .i64 6, .int .i64 d, .int .i64 a, .int .i64 b, .int .i64 k, .int .i64 bs, .int .i64 sz, .int .u32 n] 40)
  have HR' := Aside0.mk (Kd.R_alloc HR.out (Obj.cells #[.int .i64 6, .int .i64 d, .int .i64 a, .int .i64 b, .int .i64 k, .int .i64 bs, .int .i64 sz, .int .u32 n] 40))
  have H' := Aside0.mk (H.out.alloc (Obj.cells #[.int .i64 6, .int .i64 d, .int .i64 a, .int .i64 b, .int .i64 k, .int .i64 bs, .int .i64 sz, .int .u32 n] 40))
  generalize w.alloc (Obj.cells #[.int .i64 6, .int .i64 d, .int .i64 a, .int .i64 b, .int .i64 k, .int .i64 bs, .int .i64 sz, .int .u32 n] 40) = W at *
  generalize w.heap.size = bx at *
  have Zr := blk9 H'.out.blk
  have Z := blk8 hbx
  obtain ⟨hxa, hfa⟩ := Kd.R_celln 0 HR'.out a ha0 ha1
  clear HR H
  go_quiet (fail)
  go_wp2
  go_end0
  exact ⟨rfl, _, (H'.out.drewN nq).cell 8 _ { s with fin := 3 } rfl rfl rfl, (H'.out.drewN nq).cell_regs (Kd.R_drewN HR'.out nq) 8 _⟩
set_option maxHeartbeats 4000000 in
set_option maxRecDepth 100000 in
theorem one_astore_bad {d n a b k bs sz : Int} (h : St x w w vo vo s S) (hr : U32.R 38 w x.w0.heap.size (fun _ => True) vr regs) (hne : ∀ k, vr.ownBlock = some k → x.vw.ownBlock ≠ some k) (hS : ∀ k, vr.ownBlock = some k → S k) (ha0 : 0 ≤ a) (ha1 : a < (regs.length : Int)) (hz0 : 1 ≤ sz) (hz1 : sz ≤ 1048576) (hb0 : 0 ≤ bs) (hb1 : bs + sz ≤ (s.words.length : Int)) (hwl : (s.words.length : Int) ≤ 1048576) (hv0 : 0 ≤ rdOf 0 regs a) (hv1 : rdOf 0 regs a < 4294967296) (hix : sz ≤ rdOf 0 regs a) :
    Calls Try.prog 37 #[.pointer (some ⟨x.g, 0, none⟩), tacV 7 d a b k bs sz n, vr] w (OneQ x w vo vr { s with fin := 3 } regs S) := by
  obtain ⟨gr, cr, rfl, hg0, hg1, cl, HG⟩ := Kd.R_form hr (by omega)
  have hne := hne gr rfl
  have hS := hS gr rfl
  clear HG
  have H := Aside0.mk h
  have HR := Aside0.mk hr
  clear hr h
  go_enter Try.func37, Try.ntmps37
  go_wp2
  have hbx := blk_new w (Obj.cells #[.int .i64 7, .int .i64 d, .int .i64 a, .int .i64 b, .int .i64 k, .int .i64 bs, .int .i64 sz, .int .u32 n] 40)
  have HR' := Aside0.mk (Kd.R_alloc HR.out (Obj.cells #[.int .i64 7, .int .i64 d, .int .i64 a, .int .i64 b, .int .i64 k, .int .i64 bs, .int .i64 sz, .int .u32 n] 40))
  have H' := Aside0.mk (H.out.alloc (Obj.cells #[.int .i64 7, .int .i64 d, .int .i64 a, .int .i64 b, .int .i64 k, .int .i64 bs, .int .i64 sz, .int .u32 n] 40))
  generalize w.alloc (Obj.cells #[.int .i64 7, .int .i64 d, .int .i64 a, .int .i64 b, .int .i64 k, .int .i64 bs, .int .i64 sz, .int .u32 n] 40) = W at *
  generalize w.heap.size = bx at *
  have Zr := blk9 H'.out.blk
  have Z := blk8 hbx
  obtain ⟨hxa, hfa⟩ := Kd.R_celln 0 HR'.out a ha0 ha1
  clear HR H
  go_quiet (fail)
  go_wp2
  go_end0
  exact ⟨rfl, _, (H'.out.drewN nq).cell 8 _ { s with fin := 3 } rfl rfl rfl, (H'.out.drewN nq).cell_regs (Kd.R_drewN HR'.out nq) 8 _⟩
set_option maxHeartbeats 4000000 in
set_option maxRecDepth 100000 in
theorem one_put_full {d n a b k bs sz : Int} (h : St x w w vo vo s S) (hr : U32.R 38 w x.w0.heap.size (fun _ => True) vr regs) (hne : ∀ k, vr.ownBlock = some k → x.vw.ownBlock ≠ some k) (hS : ∀ k, vr.ownBlock = some k → S k) (hfl : (65536 : Int) ≤ s.out.length) :
    Calls Try.prog 37 #[.pointer (some ⟨x.g, 0, none⟩), tacV 9 d a b k bs sz n, vr] w (OneQ x w vo vr { s with fin := 4 } regs S) := by
  obtain ⟨A, co, rfl⟩ := Kd.R_slice h.ou
  have hfd0 : decide ((65536 : Int) ≤ s.out.length) = true := decide_eq_true hfl
  have HFL := Aside0.mk hfl
  clear hfl
  have H := Aside0.mk h
  have HR := Aside0.mk hr
  clear hr h
  have Zr := blk9 H.out.blk
  have hgl : x.g < w.heap.size := blk_lt H.out.blk
  go_enter Try.func37, Try.ntmps37
  go_wp2
  go_end0
  exact ⟨rfl, _, (H.out.cell 8 _ { s with fin := 4 } rfl rfl rfl).alloc _, Kd.R_alloc (H.out.cell_regs HR.out 8 _) _⟩
set_option maxHeartbeats 4000000 in
set_option maxRecDepth 100000 in
theorem one_get_none {d n a b k bs sz : Int} (h : St x w w vo vo s S) (hr : U32.R 38 w x.w0.heap.size (fun _ => True) vr regs) (hne : ∀ k, vr.ownBlock = some k → x.vw.ownBlock ≠ some k) (hS : ∀ k, vr.ownBlock = some k → S k) (hd0 : 0 ≤ d) (hd1 : d < (regs.length : Int)) (hrd0 : 0 ≤ s.rd) (hrd : (x.inp.size : Int) ≤ s.rd) :
    Calls Try.prog 37 #[.pointer (some ⟨x.g, 0, none⟩), tacV 8 d a b k bs sz n, vr] w (OneQ x w vo vr s (regs.set d.toNat 256) S) := by
  obtain ⟨gr, cr, rfl, hg0, hg1, cl, HG⟩ := Kd.R_form hr (by omega)
  have hne := hne gr rfl
  have hS := hS gr rfl
  clear HG
  have H := Aside0.mk h
  have HR := Aside0.mk hr
  clear hr h
  obtain ⟨hxd, hfd⟩ := Kd.R_celln 0 HR.out d hd0 hd1
  go_enter Try.func37, Try.ntmps37
  go_wp2
  have H' := Aside0.mk ((St.reg H.out HR.out hne (.inl hS) d 256).1.alloc (Obj.cells #[.int .i64 8, .int .i64 d, .int .i64 a, .int .i64 b, .int .i64 k, .int .i64 bs, .int .i64 sz, .int .u32 n] 40))
  have HR' := Aside0.mk (Kd.R_alloc (St.reg H.out HR.out hne (.inl hS) d 256).2 (Obj.cells #[.int .i64 8, .int .i64 d, .int .i64 a, .int .i64 b, .int .i64 k, .int .i64 bs, .int .i64 sz, .int .u32 n] 40))
  have hbx := blk_new (w.setCell ⟨gr, d.toNat, none⟩ (.int .u32 256)) (Obj.cells #[.int .i64 8, .int .i64 d, .int .i64 a, .int .i64 b, .int .i64 k, .int .i64 bs, .int .i64 sz, .int .u32 n] 40)
  clear hxd hfd
  generalize (w.setCell ⟨gr, d.toNat, none⟩ (.int .u32 256)).alloc (Obj.cells #[.int .i64 8, .int .i64 d, .int .i64 a, .int .i64 b, .int .i64 k, .int .i64 bs, .int .i64 sz, .int .u32 n] 40) = W at *
  clear hbx H HR
  have Zr := blk9 H'.out.blk
  go_quiet (fail)
  go_wp2
  go_end0
  exact ⟨rfl, _, H'.out.drewN nq, Kd.R_drewN HR'.out nq⟩
theorem byte_at (b : ByteArray) (i : Int) (h0 : 0 ≤ i) (h1 : i < (b.size : Int)) : ((b[i.toNat]'(by omega)).toNat : Int) % 4294967296 = rdOf 0 (bytesOf b) i := by
  have hlt : i.toNat < b.data.toList.length := by show i.toNat < b.data.size; have : b.data.size = b.size := rfl; omega
  unfold rdOf bytesOf
  rw [List.getD_eq_getElem?_getD, List.getElem?_map, List.getElem?_eq_getElem hlt]
  have := (b[i.toNat]'(by omega)).toNat_lt
  show _ = ((b.data.toList[i.toNat].toNat : Nat) : Int)
  have e : b.data.toList[i.toNat] = (b[i.toNat]'(by omega)) := by rw [Array.getElem_toList]; rfl
  rw [e]
  omega
set_option maxHeartbeats 4000000 in
set_option maxRecDepth 100000 in
theorem one_get_some {d n a b k bs sz : Int} (h : St x w w vo vo s S) (hr : U32.R 38 w x.w0.heap.size (fun _ => True) vr regs) (hne : ∀ k, vr.ownBlock = some k → x.vw.ownBlock ≠ some k) (hS : ∀ k, vr.ownBlock = some k → S k) (hd0 : 0 ≤ d) (hd1 : d < (regs.length : Int)) (hrd0 : 0 ≤ s.rd) (hrd : s.rd < (x.inp.size : Int)) (hil : (x.inp.size : Int) ≤ 4611686018427387904) :
    Calls Try.prog 37 #[.pointer (some ⟨x.g, 0, none⟩), tacV 8 d a b k bs sz n, vr] w (OneQ x w vo vr { s with rd := s.rd + 1 } (regs.set d.toNat (rdOf 0 (bytesOf x.inp) s.rd)) S) := by
  obtain ⟨gr, cr, rfl, hg0, hg1, cl, HG⟩ := Kd.R_form hr (by omega)
  have hne := hne gr rfl
  have hS := hS gr rfl
  clear HG
  have H := Aside0.mk h
  have HR := Aside0.mk hr
  clear hr h
  obtain ⟨hxd, hfd⟩ := Kd.R_celln 0 HR.out d hd0 hd1
  go_enter Try.func37, Try.ntmps37
  go_wp2
  have H' := Aside0.mk ((St.reg H.out HR.out hne (.inl hS) d 256).1.alloc (Obj.cells #[.int .i64 8, .int .i64 d, .int .i64 a, .int .i64 b, .int .i64 k, .int .i64 bs, .int .i64 sz, .int .u32 n] 40))
  have HR' := Aside0.mk (Kd.R_alloc (St.reg H.out HR.out hne (.inl hS) d 256).2 (Obj.cells #[.int .i64 8, .int .i64 d, .int .i64 a, .int .i64 b, .int .i64 k, .int .i64 bs, .int .i64 sz, .int .u32 n] 40))
  have hbx : ((w.setCell ⟨gr, d.toNat, none⟩ (.int .u32 256)).alloc (Obj.cells #[.int .i64 8, .int .i64 d, .int .i64 a, .int .i64 b, .int .i64 k, .int .i64 bs, .int .i64 sz, .int .u32 n] 40)).heap[w.heap.size]? = some (Obj.cells #[.int .i64 8, .int .i64 d, .int .i64 a, .int .i64 b, .int .i64 k, .int .i64 bs, .int .i64 sz, .int .u32 n] 40) := by have := blk_new (w.setCell ⟨gr, d.toNat, none⟩ (.int .u32 256)) (Obj.cells #[.int .i64 8, .int .i64 d, .int .i64 a, .int .i64 b, .int .i64 k, .int .i64 bs, .int .i64 sz, .int .u32 n] 40); rwa [World.size_setCell] at this
  clear hxd hfd
  generalize (w.setCell ⟨gr, d.toNat, none⟩ (.int .u32 256)).alloc (Obj.cells #[.int .i64 8, .int .i64 d, .int .i64 a, .int .i64 b, .int .i64 k, .int .i64 bs, .int .i64 sz, .int .u32 n] 40) = W at *
  generalize w.heap.size = bx at *
  clear H HR
  have Zr := blk9 H'.out.blk
  go_quiet (fail)
  go_wp2
  have H2 := Aside0.mk (H'.out.drewN nq)
  have HR2 := Aside0.mk (Kd.R_drewN HR'.out nq)
  have hbx2 := blk_drewN hbx nq
  clear Zr hbx H' HR'
  generalize W.drewN nq = W2 at *
  have Z := blk8 hbx2
  have Zr := blk9 H2.out.blk
  obtain ⟨hxd, hfd⟩ := Kd.R_celln 0 HR2.out d hd0 (by simpa using hd1)
  clear hbx2
  have hgx : x.g ≠ gr := fun e => (Kd.R_ne HR2.out H2.out.blk (by decide)) (by rw [e]; rfl)
  have hgx2 : gr ≠ x.g := fun e => hgx e.symm
  refine wp_region_still_tail 14 (by kernel_rfl) (by kernel_rfl) ?_
  simp only [List.take_succ_cons, List.take_zero, List.drop_succ_cons, List.drop_zero]
  change wpStill _ _ (World.drew _) _ _ _
  repeat still_step
  try refine wpStill_nil ?_
  go_wp2
  go_end0
  have eb : ((x.inp[s.rd.toNat]'(by omega)).toNat : Int) % 4294967296 = rdOf 0 (bytesOf x.inp) s.rd := byte_at x.inp s.rd hrd0 hrd
  rw [eb]
  obtain ⟨h1, h2⟩ := St.reg H2.out HR2.out hne (.inl hS) d (rdOf 0 (bytesOf x.inp) s.rd)
  rw [List.set_set] at h2
  exact ⟨rfl, _, (St.cell h1 6 _ { s with rd := s.rd + 1 } rfl rfl rfl).drew, Kd.R_drew (St.cell_regs h1 h2 6 _)⟩
end Go.Proofs.Ytcfagmdopkginaa.RunW
