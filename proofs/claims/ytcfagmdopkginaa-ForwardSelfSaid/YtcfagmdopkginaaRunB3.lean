/- What single instructions of a run do, in memory (printed in part by a program of this session). -/
import Derived.Test.YtcfagmdopkginaaRunA
import Derived.Test.YtcfagmdopkginaaPFx34
namespace Go.Proofs.Ytcfagmdopkginaa.RunW
open Go.RowKit Go.Proofs.YtcfagmdopkginaaW.PrintWords Go.Proofs.YtcfagmdopkginaaW.PrintLast Go.Proofs.YtcfagmdopkginaaW.PrintMore
set_option linter.unusedVariables false
variable {x : Fx} {w W : World} {vo0 vo vr : Value} {s : RS} {S : Nat → Prop} {regs : List Int}

set_option maxHeartbeats 4000000 in
set_option maxRecDepth 100000 in
theorem one_aload {d n a b k bs sz : Int} (h : St x w w vo vo s S) (hr : U32.R 38 w x.w0.heap.size (fun _ => True) vr regs) (hne : ∀ k, vr.ownBlock = some k → x.vw.ownBlock ≠ some k) (hS : ∀ k, vr.ownBlock = some k → S k) (hd0 : 0 ≤ d) (hd1 : d < (regs.length : Int)) (ha0 : 0 ≤ a) (ha1 : a < (regs.length : Int)) (hz0 : 1 ≤ sz) (hz1 : sz ≤ 1048576) (hb0 : 0 ≤ bs) (hb1 : bs + sz ≤ (s.words.length : Int)) (hwl : (s.words.length : Int) ≤ 1048576) (hv0 : 0 ≤ rdOf 0 regs a) (hv1 : rdOf 0 regs a < 4294967296) (hix : rdOf 0 regs a < sz) :
    Calls Try.prog 37 #[.pointer (some ⟨x.g, 0, none⟩), tacV 6 d a b k bs sz n, vr] w (OneQ x w vo vr s (regs.set d.toNat (rdOf 0 s.words (bs + rdOf 0 regs a))) S) := by
  obtain ⟨gr, cr, rfl, hg0, hg1, cl, HG⟩ := Kd.R_form hr (by omega)
  have hne := hne gr rfl
  have hS := hS gr rfl
  clear HG
  obtain ⟨gw, cw, hvw, hw0, hw1, clw, HGW⟩ := Kd.R_form h.ws (by omega)
  clear HGW
  obtain ⟨w0, g, bw, fuel, vf, inp, vw⟩ := x
  dsimp only at *
  subst hvw
  have H := Aside0.mk h
  have HR := Aside0.mk hr
  clear hr h
  go_enter Try.func37, Try.ntmps37
  go_wp2
  have hbx := blk_new w (Obj.cells #[.int .i64 6, .int .i64 d, .int .i64 a, .int .i64 b, .int .i64 k, .int .i64 bs, .int .i64 sz, .int .u32 n] 40)
  have HR' := Aside0.mk (Kd.R_alloc HR.out (Obj.cells #[.int .i64 6, .int .i64 d, .int .i64 a, .int .i64 b, .int .i64 k, .int .i64 bs, .int .i64 sz, .int .u32 n] 40))
  have H' := Aside0.mk (H.out.alloc (Obj.cells #[.int .i64 6, .int .i64 d, .int .i64 a, .int .i64 b, .int .i64 k, .int .i64 bs, .int .i64 sz, .int .u32 n] 40))
  generalize w.alloc (Obj.cells #[.int .i64 6, .int .i64 d, .int .i64 a, .int .i64 b, .int .i64 k, .int .i64 bs, .int .i64 sz, .int .u32 n] 40) = W at *
  generalize w.heap.size = bx at *
  have Zr := blk9 H'.out.blk
  have Z := blk8 hbx
  obtain ⟨hxd, hfd⟩ := Kd.R_celln 0 HR'.out d hd0 hd1
  obtain ⟨hxa, hfa⟩ := Kd.R_celln 0 HR'.out a ha0 ha1
  clear HR H
  go_quiet (fail)
  go_wp2
  have H2 := Aside0.mk (H'.out.drewN nq)
  have HR2 := Aside0.mk (Kd.R_drewN HR'.out nq)
  have hbx2 := blk_drewN hbx nq
  clear Z Zr hbx
  clear H' HR' hxd hfd hxa hfa
  generalize W.drewN nq = W2 at *
  have Z := blk8 hbx2
  have Zr := blk9 H2.out.blk
  obtain ⟨hxd, hfd⟩ := Kd.R_celln 0 HR2.out d hd0 hd1
  obtain ⟨hxa, hfa⟩ := Kd.R_celln 0 HR2.out a ha0 ha1
  obtain ⟨hxw, hfw⟩ := Kd.R_celln 0 H2.out.ws (bs + rdOf 0 regs a) (by omega) (by omega)
  have hj1 : IntKind.i64.wrap (rdOf 0 regs a) = rdOf 0 regs a := by rw [IntKind.wrap_i64]; omega
  have hj2 : IntKind.i64.wrap (bs + rdOf 0 regs a) = bs + rdOf 0 regs a := by rw [IntKind.wrap_i64]; omega
  have hj0 : 0 ≤ bs + rdOf 0 regs a := by omega
  have hj3 : bs + rdOf 0 regs a < (s.words.length : Int) := by omega
  refine wp_region_still_tail 18 (by kernel_rfl) (by kernel_rfl) ?_
  simp only [List.take_succ_cons, List.take_zero, List.drop_succ_cons, List.drop_zero]
  change wpStill _ _ (World.drew _) _ _ _
  repeat still_step
  try refine wpStill_nil ?_
  go_wp2
  go_end0
  exact ⟨rfl, _, St.reg H2.out.drew (Kd.R_drew HR2.out) hne (.inl hS) d _⟩
set_option maxHeartbeats 4000000 in
set_option maxRecDepth 100000 in
theorem one_astore {d n a b k bs sz : Int} (h : St x w w vo vo s S) (hr : U32.R 38 w x.w0.heap.size (fun _ => True) vr regs) (hne : ∀ k, vr.ownBlock = some k → x.vw.ownBlock ≠ some k) (hS : ∀ k, vr.ownBlock = some k → S k) (ha0 : 0 ≤ a) (ha1 : a < (regs.length : Int)) (hr0 : 0 ≤ b) (hr1 : b < (regs.length : Int)) (hz0 : 1 ≤ sz) (hz1 : sz ≤ 1048576) (hb0 : 0 ≤ bs) (hb1 : bs + sz ≤ (s.words.length : Int)) (hwl : (s.words.length : Int) ≤ 1048576) (hv0 : 0 ≤ rdOf 0 regs a) (hv1 : rdOf 0 regs a < 4294967296) (hix : rdOf 0 regs a < sz) :
    Calls Try.prog 37 #[.pointer (some ⟨x.g, 0, none⟩), tacV 7 d a b k bs sz n, vr] w (OneQ x w vo vr { s with words := s.words.set (bs + rdOf 0 regs a).toNat (rdOf 0 regs b) } regs S) := by
  obtain ⟨gr, cr, rfl, hg0, hg1, cl, HG⟩ := Kd.R_form hr (by omega)
  have hne := hne gr rfl
  have hS := hS gr rfl
  clear HG
  obtain ⟨gw, cw, hvw, hw0, hw1, clw, HGW⟩ := Kd.R_form h.ws (by omega)
  clear HGW
  obtain ⟨w0, g, bw, fuel, vf, inp, vw⟩ := x
  dsimp only at *
  subst hvw
  have H := Aside0.mk h
  have HR := Aside0.mk hr
  clear hr h
  go_enter Try.func37, Try.ntmps37
  go_wp2
  have hbx := blk_new w (Obj.cells #[.int .i64 7, .int .i64 d, .int .i64 a, .int .i64 b, .int .i64 k, .int .i64 bs, .int .i64 sz, .int .u32 n] 40)
  have HR' := Aside0.mk (Kd.R_alloc HR.out (Obj.cells #[.int .i64 7, .int .i64 d, .int .i64 a, .int .i64 b, .int .i64 k, .int .i64 bs, .int .i64 sz, .int .u32 n] 40))
  have H' := Aside0.mk (H.out.alloc (Obj.cells #[.int .i64 7, .int .i64 d, .int .i64 a, .int .i64 b, .int .i64 k, .int .i64 bs, .int .i64 sz, .int .u32 n] 40))
  generalize w.alloc (Obj.cells #[.int .i64 7, .int .i64 d, .int .i64 a, .int .i64 b, .int .i64 k, .int .i64 bs, .int .i64 sz, .int .u32 n] 40) = W at *
  generalize w.heap.size = bx at *
  have Zr := blk9 H'.out.blk
  have Z := blk8 hbx
  obtain ⟨hxa, hfa⟩ := Kd.R_celln 0 HR'.out a ha0 ha1
  obtain ⟨hxb, hfb⟩ := Kd.R_celln 0 HR'.out b hr0 hr1
  clear HR H
  go_quiet (fail)
  go_wp2
  have H2 := Aside0.mk (H'.out.drewN nq)
  have HR2 := Aside0.mk (Kd.R_drewN HR'.out nq)
  have hbx2 := blk_drewN hbx nq
  clear Z Zr hbx
  clear H' HR' hxa hfa hxb hfb
  generalize W.drewN nq = W2 at *
  have Z := blk8 hbx2
  have Zr := blk9 H2.out.blk
  obtain ⟨hxa, hfa⟩ := Kd.R_celln 0 HR2.out a ha0 ha1
  obtain ⟨hxb, hfb⟩ := Kd.R_celln 0 HR2.out b hr0 hr1
  obtain ⟨hxw, hfw⟩ := Kd.R_celln 0 H2.out.ws (bs + rdOf 0 regs a) (by omega) (by omega)
  have hj1 : IntKind.i64.wrap (rdOf 0 regs a) = rdOf 0 regs a := by rw [IntKind.wrap_i64]; omega
  have hj2 : IntKind.i64.wrap (bs + rdOf 0 regs a) = bs + rdOf 0 regs a := by rw [IntKind.wrap_i64]; omega
  have hj0 : 0 ≤ bs + rdOf 0 regs a := by omega
  have hj3 : bs + rdOf 0 regs a < (s.words.length : Int) := by omega
  refine wp_region_still_tail 18 (by kernel_rfl) (by kernel_rfl) ?_
  simp only [List.take_succ_cons, List.take_zero, List.drop_succ_cons, List.drop_zero]
  change wpStill _ _ (World.drew _) _ _ _
  repeat still_step
  try refine wpStill_nil ?_
  go_wp2
  go_end0
  obtain ⟨h1, h2⟩ := St.word H2.out.drew rfl (Kd.R_drew HR2.out) (fun e => hne e.symm) (bs + rdOf 0 regs a) (rdOf 0 regs b)
  exact ⟨rfl, _, h1, h2⟩
end Go.Proofs.Ytcfagmdopkginaa.RunW
