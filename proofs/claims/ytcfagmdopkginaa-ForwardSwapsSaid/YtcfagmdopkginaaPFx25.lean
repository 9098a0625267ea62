-- written by a program of this session (print.sh turned)
import Derived.Test.YtcfagmdopkginaaPFx0
import Derived.Test.YtcfagmdopkginaaPFx4
import Derived.Test.YtcfagmdopkginaaPFx24
namespace Go.Proofs.Ytcfagmdopkginaa.PF
open Go.RowKit Go.Proofs.YtcfagmdopkginaaW.PrintWords Go.Proofs.YtcfagmdopkginaaW.PrintLast Go.Proofs.YtcfagmdopkginaaW.PrintMore
attribute [local go_sem] max2_int min2_int max_two min_two max_three min_three max_four min_four   -- for this text's walks alone
set_option linter.unusedVariables false
set_option linter.unusedSimpArgs false

/-! ### seedcornref31_Done: function 18 -/
mutual
def seedcornref31_Done.l0 : Nat → Int → List (S40) → Int → Int → Int → Int → Option (Bool)
 | 0, _, _, _, _, _, _ => none
 | k + 1, x3, x339000, x339001, x339002, x339003, x339004 => if x3 ≤ (x339000.length : Int) then (if x3 < (x339000.length : Int) then (if 0 ≤ x3 then ((seedcornref24_Uses.f k ((rd_T40 x339000 x3).f0) ((rd_T40 x339000 x3).f1) ((rd_T40 x339000 x3).f2) ((rd_T40 x339000 x3).f3) ((rd_T40 x339000 x3).f4) ((rd_T40 x339000 x3).f5) ((rd_T40 x339000 x3).f6) ((rd_T40 x339000 x3).f7)).bind fun t340 => (seedcornref31_Done.j1 k x3 t340 x339000 x339001 x339002 x339003 x339004)) else (none)) else (if x339001 = 2 then (seedcornref31_Done.j1 k x3 (([x339002] : List Int)) x339000 x339001 x339002 x339003 x339004) else (seedcornref31_Done.j1 k x3 ([] : List Int) x339000 x339001 x339002 x339003 x339004))) else (some true)
def seedcornref31_Done.j1 : Nat → Int → List Int → List (S40) → Int → Int → Int → Int → Option (Bool)
 | 0, _, _, _, _, _, _, _ => none
 | k + 1, x3, x4, x339000, x339001, x339002, x339003, x339004 => seedcornref31_Done.l1 k x3 x4 0 x339000 x339001 x339002 x339003 x339004
def seedcornref31_Done.l1 : Nat → Int → List Int → Int → List (S40) → Int → Int → Int → Int → Option (Bool)
 | 0, _, _, _, _, _, _, _, _ => none
 | k + 1, x3, x4, x5, x339000, x339001, x339002, x339003, x339004 => if x5 < (x4.length : Int) then (if 0 ≤ x5 then ((seedcornref31_Copy.f k x339000 x339001 x339002 x339003 x339004 x3 (rd x4 x5)).bind fun t347 => (if t347 = true then (some false) else (seedcornref31_Done.l1 k x3 x4 (wrap64 (x5 + 1)) x339000 x339001 x339002 x339003 x339004))) else (none)) else (seedcornref31_Done.l0 k (wrap64 (x3 + 1)) x339000 x339001 x339002 x339003 x339004)
end
def seedcornref31_Done.f (k : Nat) (l0_0 : List (S40)) (a0_1 : Int) (a0_2 : Int) (a0_3 : Int) (a0_4 : Int) : Option (Bool) := seedcornref31_Done.l0 k 0 l0_0 a0_1 a0_2 a0_3 a0_4
set_option maxHeartbeats 40000000 in
set_option maxRecDepth 100000 in
theorem seedcornref31_Done.calls (k : Nat) (A0_0 : Option Addr) (c0_0 : Nat) (l0_0 : List (S40)) (a0_1 : Int) (a0_2 : Int) (a0_3 : Int) (a0_4 : Int) (r : Bool) (w : World) (hr0_0 : Kd.C k40 w A0_0 l0_0.length l0_0) (hc0_0 : l0_0.length ≤ c0_0) (h : seedcornref31_Done.f k l0_0 a0_1 a0_2 a0_3 a0_4 = some r) :
 Calls Try.prog 18 #[.agg #[.slice A0_0 l0_0.length c0_0, .int .i64 a0_1, .int .i64 a0_2, .int .i64 a0_3, .int .i64 a0_4]] w fun e w' => e = .returned (.bool r) ∧ Below w.heap.size w w' := by
 have hu37 := Try.underlying37; have hu40 := Try.underlying40; have HR0_0 := Aside0.mk hr0_0; have HC0_0 := Aside0.mk hc0_0; clear hr0_0 hc0_0; have HB := Aside0.mk (Below.refl w.heap.size w); have H : (seedcornref31_Done.l0 k 0 l0_0 a0_1 a0_2 a0_3 a0_4) = some r := h; clear h; have H' := Aside0.mk H; clear H
 go_enter Try.func18, Try.ntmps18
 go_wp2_with (first | ((with_reducible refine gate_dst (N := 1) rfl ?_); refine box_event ?hg (N := 1) ?hd (cs := #[.slice A0_0 l0_0.length c0_0, .int .i64 a0_1, .int .i64 a0_2, .int .i64 a0_3, .int .i64 a0_4]) (t := 37) ?hr ?_; (case hd => rfl); (case hg => rfl); (case hr => first | (go_simp; done) | (go_simp; rfl)); intro gb338 hg w2 hbox hb; have n0_ := Aside0.mk (below_step (by repeat (first | (with_reducible first | exact HB.out | apply b1_ | apply b2_ | apply b3_) | exact HB.out)) hb); have n1_ := Aside0.mk (hbox); have n2_ := Aside0.mk ((by rw [hg]; exact (below_size (by repeat (first | (with_reducible first | exact HB.out | apply b1_ | apply b2_ | apply b3_) | exact HB.out))) : w.heap.size ≤ gb338)); have n3_ := Aside0.mk ((by rw [hg]; exact (below_size (by repeat (first | (with_reducible first | exact HB.out | apply b1_ | apply b2_ | apply b3_) | exact HB.out))) : w.heap.size ≤ gb338)); clear HB; have HB := n0_; have BK338 := n1_; have GW338 := n2_; have GE338 := n3_; clear n0_ n1_ n2_ n3_; clear hb hbox hg))
 go_loopg [3] k (fun kq v3 w' => ∃ (x3_1 : Int), v3 = .int .i64 x3_1 ∧ Aside0 (seedcornref31_Done.l0 kq x3_1 l0_0 a0_1 a0_2 a0_3 a0_4 = some r) ∧ Aside0 (kq ≤ k) ∧ Aside0 (w'.heap[gb338]? = some (.cells #[(.slice A0_0 l0_0.length c0_0), .int .i64 a0_1, .int .i64 a0_2, .int .i64 a0_3, .int .i64 a0_4] 37 (0, 0))) ∧ Aside0 (Below w.heap.size w w'))
 case atStart => exact ⟨(0), (by first | rfl | (simp; done) | (simp [*]; done)), H', ⟨Nat.le_refl _⟩, ⟨by (with_reducible repeat (first | apply d1_ | apply d2_ | apply d3_)); exact BK338.out⟩, ⟨by repeat (first | (with_reducible first | exact HB.out | apply b1_ | apply b2_ | apply b3_ | refine b4_ ?_ GE338.out) | exact HB.out)⟩⟩
 case round =>
  clear H'; (try clear c1); (try clear p2); obtain ⟨x3_1, rfl, HA, HK1, BK338, HB⟩ := hrel
  cases gk with
  | zero => exact absurd HA.out (by simp [seedcornref31_Done.l0])
  | succ k1 =>
   have H := HA.out; clear HA; (simp only [seedcornref31_Done.l0] at H)
   by_cases c3 : x3_1 ≤ (l0_0.length : Int)
   · rw [if_pos c3] at H
     have c3b0 : decide (x3_1 ≤ (l0_0.length : Int)) = true := decide_eq_true c3; clear c3; have HC4 := Aside0.mk H; clear H; have Zz5 := blk5 BK338.out
     go_upto_if 17 with (fail)
     go_cut [4] (fun v4 wc => ∃ (kq : Nat) (x4_3 : List Int), Aside0 (seedcornref31_Done.j1 kq x3_1 x4_3 l0_0 a0_1 a0_2 a0_3 a0_4 = some r) ∧ Aside0 (kq ≤ k1) ∧ Aside0 (Kd.R (Kd.int .i64) 3 wc w.heap.size (fun _ => True) v4 x4_3) ∧ Aside0 (wc.heap[gb338]? = some (.cells #[(.slice A0_0 l0_0.length c0_0), .int .i64 a0_1, .int .i64 a0_2, .int .i64 a0_3, .int .i64 a0_4] 37 (0, 0))) ∧ Aside0 (Below w.heap.size w wc))
     case first =>
      have H := HC4.out; clear HC4
      by_cases c6 : x3_1 < (l0_0.length : Int)
      · rw [if_pos c6] at H
        have c6b0 : decide (x3_1 < (l0_0.length : Int)) = true := decide_eq_true c6; clear c6; (first | rw [c6b0] | rw [c6b1] | (simp only [i64_w, i32_w]; rw [c6b0]) | skip)
        by_cases c7 : 0 ≤ x3_1
        · rw [if_pos c7] at H
          have c7b0 : decide (0 ≤ x3_1) = true := decide_eq_true c7; clear c7; replace H := Option.bind_eq_some_iff.mp H; obtain ⟨t340, A80, H⟩ := H; replace H : (seedcornref31_Done.j1 k1 x3_1 t340 l0_0 a0_1 a0_2 a0_3 a0_4) = some r := H; have A8 := Aside0.mk A80; clear A80; have H' := Aside0.mk H; clear H; have Zz9 := blk5 BK338.out; have p339 : 0 ≤ (x3_1 : Int) := of_decide_eq_true (by first | (with_reducible assumption) | assumption); have q339 : x3_1 < (l0_0.length : Int) := of_decide_eq_true (by first | (with_reducible assumption) | assumption); obtain ⟨ad339, e339, hx339_0, hx339_1, hx339_2, hx339_3, hx339_4, hx339_5, hx339_6, hx339_7⟩ := at_T40 HR0_0.out x3_1 p339 q339
          cases e339
          replace hx339_0 := (HB.out.cell (World.block_lt_of_cell? w _ hx339_0)).trans hx339_0; replace hx339_1 := (HB.out.cell (World.block_lt_of_cell? w _ hx339_1)).trans hx339_1; replace hx339_2 := (HB.out.cell (World.block_lt_of_cell? w _ hx339_2)).trans hx339_2; replace hx339_3 := (HB.out.cell (World.block_lt_of_cell? w _ hx339_3)).trans hx339_3; replace hx339_4 := (HB.out.cell (World.block_lt_of_cell? w _ hx339_4)).trans hx339_4; replace hx339_5 := (HB.out.cell (World.block_lt_of_cell? w _ hx339_5)).trans hx339_5; replace hx339_6 := (HB.out.cell (World.block_lt_of_cell? w _ hx339_6)).trans hx339_6; replace hx339_7 := (HB.out.cell (World.block_lt_of_cell? w _ hx339_7)).trans hx339_7; replace p339 := eq_true p339; replace q339 := eq_true q339
          go_wp2_with (first | ((with_reducible refine gate_callee (f := 28) rfl ?_); refine goesL_ (some 23) rfl rfl Try.func28 (by kernel_rfl) rfl #[.agg #[.int .i64 ((rd_T40 l0_0 x3_1).f0), .int .i64 ((rd_T40 l0_0 x3_1).f1), .int .i64 ((rd_T40 l0_0 x3_1).f2), .int .i64 ((rd_T40 l0_0 x3_1).f3), .int .i64 ((rd_T40 l0_0 x3_1).f4), .int .i64 ((rd_T40 l0_0 x3_1).f5), .int .i64 ((rd_T40 l0_0 x3_1).f6), .int .u32 ((rd_T40 l0_0 x3_1).f7)]] rfl (by (try simp only [List.map_toArray, List.map_cons, List.map_nil]); first | done | rfl | (simp only [List.length_drop, List.length_take]; rfl)) ?_; (with_reducible refine (seedcornref24_Uses.calls k1 ((rd_T40 l0_0 x3_1).f0) ((rd_T40 l0_0 x3_1).f1) ((rd_T40 l0_0 x3_1).f2) ((rd_T40 l0_0 x3_1).f3) ((rd_T40 l0_0 x3_1).f4) ((rd_T40 l0_0 x3_1).f5) ((rd_T40 l0_0 x3_1).f6) ((rd_T40 l0_0 x3_1).f7) t340 _ A8.out).mono ?_); rintro e w10 ⟨v341, rfl, ho0, hb⟩; refine ⟨_, rfl, ?_⟩; have n0_ := Aside0.mk (Kd.R_lower ho0 (below_size (by repeat (first | (with_reducible first | exact HB.out | apply b1_ | apply b2_ | apply b3_ | refine b4_ ?_ GE338.out) | exact HB.out)))); have n1_ := Aside0.mk (blk_below (g := gb338) (o := .cells #[.slice (some ad339) l0_0.length c0_0, .int .i64 a0_1, .int .i64 a0_2, .int .i64 a0_3, .int .i64 a0_4] 37 (0, 0)) (by (with_reducible repeat (first | apply d1_ | apply d2_ | apply d3_)); exact BK338.out) hb); have n2_ := Aside0.mk (below_step (by repeat (first | (with_reducible first | exact HB.out | apply b1_ | apply b2_ | apply b3_ | refine b4_ ?_ GE338.out) | exact HB.out)) hb); clear BK338; clear HB; have HO342 := n0_; have BK338 := n1_; have HB := n2_; clear n0_ n1_ n2_; (try clear hb); (try clear hb2); (try clear hk); (try clear hi); (try clear ho0)))
          go_meet
          case rel => exact ⟨_, (t340), H', ⟨by have := HK1.out; first | omega | exact Nat.le_refl _⟩, ⟨by (with_reducible repeat (first | apply Kd.R_alloc | apply Kd.R_drewN | apply Kd.R_drew)); exact HO342.out⟩, ⟨by (with_reducible repeat (first | apply d1_ | apply d2_ | apply d3_)); exact BK338.out⟩, ⟨by repeat (first | (with_reducible first | exact HB.out | apply b1_ | apply b2_ | apply b3_ | refine b4_ ?_ GE338.out) | exact HB.out)⟩⟩
        · rw [if_neg c7] at H
          exact absurd H (by simp)
      · rw [if_neg c6] at H
        have c6b0 : decide (x3_1 < (l0_0.length : Int)) = false := decide_eq_false c6; clear c6; (first | rw [c6b0] | rw [c6b1] | (simp only [i64_w, i32_w]; rw [c6b0]) | skip)
        by_cases c11 : a0_1 = 2
        · rw [if_pos c11] at H
          have c11b0 : (a0_1 == 2) = true := beq_iff_eq.mpr c11; have c11b1 : (a0_1 != 2) = false := bne_eq_false_iff_eq.mpr c11; clear c11; obtain ⟨y343, hy343⟩ : ∃ y_ : List Int, y_ = (([a0_2] : List Int)) := ⟨_, rfl⟩; (replace H : (seedcornref31_Done.j1 k1 x3_1 y343 l0_0 a0_1 a0_2 a0_3 a0_4) = some r := by first | (rw [hy343]; with_reducible exact H) | (have H2_ := (Option.bind_some _ _).symm.trans H; rw [hy343]; with_reducible exact H2_) | (have H2_ := (Option.bind_some _ _).symm.trans H; with_reducible exact H2_) | with_reducible exact H | (rw [hy343]; exact H) | exact H); have Ny343 := Aside0.mk hy343; clear hy343; have H' := Aside0.mk H; clear H; have Zz12 := blk5 BK338.out
          go_wp2_with (first | ((with_reducible refine gate_dst (N := 29) rfl ?_); refine Kd.R_lit (Kd.int .i64) _ 3 ?hg (N := 29) ?hd (xs := ([a0_2] : List Int)) (inner := [.int .i64 a0_2]) (ok := fun _ => True) (okp := fun _ => True) ?hr ?hp (fun _ hk => hk) trivial (Below.refl _ _) (Nat.le_refl _) (by simp) ?_; (case hd => rfl); (case hg => rfl); (case hr => first | (go_simp; done) | (go_simp; rfl)); (case hp => exact (Reps.one (show Kd.M (Kd.int .i64) _ _ _ a0_2 [.int .i64 a0_2] from rfl) (Reps.none _ _))); intro v344 w13 ho14 hb hg_ hnew_; clear hg_ hnew_; (first | rw [← Ny343.out] at ho14 | (simp only [Int.reduceToNat] at ho14; rw [← Ny343.out] at ho14)); have n0_ := Aside0.mk (Kd.R_lower ho14 (below_size (by repeat (first | (with_reducible first | exact HB.out | apply b1_ | apply b2_ | apply b3_ | refine b4_ ?_ GE338.out) | exact HB.out)))); have n1_ := Aside0.mk (blk_below (g := gb338) (o := .cells #[.slice A0_0 l0_0.length c0_0, .int .i64 a0_1, .int .i64 a0_2, .int .i64 a0_3, .int .i64 a0_4] 37 (0, 0)) (by (with_reducible repeat (first | apply d1_ | apply d2_ | apply d3_)); exact BK338.out) hb); have n2_ := Aside0.mk (below_step (by repeat (first | (with_reducible first | exact HB.out | apply b1_ | apply b2_ | apply b3_ | refine b4_ ?_ GE338.out) | exact HB.out)) hb); clear BK338; clear HB; have HO345 := n0_; have BK338 := n1_; have HB := n2_; clear n0_ n1_ n2_; clear hb ho14))
          go_meet
          case rel => exact ⟨_, (y343), H', ⟨by have := HK1.out; first | omega | exact Nat.le_refl _⟩, ⟨by (with_reducible repeat (first | apply Kd.R_alloc | apply Kd.R_drewN | apply Kd.R_drew)); exact HO345.out⟩, ⟨by (with_reducible repeat (first | apply d1_ | apply d2_ | apply d3_)); exact BK338.out⟩, ⟨by repeat (first | (with_reducible first | exact HB.out | apply b1_ | apply b2_ | apply b3_ | refine b4_ ?_ GE338.out) | exact HB.out)⟩⟩
        · rw [if_neg c11] at H
          have c11b0 : (a0_1 == 2) = false := beq_eq_false_iff_ne.mpr c11; have c11b1 : (a0_1 != 2) = true := bne_iff_ne.mpr c11; have H' := Aside0.mk H; clear H; have Zz15 := blk5 BK338.out; go_wp2
          go_meet
          case rel => exact ⟨_, (([] : List Int)), H', ⟨by have := HK1.out; first | omega | exact Nat.le_refl _⟩, ⟨by first | exact Kd.R_nil _ _ _ _ _ | exact Kd.N_nil _ _ _ _ _ | exact Kd.V_nil _ _ _ _ _ | exact Kd.Q_nil _ _ _ _ _ | exact Kd.S_nil _ _ _ _ _⟩, ⟨by (with_reducible repeat (first | apply d1_ | apply d2_ | apply d3_)); exact BK338.out⟩, ⟨by repeat (first | (with_reducible first | exact HB.out | apply b1_ | apply b2_ | apply b3_ | refine b4_ ?_ GE338.out) | exact HB.out)⟩⟩
     case rest =>
      clear HC4; (try clear c1); (try clear c2); (try clear p2); (try clear c3); (try clear c3b0); (try clear p3); (try clear q3); (try clear hx3); (try clear c6); (try clear c6b0); (try clear c6b1); (try clear c7); (try clear c7b0); (try clear c11); (try clear c11b0); (try clear c11b1); (try clear Zz12); (try clear Zz15); (try clear Zz5); (try clear Zz9); (try clear Zz12); (try clear Zz15); (try clear Zz5); (try clear Zz9); (try clear hx339_0); (try clear hx339_1); (try clear hx339_2); (try clear hx339_3); (try clear hx339_4); (try clear hx339_5); (try clear hx339_6); (try clear hx339_7); (try clear p2); (try clear p339); (try clear q339); obtain ⟨kq, x4_3, HA, HJ3, HO_4, BK338, HB⟩ := hcut
      cases kq with
      | zero => exact absurd HA.out (by simp [seedcornref31_Done.j1])
      | succ kj3 =>
       have H := HA.out; clear HA; (simp only [seedcornref31_Done.j1] at H); have H' := Aside0.mk H; clear H; go_wp2
       go_loopg [5] kj3 (fun kq v5 w' => ∃ (x5_3 : Int), v5 = .int .i64 x5_3 ∧ Aside0 (seedcornref31_Done.l1 kq x3_1 x4_3 x5_3 l0_0 a0_1 a0_2 a0_3 a0_4 = some r) ∧ Aside0 (kq ≤ kj3) ∧ Aside0 (Kd.R (Kd.int .i64) 3 w' w.heap.size (fun _ => True) u4 x4_3) ∧ Aside0 (w'.heap[gb338]? = some (.cells #[(.slice A0_0 l0_0.length c0_0), .int .i64 a0_1, .int .i64 a0_2, .int .i64 a0_3, .int .i64 a0_4] 37 (0, 0))) ∧ Aside0 (Below w.heap.size w w'))
       case atStart => exact ⟨(0), (by first | rfl | (simp; done) | (simp [*]; done)), H', ⟨Nat.le_refl _⟩, ⟨by (with_reducible repeat (first | apply Kd.R_alloc | apply Kd.R_drewN | apply Kd.R_drew)); exact HO_4.out⟩, ⟨by (with_reducible repeat (first | apply d1_ | apply d2_ | apply d3_)); exact BK338.out⟩, ⟨by repeat (first | (with_reducible first | exact HB.out | apply b1_ | apply b2_ | apply b3_ | refine b4_ ?_ GE338.out) | exact HB.out)⟩⟩
       case round =>
        clear H'; (try clear c1); (try clear c2); (try clear p2); (try clear c3); (try clear c3b0); (try clear p3); (try clear q3); (try clear hx3); (try clear c6); (try clear c6b0); (try clear c6b1); (try clear c7); (try clear c7b0); (try clear c11); (try clear c11b0); (try clear c11b1); (try clear Zz12); (try clear Zz15); (try clear Zz5); (try clear Zz9); (try clear Zz12); (try clear Zz15); (try clear Zz5); (try clear Zz9); (try clear hx339_0); (try clear hx339_1); (try clear hx339_2); (try clear hx339_3); (try clear hx339_4); (try clear hx339_5); (try clear hx339_6); (try clear hx339_7); (try clear p2); (try clear p3); (try clear p339); (try clear q3); (try clear q339); obtain ⟨x5_3, rfl, HA, HK3, HO_4, BK338, HB⟩ := hrel
        cases gk with
        | zero => exact absurd HA.out (by simp [seedcornref31_Done.l1])
        | succ k3 =>
         have H := HA.out; clear HA; (simp only [seedcornref31_Done.l1] at H)
         by_cases c16 : x5_3 < (x4_3.length : Int)
         · rw [if_pos c16] at H
           have c16b0 : decide (x5_3 < (x4_3.length : Int)) = true := decide_eq_true c16; clear c16
           by_cases c17 : 0 ≤ x5_3
           · rw [if_pos c17] at H
             have c17b0 : decide (0 ≤ x5_3) = true := decide_eq_true c17; clear c17; replace H := Option.bind_eq_some_iff.mp H; obtain ⟨t347, A180, H⟩ := H; replace H : (if t347 = true then (some false) else (seedcornref31_Done.l1 k3 x3_1 x4_3 (wrap64 (x5_3 + 1)) l0_0 a0_1 a0_2 a0_3 a0_4)) = some r := H; have A18 := Aside0.mk A180; clear A180
             by_cases c19 : t347 = true
             · subst c19
               (have H1 : (some false) = some r := by rw [if_pos rfl] at H; exact H); clear H; have H := H1; clear H1; obtain rfl := Option.some.inj H; obtain ⟨Ao20, co20, eo20⟩ := Kd.R_slice HO_4.out; subst eo20; (try go_wp2); have n0_ := Aside0.mk (Kd.R_drew HO_4.out); have n1_ := Aside0.mk (blk_drew BK338.out); have n2_ := Aside0.mk (below_drew1 HB.out); clear HO_4; clear BK338; clear HB; have HO_4 := n0_; have BK338 := n1_; have HB := n2_; clear n0_ n1_ n2_; have p346 : 0 ≤ (x5_3 : Int) := of_decide_eq_true (by first | (with_reducible assumption) | assumption); have q346 : x5_3 < (x4_3.length : Int) := of_decide_eq_true (by first | (with_reducible assumption) | assumption); obtain ⟨ad346, e346, hx346_0⟩ := Kd.at_int (Kd.R_reads' HO_4.out).2.2 x5_3 p346 q346
               cases e346
               replace p346 := eq_true p346; replace q346 := eq_true q346; refine start_ (n := 7) (S := fun w' => w'.cell? ⟨gb338, 0, none⟩ = some (.slice A0_0 l0_0.length c0_0) ∧ w'.cell? ⟨gb338, 1, none⟩ = some (.int .i64 a0_1) ∧ w'.cell? ⟨gb338, 2, none⟩ = some (.int .i64 a0_2) ∧ w'.cell? ⟨gb338, 3, none⟩ = some (.int .i64 a0_3) ∧ w'.cell? ⟨gb338, 4, none⟩ = some (.int .i64 a0_4) ∧ w'.cell? (ad346.add (x5_3).toNat) = some (.int .i64 (rd x4_3 x5_3))) (ds := []) #[false, false, false, false, false, false, false] (by kernel_rfl) rfl rfl ⟨(blk_cell BK338.out 0).trans rfl, (blk_cell BK338.out 1).trans rfl, (blk_cell BK338.out 2).trans rfl, (blk_cell BK338.out 3).trans rfl, (blk_cell BK338.out 4).trans rfl, hx346_0⟩ (fun hHeld => ?_); (generalize wr.drew = w21 at HO_4 BK338 HB hx346_0 hHeld ⊢); refine pure_ (i := 1) (N := some 37) (v := ?_) (a' := ?_) #[false, true, false, false, false, false, false] rfl rfl (by kernel_rfl) (fun _ _ _ h => h) (Or.inl ⟨by rfl, ?_⟩) ?_ ?_; rotate_left
               · intro w'
                 go_simp
                 with_reducible rfl
               rotate_left
               · simp only [Act.put, List.setIfInBounds_toArray, List.set_cons_zero, List.set_cons_succ, i64_w, i32_w]
                 rfl
               refine pure_ (i := 2) (N := some 38) (v := ?_) (a' := ?_) #[false, true, true, false, false, false, false] rfl rfl (by kernel_rfl) (fun _ _ _ h => h) (Or.inl ⟨by rfl, ?_⟩) ?_ ?_; rotate_left
               · intro w'
                 go_simp
                 with_reducible rfl
               rotate_left
               · simp only [Act.put, List.setIfInBounds_toArray, List.set_cons_zero, List.set_cons_succ, i64_w, i32_w]
                 rfl
               refine pure_ (i := 3) (N := some 39) (v := ?_) (a' := ?_) #[false, true, true, true, false, false, false] rfl rfl (by kernel_rfl) (fun _ _ _ h => h) (Or.inl ⟨by rfl, ?_⟩) ?_ ?_; rotate_left
               · intro w'
                 go_simp
                 with_reducible rfl
               rotate_left
               · simp only [Act.put, List.setIfInBounds_toArray, List.set_cons_zero, List.set_cons_succ, i64_w, i32_w]
                 rfl
               refine pure_ (i := 4) (N := some 40) (v := ?_) (a' := ?_) #[false, true, true, true, true, false, false] rfl rfl (by kernel_rfl) (fun _ _ _ h => h) (Or.inl ⟨by rfl, ?_⟩) ?_ ?_; rotate_left
               · intro w'
                 go_simp
                 with_reducible rfl
               rotate_left
               · simp only [Act.put, List.setIfInBounds_toArray, List.set_cons_zero, List.set_cons_succ, i64_w, i32_w]
                 rfl
               refine take_ (i := 0) (N := some 36) (v := ?_) (a' := ?_) #[true, true, true, true, true, false, false] rfl rfl (by kernel_rfl) (fun _ _ _ h => h) (Or.inl ⟨by rfl, ?_⟩) hHeld ?_ ?_; rotate_left
               · rintro w' ⟨s0, s1, s2, s3, s4, s5⟩
                 go_simp
                 with_reducible rfl
               rotate_left
               · simp only [Act.put, List.setIfInBounds_toArray, List.set_cons_zero, List.set_cons_succ, i64_w, i32_w]
                 rfl
               refine take_ (i := 5) (N := some 41) (v := ?_) (a' := ?_) #[true, true, true, true, true, true, false] rfl rfl (by kernel_rfl) (fun _ _ _ h => h) (Or.inl ⟨by rfl, ?_⟩) hHeld ?_ ?_; rotate_left
               · rintro w' ⟨s0, s1, s2, s3, s4, s5⟩
                 go_simp
                 with_reducible rfl
               rotate_left
               · simp only [Act.put, List.setIfInBounds_toArray, List.set_cons_zero, List.set_cons_succ, i64_w, i32_w]
                 rfl
               refine one_ (i := 6) (N := some 42) #[true, true, true, true, true, true, true] rfl rfl (by kernel_rfl) (by decide) (fun K hK => ?_); refine goes_ Try.func29 (by kernel_rfl) rfl #[.agg #[.slice A0_0 l0_0.length c0_0, .int .i64 a0_1, .int .i64 a0_2, .int .i64 a0_3, .int .i64 a0_4], .int .i64 x3_1, .int .i64 (rd x4_3 x5_3)] (by rfl) rfl rfl (by (try simp only [List.map_toArray, List.map_cons, List.map_nil]); first | done | rfl | (simp only [List.length_drop, List.length_take]; rfl)) ?_; (with_reducible refine (seedcornref31_Copy.calls k3 _ _ l0_0 a0_1 a0_2 a0_3 a0_4 x3_1 (rd x4_3 x5_3) true _ ?side1 ?side2 A18.out).mono ?_); (case side1 => repeat (first | exact (Kd.C_below HR0_0.out HB.out) | (with_reducible refine Kd.C_alloc ?_ _) | (with_reducible refine Kd.C_drewN ?_ _) | (with_reducible refine Kd.C_drew ?_))); (case side2 => exact HC0_0.out); rintro e w22 ⟨rfl, hb⟩; have HS5_ := (hb.cell (World.block_lt_of_cell? _ _ (hHeld.2.2.2.2.2))).trans (hHeld.2.2.2.2.2); refine ⟨_, rfl, ?_⟩; have n0_ := Aside0.mk (Kd.R_below (by (with_reducible repeat (first | apply Kd.R_alloc | apply Kd.R_drewN | apply Kd.R_drew)); exact HO_4.out) hb); have n1_ := Aside0.mk (blk_below (g := gb338) (o := .cells #[.slice A0_0 l0_0.length c0_0, .int .i64 a0_1, .int .i64 a0_2, .int .i64 a0_3, .int .i64 a0_4] 37 (0, 0)) (by (with_reducible repeat (first | apply d1_ | apply d2_ | apply d3_)); exact BK338.out) hb); have n2_ := Aside0.mk (below_step (by repeat (first | (with_reducible first | exact HB.out | apply b1_ | apply b2_ | apply b3_ | refine b4_ ?_ GE338.out) | exact HB.out)) hb); clear HO_4; clear BK338; clear HB; have HO_4 := n0_; have BK338 := n1_; have HB := n2_; clear n0_ n1_ n2_; (try clear hb); (try clear hb2); (try clear hk); (try clear hi); refine hK.out _ _ ⟨(blk_cell BK338.out 0).trans rfl, (blk_cell BK338.out 1).trans rfl, (blk_cell BK338.out 2).trans rfl, (blk_cell BK338.out 3).trans rfl, (blk_cell BK338.out 4).trans rfl, HS5_⟩ (fun hHeld => ?_); clear hK K; refine norm_ (a' := ?_) ?_ ?_; rotate_left
               · show Act.put _ (some 42) _ = _
                 simp only [Act.put, List.setIfInBounds_toArray, List.set_cons_zero, List.set_cons_succ, i64_w, i32_w]
                 rfl
               refine done_ (by kernel_rfl) ?_; (try go_wp2)
               go_ret
               exact ⟨by first | rfl | (simp [errW_none, errW_some] <;> rfl) | (simp [*, errW_none, errW_some] <;> rfl), by repeat (first | (with_reducible first | exact HB.out | apply b1_ | apply b2_ | apply b3_ | refine b4_ ?_ GE338.out) | exact HB.out)⟩
             · replace c19 := Bool.eq_false_iff.mpr c19
               subst c19; (have H1 : (seedcornref31_Done.l1 k3 x3_1 x4_3 (wrap64 (x5_3 + 1)) l0_0 a0_1 a0_2 a0_3 a0_4) = some r := by rw [if_neg (show ¬ (false = true) by decide)] at H; exact H); clear H; have H := H1; clear H1; have H' := Aside0.mk H; clear H; obtain ⟨Ao23, co23, eo23⟩ := Kd.R_slice HO_4.out; subst eo23; (try go_wp2); have n0_ := Aside0.mk (Kd.R_drew HO_4.out); have n1_ := Aside0.mk (blk_drew BK338.out); have n2_ := Aside0.mk (below_drew1 HB.out); clear HO_4; clear BK338; clear HB; have HO_4 := n0_; have BK338 := n1_; have HB := n2_; clear n0_ n1_ n2_; have p346 : 0 ≤ (x5_3 : Int) := of_decide_eq_true (by first | (with_reducible assumption) | assumption); have q346 : x5_3 < (x4_3.length : Int) := of_decide_eq_true (by first | (with_reducible assumption) | assumption); obtain ⟨ad346, e346, hx346_0⟩ := Kd.at_int (Kd.R_reads' HO_4.out).2.2 x5_3 p346 q346
               cases e346
               replace p346 := eq_true p346; replace q346 := eq_true q346; refine start_ (n := 7) (S := fun w' => w'.cell? ⟨gb338, 0, none⟩ = some (.slice A0_0 l0_0.length c0_0) ∧ w'.cell? ⟨gb338, 1, none⟩ = some (.int .i64 a0_1) ∧ w'.cell? ⟨gb338, 2, none⟩ = some (.int .i64 a0_2) ∧ w'.cell? ⟨gb338, 3, none⟩ = some (.int .i64 a0_3) ∧ w'.cell? ⟨gb338, 4, none⟩ = some (.int .i64 a0_4) ∧ w'.cell? (ad346.add (x5_3).toNat) = some (.int .i64 (rd x4_3 x5_3))) (ds := []) #[false, false, false, false, false, false, false] (by kernel_rfl) rfl rfl ⟨(blk_cell BK338.out 0).trans rfl, (blk_cell BK338.out 1).trans rfl, (blk_cell BK338.out 2).trans rfl, (blk_cell BK338.out 3).trans rfl, (blk_cell BK338.out 4).trans rfl, hx346_0⟩ (fun hHeld => ?_); (generalize wr.drew = w24 at HO_4 BK338 HB hx346_0 hHeld ⊢); refine pure_ (i := 1) (N := some 37) (v := ?_) (a' := ?_) #[false, true, false, false, false, false, false] rfl rfl (by kernel_rfl) (fun _ _ _ h => h) (Or.inl ⟨by rfl, ?_⟩) ?_ ?_; rotate_left
               · intro w'
                 go_simp
                 with_reducible rfl
               rotate_left
               · simp only [Act.put, List.setIfInBounds_toArray, List.set_cons_zero, List.set_cons_succ, i64_w, i32_w]
                 rfl
               refine pure_ (i := 2) (N := some 38) (v := ?_) (a' := ?_) #[false, true, true, false, false, false, false] rfl rfl (by kernel_rfl) (fun _ _ _ h => h) (Or.inl ⟨by rfl, ?_⟩) ?_ ?_; rotate_left
               · intro w'
                 go_simp
                 with_reducible rfl
               rotate_left
               · simp only [Act.put, List.setIfInBounds_toArray, List.set_cons_zero, List.set_cons_succ, i64_w, i32_w]
                 rfl
               refine pure_ (i := 3) (N := some 39) (v := ?_) (a' := ?_) #[false, true, true, true, false, false, false] rfl rfl (by kernel_rfl) (fun _ _ _ h => h) (Or.inl ⟨by rfl, ?_⟩) ?_ ?_; rotate_left
               · intro w'
                 go_simp
                 with_reducible rfl
               rotate_left
               · simp only [Act.put, List.setIfInBounds_toArray, List.set_cons_zero, List.set_cons_succ, i64_w, i32_w]
                 rfl
               refine pure_ (i := 4) (N := some 40) (v := ?_) (a' := ?_) #[false, true, true, true, true, false, false] rfl rfl (by kernel_rfl) (fun _ _ _ h => h) (Or.inl ⟨by rfl, ?_⟩) ?_ ?_; rotate_left
               · intro w'
                 go_simp
                 with_reducible rfl
               rotate_left
               · simp only [Act.put, List.setIfInBounds_toArray, List.set_cons_zero, List.set_cons_succ, i64_w, i32_w]
                 rfl
               refine take_ (i := 0) (N := some 36) (v := ?_) (a' := ?_) #[true, true, true, true, true, false, false] rfl rfl (by kernel_rfl) (fun _ _ _ h => h) (Or.inl ⟨by rfl, ?_⟩) hHeld ?_ ?_; rotate_left
               · rintro w' ⟨s0, s1, s2, s3, s4, s5⟩
                 go_simp
                 with_reducible rfl
               rotate_left
               · simp only [Act.put, List.setIfInBounds_toArray, List.set_cons_zero, List.set_cons_succ, i64_w, i32_w]
                 rfl
               refine take_ (i := 5) (N := some 41) (v := ?_) (a' := ?_) #[true, true, true, true, true, true, false] rfl rfl (by kernel_rfl) (fun _ _ _ h => h) (Or.inl ⟨by rfl, ?_⟩) hHeld ?_ ?_; rotate_left
               · rintro w' ⟨s0, s1, s2, s3, s4, s5⟩
                 go_simp
                 with_reducible rfl
               rotate_left
               · simp only [Act.put, List.setIfInBounds_toArray, List.set_cons_zero, List.set_cons_succ, i64_w, i32_w]
                 rfl
               refine one_ (i := 6) (N := some 42) #[true, true, true, true, true, true, true] rfl rfl (by kernel_rfl) (by decide) (fun K hK => ?_); refine goes_ Try.func29 (by kernel_rfl) rfl #[.agg #[.slice A0_0 l0_0.length c0_0, .int .i64 a0_1, .int .i64 a0_2, .int .i64 a0_3, .int .i64 a0_4], .int .i64 x3_1, .int .i64 (rd x4_3 x5_3)] (by rfl) rfl rfl (by (try simp only [List.map_toArray, List.map_cons, List.map_nil]); first | done | rfl | (simp only [List.length_drop, List.length_take]; rfl)) ?_; (with_reducible refine (seedcornref31_Copy.calls k3 _ _ l0_0 a0_1 a0_2 a0_3 a0_4 x3_1 (rd x4_3 x5_3) false _ ?side1 ?side2 A18.out).mono ?_); (case side1 => repeat (first | exact (Kd.C_below HR0_0.out HB.out) | (with_reducible refine Kd.C_alloc ?_ _) | (with_reducible refine Kd.C_drewN ?_ _) | (with_reducible refine Kd.C_drew ?_))); (case side2 => exact HC0_0.out); rintro e w25 ⟨rfl, hb⟩; have HS5_ := (hb.cell (World.block_lt_of_cell? _ _ (hHeld.2.2.2.2.2))).trans (hHeld.2.2.2.2.2); refine ⟨_, rfl, ?_⟩; have n0_ := Aside0.mk (Kd.R_below (by (with_reducible repeat (first | apply Kd.R_alloc | apply Kd.R_drewN | apply Kd.R_drew)); exact HO_4.out) hb); have n1_ := Aside0.mk (blk_below (g := gb338) (o := .cells #[.slice A0_0 l0_0.length c0_0, .int .i64 a0_1, .int .i64 a0_2, .int .i64 a0_3, .int .i64 a0_4] 37 (0, 0)) (by (with_reducible repeat (first | apply d1_ | apply d2_ | apply d3_)); exact BK338.out) hb); have n2_ := Aside0.mk (below_step (by repeat (first | (with_reducible first | exact HB.out | apply b1_ | apply b2_ | apply b3_ | refine b4_ ?_ GE338.out) | exact HB.out)) hb); clear HO_4; clear BK338; clear HB; have HO_4 := n0_; have BK338 := n1_; have HB := n2_; clear n0_ n1_ n2_; (try clear hb); (try clear hb2); (try clear hk); (try clear hi); refine hK.out _ _ ⟨(blk_cell BK338.out 0).trans rfl, (blk_cell BK338.out 1).trans rfl, (blk_cell BK338.out 2).trans rfl, (blk_cell BK338.out 3).trans rfl, (blk_cell BK338.out 4).trans rfl, HS5_⟩ (fun hHeld => ?_); clear hK K; refine norm_ (a' := ?_) ?_ ?_; rotate_left
               · show Act.put _ (some 42) _ = _
                 simp only [Act.put, List.setIfInBounds_toArray, List.set_cons_zero, List.set_cons_succ, i64_w, i32_w]
                 rfl
               refine done_ (by kernel_rfl) ?_; (try go_wp2)
               go_roundg k3
               case measure => have := HK1.out; have := HJ3.out; have := HK3.out; omega
               case rel => exact ⟨(wrap64 (x5_3 + 1)), (by first | rfl | (simp; done) | (simp [*]; done)), H', ⟨by have := HK1.out; have := HJ3.out; have := HK3.out; omega⟩, ⟨by (with_reducible repeat (first | apply Kd.R_alloc | apply Kd.R_drewN | apply Kd.R_drew)); exact HO_4.out⟩, ⟨by (with_reducible repeat (first | apply d1_ | apply d2_ | apply d3_)); exact BK338.out⟩, ⟨by repeat (first | (with_reducible first | exact HB.out | apply b1_ | apply b2_ | apply b3_ | refine b4_ ?_ GE338.out) | exact HB.out)⟩⟩
           · rw [if_neg c17] at H
             exact absurd H (by simp)
         · rw [if_neg c16] at H
           have c16b0 : decide (x5_3 < (x4_3.length : Int)) = false := decide_eq_false c16; clear c16; have H' := Aside0.mk H; clear H; obtain ⟨Ao26, co26, eo26⟩ := Kd.R_slice HO_4.out; subst eo26; go_wp2
           go_roundg k3
           case measure => have := HK1.out; have := HJ3.out; have := HK3.out; omega
           case rel => exact ⟨(wrap64 (x3_1 + 1)), (by first | rfl | (simp; done) | (simp [*]; done)), H', ⟨by have := HK1.out; have := HJ3.out; have := HK3.out; omega⟩, ⟨by (with_reducible repeat (first | apply d1_ | apply d2_ | apply d3_)); exact BK338.out⟩, ⟨by repeat (first | (with_reducible first | exact HB.out | apply b1_ | apply b2_ | apply b3_ | refine b4_ ?_ GE338.out) | exact HB.out)⟩⟩
   · rw [if_neg c3] at H
     have c3b0 : decide (x3_1 ≤ (l0_0.length : Int)) = false := decide_eq_false c3; clear c3; obtain rfl := Option.some.inj H; have Zz27 := blk5 BK338.out; go_wp2
     go_ret
     exact ⟨by first | rfl | (simp [errW_none, errW_some] <;> rfl) | (simp [*, errW_none, errW_some] <;> rfl), by repeat (first | (with_reducible first | exact HB.out | apply b1_ | apply b2_ | apply b3_ | refine b4_ ?_ GE338.out) | exact HB.out)⟩

end Go.Proofs.Ytcfagmdopkginaa.PF
