-- written by a program of this session (print.sh turned)
import Derived.Test.YtcfagmdopkginaaPFx0
import Derived.Test.YtcfagmdopkginaaPFx3
import Derived.Test.YtcfagmdopkginaaPFx6
namespace Go.Proofs.Ytcfagmdopkginaa.PF
open Go.RowKit Go.Proofs.YtcfagmdopkginaaW.PrintWords Go.Proofs.YtcfagmdopkginaaW.PrintLast Go.Proofs.YtcfagmdopkginaaW.PrintMore
attribute [local go_sem] max2_int min2_int max_two min_two max_three min_three max_four min_four   -- for this text's walks alone
set_option linter.unusedVariables false
set_option linter.unusedSimpArgs false

/-! ### seedcornref24_One: function 15 -/
mutual
def seedcornref24_One.j0 : Nat → Int → Int → Bool → Int → List (S37) → Option (Bool)
 | 0, _, _, _, _, _ => none
 | k + 1, x1, x2, x22, x129000, x129001 => if x22 = true then (some false) else (seedcornref24_One.l0 k x1 x2 0 x129000 x129001)
def seedcornref24_One.l0 : Nat → Int → Int → Int → Int → List (S37) → Option (Bool)
 | 0, _, _, _, _, _ => none
 | k + 1, x1, x2, x7, x129000, x129001 => if x7 < (x129001.length : Int) then (if 0 ≤ x7 then ((seedcornref24_ends.f ((rd_T37 x129001 x7).f0) ((rd_T37 x129001 x7).f1) ((rd_T37 x129001 x7).f2) ((rd_T37 x129001 x7).f3) ((rd_T37 x129001 x7).f4) (x129001.length : Int) x129000).bind fun t130 => (if t130 = true then (seedcornref24_One.l1 k x1 x2 x7 0 x129000 x129001) else (some false))) else (none)) else (some true)
def seedcornref24_One.l1 : Nat → Int → Int → Int → Int → Int → List (S37) → Option (Bool)
 | 0, _, _, _, _, _, _ => none
 | k + 1, x1, x2, x7, x8, x129000, x129001 => if 0 ≤ x7 then (if x7 < (x129001.length : Int) then (if x8 < (((rd_T37 x129001 x7).f0).length : Int) then (if 0 ≤ x8 then ((seedcornref24_fits.f k ((rd_T40 ((rd_T37 x129001 x7).f0) x8).f0) ((rd_T40 ((rd_T37 x129001 x7).f0) x8).f1) ((rd_T40 ((rd_T37 x129001 x7).f0) x8).f2) ((rd_T40 ((rd_T37 x129001 x7).f0) x8).f3) ((rd_T40 ((rd_T37 x129001 x7).f0) x8).f4) ((rd_T40 ((rd_T37 x129001 x7).f0) x8).f5) ((rd_T40 ((rd_T37 x129001 x7).f0) x8).f6) ((rd_T40 ((rd_T37 x129001 x7).f0) x8).f7) x1 x129000 x2).bind fun t134 => (if t134 = true then (seedcornref24_One.l1 k x1 x2 x7 (wrap64 (x8 + 1)) x129000 x129001) else (some false))) else (none)) else (seedcornref24_One.l0 k x1 x2 (wrap64 (x7 + 1)) x129000 x129001)) else (none)) else (none)
end
def seedcornref24_One.f (k : Nat) (a0_0 : Int) (l0_1 : List (S37)) (a1 : Int) (a2 : Int) : Option (Bool) := if a0_0 < 0 then (seedcornref24_One.j0 k a1 a2 true a0_0 l0_1) else (if a0_0 > 4000 then (seedcornref24_One.j0 k a1 a2 true a0_0 l0_1) else (seedcornref24_One.j0 k a1 a2 ((l0_1.length : Int) == 0) a0_0 l0_1))
def seedcornref24_One.T6 : Bool × List (List Nat × List Nat) := (true, [([], []), ([0], [0]), ([], []), ([1, 2], [1, 2]), ([3], [3]), ([], []), ([5], [5]), ([6], [6]), ([], []), ([8], [8]), ([4, 7, 9], [4, 7, 9]), ([10], [10])])
def seedcornref24_One.B6 : List Nat := [0, 1, 0, 7, 15, 0, 32, 96, 0, 256, 1023, 2047]
theorem seedcornref24_One.tab6 : rtab .any (opsOf Try.f15 6) = seedcornref24_One.T6 := by kernel_rfl
theorem seedcornref24_One.bits6 : waitsOk seedcornref24_One.T6.2 seedcornref24_One.B6 = true := by kernel_rfl
def seedcornref24_One.T11 : Bool × List (List Nat × List Nat) := (true, [([], []), ([0], [0]), ([], []), ([1, 2], [1, 2]), ([3], [3]), ([4], [4]), ([], []), ([5, 6], [5, 6]), ([7], [7]), ([], []), ([], []), ([10], [10]), ([], []), ([8, 9, 11, 12], [8, 9, 11, 12]), ([13], [13])])
def seedcornref24_One.B11 : List Nat := [0, 1, 0, 7, 15, 31, 0, 127, 255, 0, 0, 1024, 0, 8191, 16383]
theorem seedcornref24_One.tab11 : rtab .any (opsOf Try.f15 11) = seedcornref24_One.T11 := by kernel_rfl
theorem seedcornref24_One.bits11 : waitsOk seedcornref24_One.T11.2 seedcornref24_One.B11 = true := by kernel_rfl
set_option maxHeartbeats 40000000 in
set_option maxRecDepth 100000 in
theorem seedcornref24_One.calls (k : Nat) (a0_0 : Int) (A0_1 : Option Addr) (c0_1 : Nat) (l0_1 : List (S37)) (a1 : Int) (a2 : Int) (r : Bool) (w : World) (hr0_1 : Kd.C k37 w A0_1 l0_1.length l0_1) (hc0_1 : l0_1.length ≤ c0_1) (h : seedcornref24_One.f k a0_0 l0_1 a1 a2 = some r) :
 Calls Try.prog 15 #[.agg #[.int .i64 a0_0, .slice A0_1 l0_1.length c0_1], .int .i64 a1, .int .i64 a2] w fun e w' => e = .returned (.bool r) ∧ Below w.heap.size w w' := by
 have hu24 := Try.underlying24; have hu37 := Try.underlying37; have hu40 := Try.underlying40; have HR0_1 := Aside0.mk hr0_1; have HC0_1 := Aside0.mk hc0_1; clear hr0_1 hc0_1; have HB := Aside0.mk (Below.refl w.heap.size w); have H : (if a0_0 < 0 then (seedcornref24_One.j0 k a1 a2 true a0_0 l0_1) else (if a0_0 > 4000 then (seedcornref24_One.j0 k a1 a2 true a0_0 l0_1) else (seedcornref24_One.j0 k a1 a2 ((l0_1.length : Int) == 0) a0_0 l0_1))) = some r := h; clear h; have HC4 := Aside0.mk H; clear H
 go_enter Try.func15, Try.ntmps15
 go_upto_region 1 with (first | ((with_reducible refine gate_dst (N := 3) rfl ?_); (try (refine gate_guard (by rfl) ?_; dsimp only)); refine box_event ?hg (N := 3) ?hd (cs := #[.int .i64 a0_0, .slice A0_1 l0_1.length c0_1]) (t := 24) ?hr ?_; (case hd => rfl); (case hg => rfl); (case hr => first | (go_simp; done) | (go_simp; rfl)); intro gb128 hg w5 hbox hb; have n0_ := Aside0.mk (below_step HB.out hb); have n1_ := Aside0.mk (hbox); have n2_ := Aside0.mk ((by rw [hg]; exact (below_size HB.out) : w.heap.size ≤ gb128)); have n3_ := Aside0.mk ((by rw [hg]; exact (below_size HB.out) : w.heap.size ≤ gb128)); clear HB; have HB := n0_; have BK128 := n1_; have GW128 := n2_; have GE128 := n3_; clear n0_ n1_ n2_ n3_; clear hb hbox hg))
 (try simp only [Act.put, List.setIfInBounds_toArray, List.set_cons_zero, List.set_cons_succ])
 go_cut [22] (fun v22 wc => ∃ (kq : Nat) (x22_3 : Bool), v22 = .bool x22_3 ∧ Aside0 (seedcornref24_One.j0 kq a1 a2 x22_3 a0_0 l0_1 = some r) ∧ Aside0 (kq ≤ k) ∧ Aside0 (wc.heap[gb128]? = some (.cells #[.int .i64 a0_0, (.slice A0_1 l0_1.length c0_1)] 24 (0, 0))) ∧ Aside0 (Below w.heap.size w wc))
 case first =>
  have H := HC4.out; clear HC4
  by_cases c6 : a0_0 < 0
  · rw [if_pos c6] at H
    have c6b0 : decide (a0_0 < 0) = true := decide_eq_true c6; clear c6; (first | rw [c6b0] | rw [c6b1] | (simp only [i64_w, i32_w]; rw [c6b0]) | skip); have H' := Aside0.mk H; clear H; have Zz7 := blk2 BK128.out; go_wp2
    go_meet
    case rel => exact ⟨_, (true), (by first | rfl | (simp; done) | (simp [*]; done)), H', ⟨by first | omega | exact Nat.le_refl _⟩, ⟨by exact BK128.out⟩, ⟨by repeat (first | (with_reducible first | exact HB.out | apply b1_ | apply b2_ | apply b3_ | refine b4_ ?_ GE128.out) | exact HB.out)⟩⟩
  · rw [if_neg c6] at H
    have c6b0 : decide (a0_0 < 0) = false := decide_eq_false c6; clear c6; (first | rw [c6b0] | rw [c6b1] | (simp only [i64_w, i32_w]; rw [c6b0]) | skip)
    by_cases c8 : a0_0 > 4000
    · rw [if_pos c8] at H
      have c8b0 : decide (4000 < a0_0) = true := decide_eq_true c8; clear c8; have H' := Aside0.mk H; clear H; have Zz9 := blk2 BK128.out; go_wp2
      go_meet
      case rel => exact ⟨_, (true), (by first | rfl | (simp; done) | (simp [*]; done)), H', ⟨by first | omega | exact Nat.le_refl _⟩, ⟨by exact BK128.out⟩, ⟨by repeat (first | (with_reducible first | exact HB.out | apply b1_ | apply b2_ | apply b3_ | refine b4_ ?_ GE128.out) | exact HB.out)⟩⟩
    · rw [if_neg c8] at H
      have c8b0 : decide (4000 < a0_0) = false := decide_eq_false c8; clear c8; have H' := Aside0.mk H; clear H; have Zz10 := blk2 BK128.out; go_wp2
      go_meet
      case rel => exact ⟨_, (((l0_1.length : Int) == 0)), (by first | rfl | (simp; done) | (simp [*]; done)), H', ⟨by first | omega | exact Nat.le_refl _⟩, ⟨by exact BK128.out⟩, ⟨by repeat (first | (with_reducible first | exact HB.out | apply b1_ | apply b2_ | apply b3_ | refine b4_ ?_ GE128.out) | exact HB.out)⟩⟩
 case rest =>
  clear HC4; (try clear c1); (try clear p2); (try clear c6); (try clear c6b0); (try clear c6b1); (try clear c8); (try clear c8b0); (try clear Zz10); (try clear Zz7); (try clear Zz9); (try clear Zz10); (try clear Zz7); (try clear Zz9); obtain ⟨kq, x22_3, rfl, HA, HJ3, BK128, HB⟩ := hcut
  cases kq with
  | zero => exact absurd HA.out (by simp [seedcornref24_One.j0])
  | succ kj3 =>
   have H := HA.out; clear HA; (simp only [seedcornref24_One.j0] at H)
   by_cases c11 : x22_3 = true
   · subst c11
     (have H1 : (some false) = some r := by rw [if_pos rfl] at H; exact H); clear H; have H := H1; clear H1; obtain rfl := Option.some.inj H; go_wp2
     go_ret
     exact ⟨by first | rfl | (simp [errW_none, errW_some] <;> rfl) | (simp [*, errW_none, errW_some] <;> rfl), by repeat (first | (with_reducible first | exact HB.out | apply b1_ | apply b2_ | apply b3_ | refine b4_ ?_ GE128.out) | exact HB.out)⟩
   · replace c11 := Bool.eq_false_iff.mpr c11
     subst c11; (have H1 : (seedcornref24_One.l0 kj3 a1 a2 0 a0_0 l0_1) = some r := by rw [if_neg (show ¬ (false = true) by decide)] at H; exact H); clear H; have H := H1; clear H1; have H' := Aside0.mk H; clear H; go_wp2
     go_loopg [7] kj3 (fun kq v7 w' => ∃ (x7_2 : Int), v7 = .int .i64 x7_2 ∧ Aside0 (seedcornref24_One.l0 kq a1 a2 x7_2 a0_0 l0_1 = some r) ∧ Aside0 (kq ≤ kj3) ∧ Aside0 (w'.heap[gb128]? = some (.cells #[.int .i64 a0_0, (.slice A0_1 l0_1.length c0_1)] 24 (0, 0))) ∧ Aside0 (Below w.heap.size w w'))
     case atStart => exact ⟨(0), (by first | rfl | (simp; done) | (simp [*]; done)), H', ⟨Nat.le_refl _⟩, ⟨by exact BK128.out⟩, ⟨by repeat (first | (with_reducible first | exact HB.out | apply b1_ | apply b2_ | apply b3_ | refine b4_ ?_ GE128.out) | exact HB.out)⟩⟩
     case round =>
      clear H'; (try clear c1); (try clear p2); (try clear c6); (try clear c6b0); (try clear c6b1); (try clear c8); (try clear c8b0); (try clear c11); (try clear Zz10); (try clear Zz7); (try clear Zz9); (try clear Zz10); (try clear Zz7); (try clear Zz9); (try clear p2); obtain ⟨x7_2, rfl, HA, HK2, BK128, HB⟩ := hrel
      cases gk with
      | zero => exact absurd HA.out (by simp [seedcornref24_One.l0])
      | succ k2 =>
       have H := HA.out; clear HA; (simp only [seedcornref24_One.l0] at H)
       by_cases c12 : x7_2 < (l0_1.length : Int)
       · rw [if_pos c12] at H
         have c12b0 : decide (x7_2 < (l0_1.length : Int)) = true := decide_eq_true c12; clear c12
         by_cases c13 : 0 ≤ x7_2
         · rw [if_pos c13] at H
           have c13b0 : decide (0 ≤ x7_2) = true := decide_eq_true c13; clear c13; replace H := Option.bind_eq_some_iff.mp H; obtain ⟨t130, A140, H⟩ := H; replace H : (if t130 = true then (seedcornref24_One.l1 k2 a1 a2 x7_2 0 a0_0 l0_1) else (some false)) = some r := H; have A14 := Aside0.mk A140; clear A140
           by_cases c15 : t130 = true
           · subst c15
             (have H1 : (seedcornref24_One.l1 k2 a1 a2 x7_2 0 a0_0 l0_1) = some r := by rw [if_pos rfl] at H; exact H); clear H; have H := H1; clear H1; have H' := Aside0.mk H; clear H; have Zz16 := blk2 BK128.out; (try go_wp2); replace BK128 := Aside0.mk (blk_drew BK128.out); replace HB := Aside0.mk (below_drew1 HB.out); have p129 : 0 ≤ (x7_2 : Int) := of_decide_eq_true (by first | (with_reducible assumption) | assumption); have q129 : x7_2 < (l0_1.length : Int) := of_decide_eq_true (by first | (with_reducible assumption) | assumption); obtain ⟨ad129, A129_0, c129_0, e129, hx129_0, hx129_1, hx129_2, hx129_3, hx129_4, hl129_0, hi129_0⟩ := at_T37 HR0_1.out x7_2 p129 q129; have hw129_4 := hx129_4; have hw129_3 := hx129_3; have hw129_2 := hx129_2; have hw129_1 := hx129_1; have hw129_0 := hx129_0
             cases e129
             replace hx129_0 := (HB.out.cell (World.block_lt_of_cell? w _ hx129_0)).trans hx129_0; replace hx129_1 := (HB.out.cell (World.block_lt_of_cell? w _ hx129_1)).trans hx129_1; replace hx129_2 := (HB.out.cell (World.block_lt_of_cell? w _ hx129_2)).trans hx129_2; replace hx129_3 := (HB.out.cell (World.block_lt_of_cell? w _ hx129_3)).trans hx129_3; replace hx129_4 := (HB.out.cell (World.block_lt_of_cell? w _ hx129_4)).trans hx129_4; have HR129_0 := Aside0.mk hi129_0; have HC129_0 := Aside0.mk hl129_0; clear hi129_0 hl129_0; replace p129 := eq_true p129; replace q129 := eq_true q129; refine start_ (n := 12) (S := fun w' => w'.cell? ⟨gb128, 0, none⟩ = some (.int .i64 a0_0) ∧ w'.cell? ⟨gb128, 1, none⟩ = some (.slice (some ad129) l0_1.length c0_1) ∧ w'.cell? (ad129.add ((x7_2).toNat * 5)) = some (.slice A129_0 ((rd_T37 l0_1 x7_2).f0).length c129_0) ∧ w'.cell? ⟨(ad129.add ((x7_2).toNat * 5)).block, (ad129.add ((x7_2).toNat * 5)).off + 1, none⟩ = some (.int .i64 ((rd_T37 l0_1 x7_2).f1)) ∧ w'.cell? ⟨(ad129.add ((x7_2).toNat * 5)).block, (ad129.add ((x7_2).toNat * 5)).off + 2, none⟩ = some (.int .i64 ((rd_T37 l0_1 x7_2).f2)) ∧ w'.cell? ⟨(ad129.add ((x7_2).toNat * 5)).block, (ad129.add ((x7_2).toNat * 5)).off + 3, none⟩ = some (.int .i64 ((rd_T37 l0_1 x7_2).f3)) ∧ w'.cell? ⟨(ad129.add ((x7_2).toNat * 5)).block, (ad129.add ((x7_2).toNat * 5)).off + 4, none⟩ = some (.int .i64 ((rd_T37 l0_1 x7_2).f4))) (ds := []) #[false, false, false, false, false, false, false, false, false, false, false, false] (by kernel_rfl) rfl rfl ⟨(blk_cell BK128.out 0).trans rfl, (blk_cell BK128.out 1).trans rfl, ((HB.out.cell (World.block_lt_of_cell? w _ hw129_0)).trans hw129_0), ((HB.out.cell (World.block_lt_of_cell? w _ hw129_1)).trans hw129_1), ((HB.out.cell (World.block_lt_of_cell? w _ hw129_2)).trans hw129_2), ((HB.out.cell (World.block_lt_of_cell? w _ hw129_3)).trans hw129_3), ((HB.out.cell (World.block_lt_of_cell? w _ hw129_4)).trans hw129_4)⟩ (fun hHeld => ?_); refine with_tabW seedcornref24_One.tab6 seedcornref24_One.bits6 (fun HT_ HW_ => ?_); (generalize wr.drew = w17 at BK128 HB HR129_0 hx129_0 hx129_1 hx129_2 hx129_3 hx129_4 hHeld ⊢); refine pure_ (i := 0) (N := some 30) (v := ?_) (a' := ?_) #[true, false, false, false, false, false, false, false, false, false, false, false] rfl rfl (any_of HT_.out (by kernel_rfl)) (fun _ _ _ h => h) (Or.inl ⟨by rfl, ?_⟩) ?_ ?_; rotate_left
             · intro w'
               go_simp
               with_reducible rfl
             rotate_left
             · simp only [Act.put, List.setIfInBounds_toArray, List.set_cons_zero, List.set_cons_succ, i64_w, i32_w]
               rfl
             refine pure_ (i := 2) (N := some 32) (v := ?_) (a' := ?_) #[true, false, true, false, false, false, false, false, false, false, false, false] rfl rfl (any_of HT_.out (by kernel_rfl)) (fun _ _ _ h => h) (Or.inl ⟨by rfl, ?_⟩) ?_ ?_; rotate_left
             · intro w'
               go_simp
               with_reducible rfl
             rotate_left
             · simp only [Act.put, List.setIfInBounds_toArray, List.set_cons_zero, List.set_cons_succ, i64_w, i32_w]
               rfl
             refine pure_ (i := 5) (N := some 35) (v := ?_) (a' := ?_) #[true, false, true, false, false, true, false, false, false, false, false, false] rfl rfl (any_of HT_.out (by kernel_rfl)) (fun _ _ _ h => h) (Or.inl ⟨by rfl, ?_⟩) ?_ ?_; rotate_left
             · intro w'
               go_simp
               with_reducible rfl
             rotate_left
             · simp only [Act.put, List.setIfInBounds_toArray, List.set_cons_zero, List.set_cons_succ, i64_w, i32_w]
               rfl
             refine pure_ (i := 8) (N := some 38) (v := ?_) (a' := ?_) #[true, false, true, false, false, true, false, false, true, false, false, false] rfl rfl (any_of HT_.out (by kernel_rfl)) (fun _ _ _ h => h) (Or.inl ⟨by rfl, ?_⟩) ?_ ?_; rotate_left
             · intro w'
               go_simp
               with_reducible rfl
             rotate_left
             · simp only [Act.put, List.setIfInBounds_toArray, List.set_cons_zero, List.set_cons_succ, i64_w, i32_w]
               rfl
             refine take_ (i := 1) (N := some 31) (v := ?_) (a' := ?_) #[true, true, true, false, false, true, false, false, true, false, false, false] rfl rfl (take_ofW HT_.out HW_.out (by kernel_rfl)) (fun _ _ _ h => h) (Or.inl ⟨by rfl, ?_⟩) hHeld ?_ ?_; rotate_left
             · rintro w' ⟨s0, s1, s2, s3, s4, s5, s6⟩
               go_simp
               with_reducible rfl
             rotate_left
             · simp only [Act.put, List.setIfInBounds_toArray, List.set_cons_zero, List.set_cons_succ, i64_w, i32_w]
               rfl
             refine pure_ (i := 3) (N := some 33) (v := ?_) (a' := ?_) #[true, true, true, true, false, true, false, false, true, false, false, false] rfl rfl (any_of HT_.out (by kernel_rfl)) (fun _ _ _ h => h) (Or.inl ⟨by rfl, ?_⟩) ?_ ?_; rotate_left
             · intro w'
               go_simp
               with_reducible rfl
             rotate_left
             · simp only [Act.put, List.setIfInBounds_toArray, List.set_cons_zero, List.set_cons_succ, i64_w, i32_w]
               rfl
             refine take_ (i := 4) (N := some 34) (v := ?_) (a' := ?_) #[true, true, true, true, true, true, false, false, true, false, false, false] rfl rfl (take_ofW HT_.out HW_.out (by kernel_rfl)) (fun _ _ _ h => h) (Or.inl ⟨by rfl, ?_⟩) hHeld ?_ ?_; rotate_left
             · rintro w' ⟨s0, s1, s2, s3, s4, s5, s6⟩
               go_simp
               with_reducible rfl
             rotate_left
             · simp only [Act.put, List.setIfInBounds_toArray, List.set_cons_zero, List.set_cons_succ, i64_w, i32_w]
               rfl
             refine take_ (i := 6) (N := some 36) (v := ?_) (a' := ?_) #[true, true, true, true, true, true, true, false, true, false, false, false] rfl rfl (take_ofW HT_.out HW_.out (by kernel_rfl)) (fun _ _ _ h => h) (Or.inl ⟨by rfl, ?_⟩) hHeld ?_ ?_; rotate_left
             · rintro w' ⟨s0, s1, s2, s3, s4, s5, s6⟩
               go_simp
               with_reducible rfl
             rotate_left
             · simp only [Act.put, List.setIfInBounds_toArray, List.set_cons_zero, List.set_cons_succ, i64_w, i32_w]
               rfl
             refine pure_ (i := 7) (N := some 37) (v := ?_) (a' := ?_) #[true, true, true, true, true, true, true, true, true, false, false, false] rfl rfl (any_of HT_.out (by kernel_rfl)) (fun _ _ _ h => h) (Or.inl ⟨by rfl, ?_⟩) ?_ ?_; rotate_left
             · intro w'
               go_simp
               with_reducible rfl
             rotate_left
             · simp only [Act.put, List.setIfInBounds_toArray, List.set_cons_zero, List.set_cons_succ, i64_w, i32_w]
               rfl
             refine take_ (i := 9) (N := some 39) (v := ?_) (a' := ?_) #[true, true, true, true, true, true, true, true, true, true, false, false] rfl rfl (take_ofW HT_.out HW_.out (by kernel_rfl)) (fun _ _ _ h => h) (Or.inl ⟨by rfl, ?_⟩) hHeld ?_ ?_; rotate_left
             · rintro w' ⟨s0, s1, s2, s3, s4, s5, s6⟩
               go_simp
               with_reducible rfl
             rotate_left
             · simp only [Act.put, List.setIfInBounds_toArray, List.set_cons_zero, List.set_cons_succ, i64_w, i32_w]
               rfl
             refine one_ (i := 10) (N := some 40) #[true, true, true, true, true, true, true, true, true, true, true, false] rfl rfl (one_of HT_.out (by kernel_rfl)) (by decide) (fun K hK => ?_); refine goes_ Try.func25 (by kernel_rfl) rfl #[.agg #[.slice A129_0 ((rd_T37 l0_1 x7_2).f0).length c129_0, .int .i64 ((rd_T37 l0_1 x7_2).f1), .int .i64 ((rd_T37 l0_1 x7_2).f2), .int .i64 ((rd_T37 l0_1 x7_2).f3), .int .i64 ((rd_T37 l0_1 x7_2).f4)], .int .i64 (l0_1.length : Int), .int .i64 a0_0] (by rfl) rfl rfl (by (try simp only [List.map_toArray, List.map_cons, List.map_nil]); first | done | rfl | (simp only [List.length_drop, List.length_take]; rfl)) ?_; (with_reducible refine (seedcornref24_ends.calls _ _ ((rd_T37 l0_1 x7_2).f0) ((rd_T37 l0_1 x7_2).f1) ((rd_T37 l0_1 x7_2).f2) ((rd_T37 l0_1 x7_2).f3) ((rd_T37 l0_1 x7_2).f4) (l0_1.length : Int) a0_0 true _ ?side1 ?side2 A14.out).mono ?_); (case side1 => repeat (first | exact (Kd.C_below HR129_0.out HB.out) | (with_reducible refine Kd.C_alloc ?_ _) | (with_reducible refine Kd.C_drewN ?_ _) | (with_reducible refine Kd.C_drew ?_))); (case side2 => exact HC129_0.out); rintro e w18 ⟨rfl, hb⟩; refine ⟨_, rfl, ?_⟩; replace BK128 := Aside0.mk (blk_below BK128.out hb); replace HB := Aside0.mk (below_step HB.out hb); (try clear hb); (try clear hb2); (try clear hk); (try clear hi); refine hK.out _ _ ⟨(blk_cell BK128.out 0).trans rfl, (blk_cell BK128.out 1).trans rfl, ((HB.out.cell (World.block_lt_of_cell? w _ hw129_0)).trans hw129_0), ((HB.out.cell (World.block_lt_of_cell? w _ hw129_1)).trans hw129_1), ((HB.out.cell (World.block_lt_of_cell? w _ hw129_2)).trans hw129_2), ((HB.out.cell (World.block_lt_of_cell? w _ hw129_3)).trans hw129_3), ((HB.out.cell (World.block_lt_of_cell? w _ hw129_4)).trans hw129_4)⟩ (fun hHeld => ?_); clear hK K; refine norm_ (a' := ?_) ?_ ?_; rotate_left
             · show Act.put _ (some 40) _ = _
               simp only [Act.put, List.setIfInBounds_toArray, List.set_cons_zero, List.set_cons_succ, i64_w, i32_w]
               rfl
             refine pure_ (i := 11) (N := some 41) (v := ?_) (a' := ?_) #[true, true, true, true, true, true, true, true, true, true, true, true] rfl rfl (any_of HT_.out (by kernel_rfl)) (fun _ _ _ h => h) (Or.inl ⟨by rfl, ?_⟩) ?_ ?_; rotate_left
             · intro w'
               go_simp
               with_reducible rfl
             rotate_left
             · simp only [Act.put, List.setIfInBounds_toArray, List.set_cons_zero, List.set_cons_succ, i64_w, i32_w]
               rfl
             refine done_ (done_of HT_.out (by kernel_rfl)) ?_; (try go_wp2)
             go_loopg [8] k2 (fun kq v8 w' => ∃ (x8_3 : Int), v8 = .int .i64 x8_3 ∧ Aside0 (seedcornref24_One.l1 kq a1 a2 x7_2 x8_3 a0_0 l0_1 = some r) ∧ Aside0 (kq ≤ k2) ∧ Aside0 (w'.heap[gb128]? = some (.cells #[.int .i64 a0_0, (.slice (some ad129) l0_1.length c0_1)] 24 (0, 0))) ∧ Aside0 (Below w.heap.size w w'))
             case atStart => exact ⟨(0), (by first | rfl | (simp; done) | (simp [*]; done)), H', ⟨Nat.le_refl _⟩, ⟨by exact BK128.out⟩, ⟨by repeat (first | (with_reducible first | exact HB.out | apply b1_ | apply b2_ | apply b3_ | refine b4_ ?_ GE128.out) | exact HB.out)⟩⟩
             case round =>
              clear H'; (try clear c1); (try clear p1); (try clear q1); (try clear hx1); (try clear c2); (try clear p2); (try clear c6); (try clear c6b0); (try clear c6b1); (try clear c8); (try clear c8b0); (try clear c11); (try clear c12); (try clear c12b0); (try clear p12); (try clear q12); (try clear hx12); (try clear c13); (try clear c13b0); (try clear c15); (try clear Zz10); (try clear Zz16); (try clear Zz7); (try clear Zz9); (try clear Zz10); (try clear Zz16); (try clear Zz7); (try clear Zz9); (try clear hx129_0); (try clear hx129_1); (try clear hx129_2); (try clear hx129_3); (try clear hx129_4); (try clear p129); (try clear p2); (try clear q129); obtain ⟨x8_3, rfl, HA, HK3, BK128, HB⟩ := hrel
              cases gk with
              | zero => exact absurd HA.out (by simp [seedcornref24_One.l1])
              | succ k3 =>
               have H := HA.out; clear HA; (simp only [seedcornref24_One.l1] at H)
               by_cases c19 : 0 ≤ x7_2
               · rw [if_pos c19] at H
                 have c19b0 : decide (0 ≤ x7_2) = true := decide_eq_true c19; clear c19
                 by_cases c20 : x7_2 < (l0_1.length : Int)
                 · rw [if_pos c20] at H
                   have c20b0 : decide (x7_2 < (l0_1.length : Int)) = true := decide_eq_true c20; clear c20
                   by_cases c21 : x8_3 < (((rd_T37 l0_1 x7_2).f0).length : Int)
                   · rw [if_pos c21] at H
                     have c21b0 : decide (x8_3 < (((rd_T37 l0_1 x7_2).f0).length : Int)) = true := decide_eq_true c21; clear c21
                     by_cases c22 : 0 ≤ x8_3
                     · rw [if_pos c22] at H
                       have c22b0 : decide (0 ≤ x8_3) = true := decide_eq_true c22; clear c22; replace H := Option.bind_eq_some_iff.mp H; obtain ⟨t134, A230, H⟩ := H; replace H : (if t134 = true then (seedcornref24_One.l1 k3 a1 a2 x7_2 (wrap64 (x8_3 + 1)) a0_0 l0_1) else (some false)) = some r := H; have A23 := Aside0.mk A230; clear A230
                       by_cases c24 : t134 = true
                       · subst c24
                         (have H1 : (seedcornref24_One.l1 k3 a1 a2 x7_2 (wrap64 (x8_3 + 1)) a0_0 l0_1) = some r := by rw [if_pos rfl] at H; exact H); clear H; have H := H1; clear H1; have H' := Aside0.mk H; clear H; have Zz25 := blk2 BK128.out; have p131 : 0 ≤ (x7_2 : Int) := of_decide_eq_true (by first | (with_reducible assumption) | assumption); have q131 : x7_2 < (l0_1.length : Int) := of_decide_eq_true (by first | (with_reducible assumption) | assumption); obtain ⟨ad131, A131_0, c131_0, e131, hx131_0, hx131_1, hx131_2, hx131_3, hx131_4, hl131_0, hi131_0⟩ := at_T37 HR0_1.out x7_2 p131 q131; obtain rfl : ad129 = ad131 := (by injection e131); replace hx131_0 := (HB.out.cell (World.block_lt_of_cell? w _ hx131_0)).trans hx131_0; replace hx131_1 := (HB.out.cell (World.block_lt_of_cell? w _ hx131_1)).trans hx131_1; replace hx131_2 := (HB.out.cell (World.block_lt_of_cell? w _ hx131_2)).trans hx131_2; replace hx131_3 := (HB.out.cell (World.block_lt_of_cell? w _ hx131_3)).trans hx131_3; replace hx131_4 := (HB.out.cell (World.block_lt_of_cell? w _ hx131_4)).trans hx131_4; have HR131_0 := Aside0.mk hi131_0; have HC131_0 := Aside0.mk hl131_0; clear hi131_0 hl131_0; replace p131 := eq_true p131; replace q131 := eq_true q131; (try go_wp2); replace BK128 := Aside0.mk (blk_drew BK128.out); replace HB := Aside0.mk (below_drew1 HB.out); have p132 : 0 ≤ (x7_2 : Int) := of_decide_eq_true (by first | (with_reducible assumption) | assumption); have q132 : x7_2 < (l0_1.length : Int) := of_decide_eq_true (by first | (with_reducible assumption) | assumption); obtain ⟨ad132, A132_0, c132_0, e132, hx132_0, hx132_1, hx132_2, hx132_3, hx132_4, hl132_0, hi132_0⟩ := at_T37 HR0_1.out x7_2 p132 q132; have hw132_4 := hx132_4; have hw132_3 := hx132_3; have hw132_2 := hx132_2; have hw132_1 := hx132_1; have hw132_0 := hx132_0; obtain rfl : ad129 = ad132 := (by injection e132); replace hx132_0 := (HB.out.cell (World.block_lt_of_cell? w _ hx132_0)).trans hx132_0; replace hx132_1 := (HB.out.cell (World.block_lt_of_cell? w _ hx132_1)).trans hx132_1; replace hx132_2 := (HB.out.cell (World.block_lt_of_cell? w _ hx132_2)).trans hx132_2; replace hx132_3 := (HB.out.cell (World.block_lt_of_cell? w _ hx132_3)).trans hx132_3; replace hx132_4 := (HB.out.cell (World.block_lt_of_cell? w _ hx132_4)).trans hx132_4; have HR132_0 := Aside0.mk hi132_0; have HC132_0 := Aside0.mk hl132_0; clear hi132_0 hl132_0; replace p132 := eq_true p132; replace q132 := eq_true q132; have p133 : 0 ≤ (x8_3 : Int) := of_decide_eq_true (by first | (with_reducible assumption) | assumption); have q133 : x8_3 < (((rd_T37 l0_1 x7_2).f0).length : Int) := of_decide_eq_true (by first | (with_reducible assumption) | assumption); obtain ⟨ad133, e133, hx133_0, hx133_1, hx133_2, hx133_3, hx133_4, hx133_5, hx133_6, hx133_7⟩ := at_T40 HR132_0.out x8_3 p133 q133; have hw133_7 := hx133_7; have hw133_6 := hx133_6; have hw133_5 := hx133_5; have hw133_4 := hx133_4; have hw133_3 := hx133_3; have hw133_2 := hx133_2; have hw133_1 := hx133_1; have hw133_0 := hx133_0
                         cases e133
                         replace hx133_0 := (HB.out.cell (World.block_lt_of_cell? w _ hx133_0)).trans hx133_0; replace hx133_1 := (HB.out.cell (World.block_lt_of_cell? w _ hx133_1)).trans hx133_1; replace hx133_2 := (HB.out.cell (World.block_lt_of_cell? w _ hx133_2)).trans hx133_2; replace hx133_3 := (HB.out.cell (World.block_lt_of_cell? w _ hx133_3)).trans hx133_3; replace hx133_4 := (HB.out.cell (World.block_lt_of_cell? w _ hx133_4)).trans hx133_4; replace hx133_5 := (HB.out.cell (World.block_lt_of_cell? w _ hx133_5)).trans hx133_5; replace hx133_6 := (HB.out.cell (World.block_lt_of_cell? w _ hx133_6)).trans hx133_6; replace hx133_7 := (HB.out.cell (World.block_lt_of_cell? w _ hx133_7)).trans hx133_7; replace p133 := eq_true p133; replace q133 := eq_true q133; refine start_ (n := 15) (S := fun w' => w'.cell? ⟨gb128, 0, none⟩ = some (.int .i64 a0_0) ∧ w'.cell? ⟨gb128, 1, none⟩ = some (.slice (some ad129) l0_1.length c0_1) ∧ w'.cell? (ad129.add ((x7_2).toNat * 5)) = some (.slice (some ad133) ((rd_T37 l0_1 x7_2).f0).length c132_0) ∧ w'.cell? ⟨(ad129.add ((x7_2).toNat * 5)).block, (ad129.add ((x7_2).toNat * 5)).off + 1, none⟩ = some (.int .i64 ((rd_T37 l0_1 x7_2).f1)) ∧ w'.cell? ⟨(ad129.add ((x7_2).toNat * 5)).block, (ad129.add ((x7_2).toNat * 5)).off + 2, none⟩ = some (.int .i64 ((rd_T37 l0_1 x7_2).f2)) ∧ w'.cell? ⟨(ad129.add ((x7_2).toNat * 5)).block, (ad129.add ((x7_2).toNat * 5)).off + 3, none⟩ = some (.int .i64 ((rd_T37 l0_1 x7_2).f3)) ∧ w'.cell? ⟨(ad129.add ((x7_2).toNat * 5)).block, (ad129.add ((x7_2).toNat * 5)).off + 4, none⟩ = some (.int .i64 ((rd_T37 l0_1 x7_2).f4)) ∧ w'.cell? (ad133.add ((x8_3).toNat * 8)) = some (.int .i64 ((rd_T40 ((rd_T37 l0_1 x7_2).f0) x8_3).f0)) ∧ w'.cell? ⟨(ad133.add ((x8_3).toNat * 8)).block, (ad133.add ((x8_3).toNat * 8)).off + 1, none⟩ = some (.int .i64 ((rd_T40 ((rd_T37 l0_1 x7_2).f0) x8_3).f1)) ∧ w'.cell? ⟨(ad133.add ((x8_3).toNat * 8)).block, (ad133.add ((x8_3).toNat * 8)).off + 2, none⟩ = some (.int .i64 ((rd_T40 ((rd_T37 l0_1 x7_2).f0) x8_3).f2)) ∧ w'.cell? ⟨(ad133.add ((x8_3).toNat * 8)).block, (ad133.add ((x8_3).toNat * 8)).off + 3, none⟩ = some (.int .i64 ((rd_T40 ((rd_T37 l0_1 x7_2).f0) x8_3).f3)) ∧ w'.cell? ⟨(ad133.add ((x8_3).toNat * 8)).block, (ad133.add ((x8_3).toNat * 8)).off + 4, none⟩ = some (.int .i64 ((rd_T40 ((rd_T37 l0_1 x7_2).f0) x8_3).f4)) ∧ w'.cell? ⟨(ad133.add ((x8_3).toNat * 8)).block, (ad133.add ((x8_3).toNat * 8)).off + 5, none⟩ = some (.int .i64 ((rd_T40 ((rd_T37 l0_1 x7_2).f0) x8_3).f5)) ∧ w'.cell? ⟨(ad133.add ((x8_3).toNat * 8)).block, (ad133.add ((x8_3).toNat * 8)).off + 6, none⟩ = some (.int .i64 ((rd_T40 ((rd_T37 l0_1 x7_2).f0) x8_3).f6)) ∧ w'.cell? ⟨(ad133.add ((x8_3).toNat * 8)).block, (ad133.add ((x8_3).toNat * 8)).off + 7, none⟩ = some (.int .u32 ((rd_T40 ((rd_T37 l0_1 x7_2).f0) x8_3).f7))) (ds := []) #[false, false, false, false, false, false, false, false, false, false, false, false, false, false, false] (by kernel_rfl) rfl rfl ⟨(blk_cell BK128.out 0).trans rfl, (blk_cell BK128.out 1).trans rfl, ((HB.out.cell (World.block_lt_of_cell? w _ hw132_0)).trans hw132_0), ((HB.out.cell (World.block_lt_of_cell? w _ hw132_1)).trans hw132_1), ((HB.out.cell (World.block_lt_of_cell? w _ hw132_2)).trans hw132_2), ((HB.out.cell (World.block_lt_of_cell? w _ hw132_3)).trans hw132_3), ((HB.out.cell (World.block_lt_of_cell? w _ hw132_4)).trans hw132_4), ((HB.out.cell (World.block_lt_of_cell? w _ hw133_0)).trans hw133_0), ((HB.out.cell (World.block_lt_of_cell? w _ hw133_1)).trans hw133_1), ((HB.out.cell (World.block_lt_of_cell? w _ hw133_2)).trans hw133_2), ((HB.out.cell (World.block_lt_of_cell? w _ hw133_3)).trans hw133_3), ((HB.out.cell (World.block_lt_of_cell? w _ hw133_4)).trans hw133_4), ((HB.out.cell (World.block_lt_of_cell? w _ hw133_5)).trans hw133_5), ((HB.out.cell (World.block_lt_of_cell? w _ hw133_6)).trans hw133_6), ((HB.out.cell (World.block_lt_of_cell? w _ hw133_7)).trans hw133_7)⟩ (fun hHeld => ?_); refine with_tabW seedcornref24_One.tab11 seedcornref24_One.bits11 (fun HT_ HW_ => ?_); (generalize wr.drew = w26 at BK128 HB HR132_0 hx132_0 hx132_1 hx132_2 hx132_3 hx132_4 hx133_0 hx133_1 hx133_2 hx133_3 hx133_4 hx133_5 hx133_6 hx133_7 hHeld ⊢); refine pure_ (i := 0) (N := some 53) (v := ?_) (a' := ?_) #[true, false, false, false, false, false, false, false, false, false, false, false, false, false, false] rfl rfl (any_of HT_.out (by kernel_rfl)) (fun _ _ _ h => h) (Or.inl ⟨by rfl, ?_⟩) ?_ ?_; rotate_left
                         · intro w'
                           go_simp
                           with_reducible rfl
                         rotate_left
                         · simp only [Act.put, List.setIfInBounds_toArray, List.set_cons_zero, List.set_cons_succ, i64_w, i32_w]
                           rfl
                         refine pure_ (i := 2) (N := some 55) (v := ?_) (a' := ?_) #[true, false, true, false, false, false, false, false, false, false, false, false, false, false, false] rfl rfl (any_of HT_.out (by kernel_rfl)) (fun _ _ _ h => h) (Or.inl ⟨by rfl, ?_⟩) ?_ ?_; rotate_left
                         · intro w'
                           go_simp
                           with_reducible rfl
                         rotate_left
                         · simp only [Act.put, List.setIfInBounds_toArray, List.set_cons_zero, List.set_cons_succ, i64_w, i32_w]
                           rfl
                         refine pure_ (i := 6) (N := some 59) (v := ?_) (a' := ?_) #[true, false, true, false, false, false, true, false, false, false, false, false, false, false, false] rfl rfl (any_of HT_.out (by kernel_rfl)) (fun _ _ _ h => h) (Or.inl ⟨by rfl, ?_⟩) ?_ ?_; rotate_left
                         · intro w'
                           go_simp
                           with_reducible rfl
                         rotate_left
                         · simp only [Act.put, List.setIfInBounds_toArray, List.set_cons_zero, List.set_cons_succ, i64_w, i32_w]
                           rfl
                         refine pure_ (i := 9) (N := some 62) (v := ?_) (a' := ?_) #[true, false, true, false, false, false, true, false, false, true, false, false, false, false, false] rfl rfl (any_of HT_.out (by kernel_rfl)) (fun _ _ _ h => h) (Or.inl ⟨by rfl, ?_⟩) ?_ ?_; rotate_left
                         · intro w'
                           go_simp
                           with_reducible rfl
                         rotate_left
                         · simp only [Act.put, List.setIfInBounds_toArray, List.set_cons_zero, List.set_cons_succ, i64_w, i32_w]
                           rfl
                         refine pure_ (i := 10) (N := some 63) (v := ?_) (a' := ?_) #[true, false, true, false, false, false, true, false, false, true, true, false, false, false, false] rfl rfl (any_of HT_.out (by kernel_rfl)) (fun _ _ _ h => h) (Or.inl ⟨by rfl, ?_⟩) ?_ ?_; rotate_left
                         · intro w'
                           go_simp
                           with_reducible rfl
                         rotate_left
                         · simp only [Act.put, List.setIfInBounds_toArray, List.set_cons_zero, List.set_cons_succ, i64_w, i32_w]
                           rfl
                         refine pure_ (i := 12) (N := some 65) (v := ?_) (a' := ?_) #[true, false, true, false, false, false, true, false, false, true, true, false, true, false, false] rfl rfl (any_of HT_.out (by kernel_rfl)) (fun _ _ _ h => h) (Or.inl ⟨by rfl, ?_⟩) ?_ ?_; rotate_left
                         · intro w'
                           go_simp
                           with_reducible rfl
                         rotate_left
                         · simp only [Act.put, List.setIfInBounds_toArray, List.set_cons_zero, List.set_cons_succ, i64_w, i32_w]
                           rfl
                         refine take_ (i := 1) (N := some 54) (v := ?_) (a' := ?_) #[true, true, true, false, false, false, true, false, false, true, true, false, true, false, false] rfl rfl (take_ofW HT_.out HW_.out (by kernel_rfl)) (fun _ _ _ h => h) (Or.inl ⟨by rfl, ?_⟩) hHeld ?_ ?_; rotate_left
                         · rintro w' ⟨s0, s1, s2, s3, s4, s5, s6, s7, s8, s9, s10, s11, s12, s13, s14⟩
                           go_simp
                           with_reducible rfl
                         rotate_left
                         · simp only [Act.put, List.setIfInBounds_toArray, List.set_cons_zero, List.set_cons_succ, i64_w, i32_w]
                           rfl
                         refine pure_ (i := 3) (N := some 56) (v := ?_) (a' := ?_) #[true, true, true, true, false, false, true, false, false, true, true, false, true, false, false] rfl rfl (any_of HT_.out (by kernel_rfl)) (fun _ _ _ h => h) (Or.inl ⟨by rfl, ?_⟩) ?_ ?_; rotate_left
                         · intro w'
                           go_simp
                           with_reducible rfl
                         rotate_left
                         · simp only [Act.put, List.setIfInBounds_toArray, List.set_cons_zero, List.set_cons_succ, i64_w, i32_w]
                           rfl
                         refine pure_ (i := 4) (N := some 57) (v := ?_) (a' := ?_) #[true, true, true, true, true, false, true, false, false, true, true, false, true, false, false] rfl rfl (any_of HT_.out (by kernel_rfl)) (fun _ _ _ h => h) (Or.inl ⟨by rfl, ?_⟩) ?_ ?_; rotate_left
                         · intro w'
                           go_simp
                           with_reducible rfl
                         rotate_left
                         · simp only [Act.put, List.setIfInBounds_toArray, List.set_cons_zero, List.set_cons_succ, i64_w, i32_w]
                           rfl
                         refine take_ (i := 5) (N := some 58) (v := ?_) (a' := ?_) #[true, true, true, true, true, true, true, false, false, true, true, false, true, false, false] rfl rfl (take_ofW HT_.out HW_.out (by kernel_rfl)) (fun _ _ _ h => h) (Or.inl ⟨by rfl, ?_⟩) hHeld ?_ ?_; rotate_left
                         · rintro w' ⟨s0, s1, s2, s3, s4, s5, s6, s7, s8, s9, s10, s11, s12, s13, s14⟩
                           go_simp
                           with_reducible rfl
                         rotate_left
                         · simp only [Act.put, List.setIfInBounds_toArray, List.set_cons_zero, List.set_cons_succ, i64_w, i32_w]
                           rfl
                         refine pure_ (i := 7) (N := some 60) (v := ?_) (a' := ?_) #[true, true, true, true, true, true, true, true, false, true, true, false, true, false, false] rfl rfl (any_of HT_.out (by kernel_rfl)) (fun _ _ _ h => h) (Or.inl ⟨by rfl, ?_⟩) ?_ ?_; rotate_left
                         · intro w'
                           go_simp
                           with_reducible rfl
                         rotate_left
                         · simp only [Act.put, List.setIfInBounds_toArray, List.set_cons_zero, List.set_cons_succ, i64_w, i32_w]
                           rfl
                         refine take_ (i := 8) (N := some 61) (v := ?_) (a' := ?_) #[true, true, true, true, true, true, true, true, true, true, true, false, true, false, false] rfl rfl (take_ofW HT_.out HW_.out (by kernel_rfl)) (fun _ _ _ h => h) (Or.inl ⟨by rfl, ?_⟩) hHeld ?_ ?_; rotate_left
                         · rintro w' ⟨s0, s1, s2, s3, s4, s5, s6, s7, s8, s9, s10, s11, s12, s13, s14⟩
                           go_simp
                           with_reducible rfl
                         rotate_left
                         · simp only [Act.put, List.setIfInBounds_toArray, List.set_cons_zero, List.set_cons_succ, i64_w, i32_w]
                           rfl
                         refine take_ (i := 11) (N := some 64) (v := ?_) (a' := ?_) #[true, true, true, true, true, true, true, true, true, true, true, true, true, false, false] rfl rfl (take_ofW HT_.out HW_.out (by kernel_rfl)) (fun _ _ _ h => h) (Or.inl ⟨by rfl, ?_⟩) hHeld ?_ ?_; rotate_left
                         · rintro w' ⟨s0, s1, s2, s3, s4, s5, s6, s7, s8, s9, s10, s11, s12, s13, s14⟩
                           go_simp
                           with_reducible rfl
                         rotate_left
                         · simp only [Act.put, List.setIfInBounds_toArray, List.set_cons_zero, List.set_cons_succ, i64_w, i32_w]
                           rfl
                         refine one_ (i := 13) (N := some 66) #[true, true, true, true, true, true, true, true, true, true, true, true, true, true, false] rfl rfl (one_of HT_.out (by kernel_rfl)) (by decide) (fun K hK => ?_); refine goes_ Try.func26 (by kernel_rfl) rfl #[.agg #[.int .i64 ((rd_T40 ((rd_T37 l0_1 x7_2).f0) x8_3).f0), .int .i64 ((rd_T40 ((rd_T37 l0_1 x7_2).f0) x8_3).f1), .int .i64 ((rd_T40 ((rd_T37 l0_1 x7_2).f0) x8_3).f2), .int .i64 ((rd_T40 ((rd_T37 l0_1 x7_2).f0) x8_3).f3), .int .i64 ((rd_T40 ((rd_T37 l0_1 x7_2).f0) x8_3).f4), .int .i64 ((rd_T40 ((rd_T37 l0_1 x7_2).f0) x8_3).f5), .int .i64 ((rd_T40 ((rd_T37 l0_1 x7_2).f0) x8_3).f6), .int .u32 ((rd_T40 ((rd_T37 l0_1 x7_2).f0) x8_3).f7)], .int .i64 a1, .int .i64 a0_0, .int .i64 a2] (by rfl) rfl rfl (by (try simp only [List.map_toArray, List.map_cons, List.map_nil]); first | done | rfl | (simp only [List.length_drop, List.length_take]; rfl)) ?_; (with_reducible refine (seedcornref24_fits.calls k3 ((rd_T40 ((rd_T37 l0_1 x7_2).f0) x8_3).f0) ((rd_T40 ((rd_T37 l0_1 x7_2).f0) x8_3).f1) ((rd_T40 ((rd_T37 l0_1 x7_2).f0) x8_3).f2) ((rd_T40 ((rd_T37 l0_1 x7_2).f0) x8_3).f3) ((rd_T40 ((rd_T37 l0_1 x7_2).f0) x8_3).f4) ((rd_T40 ((rd_T37 l0_1 x7_2).f0) x8_3).f5) ((rd_T40 ((rd_T37 l0_1 x7_2).f0) x8_3).f6) ((rd_T40 ((rd_T37 l0_1 x7_2).f0) x8_3).f7) a1 a0_0 a2 true _ A23.out).mono ?_); rintro e w27 ⟨rfl, hb⟩; refine ⟨_, rfl, ?_⟩; replace BK128 := Aside0.mk (blk_below BK128.out hb); replace HB := Aside0.mk (below_step HB.out hb); (try clear hb); (try clear hb2); (try clear hk); (try clear hi); refine hK.out _ _ ⟨(blk_cell BK128.out 0).trans rfl, (blk_cell BK128.out 1).trans rfl, ((HB.out.cell (World.block_lt_of_cell? w _ hw132_0)).trans hw132_0), ((HB.out.cell (World.block_lt_of_cell? w _ hw132_1)).trans hw132_1), ((HB.out.cell (World.block_lt_of_cell? w _ hw132_2)).trans hw132_2), ((HB.out.cell (World.block_lt_of_cell? w _ hw132_3)).trans hw132_3), ((HB.out.cell (World.block_lt_of_cell? w _ hw132_4)).trans hw132_4), ((HB.out.cell (World.block_lt_of_cell? w _ hw133_0)).trans hw133_0), ((HB.out.cell (World.block_lt_of_cell? w _ hw133_1)).trans hw133_1), ((HB.out.cell (World.block_lt_of_cell? w _ hw133_2)).trans hw133_2), ((HB.out.cell (World.block_lt_of_cell? w _ hw133_3)).trans hw133_3), ((HB.out.cell (World.block_lt_of_cell? w _ hw133_4)).trans hw133_4), ((HB.out.cell (World.block_lt_of_cell? w _ hw133_5)).trans hw133_5), ((HB.out.cell (World.block_lt_of_cell? w _ hw133_6)).trans hw133_6), ((HB.out.cell (World.block_lt_of_cell? w _ hw133_7)).trans hw133_7)⟩ (fun hHeld => ?_); clear hK K; refine norm_ (a' := ?_) ?_ ?_; rotate_left
                         · show Act.put _ (some 66) _ = _
                           simp only [Act.put, List.setIfInBounds_toArray, List.set_cons_zero, List.set_cons_succ, i64_w, i32_w]
                           rfl
                         refine pure_ (i := 14) (N := some 67) (v := ?_) (a' := ?_) #[true, true, true, true, true, true, true, true, true, true, true, true, true, true, true] rfl rfl (any_of HT_.out (by kernel_rfl)) (fun _ _ _ h => h) (Or.inl ⟨by rfl, ?_⟩) ?_ ?_; rotate_left
                         · intro w'
                           go_simp
                           with_reducible rfl
                         rotate_left
                         · simp only [Act.put, List.setIfInBounds_toArray, List.set_cons_zero, List.set_cons_succ, i64_w, i32_w]
                           rfl
                         refine done_ (done_of HT_.out (by kernel_rfl)) ?_; (try go_wp2)
                         go_roundg k3
                         case measure => have := HJ3.out; have := HK2.out; have := HK3.out; omega
                         case rel => exact ⟨(wrap64 (x8_3 + 1)), (by first | rfl | (simp; done) | (simp [*]; done)), H', ⟨by have := HJ3.out; have := HK2.out; have := HK3.out; omega⟩, ⟨by exact BK128.out⟩, ⟨by repeat (first | (with_reducible first | exact HB.out | apply b1_ | apply b2_ | apply b3_ | refine b4_ ?_ GE128.out) | exact HB.out)⟩⟩
                       · replace c24 := Bool.eq_false_iff.mpr c24
                         subst c24; (have H1 : (some false) = some r := by rw [if_neg (show ¬ (false = true) by decide)] at H; exact H); clear H; have H := H1; clear H1; obtain rfl := Option.some.inj H; have Zz28 := blk2 BK128.out; have p131 : 0 ≤ (x7_2 : Int) := of_decide_eq_true (by first | (with_reducible assumption) | assumption); have q131 : x7_2 < (l0_1.length : Int) := of_decide_eq_true (by first | (with_reducible assumption) | assumption); obtain ⟨ad131, A131_0, c131_0, e131, hx131_0, hx131_1, hx131_2, hx131_3, hx131_4, hl131_0, hi131_0⟩ := at_T37 HR0_1.out x7_2 p131 q131; obtain rfl : ad129 = ad131 := (by injection e131); replace hx131_0 := (HB.out.cell (World.block_lt_of_cell? w _ hx131_0)).trans hx131_0; replace hx131_1 := (HB.out.cell (World.block_lt_of_cell? w _ hx131_1)).trans hx131_1; replace hx131_2 := (HB.out.cell (World.block_lt_of_cell? w _ hx131_2)).trans hx131_2; replace hx131_3 := (HB.out.cell (World.block_lt_of_cell? w _ hx131_3)).trans hx131_3; replace hx131_4 := (HB.out.cell (World.block_lt_of_cell? w _ hx131_4)).trans hx131_4; have HR131_0 := Aside0.mk hi131_0; have HC131_0 := Aside0.mk hl131_0; clear hi131_0 hl131_0; replace p131 := eq_true p131; replace q131 := eq_true q131; (try go_wp2); replace BK128 := Aside0.mk (blk_drew BK128.out); replace HB := Aside0.mk (below_drew1 HB.out); have p132 : 0 ≤ (x7_2 : Int) := of_decide_eq_true (by first | (with_reducible assumption) | assumption); have q132 : x7_2 < (l0_1.length : Int) := of_decide_eq_true (by first | (with_reducible assumption) | assumption); obtain ⟨ad132, A132_0, c132_0, e132, hx132_0, hx132_1, hx132_2, hx132_3, hx132_4, hl132_0, hi132_0⟩ := at_T37 HR0_1.out x7_2 p132 q132; have hw132_4 := hx132_4; have hw132_3 := hx132_3; have hw132_2 := hx132_2; have hw132_1 := hx132_1; have hw132_0 := hx132_0; obtain rfl : ad129 = ad132 := (by injection e132); replace hx132_0 := (HB.out.cell (World.block_lt_of_cell? w _ hx132_0)).trans hx132_0; replace hx132_1 := (HB.out.cell (World.block_lt_of_cell? w _ hx132_1)).trans hx132_1; replace hx132_2 := (HB.out.cell (World.block_lt_of_cell? w _ hx132_2)).trans hx132_2; replace hx132_3 := (HB.out.cell (World.block_lt_of_cell? w _ hx132_3)).trans hx132_3; replace hx132_4 := (HB.out.cell (World.block_lt_of_cell? w _ hx132_4)).trans hx132_4; have HR132_0 := Aside0.mk hi132_0; have HC132_0 := Aside0.mk hl132_0; clear hi132_0 hl132_0; replace p132 := eq_true p132; replace q132 := eq_true q132; have p133 : 0 ≤ (x8_3 : Int) := of_decide_eq_true (by first | (with_reducible assumption) | assumption); have q133 : x8_3 < (((rd_T37 l0_1 x7_2).f0).length : Int) := of_decide_eq_true (by first | (with_reducible assumption) | assumption); obtain ⟨ad133, e133, hx133_0, hx133_1, hx133_2, hx133_3, hx133_4, hx133_5, hx133_6, hx133_7⟩ := at_T40 HR132_0.out x8_3 p133 q133; have hw133_7 := hx133_7; have hw133_6 := hx133_6; have hw133_5 := hx133_5; have hw133_4 := hx133_4; have hw133_3 := hx133_3; have hw133_2 := hx133_2; have hw133_1 := hx133_1; have hw133_0 := hx133_0
                         cases e133
                         replace hx133_0 := (HB.out.cell (World.block_lt_of_cell? w _ hx133_0)).trans hx133_0; replace hx133_1 := (HB.out.cell (World.block_lt_of_cell? w _ hx133_1)).trans hx133_1; replace hx133_2 := (HB.out.cell (World.block_lt_of_cell? w _ hx133_2)).trans hx133_2; replace hx133_3 := (HB.out.cell (World.block_lt_of_cell? w _ hx133_3)).trans hx133_3; replace hx133_4 := (HB.out.cell (World.block_lt_of_cell? w _ hx133_4)).trans hx133_4; replace hx133_5 := (HB.out.cell (World.block_lt_of_cell? w _ hx133_5)).trans hx133_5; replace hx133_6 := (HB.out.cell (World.block_lt_of_cell? w _ hx133_6)).trans hx133_6; replace hx133_7 := (HB.out.cell (World.block_lt_of_cell? w _ hx133_7)).trans hx133_7; replace p133 := eq_true p133; replace q133 := eq_true q133; refine start_ (n := 15) (S := fun w' => w'.cell? ⟨gb128, 0, none⟩ = some (.int .i64 a0_0) ∧ w'.cell? ⟨gb128, 1, none⟩ = some (.slice (some ad129) l0_1.length c0_1) ∧ w'.cell? (ad129.add ((x7_2).toNat * 5)) = some (.slice (some ad133) ((rd_T37 l0_1 x7_2).f0).length c132_0) ∧ w'.cell? ⟨(ad129.add ((x7_2).toNat * 5)).block, (ad129.add ((x7_2).toNat * 5)).off + 1, none⟩ = some (.int .i64 ((rd_T37 l0_1 x7_2).f1)) ∧ w'.cell? ⟨(ad129.add ((x7_2).toNat * 5)).block, (ad129.add ((x7_2).toNat * 5)).off + 2, none⟩ = some (.int .i64 ((rd_T37 l0_1 x7_2).f2)) ∧ w'.cell? ⟨(ad129.add ((x7_2).toNat * 5)).block, (ad129.add ((x7_2).toNat * 5)).off + 3, none⟩ = some (.int .i64 ((rd_T37 l0_1 x7_2).f3)) ∧ w'.cell? ⟨(ad129.add ((x7_2).toNat * 5)).block, (ad129.add ((x7_2).toNat * 5)).off + 4, none⟩ = some (.int .i64 ((rd_T37 l0_1 x7_2).f4)) ∧ w'.cell? (ad133.add ((x8_3).toNat * 8)) = some (.int .i64 ((rd_T40 ((rd_T37 l0_1 x7_2).f0) x8_3).f0)) ∧ w'.cell? ⟨(ad133.add ((x8_3).toNat * 8)).block, (ad133.add ((x8_3).toNat * 8)).off + 1, none⟩ = some (.int .i64 ((rd_T40 ((rd_T37 l0_1 x7_2).f0) x8_3).f1)) ∧ w'.cell? ⟨(ad133.add ((x8_3).toNat * 8)).block, (ad133.add ((x8_3).toNat * 8)).off + 2, none⟩ = some (.int .i64 ((rd_T40 ((rd_T37 l0_1 x7_2).f0) x8_3).f2)) ∧ w'.cell? ⟨(ad133.add ((x8_3).toNat * 8)).block, (ad133.add ((x8_3).toNat * 8)).off + 3, none⟩ = some (.int .i64 ((rd_T40 ((rd_T37 l0_1 x7_2).f0) x8_3).f3)) ∧ w'.cell? ⟨(ad133.add ((x8_3).toNat * 8)).block, (ad133.add ((x8_3).toNat * 8)).off + 4, none⟩ = some (.int .i64 ((rd_T40 ((rd_T37 l0_1 x7_2).f0) x8_3).f4)) ∧ w'.cell? ⟨(ad133.add ((x8_3).toNat * 8)).block, (ad133.add ((x8_3).toNat * 8)).off + 5, none⟩ = some (.int .i64 ((rd_T40 ((rd_T37 l0_1 x7_2).f0) x8_3).f5)) ∧ w'.cell? ⟨(ad133.add ((x8_3).toNat * 8)).block, (ad133.add ((x8_3).toNat * 8)).off + 6, none⟩ = some (.int .i64 ((rd_T40 ((rd_T37 l0_1 x7_2).f0) x8_3).f6)) ∧ w'.cell? ⟨(ad133.add ((x8_3).toNat * 8)).block, (ad133.add ((x8_3).toNat * 8)).off + 7, none⟩ = some (.int .u32 ((rd_T40 ((rd_T37 l0_1 x7_2).f0) x8_3).f7))) (ds := []) #[false, false, false, false, false, false, false, false, false, false, false, false, false, false, false] (by kernel_rfl) rfl rfl ⟨(blk_cell BK128.out 0).trans rfl, (blk_cell BK128.out 1).trans rfl, ((HB.out.cell (World.block_lt_of_cell? w _ hw132_0)).trans hw132_0), ((HB.out.cell (World.block_lt_of_cell? w _ hw132_1)).trans hw132_1), ((HB.out.cell (World.block_lt_of_cell? w _ hw132_2)).trans hw132_2), ((HB.out.cell (World.block_lt_of_cell? w _ hw132_3)).trans hw132_3), ((HB.out.cell (World.block_lt_of_cell? w _ hw132_4)).trans hw132_4), ((HB.out.cell (World.block_lt_of_cell? w _ hw133_0)).trans hw133_0), ((HB.out.cell (World.block_lt_of_cell? w _ hw133_1)).trans hw133_1), ((HB.out.cell (World.block_lt_of_cell? w _ hw133_2)).trans hw133_2), ((HB.out.cell (World.block_lt_of_cell? w _ hw133_3)).trans hw133_3), ((HB.out.cell (World.block_lt_of_cell? w _ hw133_4)).trans hw133_4), ((HB.out.cell (World.block_lt_of_cell? w _ hw133_5)).trans hw133_5), ((HB.out.cell (World.block_lt_of_cell? w _ hw133_6)).trans hw133_6), ((HB.out.cell (World.block_lt_of_cell? w _ hw133_7)).trans hw133_7)⟩ (fun hHeld => ?_); refine with_tabW seedcornref24_One.tab11 seedcornref24_One.bits11 (fun HT_ HW_ => ?_); (generalize wr.drew = w29 at BK128 HB HR132_0 hx132_0 hx132_1 hx132_2 hx132_3 hx132_4 hx133_0 hx133_1 hx133_2 hx133_3 hx133_4 hx133_5 hx133_6 hx133_7 hHeld ⊢); refine pure_ (i := 0) (N := some 53) (v := ?_) (a' := ?_) #[true, false, false, false, false, false, false, false, false, false, false, false, false, false, false] rfl rfl (any_of HT_.out (by kernel_rfl)) (fun _ _ _ h => h) (Or.inl ⟨by rfl, ?_⟩) ?_ ?_; rotate_left
                         · intro w'
                           go_simp
                           with_reducible rfl
                         rotate_left
                         · simp only [Act.put, List.setIfInBounds_toArray, List.set_cons_zero, List.set_cons_succ, i64_w, i32_w]
                           rfl
                         refine pure_ (i := 2) (N := some 55) (v := ?_) (a' := ?_) #[true, false, true, false, false, false, false, false, false, false, false, false, false, false, false] rfl rfl (any_of HT_.out (by kernel_rfl)) (fun _ _ _ h => h) (Or.inl ⟨by rfl, ?_⟩) ?_ ?_; rotate_left
                         · intro w'
                           go_simp
                           with_reducible rfl
                         rotate_left
                         · simp only [Act.put, List.setIfInBounds_toArray, List.set_cons_zero, List.set_cons_succ, i64_w, i32_w]
                           rfl
                         refine pure_ (i := 6) (N := some 59) (v := ?_) (a' := ?_) #[true, false, true, false, false, false, true, false, false, false, false, false, false, false, false] rfl rfl (any_of HT_.out (by kernel_rfl)) (fun _ _ _ h => h) (Or.inl ⟨by rfl, ?_⟩) ?_ ?_; rotate_left
                         · intro w'
                           go_simp
                           with_reducible rfl
                         rotate_left
                         · simp only [Act.put, List.setIfInBounds_toArray, List.set_cons_zero, List.set_cons_succ, i64_w, i32_w]
                           rfl
                         refine pure_ (i := 9) (N := some 62) (v := ?_) (a' := ?_) #[true, false, true, false, false, false, true, false, false, true, false, false, false, false, false] rfl rfl (any_of HT_.out (by kernel_rfl)) (fun _ _ _ h => h) (Or.inl ⟨by rfl, ?_⟩) ?_ ?_; rotate_left
                         · intro w'
                           go_simp
                           with_reducible rfl
                         rotate_left
                         · simp only [Act.put, List.setIfInBounds_toArray, List.set_cons_zero, List.set_cons_succ, i64_w, i32_w]
                           rfl
                         refine pure_ (i := 10) (N := some 63) (v := ?_) (a' := ?_) #[true, false, true, false, false, false, true, false, false, true, true, false, false, false, false] rfl rfl (any_of HT_.out (by kernel_rfl)) (fun _ _ _ h => h) (Or.inl ⟨by rfl, ?_⟩) ?_ ?_; rotate_left
                         · intro w'
                           go_simp
                           with_reducible rfl
                         rotate_left
                         · simp only [Act.put, List.setIfInBounds_toArray, List.set_cons_zero, List.set_cons_succ, i64_w, i32_w]
                           rfl
                         refine pure_ (i := 12) (N := some 65) (v := ?_) (a' := ?_) #[true, false, true, false, false, false, true, false, false, true, true, false, true, false, false] rfl rfl (any_of HT_.out (by kernel_rfl)) (fun _ _ _ h => h) (Or.inl ⟨by rfl, ?_⟩) ?_ ?_; rotate_left
                         · intro w'
                           go_simp
                           with_reducible rfl
                         rotate_left
                         · simp only [Act.put, List.setIfInBounds_toArray, List.set_cons_zero, List.set_cons_succ, i64_w, i32_w]
                           rfl
                         refine take_ (i := 1) (N := some 54) (v := ?_) (a' := ?_) #[true, true, true, false, false, false, true, false, false, true, true, false, true, false, false] rfl rfl (take_ofW HT_.out HW_.out (by kernel_rfl)) (fun _ _ _ h => h) (Or.inl ⟨by rfl, ?_⟩) hHeld ?_ ?_; rotate_left
                         · rintro w' ⟨s0, s1, s2, s3, s4, s5, s6, s7, s8, s9, s10, s11, s12, s13, s14⟩
                           go_simp
                           with_reducible rfl
                         rotate_left
                         · simp only [Act.put, List.setIfInBounds_toArray, List.set_cons_zero, List.set_cons_succ, i64_w, i32_w]
                           rfl
                         refine pure_ (i := 3) (N := some 56) (v := ?_) (a' := ?_) #[true, true, true, true, false, false, true, false, false, true, true, false, true, false, false] rfl rfl (any_of HT_.out (by kernel_rfl)) (fun _ _ _ h => h) (Or.inl ⟨by rfl, ?_⟩) ?_ ?_; rotate_left
                         · intro w'
                           go_simp
                           with_reducible rfl
                         rotate_left
                         · simp only [Act.put, List.setIfInBounds_toArray, List.set_cons_zero, List.set_cons_succ, i64_w, i32_w]
                           rfl
                         refine pure_ (i := 4) (N := some 57) (v := ?_) (a' := ?_) #[true, true, true, true, true, false, true, false, false, true, true, false, true, false, false] rfl rfl (any_of HT_.out (by kernel_rfl)) (fun _ _ _ h => h) (Or.inl ⟨by rfl, ?_⟩) ?_ ?_; rotate_left
                         · intro w'
                           go_simp
                           with_reducible rfl
                         rotate_left
                         · simp only [Act.put, List.setIfInBounds_toArray, List.set_cons_zero, List.set_cons_succ, i64_w, i32_w]
                           rfl
                         refine take_ (i := 5) (N := some 58) (v := ?_) (a' := ?_) #[true, true, true, true, true, true, true, false, false, true, true, false, true, false, false] rfl rfl (take_ofW HT_.out HW_.out (by kernel_rfl)) (fun _ _ _ h => h) (Or.inl ⟨by rfl, ?_⟩) hHeld ?_ ?_; rotate_left
                         · rintro w' ⟨s0, s1, s2, s3, s4, s5, s6, s7, s8, s9, s10, s11, s12, s13, s14⟩
                           go_simp
                           with_reducible rfl
                         rotate_left
                         · simp only [Act.put, List.setIfInBounds_toArray, List.set_cons_zero, List.set_cons_succ, i64_w, i32_w]
                           rfl
                         refine pure_ (i := 7) (N := some 60) (v := ?_) (a' := ?_) #[true, true, true, true, true, true, true, true, false, true, true, false, true, false, false] rfl rfl (any_of HT_.out (by kernel_rfl)) (fun _ _ _ h => h) (Or.inl ⟨by rfl, ?_⟩) ?_ ?_; rotate_left
                         · intro w'
                           go_simp
                           with_reducible rfl
                         rotate_left
                         · simp only [Act.put, List.setIfInBounds_toArray, List.set_cons_zero, List.set_cons_succ, i64_w, i32_w]
                           rfl
                         refine take_ (i := 8) (N := some 61) (v := ?_) (a' := ?_) #[true, true, true, true, true, true, true, true, true, true, true, false, true, false, false] rfl rfl (take_ofW HT_.out HW_.out (by kernel_rfl)) (fun _ _ _ h => h) (Or.inl ⟨by rfl, ?_⟩) hHeld ?_ ?_; rotate_left
                         · rintro w' ⟨s0, s1, s2, s3, s4, s5, s6, s7, s8, s9, s10, s11, s12, s13, s14⟩
                           go_simp
                           with_reducible rfl
                         rotate_left
                         · simp only [Act.put, List.setIfInBounds_toArray, List.set_cons_zero, List.set_cons_succ, i64_w, i32_w]
                           rfl
                         refine take_ (i := 11) (N := some 64) (v := ?_) (a' := ?_) #[true, true, true, true, true, true, true, true, true, true, true, true, true, false, false] rfl rfl (take_ofW HT_.out HW_.out (by kernel_rfl)) (fun _ _ _ h => h) (Or.inl ⟨by rfl, ?_⟩) hHeld ?_ ?_; rotate_left
                         · rintro w' ⟨s0, s1, s2, s3, s4, s5, s6, s7, s8, s9, s10, s11, s12, s13, s14⟩
                           go_simp
                           with_reducible rfl
                         rotate_left
                         · simp only [Act.put, List.setIfInBounds_toArray, List.set_cons_zero, List.set_cons_succ, i64_w, i32_w]
                           rfl
                         refine one_ (i := 13) (N := some 66) #[true, true, true, true, true, true, true, true, true, true, true, true, true, true, false] rfl rfl (one_of HT_.out (by kernel_rfl)) (by decide) (fun K hK => ?_); refine goes_ Try.func26 (by kernel_rfl) rfl #[.agg #[.int .i64 ((rd_T40 ((rd_T37 l0_1 x7_2).f0) x8_3).f0), .int .i64 ((rd_T40 ((rd_T37 l0_1 x7_2).f0) x8_3).f1), .int .i64 ((rd_T40 ((rd_T37 l0_1 x7_2).f0) x8_3).f2), .int .i64 ((rd_T40 ((rd_T37 l0_1 x7_2).f0) x8_3).f3), .int .i64 ((rd_T40 ((rd_T37 l0_1 x7_2).f0) x8_3).f4), .int .i64 ((rd_T40 ((rd_T37 l0_1 x7_2).f0) x8_3).f5), .int .i64 ((rd_T40 ((rd_T37 l0_1 x7_2).f0) x8_3).f6), .int .u32 ((rd_T40 ((rd_T37 l0_1 x7_2).f0) x8_3).f7)], .int .i64 a1, .int .i64 a0_0, .int .i64 a2] (by rfl) rfl rfl (by (try simp only [List.map_toArray, List.map_cons, List.map_nil]); first | done | rfl | (simp only [List.length_drop, List.length_take]; rfl)) ?_; (with_reducible refine (seedcornref24_fits.calls k3 ((rd_T40 ((rd_T37 l0_1 x7_2).f0) x8_3).f0) ((rd_T40 ((rd_T37 l0_1 x7_2).f0) x8_3).f1) ((rd_T40 ((rd_T37 l0_1 x7_2).f0) x8_3).f2) ((rd_T40 ((rd_T37 l0_1 x7_2).f0) x8_3).f3) ((rd_T40 ((rd_T37 l0_1 x7_2).f0) x8_3).f4) ((rd_T40 ((rd_T37 l0_1 x7_2).f0) x8_3).f5) ((rd_T40 ((rd_T37 l0_1 x7_2).f0) x8_3).f6) ((rd_T40 ((rd_T37 l0_1 x7_2).f0) x8_3).f7) a1 a0_0 a2 false _ A23.out).mono ?_); rintro e w30 ⟨rfl, hb⟩; refine ⟨_, rfl, ?_⟩; replace BK128 := Aside0.mk (blk_below BK128.out hb); replace HB := Aside0.mk (below_step HB.out hb); (try clear hb); (try clear hb2); (try clear hk); (try clear hi); refine hK.out _ _ ⟨(blk_cell BK128.out 0).trans rfl, (blk_cell BK128.out 1).trans rfl, ((HB.out.cell (World.block_lt_of_cell? w _ hw132_0)).trans hw132_0), ((HB.out.cell (World.block_lt_of_cell? w _ hw132_1)).trans hw132_1), ((HB.out.cell (World.block_lt_of_cell? w _ hw132_2)).trans hw132_2), ((HB.out.cell (World.block_lt_of_cell? w _ hw132_3)).trans hw132_3), ((HB.out.cell (World.block_lt_of_cell? w _ hw132_4)).trans hw132_4), ((HB.out.cell (World.block_lt_of_cell? w _ hw133_0)).trans hw133_0), ((HB.out.cell (World.block_lt_of_cell? w _ hw133_1)).trans hw133_1), ((HB.out.cell (World.block_lt_of_cell? w _ hw133_2)).trans hw133_2), ((HB.out.cell (World.block_lt_of_cell? w _ hw133_3)).trans hw133_3), ((HB.out.cell (World.block_lt_of_cell? w _ hw133_4)).trans hw133_4), ((HB.out.cell (World.block_lt_of_cell? w _ hw133_5)).trans hw133_5), ((HB.out.cell (World.block_lt_of_cell? w _ hw133_6)).trans hw133_6), ((HB.out.cell (World.block_lt_of_cell? w _ hw133_7)).trans hw133_7)⟩ (fun hHeld => ?_); clear hK K; refine norm_ (a' := ?_) ?_ ?_; rotate_left
                         · show Act.put _ (some 66) _ = _
                           simp only [Act.put, List.setIfInBounds_toArray, List.set_cons_zero, List.set_cons_succ, i64_w, i32_w]
                           rfl
                         refine pure_ (i := 14) (N := some 67) (v := ?_) (a' := ?_) #[true, true, true, true, true, true, true, true, true, true, true, true, true, true, true] rfl rfl (any_of HT_.out (by kernel_rfl)) (fun _ _ _ h => h) (Or.inl ⟨by rfl, ?_⟩) ?_ ?_; rotate_left
                         · intro w'
                           go_simp
                           with_reducible rfl
                         rotate_left
                         · simp only [Act.put, List.setIfInBounds_toArray, List.set_cons_zero, List.set_cons_succ, i64_w, i32_w]
                           rfl
                         refine done_ (done_of HT_.out (by kernel_rfl)) ?_; (try go_wp2)
                         go_ret
                         exact ⟨by first | rfl | (simp [errW_none, errW_some] <;> rfl) | (simp [*, errW_none, errW_some] <;> rfl), by repeat (first | (with_reducible first | exact HB.out | apply b1_ | apply b2_ | apply b3_ | refine b4_ ?_ GE128.out) | exact HB.out)⟩
                     · rw [if_neg c22] at H
                       exact absurd H (by simp)
                   · rw [if_neg c21] at H
                     have c21b0 : decide (x8_3 < (((rd_T37 l0_1 x7_2).f0).length : Int)) = false := decide_eq_false c21; clear c21; have H' := Aside0.mk H; clear H; have Zz31 := blk2 BK128.out; have p131 : 0 ≤ (x7_2 : Int) := of_decide_eq_true (by first | (with_reducible assumption) | assumption); have q131 : x7_2 < (l0_1.length : Int) := of_decide_eq_true (by first | (with_reducible assumption) | assumption); obtain ⟨ad131, A131_0, c131_0, e131, hx131_0, hx131_1, hx131_2, hx131_3, hx131_4, hl131_0, hi131_0⟩ := at_T37 HR0_1.out x7_2 p131 q131; obtain rfl : ad129 = ad131 := (by injection e131); replace hx131_0 := (HB.out.cell (World.block_lt_of_cell? w _ hx131_0)).trans hx131_0; replace hx131_1 := (HB.out.cell (World.block_lt_of_cell? w _ hx131_1)).trans hx131_1; replace hx131_2 := (HB.out.cell (World.block_lt_of_cell? w _ hx131_2)).trans hx131_2; replace hx131_3 := (HB.out.cell (World.block_lt_of_cell? w _ hx131_3)).trans hx131_3; replace hx131_4 := (HB.out.cell (World.block_lt_of_cell? w _ hx131_4)).trans hx131_4; have HR131_0 := Aside0.mk hi131_0; have HC131_0 := Aside0.mk hl131_0; clear hi131_0 hl131_0; replace p131 := eq_true p131; replace q131 := eq_true q131; go_wp2
                     go_roundg k3
                     case measure => have := HJ3.out; have := HK2.out; have := HK3.out; omega
                     case rel => exact ⟨(wrap64 (x7_2 + 1)), (by first | rfl | (simp; done) | (simp [*]; done)), H', ⟨by have := HJ3.out; have := HK2.out; have := HK3.out; omega⟩, ⟨by exact BK128.out⟩, ⟨by repeat (first | (with_reducible first | exact HB.out | apply b1_ | apply b2_ | apply b3_ | refine b4_ ?_ GE128.out) | exact HB.out)⟩⟩
                 · rw [if_neg c20] at H
                   exact absurd H (by simp)
               · rw [if_neg c19] at H
                 exact absurd H (by simp)
           · replace c15 := Bool.eq_false_iff.mpr c15
             subst c15; (have H1 : (some false) = some r := by rw [if_neg (show ¬ (false = true) by decide)] at H; exact H); clear H; have H := H1; clear H1; obtain rfl := Option.some.inj H; have Zz32 := blk2 BK128.out; (try go_wp2); replace BK128 := Aside0.mk (blk_drew BK128.out); replace HB := Aside0.mk (below_drew1 HB.out); have p129 : 0 ≤ (x7_2 : Int) := of_decide_eq_true (by first | (with_reducible assumption) | assumption); have q129 : x7_2 < (l0_1.length : Int) := of_decide_eq_true (by first | (with_reducible assumption) | assumption); obtain ⟨ad129, A129_0, c129_0, e129, hx129_0, hx129_1, hx129_2, hx129_3, hx129_4, hl129_0, hi129_0⟩ := at_T37 HR0_1.out x7_2 p129 q129; have hw129_4 := hx129_4; have hw129_3 := hx129_3; have hw129_2 := hx129_2; have hw129_1 := hx129_1; have hw129_0 := hx129_0
             cases e129
             replace hx129_0 := (HB.out.cell (World.block_lt_of_cell? w _ hx129_0)).trans hx129_0; replace hx129_1 := (HB.out.cell (World.block_lt_of_cell? w _ hx129_1)).trans hx129_1; replace hx129_2 := (HB.out.cell (World.block_lt_of_cell? w _ hx129_2)).trans hx129_2; replace hx129_3 := (HB.out.cell (World.block_lt_of_cell? w _ hx129_3)).trans hx129_3; replace hx129_4 := (HB.out.cell (World.block_lt_of_cell? w _ hx129_4)).trans hx129_4; have HR129_0 := Aside0.mk hi129_0; have HC129_0 := Aside0.mk hl129_0; clear hi129_0 hl129_0; replace p129 := eq_true p129; replace q129 := eq_true q129; refine start_ (n := 12) (S := fun w' => w'.cell? ⟨gb128, 0, none⟩ = some (.int .i64 a0_0) ∧ w'.cell? ⟨gb128, 1, none⟩ = some (.slice (some ad129) l0_1.length c0_1) ∧ w'.cell? (ad129.add ((x7_2).toNat * 5)) = some (.slice A129_0 ((rd_T37 l0_1 x7_2).f0).length c129_0) ∧ w'.cell? ⟨(ad129.add ((x7_2).toNat * 5)).block, (ad129.add ((x7_2).toNat * 5)).off + 1, none⟩ = some (.int .i64 ((rd_T37 l0_1 x7_2).f1)) ∧ w'.cell? ⟨(ad129.add ((x7_2).toNat * 5)).block, (ad129.add ((x7_2).toNat * 5)).off + 2, none⟩ = some (.int .i64 ((rd_T37 l0_1 x7_2).f2)) ∧ w'.cell? ⟨(ad129.add ((x7_2).toNat * 5)).block, (ad129.add ((x7_2).toNat * 5)).off + 3, none⟩ = some (.int .i64 ((rd_T37 l0_1 x7_2).f3)) ∧ w'.cell? ⟨(ad129.add ((x7_2).toNat * 5)).block, (ad129.add ((x7_2).toNat * 5)).off + 4, none⟩ = some (.int .i64 ((rd_T37 l0_1 x7_2).f4))) (ds := []) #[false, false, false, false, false, false, false, false, false, false, false, false] (by kernel_rfl) rfl rfl ⟨(blk_cell BK128.out 0).trans rfl, (blk_cell BK128.out 1).trans rfl, ((HB.out.cell (World.block_lt_of_cell? w _ hw129_0)).trans hw129_0), ((HB.out.cell (World.block_lt_of_cell? w _ hw129_1)).trans hw129_1), ((HB.out.cell (World.block_lt_of_cell? w _ hw129_2)).trans hw129_2), ((HB.out.cell (World.block_lt_of_cell? w _ hw129_3)).trans hw129_3), ((HB.out.cell (World.block_lt_of_cell? w _ hw129_4)).trans hw129_4)⟩ (fun hHeld => ?_); refine with_tabW seedcornref24_One.tab6 seedcornref24_One.bits6 (fun HT_ HW_ => ?_); (generalize wr.drew = w33 at BK128 HB HR129_0 hx129_0 hx129_1 hx129_2 hx129_3 hx129_4 hHeld ⊢); refine pure_ (i := 0) (N := some 30) (v := ?_) (a' := ?_) #[true, false, false, false, false, false, false, false, false, false, false, false] rfl rfl (any_of HT_.out (by kernel_rfl)) (fun _ _ _ h => h) (Or.inl ⟨by rfl, ?_⟩) ?_ ?_; rotate_left
             · intro w'
               go_simp
               with_reducible rfl
             rotate_left
             · simp only [Act.put, List.setIfInBounds_toArray, List.set_cons_zero, List.set_cons_succ, i64_w, i32_w]
               rfl
             refine pure_ (i := 2) (N := some 32) (v := ?_) (a' := ?_) #[true, false, true, false, false, false, false, false, false, false, false, false] rfl rfl (any_of HT_.out (by kernel_rfl)) (fun _ _ _ h => h) (Or.inl ⟨by rfl, ?_⟩) ?_ ?_; rotate_left
             · intro w'
               go_simp
               with_reducible rfl
             rotate_left
             · simp only [Act.put, List.setIfInBounds_toArray, List.set_cons_zero, List.set_cons_succ, i64_w, i32_w]
               rfl
             refine pure_ (i := 5) (N := some 35) (v := ?_) (a' := ?_) #[true, false, true, false, false, true, false, false, false, false, false, false] rfl rfl (any_of HT_.out (by kernel_rfl)) (fun _ _ _ h => h) (Or.inl ⟨by rfl, ?_⟩) ?_ ?_; rotate_left
             · intro w'
               go_simp
               with_reducible rfl
             rotate_left
             · simp only [Act.put, List.setIfInBounds_toArray, List.set_cons_zero, List.set_cons_succ, i64_w, i32_w]
               rfl
             refine pure_ (i := 8) (N := some 38) (v := ?_) (a' := ?_) #[true, false, true, false, false, true, false, false, true, false, false, false] rfl rfl (any_of HT_.out (by kernel_rfl)) (fun _ _ _ h => h) (Or.inl ⟨by rfl, ?_⟩) ?_ ?_; rotate_left
             · intro w'
               go_simp
               with_reducible rfl
             rotate_left
             · simp only [Act.put, List.setIfInBounds_toArray, List.set_cons_zero, List.set_cons_succ, i64_w, i32_w]
               rfl
             refine take_ (i := 1) (N := some 31) (v := ?_) (a' := ?_) #[true, true, true, false, false, true, false, false, true, false, false, false] rfl rfl (take_ofW HT_.out HW_.out (by kernel_rfl)) (fun _ _ _ h => h) (Or.inl ⟨by rfl, ?_⟩) hHeld ?_ ?_; rotate_left
             · rintro w' ⟨s0, s1, s2, s3, s4, s5, s6⟩
               go_simp
               with_reducible rfl
             rotate_left
             · simp only [Act.put, List.setIfInBounds_toArray, List.set_cons_zero, List.set_cons_succ, i64_w, i32_w]
               rfl
             refine pure_ (i := 3) (N := some 33) (v := ?_) (a' := ?_) #[true, true, true, true, false, true, false, false, true, false, false, false] rfl rfl (any_of HT_.out (by kernel_rfl)) (fun _ _ _ h => h) (Or.inl ⟨by rfl, ?_⟩) ?_ ?_; rotate_left
             · intro w'
               go_simp
               with_reducible rfl
             rotate_left
             · simp only [Act.put, List.setIfInBounds_toArray, List.set_cons_zero, List.set_cons_succ, i64_w, i32_w]
               rfl
             refine take_ (i := 4) (N := some 34) (v := ?_) (a' := ?_) #[true, true, true, true, true, true, false, false, true, false, false, false] rfl rfl (take_ofW HT_.out HW_.out (by kernel_rfl)) (fun _ _ _ h => h) (Or.inl ⟨by rfl, ?_⟩) hHeld ?_ ?_; rotate_left
             · rintro w' ⟨s0, s1, s2, s3, s4, s5, s6⟩
               go_simp
               with_reducible rfl
             rotate_left
             · simp only [Act.put, List.setIfInBounds_toArray, List.set_cons_zero, List.set_cons_succ, i64_w, i32_w]
               rfl
             refine take_ (i := 6) (N := some 36) (v := ?_) (a' := ?_) #[true, true, true, true, true, true, true, false, true, false, false, false] rfl rfl (take_ofW HT_.out HW_.out (by kernel_rfl)) (fun _ _ _ h => h) (Or.inl ⟨by rfl, ?_⟩) hHeld ?_ ?_; rotate_left
             · rintro w' ⟨s0, s1, s2, s3, s4, s5, s6⟩
               go_simp
               with_reducible rfl
             rotate_left
             · simp only [Act.put, List.setIfInBounds_toArray, List.set_cons_zero, List.set_cons_succ, i64_w, i32_w]
               rfl
             refine pure_ (i := 7) (N := some 37) (v := ?_) (a' := ?_) #[true, true, true, true, true, true, true, true, true, false, false, false] rfl rfl (any_of HT_.out (by kernel_rfl)) (fun _ _ _ h => h) (Or.inl ⟨by rfl, ?_⟩) ?_ ?_; rotate_left
             · intro w'
               go_simp
               with_reducible rfl
             rotate_left
             · simp only [Act.put, List.setIfInBounds_toArray, List.set_cons_zero, List.set_cons_succ, i64_w, i32_w]
               rfl
             refine take_ (i := 9) (N := some 39) (v := ?_) (a' := ?_) #[true, true, true, true, true, true, true, true, true, true, false, false] rfl rfl (take_ofW HT_.out HW_.out (by kernel_rfl)) (fun _ _ _ h => h) (Or.inl ⟨by rfl, ?_⟩) hHeld ?_ ?_; rotate_left
             · rintro w' ⟨s0, s1, s2, s3, s4, s5, s6⟩
               go_simp
               with_reducible rfl
             rotate_left
             · simp only [Act.put, List.setIfInBounds_toArray, List.set_cons_zero, List.set_cons_succ, i64_w, i32_w]
               rfl
             refine one_ (i := 10) (N := some 40) #[true, true, true, true, true, true, true, true, true, true, true, false] rfl rfl (one_of HT_.out (by kernel_rfl)) (by decide) (fun K hK => ?_); refine goes_ Try.func25 (by kernel_rfl) rfl #[.agg #[.slice A129_0 ((rd_T37 l0_1 x7_2).f0).length c129_0, .int .i64 ((rd_T37 l0_1 x7_2).f1), .int .i64 ((rd_T37 l0_1 x7_2).f2), .int .i64 ((rd_T37 l0_1 x7_2).f3), .int .i64 ((rd_T37 l0_1 x7_2).f4)], .int .i64 (l0_1.length : Int), .int .i64 a0_0] (by rfl) rfl rfl (by (try simp only [List.map_toArray, List.map_cons, List.map_nil]); first | done | rfl | (simp only [List.length_drop, List.length_take]; rfl)) ?_; (with_reducible refine (seedcornref24_ends.calls _ _ ((rd_T37 l0_1 x7_2).f0) ((rd_T37 l0_1 x7_2).f1) ((rd_T37 l0_1 x7_2).f2) ((rd_T37 l0_1 x7_2).f3) ((rd_T37 l0_1 x7_2).f4) (l0_1.length : Int) a0_0 false _ ?side1 ?side2 A14.out).mono ?_); (case side1 => repeat (first | exact (Kd.C_below HR129_0.out HB.out) | (with_reducible refine Kd.C_alloc ?_ _) | (with_reducible refine Kd.C_drewN ?_ _) | (with_reducible refine Kd.C_drew ?_))); (case side2 => exact HC129_0.out); rintro e w34 ⟨rfl, hb⟩; refine ⟨_, rfl, ?_⟩; replace BK128 := Aside0.mk (blk_below BK128.out hb); replace HB := Aside0.mk (below_step HB.out hb); (try clear hb); (try clear hb2); (try clear hk); (try clear hi); refine hK.out _ _ ⟨(blk_cell BK128.out 0).trans rfl, (blk_cell BK128.out 1).trans rfl, ((HB.out.cell (World.block_lt_of_cell? w _ hw129_0)).trans hw129_0), ((HB.out.cell (World.block_lt_of_cell? w _ hw129_1)).trans hw129_1), ((HB.out.cell (World.block_lt_of_cell? w _ hw129_2)).trans hw129_2), ((HB.out.cell (World.block_lt_of_cell? w _ hw129_3)).trans hw129_3), ((HB.out.cell (World.block_lt_of_cell? w _ hw129_4)).trans hw129_4)⟩ (fun hHeld => ?_); clear hK K; refine norm_ (a' := ?_) ?_ ?_; rotate_left
             · show Act.put _ (some 40) _ = _
               simp only [Act.put, List.setIfInBounds_toArray, List.set_cons_zero, List.set_cons_succ, i64_w, i32_w]
               rfl
             refine pure_ (i := 11) (N := some 41) (v := ?_) (a' := ?_) #[true, true, true, true, true, true, true, true, true, true, true, true] rfl rfl (any_of HT_.out (by kernel_rfl)) (fun _ _ _ h => h) (Or.inl ⟨by rfl, ?_⟩) ?_ ?_; rotate_left
             · intro w'
               go_simp
               with_reducible rfl
             rotate_left
             · simp only [Act.put, List.setIfInBounds_toArray, List.set_cons_zero, List.set_cons_succ, i64_w, i32_w]
               rfl
             refine done_ (done_of HT_.out (by kernel_rfl)) ?_; (try go_wp2)
             go_ret
             exact ⟨by first | rfl | (simp [errW_none, errW_some] <;> rfl) | (simp [*, errW_none, errW_some] <;> rfl), by repeat (first | (with_reducible first | exact HB.out | apply b1_ | apply b2_ | apply b3_ | refine b4_ ?_ GE128.out) | exact HB.out)⟩
         · rw [if_neg c13] at H
           exact absurd H (by simp)
       · rw [if_neg c12] at H
         have c12b0 : decide (x7_2 < (l0_1.length : Int)) = false := decide_eq_false c12; clear c12; obtain rfl := Option.some.inj H; have Zz35 := blk2 BK128.out; go_wp2
         go_ret
         exact ⟨by first | rfl | (simp [errW_none, errW_some] <;> rfl) | (simp [*, errW_none, errW_some] <;> rfl), by repeat (first | (with_reducible first | exact HB.out | apply b1_ | apply b2_ | apply b3_ | refine b4_ ?_ GE128.out) | exact HB.out)⟩

end Go.Proofs.Ytcfagmdopkginaa.PF
