/- A program's run, in memory: what the plain run says. -/
import Derived.Test.YtcfagmdopkginaaRunE
import Derived.Laws.BytesArg
namespace Go.Proofs.Ytcfagmdopkginaa.RunW
open Go.RowKit Go.Proofs.YtcfagmdopkginaaW.PrintWords Go.Proofs.YtcfagmdopkginaaW.PrintLast Go.Proofs.YtcfagmdopkginaaW.PrintMore
set_option linter.unusedVariables false

theorem make_words {a : Act} {o : Oper} {w0 W : World} {base : Nat} {x y : Operand} {n : Int} (ho : o.op = .makeSlice 65 x y) (hx : a.eval x = .int .i64 n) (hy : a.eval y = .int .i64 n) (h0 : 0 ≤ n) (hl : n ≤ 1048576) (HB : Below base w0 W) (hbase : base ≤ W.heap.size) :
    ∃ w1, (execOp a.eval o).run Try.prog W = .ok (.value (.slice (some ⟨W.heap.size, 0, none⟩) n.toNat n.toNat)) w1 ∧ U32.R 38 w1 base (fun _ => True) (.slice (some ⟨W.heap.size, 0, none⟩) n.toNat n.toNat) (List.replicate n.toNat 0) ∧ Below base w0 w1 ∧ W.grownBy w1 none ∧ w1.heap.size = W.heap.size + 1 := by
  obtain ⟨m, rfl⟩ := Int.eq_ofNat_of_zero_le h0
  simp only [Int.toNat_natCast]
  have hinfo : (Try.prog.info? 38).map (fun i => (i.zero, i.size, i.bytes)) = some (some (.int .u32 0), 1, 4) := by kernel_rfl
  obtain ⟨i0, hi, hzz⟩ := Option.map_eq_some_iff.1 hinfo
  simp only [Prod.mk.injEq] at hzz
  obtain ⟨hz0, hz1, hz2⟩ := hzz
  have hr := run_make (P := Try.prog) W 65 38 i0 (.int .u32 0) (by kernel_rfl) hi hz0 .i64 .i64 (m : Int) (m : Int) (by omega) (by omega) (by rw [hz2]; omega) (by omega)
  simp only [Int.toNat_natCast] at hr
  rw [hz1, Nat.mul_one] at hr
  refine ⟨W.alloc (.cells (madeCells (Value.int .u32 0).cells m) 38), by simp [execOp, ho, hx, hy, hr], ?_, HB.alloc hbase _, World.grownBy_alloc W _ none, by simp⟩
  have hrep0 := Kd.reps_made (R := U32.M W base (fun _ => True)) (z := .int .u32 0) (size := 1) (z0 := 0) rfl (by decide) rfl m
  rw [Nat.mul_one] at hrep0
  have hrep := hrep0
  refine ⟨fun _ _ => trivial, (madeCells (Value.int .u32 0).cells m).toList, ?_, ?_⟩
  · have h2 := World.ownsRow_lit (base := base) (e := 38) (size := 1) W (madeCells (Value.int .u32 0).cells m) m hbase (by unfold maxLen; omega) (by simp [size_madeCells])
    rw [List.length_replicate]
    show World.ownsRow _ base 38 1 _ _ _
    simpa using h2
  · exact hrep.imp_ (fun p c hp => hp)

theorem make_one {ops : Array Oper} {a : Act} {o : Oper} {Q : Exit → Act → World → Prop} {K : Act → World → Prop} {N : Option Tmp} {w0 W : World} {base : Nat} {x y : Operand} {n : Int} (hw : Region.wanted o (yielded ops a.tmps) = true) (hN : o.dst = N) (ho : o.op = .makeSlice 65 x y) (hx : a.eval x = .int .i64 n) (hy : a.eval y = .int .i64 n) (h0 : 0 ≤ n) (hl : n ≤ 1048576) (HB : Below base w0 W) (hbase : base ≤ W.heap.size)
    (h : ∀ w1, U32.R 38 w1 base (fun _ => True) (.slice (some ⟨W.heap.size, 0, none⟩) n.toNat n.toNat) (List.replicate n.toNat 0) → Below base w0 w1 → W.grownBy w1 none → w1.heap.size = W.heap.size + 1 → K (a.put N (.slice (some ⟨W.heap.size, 0, none⟩) n.toNat n.toNat)) w1) :
    if Region.wanted o (yielded ops a.tmps) = true then Oper.wp Try.prog o a W K Q else K (a.put N undef) W := by
  obtain ⟨w1, hrun, h1, h2, h3, h4⟩ := make_words ho hx hy h0 hl HB hbase
  exact value_ hw hN hrun (h w1 h1 h2 h3 h4)

theorem results_c1 {P : Program} {fn : Func} {p : Tmp} {ty : TypeId} (h : fn.results = #[.cell p ty]) (tmps : Array Value) (w : World) (g : Nat) (t : TypeId) (cs : Array Value) (fr : Nat × Nat) (d : TypeDesc)
    (hp : tmps.getD p undef = .pointer (some ⟨g, 0, none⟩)) (hg : w.heap[g]? = some (.cells cs t fr))
    (hu : P.underlying ty = some d) (hd : (match d with | .struct _ | .array _ _ => true | _ => false) = true) (hi : (P.info? ty).map (·.size) = some cs.size) : (results fn tmps).run P w = .ok (.agg cs) w := by
  have h1 : tmps[p]?.getD undef = .pointer (some ⟨g, 0, none⟩) := by simpa using hp
  simp [results, h, h1, asAddr, run_loadVar_row w g t ty cs fr d hg hu hd hi]

def initS (words : Int) : RS := ⟨zeros words, [], 0, 0, 0⟩

set_option maxHeartbeats 8000000 in
set_option maxRecDepth 100000 in
theorem run_walk {c : Cf} {words fuel : Int} {Af : Option Addr} {cf : Nat} {inp : ByteArray} {w : World} (hC : Kd.C PF.k24 w Af c.fs.length c.fs) (hcf : c.fs.length ≤ cf) (hinp : c.inp = bytesOf inp) (hil : (inp.size : Int) ≤ 4611686018427387904)
    (hfu : c.fuel = fuel) (hf0 : 0 ≤ fuel) (hfl : fuel ≤ 4611686018427387904) (hok : okP words c) (hn0 : 0 < c.fs.length) (hn1 : c.fs.length ≤ 1000000) {k : Nat} {b : Bool} {s' : RS} {r' : List Int} (hex : exec c k (.fn ((c.fs.length : Int) - 1)) (initS words) = some (b, s', r')) :
    Calls Try.prog 20 #[.agg #[.int .i64 words, .slice Af c.fs.length cf], .string inp, .int .i64 fuel] w (fun e w' => e = .returned (.agg #[.int .i64 (if s'.fin = 0 then 1 else s'.fin), .string ⟨(s'.out.map fun x => UInt8.ofNat x.toNat).toArray⟩, .int .i64 s'.st]) ∧ Below w.heap.size w w') := by
  have HC := Aside0.mk hC
  have HEX := Aside0.mk hex
  have HOK := Aside0.mk hok
  have HFU := Aside0.mk hfu
  have HIN := Aside0.mk hinp
  clear hC hex hok hfu hinp
  go_enter Try.func20, Try.ntmps20
  go_wp2
  have hbb := blk_alloc (blk_new w (Obj.cells #[.int .i64 words, .slice Af c.fs.length cf] 44)) (Obj.cells #[.int .i64 0, .string { data := #[] }, .int .i64 0] 47)
  have hbt : ((w.alloc (Obj.cells #[.int .i64 words, .slice Af c.fs.length cf] 44)).alloc (Obj.cells #[.int .i64 0, .string { data := #[] }, .int .i64 0] 47)).heap[w.heap.size + 1]? = some (Obj.cells #[.int .i64 0, .string { data := #[] }, .int .i64 0] 47) := by have := blk_new (w.alloc (Obj.cells #[.int .i64 words, .slice Af c.fs.length cf] 44)) (Obj.cells #[.int .i64 0, .string { data := #[] }, .int .i64 0] 47); simpa using this
  have HBW := Aside0.mk (((Below.refl w.heap.size w).alloc (Nat.le_refl _) (Obj.cells #[.int .i64 words, .slice Af c.fs.length cf] 44)).alloc (by simp) (Obj.cells #[.int .i64 0, .string { data := #[] }, .int .i64 0] 47))
  obtain ⟨bb, hbbe⟩ : ∃ bb : Nat, bb = w.heap.size := ⟨_, rfl⟩
  rw [← hbbe] at hbb hbt ⊢
  generalize (w.alloc (Obj.cells #[.int .i64 words, .slice Af c.fs.length cf] 44)).alloc (Obj.cells #[.int .i64 0, .string { data := #[] }, .int .i64 0] 47) = W at *
  have HBB := Aside0.mk hbbe
  clear hbbe
  have Zb := blk2 hbb
  have hw0 := HOK.out.w0
  have hw1 := HOK.out.w1
  refine start_ (S := fun w' => w'.cell? ⟨bb, 0, none⟩ = some (.int .i64 words) ∧ w'.cell? ⟨bb, 1, none⟩ = some (.slice Af c.fs.length cf)) (ds := []) #[false, false, false, false, false, false, false, false, false] (by kernel_rfl) rfl (by rfl) ⟨Zb.1, Zb.2.1⟩ (fun hHeld => ?_)
  refine pure_ (i := 1) (N := some 16) (v := ?_) (a' := ?_) #[false, true, false, false, false, false, false, false, false] rfl rfl (by kernel_rfl) (fun _ _ _ h => h) (Or.inl ⟨by rfl, ?_⟩) ?_ ?_; rotate_left
  · intro w'
    go_simp
    with_reducible rfl
  rotate_left
  · simp only [Act.put, List.setIfInBounds_toArray, List.set_cons_zero, List.set_cons_succ]
    rfl
  refine pure_ (i := 2) (N := some 17) (v := ?_) (a' := ?_) #[false, true, true, false, false, false, false, false, false] rfl rfl (by kernel_rfl) (fun _ _ _ h => h) (Or.inl ⟨by rfl, ?_⟩) ?_ ?_; rotate_left
  · intro w'
    go_simp
    with_reducible rfl
  rotate_left
  · simp only [Act.put, List.setIfInBounds_toArray, List.set_cons_zero, List.set_cons_succ]
    rfl
  refine pure_ (i := 3) (N := some 18) (v := ?_) (a' := ?_) #[false, true, true, true, false, false, false, false, false] rfl rfl (by kernel_rfl) (fun _ _ _ h => h) (Or.inl ⟨by rfl, ?_⟩) ?_ ?_; rotate_left
  · intro w'
    go_simp
    with_reducible rfl
  rotate_left
  · simp only [Act.put, List.setIfInBounds_toArray, List.set_cons_zero, List.set_cons_succ]
    rfl
  refine take_ (i := 0) (N := some 15) (v := ?_) (a' := ?_) #[true, true, true, true, false, false, false, false, false] rfl rfl (by kernel_rfl) (fun _ _ _ h => h) (Or.inl ⟨by rfl, ?_⟩) hHeld ?_ ?_; rotate_left
  · rintro w' ⟨s0, s1⟩
    go_simp
    with_reducible rfl
  rotate_left
  · simp only [Act.put, List.setIfInBounds_toArray, List.set_cons_zero, List.set_cons_succ]
    rfl
  refine take_ (i := 4) (N := some 19) (v := ?_) (a' := ?_) #[true, true, true, true, true, false, false, false, false] rfl rfl (by kernel_rfl) (fun _ _ _ h => h) (Or.inl ⟨by rfl, ?_⟩) hHeld ?_ ?_; rotate_left
  · rintro w' ⟨s0, s1⟩
    go_simp
    with_reducible rfl
  rotate_left
  · simp only [Act.put, List.setIfInBounds_toArray, List.set_cons_zero, List.set_cons_succ]
    rfl
  refine one_ (i := 5) (N := some 20) #[true, true, true, true, true, true, false, false, false] rfl rfl (by kernel_rfl) (by decide) (fun K hK => ?_)
  refine make_one (x := .tmp 19) (y := .tmp 19) (n := words) (w0 := w) (base := w.heap.size) (by rfl) rfl rfl rfl rfl hw0 hw1 HBW.out.drew HBW.out.size ?_; intro w2 hr2 hb2 hg2 hz2
  have Zb2 := blk2 (blk_grown (blk_drew hbb) hg2 (by simp))
  refine hK.out _ _ ⟨Zb2.1, Zb2.2.1⟩ (fun hHeld => ?_); clear hK K
  refine norm_ (a' := ?_) ?_ ?_; rotate_left
  · show Act.put _ (some 20) _ = _
    simp only [Act.put, List.setIfInBounds_toArray, List.set_cons_zero, List.set_cons_succ]
    rfl
  refine pure_ (i := 6) (N := some 21) (v := ?_) (a' := ?_) #[true, true, true, true, true, true, true, false, false] rfl rfl (by kernel_rfl) (fun _ _ _ h => h) (Or.inl ⟨by rfl, ?_⟩) ?_ ?_; rotate_left
  · intro w'
    go_simp
    with_reducible rfl
  rotate_left
  · simp only [Act.put, List.setIfInBounds_toArray, List.set_cons_zero, List.set_cons_succ]
    rfl
  refine one_ (i := 7) (N := some 22) #[true, true, true, true, true, true, true, true, false] rfl rfl (by kernel_rfl) (by decide) (fun K hK => ?_)
  refine value_ (w1 := ?_) (v := ?_) (by rfl) rfl ?_ ?_; rotate_left 2
  · go_simp
    constructor
    · rfl
    · rfl
  refine hK.out _ _ ⟨pw_cell_below (below_alloc (Below.refl _ _) _) Zb2.1, pw_cell_below (below_alloc (Below.refl _ _) _) Zb2.2.1⟩ (fun hHeld => ?_); clear hK K
  refine norm_ (a' := ?_) ?_ ?_; rotate_left
  · show Act.put _ (some 22) _ = _
    simp only [Act.put, List.setIfInBounds_toArray, List.set_cons_zero, List.set_cons_succ]
    rfl
  refine pure_ (i := 8) (N := some 7) (v := ?_) (a' := ?_) #[true, true, true, true, true, true, true, true, true] rfl rfl (by kernel_rfl) (fun _ _ _ h => h) (Or.inl ⟨by rfl, ?_⟩) ?_ ?_; rotate_left
  · intro w'
    go_simp
    with_reducible rfl
  rotate_left
  · simp only [Act.put, List.setIfInBounds_toArray, List.set_cons_zero, List.set_cons_succ]
    rfl
  refine done_ (by kernel_rfl) ?_
  have hgw : w.heap.size ≤ w2.heap.size := hb2.size
  have hz3 : w2.heap.size = W.heap.size + 1 := hz2
  have h3 : St ⟨w, W.heap.size + 1, words, fuel, .slice Af c.fs.length cf, inp, .slice (some ⟨W.drew.heap.size, 0, none⟩) words.toNat words.toNat⟩ (w2.alloc (rn words (.slice Af c.fs.length cf) inp fuel (.slice (some ⟨W.drew.heap.size, 0, none⟩) words.toNat words.toNat) (.slice none 0 0) 0 0 0)) (w2.alloc (rn words (.slice Af c.fs.length cf) inp fuel (.slice (some ⟨W.drew.heap.size, 0, none⟩) words.toNat words.toNat) (.slice none 0 0) 0 0 0)) (.slice none 0 0) (.slice none 0 0) (initS words) (fun _ => False) :=
    ⟨by have h9 := blk_new w2 (rn words (.slice Af c.fs.length cf) inp fuel (.slice (some ⟨W.drew.heap.size, 0, none⟩) words.toNat words.toNat) (.slice none 0 0) 0 0 0); rw [hz3] at h9; exact h9, Kd.R_alloc hr2 _, Kd.R_nil _ _ _ _ _, by have := HBW.out.size; show w.heap.size ≤ W.heap.size + 1; omega, hb2.alloc hgw _, Kept.refl _ _, fun _ hk => .inl hk⟩
  have hP : Pg ⟨w, W.heap.size + 1, words, fuel, .slice Af c.fs.length cf, inp, .slice (some ⟨W.drew.heap.size, 0, none⟩) words.toNat words.toNat⟩ c words := ⟨⟨Af, cf, rfl, hcf, HC.out⟩, HIN.out, hil, HFU.out, hfl, HOK.out, hn1⟩
  have hos : okS words (initS words) := ⟨(okR_zeros (n := words) hw0).1, (okR_zeros (n := words) hw0).2, Nat.zero_le _, fun y hy => (by cases hy), Int.le_refl _, Int.le_refl _⟩
  have hb3 := blk_alloc (blk_grown (blk_drew hbb) hg2 (by simp)) (rn words (.slice Af c.fs.length cf) inp fuel (.slice (some ⟨W.drew.heap.size, 0, none⟩) words.toNat words.toNat) (.slice none 0 0) 0 0 0)
  have ht3 := blk_alloc (blk_grown (blk_drew hbt) hg2 (by simp)) (rn words (.slice Af c.fs.length cf) inp fuel (.slice (some ⟨W.drew.heap.size, 0, none⟩) words.toNat words.toNat) (.slice none 0 0) 0 0 0)
  have HBTL := Aside0.mk (blk_lt hbt)
  clear Zb Zb2 hHeld hbb hbt hr2 hg2 hz2 hz3
  have H3 := Aside0.mk h3
  clear h3
  change Exit.then _ _ _ _ (w2.alloc (rn words (.slice Af c.fs.length cf) inp fuel (.slice (some ⟨W.drew.heap.size, 0, none⟩) words.toNat words.toNat) (.slice none 0 0) 0 0 0))
  generalize (w2.alloc (rn words (.slice Af c.fs.length cf) inp fuel (.slice (some ⟨W.drew.heap.size, 0, none⟩) words.toNat words.toNat) (.slice none 0 0) 0 0 0)) = w3 at *
  have Zb := blk2 hb3
  have HP := Aside0.mk hP
  have HOS := Aside0.mk hos
  clear hP hos hb2
  have hn2 : 0 ≤ (c.fs.length : Int) - 1 := by omega
  have hbl : bb < w3.heap.size := blk_lt hb3
  go_wp2_with fail
  refine (fun_all HP.out k ((c.fs.length : Int) - 1) w3 (.slice none 0 0) (initS words) b s' r' HEX.out hn2 (by omega) HOS.out rfl H3.out).mono ?_
  rintro e w4 ⟨rfl, vo4, h4⟩
  have ht4 := H3.out.other h4 ht3 (by decide) (fun h => h)
  have H4 := Aside0.mk h4
  clear hb3 ht3 Zb hbl h4
  have Zr := blk9 H4.out.blk
  dsimp only at Zr
  have hou := H4.out.ou
  obtain ⟨A4, c4, rfl⟩ := Kd.R_slice hou
  have HOU := Aside0.mk hou
  clear hou
  have hgl : W.heap.size + 1 < w4.heap.size := blk_lt H4.out.blk
  have hbt : bb + 1 ≠ W.heap.size + 1 := by have h5 := HBTL.out; omega
  by_cases hf : s'.fin = 0
  · have hfb : (s'.fin == 0) = true := beq_iff_eq.2 hf
    go_wp2
    have H5 := Aside0.mk (H4.out.cell 8 (.int .i64 1) { s' with fin := 1 } rfl rfl rfl)
    have ht5 := blk_far ht4 (p := ⟨W.heap.size + 1, 8, none⟩) hbt (.int .i64 1)
    (try dsimp only at H5)
    clear hgl Zr ht4 HOU
    generalize w4.setCell ⟨W.heap.size + 1, 8, none⟩ (.int .i64 1) = w5 at *
    have Zr := blk9 H5.out.blk
    (try dsimp only at Zr)
    have hgl : W.heap.size + 1 < w5.heap.size := blk_lt H5.out.blk
    have hbl : bb + 1 < w5.heap.size := blk_lt ht5
    have Zt := blk3 ht5
    have hcv := Kd.C_string (P := Try.prog) (w := w5.drew) (src := 66) (dst := 9) (e := 5) (c := c4) (by kernel_rfl) (by kernel_rfl) (by kernel_rfl) (Kd.R_reads' (Kd.R_drew H5.out.ou)).2.2
    (try dsimp only at hcv)
    have HT5 := Aside0.mk ht5
    clear ht5
    refine wp_region_still_tail 14 (by kernel_rfl) (by kernel_rfl) ?_
    simp only [List.take_succ_cons, List.take_zero, List.drop_succ_cons, List.drop_zero]
    change wpStill _ _ (World.drew _) _ _ _
    repeat still_step
    try refine wpStill_nil ?_
    go_wp2
    have hend := blk_drew (blk_put (blk_put (blk_put HT5.out 0 (.int .i64 1) rfl) 1 (.string (strOfNums s'.out)) rfl) 2 (.int .i64 s'.st) rfl)
    refine bodyPost_ret (results_c1 rfl _ _ (bb + 1) 47 #[.int .i64 1, .string (strOfNums s'.out), .int .i64 s'.st] (0, 0) _ rfl hend Try.underlying47 rfl (by kernel_rfl)) rfl ⟨?_, ?_⟩
    · (try rw [if_pos hf])
      rfl
    · have h5 := HBB.out
      have hb5 : Below w.heap.size w w5 := H5.out.below
      exact (((hb5.setCell (p := ⟨bb + 1, 0, none⟩) (by show w.heap.size ≤ bb + 1; omega) (.int .i64 1)).setCell (p := ⟨bb + 1, 1, none⟩) (by show w.heap.size ≤ bb + 1; omega) (.string (strOfNums s'.out))).setCell (p := ⟨bb + 1, 2, none⟩) (by show w.heap.size ≤ bb + 1; omega) (.int .i64 s'.st)).drew
  · have hfb : (s'.fin == 0) = false := beq_eq_false_iff_ne.2 hf
    go_wp2
    have H5 := H4
    have ht5 := ht4
    clear hgl Zr ht4 HOU
    generalize w4 = w5 at *
    have Zr := blk9 H5.out.blk
    (try dsimp only at Zr)
    have hgl : W.heap.size + 1 < w5.heap.size := blk_lt H5.out.blk
    have hbl : bb + 1 < w5.heap.size := blk_lt ht5
    have Zt := blk3 ht5
    have hcv := Kd.C_string (P := Try.prog) (w := w5.drew) (src := 66) (dst := 9) (e := 5) (c := c4) (by kernel_rfl) (by kernel_rfl) (by kernel_rfl) (Kd.R_reads' (Kd.R_drew H5.out.ou)).2.2
    (try dsimp only at hcv)
    have HT5 := Aside0.mk ht5
    clear ht5
    refine wp_region_still_tail 14 (by kernel_rfl) (by kernel_rfl) ?_
    simp only [List.take_succ_cons, List.take_zero, List.drop_succ_cons, List.drop_zero]
    change wpStill _ _ (World.drew _) _ _ _
    repeat still_step
    try refine wpStill_nil ?_
    go_wp2
    have hend := blk_drew (blk_put (blk_put (blk_put HT5.out 0 (.int .i64 s'.fin) rfl) 1 (.string (strOfNums s'.out)) rfl) 2 (.int .i64 s'.st) rfl)
    refine bodyPost_ret (results_c1 rfl _ _ (bb + 1) 47 #[.int .i64 s'.fin, .string (strOfNums s'.out), .int .i64 s'.st] (0, 0) _ rfl hend Try.underlying47 rfl (by kernel_rfl)) rfl ⟨?_, ?_⟩
    · (try rw [if_neg hf])
      rfl
    · have h5 := HBB.out
      have hb5 : Below w.heap.size w w5 := H5.out.below
      exact (((hb5.setCell (p := ⟨bb + 1, 0, none⟩) (by show w.heap.size ≤ bb + 1; omega) (.int .i64 s'.fin)).setCell (p := ⟨bb + 1, 1, none⟩) (by show w.heap.size ≤ bb + 1; omega) (.string (strOfNums s'.out))).setCell (p := ⟨bb + 1, 2, none⟩) (by show w.heap.size ≤ bb + 1; omega) (.int .i64 s'.st)).drew
end Go.Proofs.Ytcfagmdopkginaa.RunW
