import Derived.Test.YthheakfgmombdaaCDelsarteLinearG
/- Part H of the proof: FRef24Span, FRef01Trim, FRef01Of, FRef24Weights, FRef01Zero, FRef01zlimb, FRef01Add, FRef01Cmp, FRef01Sub, FRef01Bits, FRef01zshift, FRef01DivMod, FRef01Gcd, FRef02Make, FRef02Nat, FLaw36DelsarteLinear. -/
section
namespace Go.Proofs.Ythheakfgmombdaa.F
open Go.RowKit Go.Proofs.YthheakfgmombdaaX.PrintWords Go.Proofs.YthheakfgmombdaaX.PrintLast Go.Proofs.YthheakfgmombdaaX.PrintMore
attribute [local go_sem] max2_int min2_int max_two min_two max_three min_three max_four min_four   -- for this text's walks alone
set_option linter.unusedVariables false
set_option linter.unusedSimpArgs false
def codewrightref24_Span.T5 : Bool × List (List Nat × List Nat) := (true, [([], []), ([], []), ([], []), ([], []), ([2, 3], [2, 3]), ([4], [4]), ([0, 1, 5], [0, 1, 5]), ([6, 6, 0, 1, 2, 3, 4, 5, 6], [6])])
def codewrightref24_Span.B5 : List Nat := [0, 0, 0, 0, 12, 28, 63, 127]
theorem codewrightref24_Span.tab5 : rtab .any (opsOf Try.f36 5) = codewrightref24_Span.T5 := by kernel_rfl
theorem codewrightref24_Span.bits5 : waitsOk codewrightref24_Span.T5.2 codewrightref24_Span.B5 = true := by kernel_rfl
def codewrightref24_Span.T20 : Bool × List (List Nat × List Nat) := (true, [([], []), ([], []), ([], []), ([], []), ([], []), ([3, 4], [3, 4]), ([5], [5]), ([], []), ([6, 7], [6, 7]), ([8], [8]), ([], []), ([], []), ([], []), ([], []), ([12, 13], [12, 13]), ([14], [14]), ([10, 11, 15], [10, 11, 15]), ([2, 9, 16, 16], [2, 9, 16]), ([0, 1, 0, 1, 2, 3, 4, 5, 6, 7, 8, 9, 10, 11, 12, 13, 14, 15, 16, 17], [0, 1]), ([18, 17, 17, 0, 1, 2, 3, 4, 5, 6, 7, 8, 9, 10, 11, 12, 13, 14, 15, 16, 17], [17, 18])])
def codewrightref24_Span.B20 : List Nat := [0, 0, 0, 0, 0, 24, 56, 0, 248, 504, 0, 0, 0, 0, 12288, 28672, 64512, 131068, 262143, 524287]
theorem codewrightref24_Span.tab20 : rtab .any (opsOf Try.f36 20) = codewrightref24_Span.T20 := by kernel_rfl
theorem codewrightref24_Span.bits20 : waitsOk codewrightref24_Span.T20.2 codewrightref24_Span.B20 = true := by kernel_rfl
set_option maxHeartbeats 8000000 in
set_option maxRecDepth 100000 in
theorem codewrightref24_Span.calls (k : Nat) (a0_0 : Int) (a0_1 : Int) (A0_2 : Option Addr) (c0_2 : Nat) (l0_2 : List Int) (a1 : Int) (A2 : Option Addr) (c2 : Nat) (l2 : List (List Int)) (a3 : Int) (r : List (List Int)) (w : World) (hr0_2 : Kd.C (Kd.int .i64) w A0_2 l0_2.length l0_2) (hc0_2 : l0_2.length ≤ c0_2) (hr2 : Kd.C (Kd.slice 3 (Kd.int .i64)) w A2 l2.length l2) (hc2 : l2.length ≤ c2) (h : codewrightref24_Span.f k a0_0 a0_1 l0_2 a1 l2 a3 = some r) :
  Calls Try.prog 36 #[.agg #[.int .i64 a0_0, .int .i64 a0_1, .slice A0_2 l0_2.length c0_2], .int .i64 a1, .slice A2 l2.length c2, .int .i64 a3] w fun e w' => ∃ v0_ : Value, e = .returned (v0_) ∧ Kd.N (Kd.slice 3 (Kd.int .i64)) 41 w' w.heap.size (fun k_ => (w.heap.size ≤ k_)) v0_ r ∧ Below w.heap.size w w' := by
 have hu53 := Try.underlying53
 have HR0_2 := Aside0.mk hr0_2
 have HC0_2 := Aside0.mk hc0_2
 clear hr0_2 hc0_2
 have HR2 := Aside0.mk hr2
 have HC2 := Aside0.mk hc2
 clear hr2 hc2
 have HB := Aside0.mk (Below.refl w.heap.size w)
 have H : (if 0 ≤ a1 then (if (a1 : Int).toNat ≤ 35184372088832 then (codewrightref24_Span.l0 k a1 l2 a3 (([(List.replicate (a1 : Int).toNat 0)] : List (List Int))) 0 a0_0 a0_1 l0_2) else (none)) else (none)) = some r := h
 clear h
 by_cases c5 : 0 ≤ a1
 ·rw [if_pos c5] at H
  have c5b0 := eq_true c5
  have c5b1 : decide (0 ≤ a1) = true := decide_eq_true c5
  clear c5
  by_cases c6 : (a1 : Int).toNat ≤ 35184372088832
  ·rw [if_pos c6] at H
   have c6b0 := eq_true c6
   have c6b1 : decide ((a1 : Int).toNat ≤ 35184372088832) = true := decide_eq_true c6
   clear c6
   obtain ⟨y413, hy413⟩ : ∃ y_ : List Int, y_ = (List.replicate (a1 : Int).toNat 0) := ⟨_, rfl⟩
   replace H : (codewrightref24_Span.l0 k a1 l2 a3 (([y413] : List (List Int))) 0 a0_0 a0_1 l0_2) = some r := by (rw [hy413]; with_reducible exact H)
   have Ny413 := Aside0.mk hy413
   clear hy413
   obtain ⟨y416, hy416⟩ : ∃ y_ : List (List Int), y_ = (([y413] : List (List Int))) := ⟨_, rfl⟩
   replace H : (codewrightref24_Span.l0 k a1 l2 a3 y416 0 a0_0 a0_1 l0_2) = some r := by (rw [hy416]; with_reducible exact H)
   have Ny416 := Aside0.mk hy416
   clear hy416
   have H' := Aside0.mk H
   clear H
   go_enter Try.func36, Try.ntmps36
   go_wp2_with (first | ((with_reducible refine gate_dst (N := 4) rfl ?_); refine box_event ?hg (N := 4) ?hd (cs := #[.int .i64 a0_0, .int .i64 a0_1, .slice A0_2 l0_2.length c0_2]) (t := 53) ?hr ?_; (case hd => rfl); (case hg => rfl); (case hr => (go_simp; done)); intro gb412 hg w7 hbox hb; have n0_ := Aside0.mk (below_step (by repeat ((with_reducible exact HB.out))) hb); have n1_ := Aside0.mk (hbox); have n2_ := Aside0.mk ((by rw [hg]; exact (below_size (by repeat ((with_reducible exact HB.out)))) : w.heap.size ≤ gb412)); have n3_ := Aside0.mk ((by rw [hg]; exact (below_size (by repeat ((with_reducible exact HB.out)))) : w.heap.size ≤ gb412)); clear HB; have HB := n0_; have BK412 := n1_; have GW412 := n2_; have GE412 := n3_; clear n0_ n1_ n2_ n3_; clear hb hbox hg) | ((with_reducible refine gate_dst (N := 18) rfl ?_); refine Kd.R_make (Kd.int .i64) _ 3 rfl (N := 18) rfl 41 _ _ rfl a1 rfl rfl Try.underlying41 (.int .i64 0) 8 info3 rfl (by decide) (by omega) 0 (ok := fun _ => True) (okp := fun _ => True) rfl (fun _ hk => hk) trivial (of_decide_eq_true (by (with_reducible assumption))) (Nat.le_trans (Nat.mul_le_mul_right _ (of_decide_eq_true (by (with_reducible assumption)) : a1.toNat ≤ 35184372088832)) (by omega)) (Below.refl _ _) (Nat.le_refl _) ?_; intro v414 w8 ho9 hb hg_ hnew_; clear hg_ hnew_; (rw [← Ny413.out] at ho9); have n0_ := Aside0.mk (Kd.R_lower (Kd.R_newM (M := fun k_ => (w.heap.size ≤ k_)) ho9 (below_size (by repeat ((with_reducible exact HB.out)))) (fun k_ h_ => h_)) (below_size (by repeat ((with_reducible exact HB.out))))); have n1_ := Aside0.mk (blk_below (g := gb412) (o := .cells #[.int .i64 a0_0, .int .i64 a0_1, .slice A0_2 l0_2.length c0_2] 53 (0, 0)) (by (with_reducible repeat (fail)); exact BK412.out) hb); have n2_ := Aside0.mk (below_step (by repeat ((with_reducible exact HB.out))) hb); clear BK412; clear HB; have HO415 := n0_; have BK412 := n1_; have HB := n2_; clear n0_ n1_ n2_; clear hb ho9; obtain ⟨Ao10, co10, eo10⟩ := Kd.R_slice HO415.out; subst eo10) | ((with_reducible refine gate_dst (N := 19) rfl ?_); refine Kd.N_lit (Kd.slice 3 (Kd.int .i64)) _ 41 ?hg (N' := 19) ?hd (xs := ([y413] : List (List Int))) (inner := [.slice Ao10 y413.length co10]) (ok := (fun k_ => (w.heap.size ≤ k_) ∧ k_ ≠ gb412)) (okp := (fun k_ => (w.heap.size ≤ k_) ∧ k_ ≠ gb412)) ?hr ?hp (fun _ hk => hk) ((show ∀ k_, w8.heap.size ≤ k_ → (fun k_ => (w.heap.size ≤ k_) ∧ k_ ≠ gb412) k_ from fun k_ hk => ⟨(Nat.le_trans (below_size (by repeat ((with_reducible exact HB.out)))) hk), Kd.freshB (g := gb412) (o := .cells #[.int .i64 a0_0, .int .i64 a0_1, .slice A0_2 l0_2.length c0_2] 53 (0, 0)) (by (with_reducible repeat (fail)); exact BK412.out) k_ hk⟩) _ (Nat.le_refl _)) (Below.refl _ _) (Nat.le_refl _) (by simp) ?_; (case hd => rfl); (case hg => rfl); (case hr => (go_simp; done)); (case hp => exact (Reps.one (show Kd.FK (Kd.slice 3 (Kd.int .i64)) _ _ y413 [.slice Ao10 y413.length co10] from (Kd.FK_slice_mk (Kd.R_reads' (Kd.R_mono (ok' := (fun k_ => (w.heap.size ≤ k_) ∧ k_ ≠ gb412)) (Kd.R_types (HO415.out) BK412.out (by decide)) (fun k_ hk => ⟨hk.1.1, hk.2⟩))).2.1 (Kd.R_F (Kd.R_mono (ok' := (fun k_ => (w.heap.size ≤ k_) ∧ k_ ≠ gb412)) (Kd.R_types (HO415.out) BK412.out (by decide)) (fun k_ hk => ⟨hk.1.1, hk.2⟩))))) (Reps.none _ _))); intro v417 w11 ho12 hb hg_ hnew_; clear hg_ hnew_; (rw [← Ny416.out] at ho12); have n0_ := Aside0.mk (Kd.N_lower ho12 (below_size (by repeat ((with_reducible exact HB.out))))); have n1_ := Aside0.mk (blk_below (g := gb412) (o := .cells #[.int .i64 a0_0, .int .i64 a0_1, .slice A0_2 l0_2.length c0_2] 53 (0, 0)) (by (with_reducible repeat (fail)); exact BK412.out) hb); have n2_ := Aside0.mk (below_step (by repeat ((with_reducible exact HB.out))) hb); clear BK412; clear HB; clear HO415; have HO418 := n0_; have BK412 := n1_; have HB := n2_; clear n0_ n1_ n2_; clear hb ho12))
   go_loopg [9, 10] k (fun kq v9 v10 w' => ∃ (x9_1 : List (List Int)) (x10_1 : Int), v10 = .int .i64 x10_1 ∧ Aside0 (codewrightref24_Span.l0 kq a1 l2 a3 x9_1 x10_1 a0_0 a0_1 l0_2 = some r) ∧ Aside0 (kq ≤ k) ∧ Aside0 (Kd.N (Kd.slice 3 (Kd.int .i64)) 41 w' w.heap.size (fun k_ => (w.heap.size ≤ k_) ∧ k_ ≠ gb412) v9 x9_1) ∧ Aside0 (w'.heap[gb412]? = some (.cells #[.int .i64 a0_0, .int .i64 a0_1, (.slice A0_2 l0_2.length c0_2)] 53 (0, 0))) ∧ Aside0 (Below w.heap.size w w'))
   case atStart => exact ⟨(y416), (0), (by rfl), H', ⟨Nat.le_refl _⟩, ⟨by (with_reducible repeat (fail)); exact HO418.out⟩, ⟨by (with_reducible repeat (fail)); exact BK412.out⟩, ⟨by repeat ((with_reducible exact HB.out))⟩⟩
   case round =>
    clear H'
    try clear c5b0
    try clear c5b1
    try clear c6b0
    try clear c6b1
    obtain ⟨x9_1, x10_1, rfl, HA, HK1, HO_9, BK412, HB⟩ := hrel
    cases gk with
    | zero => exact absurd HA.out (by simp [codewrightref24_Span.l0])
    | succ k1 =>
     have H := HA.out
     clear HA
     simp only [codewrightref24_Span.l0] at H
     by_cases c13 : x10_1 < (l2.length : Int)
     ·rw [if_pos c13] at H
      have c13b0 : decide (x10_1 < (l2.length : Int)) = true := decide_eq_true c13
      clear c13
      by_cases c14 : 0 ≤ x10_1
      ·rw [if_pos c14] at H
       have c14b0 : decide (0 ≤ x10_1) = true := decide_eq_true c14
       clear c14
       replace H := Option.bind_eq_some_iff.mp H
       obtain ⟨t420, A150, H⟩ := H
       replace H : ((codewrightref24_has.f k1 x9_1 t420).bind fun t423 => (if t423 = true then (codewrightref24_Span.l0 k1 a1 l2 a3 x9_1 (wrap64 (x10_1 + 1)) a0_0 a0_1 l0_2) else ((codewrightref04_Order.f k1 a0_0 a0_1 l0_2).bind fun t424 => (if t424 = 0 then (none) else (if (x9_1.length : Int) > (wrap64 (Int.tdiv a3 t424)) then (some ([] : List (List Int))) else (codewrightref24_Span.l1 k1 a1 l2 a3 x9_1 x10_1 t420 ([] : List (List Int)) 0 a0_0 a0_1 l0_2)))))) = some r := H
       have A15 := Aside0.mk A150
       clear A150
       replace H := Option.bind_eq_some_iff.mp H
       obtain ⟨t423, A160, H⟩ := H
       replace H : (if t423 = true then (codewrightref24_Span.l0 k1 a1 l2 a3 x9_1 (wrap64 (x10_1 + 1)) a0_0 a0_1 l0_2) else ((codewrightref04_Order.f k1 a0_0 a0_1 l0_2).bind fun t424 => (if t424 = 0 then (none) else (if (x9_1.length : Int) > (wrap64 (Int.tdiv a3 t424)) then (some ([] : List (List Int))) else (codewrightref24_Span.l1 k1 a1 l2 a3 x9_1 x10_1 t420 ([] : List (List Int)) 0 a0_0 a0_1 l0_2))))) = some r := H
       have A16 := Aside0.mk A160
       clear A160
       by_cases c17 : t423 = true
       ·subst c17
        have H1 : (codewrightref24_Span.l0 k1 a1 l2 a3 x9_1 (wrap64 (x10_1 + 1)) a0_0 a0_1 l0_2) = some r := by rw [if_pos rfl] at H; exact H
        clear H
        have H := H1
        clear H1
        have H' := Aside0.mk H
        clear H
        try go_wp2
        have n0_ := Aside0.mk (Kd.N_drew HO_9.out)
        have n1_ := Aside0.mk (blk_drew BK412.out)
        have n2_ := Aside0.mk (below_drew1 HB.out)
        clear HO_9
        clear BK412
        clear HB
        have HO_9 := n0_
        have BK412 := n1_
        have HB := n2_
        clear n0_ n1_ n2_
        have p419 : 0 ≤ (x10_1 : Int) := of_decide_eq_true (by (with_reducible assumption))
        have q419 : x10_1 < (l2.length : Int) := of_decide_eq_true (by (with_reducible assumption))
        obtain ⟨ad419, A419_0, c419_0, e419, hx419_0, hl419_0, hi419_0⟩ := at_LI HR2.out x10_1 p419 q419
        have hw419_0 := hx419_0
        cases e419
        replace hx419_0 := (HB.out.cell (World.block_lt_of_cell? w _ hx419_0)).trans hx419_0
        have HR419_0 := Aside0.mk hi419_0
        have HC419_0 := Aside0.mk hl419_0
        clear hi419_0 hl419_0
        replace p419 := eq_true p419
        replace q419 := eq_true q419
        refine start_ (n := 8) (S := fun w' => w'.cell? ⟨gb412, 0, none⟩ = some (.int .i64 a0_0) ∧ w'.cell? ⟨gb412, 1, none⟩ = some (.int .i64 a0_1) ∧ w'.cell? ⟨gb412, 2, none⟩ = some (.slice A0_2 l0_2.length c0_2) ∧ w'.cell? (ad419.add (x10_1).toNat) = some (.slice A419_0 (rd_LI l2 x10_1).length c419_0)) (ds := []) #[false, false, false, false, false, false, false, false] (by kernel_rfl) rfl rfl ⟨(blk_cell BK412.out 0).trans rfl, (blk_cell BK412.out 1).trans rfl, (blk_cell BK412.out 2).trans rfl, ((HB.out.cell (World.block_lt_of_cell? w _ hw419_0)).trans hw419_0)⟩ (fun hHeld => ?_); refine with_tabW codewrightref24_Span.tab5 codewrightref24_Span.bits5 (fun HT_ HW_ => ?_)
        generalize wr.drew = w18 at HO_9 BK412 HB HR419_0 hx419_0 hHeld ⊢
        refine pure_ (i := 1) (N := some 27) (v := ?_) (a' := ?_) #[false, true, false, false, false, false, false, false] rfl rfl (any_of HT_.out (by kernel_rfl)) (fun _ _ _ h => h) (Or.inl ⟨by rfl, ?_⟩) ?_ ?_
        rotate_left
        ·intro w'
         go_simp
         with_reducible rfl
        rotate_left
        ·simp only [Act.put, List.setIfInBounds_toArray, List.set_cons_zero, List.set_cons_succ, i64_w, i32_w]
         rfl
        refine pure_ (i := 2) (N := some 28) (v := ?_) (a' := ?_) #[false, true, true, false, false, false, false, false] rfl rfl (any_of HT_.out (by kernel_rfl)) (fun _ _ _ h => h) (Or.inl ⟨by rfl, ?_⟩) ?_ ?_
        rotate_left
        ·intro w'
         go_simp
         with_reducible rfl
        rotate_left
        ·simp only [Act.put, List.setIfInBounds_toArray, List.set_cons_zero, List.set_cons_succ, i64_w, i32_w]
         rfl
        refine pure_ (i := 3) (N := some 29) (v := ?_) (a' := ?_) #[false, true, true, true, false, false, false, false] rfl rfl (any_of HT_.out (by kernel_rfl)) (fun _ _ _ h => h) (Or.inl ⟨by rfl, ?_⟩) ?_ ?_
        rotate_left
        ·intro w'
         go_simp
         with_reducible rfl
        rotate_left
        ·simp only [Act.put, List.setIfInBounds_toArray, List.set_cons_zero, List.set_cons_succ, i64_w, i32_w]
         rfl
        refine pure_ (i := 4) (N := some 30) (v := ?_) (a' := ?_) #[false, true, true, true, true, false, false, false] rfl rfl (any_of HT_.out (by kernel_rfl)) (fun _ _ _ h => h) (Or.inl ⟨by rfl, ?_⟩) ?_ ?_
        rotate_left
        ·intro w'
         go_simp
         with_reducible rfl
        rotate_left
        ·simp only [Act.put, List.setIfInBounds_toArray, List.set_cons_zero, List.set_cons_succ, i64_w, i32_w]
         rfl
        refine take_ (i := 0) (N := some 26) (v := ?_) (a' := ?_) #[true, true, true, true, true, false, false, false] rfl rfl (take_ofW HT_.out HW_.out (by kernel_rfl)) (fun _ _ _ h => h) (Or.inl ⟨by rfl, ?_⟩) hHeld ?_ ?_
        rotate_left
        ·rintro w' ⟨s0, s1, s2, s3⟩
         go_simp
         with_reducible rfl
        rotate_left
        ·simp only [Act.put, List.setIfInBounds_toArray, List.set_cons_zero, List.set_cons_succ, i64_w, i32_w]
         rfl
        refine take_ (i := 5) (N := some 31) (v := ?_) (a' := ?_) #[true, true, true, true, true, true, false, false] rfl rfl (take_ofW HT_.out HW_.out (by kernel_rfl)) (fun _ _ _ h => h) (Or.inl ⟨by rfl, ?_⟩) hHeld ?_ ?_
        rotate_left
        ·rintro w' ⟨s0, s1, s2, s3⟩
         go_simp
         with_reducible rfl
        rotate_left
        ·simp only [Act.put, List.setIfInBounds_toArray, List.set_cons_zero, List.set_cons_succ, i64_w, i32_w]
         rfl
        refine one_ (i := 6) (N := some 32) #[true, true, true, true, true, true, true, false] rfl rfl (one_of HT_.out (by kernel_rfl)) (by decide) (fun K hK => ?_)
        refine goes_ Try.func76 (by kernel_rfl) rfl #[.agg #[.int .i64 a0_0, .int .i64 a0_1, .slice A0_2 l0_2.length c0_2], .int .i64 a1, .slice A419_0 (rd_LI l2 x10_1).length c419_0] (by rfl) rfl rfl (by (try simp only [List.map_toArray, List.map_cons, List.map_nil]); rfl) ?_
        with_reducible refine (codewrightref24_Row.calls k1 a0_0 a0_1 _ _ l0_2 a1 _ _ (rd_LI l2 x10_1) t420 _ ?side1 ?side2 ?side3 ?side4 A15.out).mono ?_
        (case side1 => repeat (exact (Kd.C_below HR0_2.out HB.out)))
        (case side2 => exact HC0_2.out)
        (case side3 => repeat (exact (Kd.C_below HR419_0.out HB.out)))
        (case side4 => exact HC419_0.out)
        rintro e w19 ⟨v421, rfl, ho0, hb⟩
        refine ⟨_, rfl, ?_⟩
        have n0_ := Aside0.mk (Kd.N_elder' (by (with_reducible repeat (fail)); exact HO_9.out) (Kd.R_base ho0) hb)
        have n1_ := Aside0.mk (Kd.R_lower (Kd.R_newM (M := fun k_ => (w.heap.size ≤ k_)) ho0 (below_size (by repeat ((with_reducible exact HB.out)))) (fun k_ h_ => h_)) (below_size (by repeat ((with_reducible exact HB.out)))))
        have n2_ := Aside0.mk (blk_below (g := gb412) (o := .cells #[.int .i64 a0_0, .int .i64 a0_1, .slice A0_2 l0_2.length c0_2] 53 (0, 0)) (by (with_reducible repeat (fail)); exact BK412.out) hb)
        have n3_ := Aside0.mk (below_step (by repeat ((with_reducible exact HB.out))) hb)
        clear HO_9
        clear BK412
        clear HB
        have HO_9 := n0_
        have HO422 := n1_
        have BK412 := n2_
        have HB := n3_
        clear n0_ n1_ n2_ n3_
        (try clear hb)
        (try clear ho0)
        refine hK.out _ _ ⟨(blk_cell BK412.out 0).trans rfl, (blk_cell BK412.out 1).trans rfl, (blk_cell BK412.out 2).trans rfl, ((HB.out.cell (World.block_lt_of_cell? w _ hw419_0)).trans hw419_0)⟩ (fun hHeld => ?_)
        clear hK K
        refine norm_ (a' := ?_) ?_ ?_
        rotate_left
        ·show Act.put _ (some 32) _ = _
         simp only [Act.put, List.setIfInBounds_toArray, List.set_cons_zero, List.set_cons_succ, i64_w, i32_w]
         rfl
        refine pure_ (i := 7) (N := some 11) (v := ?_) (a' := ?_) #[true, true, true, true, true, true, true, true] rfl rfl (any_of HT_.out (by kernel_rfl)) (fun _ _ _ h => h) (Or.inl ⟨by rfl, ?_⟩) ?_ ?_
        rotate_left
        ·intro w'
         go_simp
         with_reducible rfl
        rotate_left
        ·simp only [Act.put, List.setIfInBounds_toArray, List.set_cons_zero, List.set_cons_succ, i64_w, i32_w]
         rfl
        refine done_ (done_of HT_.out (by kernel_rfl)) ?_
        obtain ⟨Ao20, co20, eo20⟩ := Kd.N_slice HO_9.out
        subst eo20
        obtain ⟨Ao21, co21, eo21⟩ := Kd.R_slice HO422.out
        subst eo21
        try go_wp2_with (((with_reducible refine gate_callee (f := 77) rfl ?_); refine goesL_ (some 35) rfl rfl Try.func77 (by kernel_rfl) rfl #[.slice Ao20 x9_1.length co20, .slice Ao21 t420.length co21] rfl (by (try simp only [List.map_toArray, List.map_cons, List.map_nil]); rfl) ?_; (with_reducible refine (codewrightref24_has.calls k1 _ _ x9_1 _ _ t420 true _ ?side1 ?side2 ?side3 ?side4 A16.out).mono ?_); (case side1 => exact (Kd.N_reads' HO_9.out).2.2); (case side2 => exact (Kd.N_reads' HO_9.out).2.1); (case side3 => exact (Kd.R_reads' HO422.out).2.2); (case side4 => exact (Kd.R_reads' HO422.out).2.1); rintro e w' ⟨rfl, ⟨nd, rfl⟩⟩; refine ⟨_, rfl, ?_⟩))
        go_roundg k1
        case measure => have := HK1.out; omega
        case rel => exact ⟨(x9_1), (wrap64 (x10_1 + 1)), (by rfl), H', ⟨by have := HK1.out; omega⟩, ⟨by (with_reducible repeat (apply Kd.N_drewN)); exact Kd.N_mono HO_9.out (fun _ hk => ⟨hk.1.1, hk.1.2⟩)⟩, ⟨by (with_reducible repeat (refine blk_drewN ?_ _)); exact BK412.out⟩, ⟨by repeat ((with_reducible first | exact HB.out | apply pw_below_drewN))⟩⟩
       ·replace c17 := Bool.eq_false_iff.mpr c17
        subst c17
        have H1 : ((codewrightref04_Order.f k1 a0_0 a0_1 l0_2).bind fun t424 => (if t424 = 0 then (none) else (if (x9_1.length : Int) > (wrap64 (Int.tdiv a3 t424)) then (some ([] : List (List Int))) else (codewrightref24_Span.l1 k1 a1 l2 a3 x9_1 x10_1 t420 ([] : List (List Int)) 0 a0_0 a0_1 l0_2)))) = some r := by rw [if_neg (show ¬ (false = true) by decide)] at H; exact H
        clear H
        have H := H1
        clear H1
        replace H := Option.bind_eq_some_iff.mp H
        obtain ⟨t424, A220, H⟩ := H
        replace H : (if t424 = 0 then (none) else (if (x9_1.length : Int) > (wrap64 (Int.tdiv a3 t424)) then (some ([] : List (List Int))) else (codewrightref24_Span.l1 k1 a1 l2 a3 x9_1 x10_1 t420 ([] : List (List Int)) 0 a0_0 a0_1 l0_2))) = some r := H
        have A22 := Aside0.mk A220
        clear A220
        by_cases c23 : t424 = 0
        ·rw [if_pos c23] at H
         exact absurd H (by simp)
        ·rw [if_neg c23] at H
         have c23b0 : (t424 == 0) = false := beq_eq_false_iff_ne.mpr c23
         have c23b1 : (t424 != 0) = true := bne_iff_ne.mpr c23
         by_cases c24 : (x9_1.length : Int) > (wrap64 (Int.tdiv a3 t424))
         ·rw [if_pos c24] at H
          have c24b0 : decide ((wrap64 (Int.tdiv a3 t424)) < (x9_1.length : Int)) = true := decide_eq_true c24
          clear c24
          obtain rfl := Option.some.inj H
          try go_wp2
          have n0_ := Aside0.mk (Kd.N_drew HO_9.out)
          have n1_ := Aside0.mk (blk_drew BK412.out)
          have n2_ := Aside0.mk (below_drew1 HB.out)
          clear HO_9
          clear BK412
          clear HB
          have HO_9 := n0_
          have BK412 := n1_
          have HB := n2_
          clear n0_ n1_ n2_
          have p419 : 0 ≤ (x10_1 : Int) := of_decide_eq_true (by (with_reducible assumption))
          have q419 : x10_1 < (l2.length : Int) := of_decide_eq_true (by (with_reducible assumption))
          obtain ⟨ad419, A419_0, c419_0, e419, hx419_0, hl419_0, hi419_0⟩ := at_LI HR2.out x10_1 p419 q419
          have hw419_0 := hx419_0
          cases e419
          replace hx419_0 := (HB.out.cell (World.block_lt_of_cell? w _ hx419_0)).trans hx419_0
          have HR419_0 := Aside0.mk hi419_0
          have HC419_0 := Aside0.mk hl419_0
          clear hi419_0 hl419_0
          replace p419 := eq_true p419
          replace q419 := eq_true q419
          refine start_ (n := 8) (S := fun w' => w'.cell? ⟨gb412, 0, none⟩ = some (.int .i64 a0_0) ∧ w'.cell? ⟨gb412, 1, none⟩ = some (.int .i64 a0_1) ∧ w'.cell? ⟨gb412, 2, none⟩ = some (.slice A0_2 l0_2.length c0_2) ∧ w'.cell? (ad419.add (x10_1).toNat) = some (.slice A419_0 (rd_LI l2 x10_1).length c419_0)) (ds := []) #[false, false, false, false, false, false, false, false] (by kernel_rfl) rfl rfl ⟨(blk_cell BK412.out 0).trans rfl, (blk_cell BK412.out 1).trans rfl, (blk_cell BK412.out 2).trans rfl, ((HB.out.cell (World.block_lt_of_cell? w _ hw419_0)).trans hw419_0)⟩ (fun hHeld => ?_); refine with_tabW codewrightref24_Span.tab5 codewrightref24_Span.bits5 (fun HT_ HW_ => ?_)
          generalize wr.drew = w25 at HO_9 BK412 HB HR419_0 hx419_0 hHeld ⊢
          refine pure_ (i := 1) (N := some 27) (v := ?_) (a' := ?_) #[false, true, false, false, false, false, false, false] rfl rfl (any_of HT_.out (by kernel_rfl)) (fun _ _ _ h => h) (Or.inl ⟨by rfl, ?_⟩) ?_ ?_
          rotate_left
          ·intro w'
           go_simp
           with_reducible rfl
          rotate_left
          ·simp only [Act.put, List.setIfInBounds_toArray, List.set_cons_zero, List.set_cons_succ, i64_w, i32_w]
           rfl
          refine pure_ (i := 2) (N := some 28) (v := ?_) (a' := ?_) #[false, true, true, false, false, false, false, false] rfl rfl (any_of HT_.out (by kernel_rfl)) (fun _ _ _ h => h) (Or.inl ⟨by rfl, ?_⟩) ?_ ?_
          rotate_left
          ·intro w'
           go_simp
           with_reducible rfl
          rotate_left
          ·simp only [Act.put, List.setIfInBounds_toArray, List.set_cons_zero, List.set_cons_succ, i64_w, i32_w]
           rfl
          refine pure_ (i := 3) (N := some 29) (v := ?_) (a' := ?_) #[false, true, true, true, false, false, false, false] rfl rfl (any_of HT_.out (by kernel_rfl)) (fun _ _ _ h => h) (Or.inl ⟨by rfl, ?_⟩) ?_ ?_
          rotate_left
          ·intro w'
           go_simp
           with_reducible rfl
          rotate_left
          ·simp only [Act.put, List.setIfInBounds_toArray, List.set_cons_zero, List.set_cons_succ, i64_w, i32_w]
           rfl
          refine pure_ (i := 4) (N := some 30) (v := ?_) (a' := ?_) #[false, true, true, true, true, false, false, false] rfl rfl (any_of HT_.out (by kernel_rfl)) (fun _ _ _ h => h) (Or.inl ⟨by rfl, ?_⟩) ?_ ?_
          rotate_left
          ·intro w'
           go_simp
           with_reducible rfl
          rotate_left
          ·simp only [Act.put, List.setIfInBounds_toArray, List.set_cons_zero, List.set_cons_succ, i64_w, i32_w]
           rfl
          refine take_ (i := 0) (N := some 26) (v := ?_) (a' := ?_) #[true, true, true, true, true, false, false, false] rfl rfl (take_ofW HT_.out HW_.out (by kernel_rfl)) (fun _ _ _ h => h) (Or.inl ⟨by rfl, ?_⟩) hHeld ?_ ?_
          rotate_left
          ·rintro w' ⟨s0, s1, s2, s3⟩
           go_simp
           with_reducible rfl
          rotate_left
          ·simp only [Act.put, List.setIfInBounds_toArray, List.set_cons_zero, List.set_cons_succ, i64_w, i32_w]
           rfl
          refine take_ (i := 5) (N := some 31) (v := ?_) (a' := ?_) #[true, true, true, true, true, true, false, false] rfl rfl (take_ofW HT_.out HW_.out (by kernel_rfl)) (fun _ _ _ h => h) (Or.inl ⟨by rfl, ?_⟩) hHeld ?_ ?_
          rotate_left
          ·rintro w' ⟨s0, s1, s2, s3⟩
           go_simp
           with_reducible rfl
          rotate_left
          ·simp only [Act.put, List.setIfInBounds_toArray, List.set_cons_zero, List.set_cons_succ, i64_w, i32_w]
           rfl
          refine one_ (i := 6) (N := some 32) #[true, true, true, true, true, true, true, false] rfl rfl (one_of HT_.out (by kernel_rfl)) (by decide) (fun K hK => ?_)
          refine goes_ Try.func76 (by kernel_rfl) rfl #[.agg #[.int .i64 a0_0, .int .i64 a0_1, .slice A0_2 l0_2.length c0_2], .int .i64 a1, .slice A419_0 (rd_LI l2 x10_1).length c419_0] (by rfl) rfl rfl (by (try simp only [List.map_toArray, List.map_cons, List.map_nil]); rfl) ?_
          with_reducible refine (codewrightref24_Row.calls k1 a0_0 a0_1 _ _ l0_2 a1 _ _ (rd_LI l2 x10_1) t420 _ ?side1 ?side2 ?side3 ?side4 A15.out).mono ?_
          (case side1 => repeat (exact (Kd.C_below HR0_2.out HB.out)))
          (case side2 => exact HC0_2.out)
          (case side3 => repeat (exact (Kd.C_below HR419_0.out HB.out)))
          (case side4 => exact HC419_0.out)
          rintro e w26 ⟨v421, rfl, ho0, hb⟩
          refine ⟨_, rfl, ?_⟩
          have n0_ := Aside0.mk (Kd.N_elder' (by (with_reducible repeat (fail)); exact HO_9.out) (Kd.R_base ho0) hb)
          have n1_ := Aside0.mk (Kd.R_lower (Kd.R_newM (M := fun k_ => (w.heap.size ≤ k_)) ho0 (below_size (by repeat ((with_reducible exact HB.out)))) (fun k_ h_ => h_)) (below_size (by repeat ((with_reducible exact HB.out)))))
          have n2_ := Aside0.mk (blk_below (g := gb412) (o := .cells #[.int .i64 a0_0, .int .i64 a0_1, .slice A0_2 l0_2.length c0_2] 53 (0, 0)) (by (with_reducible repeat (fail)); exact BK412.out) hb)
          have n3_ := Aside0.mk (below_step (by repeat ((with_reducible exact HB.out))) hb)
          clear HO_9
          clear BK412
          clear HB
          have HO_9 := n0_
          have HO422 := n1_
          have BK412 := n2_
          have HB := n3_
          clear n0_ n1_ n2_ n3_
          (try clear hb)
          (try clear ho0)
          refine hK.out _ _ ⟨(blk_cell BK412.out 0).trans rfl, (blk_cell BK412.out 1).trans rfl, (blk_cell BK412.out 2).trans rfl, ((HB.out.cell (World.block_lt_of_cell? w _ hw419_0)).trans hw419_0)⟩ (fun hHeld => ?_)
          clear hK K
          refine norm_ (a' := ?_) ?_ ?_
          rotate_left
          ·show Act.put _ (some 32) _ = _
           simp only [Act.put, List.setIfInBounds_toArray, List.set_cons_zero, List.set_cons_succ, i64_w, i32_w]
           rfl
          refine pure_ (i := 7) (N := some 11) (v := ?_) (a' := ?_) #[true, true, true, true, true, true, true, true] rfl rfl (any_of HT_.out (by kernel_rfl)) (fun _ _ _ h => h) (Or.inl ⟨by rfl, ?_⟩) ?_ ?_
          rotate_left
          ·intro w'
           go_simp
           with_reducible rfl
          rotate_left
          ·simp only [Act.put, List.setIfInBounds_toArray, List.set_cons_zero, List.set_cons_succ, i64_w, i32_w]
           rfl
          refine done_ (done_of HT_.out (by kernel_rfl)) ?_
          obtain ⟨Ao27, co27, eo27⟩ := Kd.N_slice HO_9.out
          subst eo27
          obtain ⟨Ao28, co28, eo28⟩ := Kd.R_slice HO422.out
          subst eo28
          try go_wp2_with (first | ((with_reducible refine gate_callee (f := 77) rfl ?_); refine goesL_ (some 35) rfl rfl Try.func77 (by kernel_rfl) rfl #[.slice Ao27 x9_1.length co27, .slice Ao28 t420.length co28] rfl (by (try simp only [List.map_toArray, List.map_cons, List.map_nil]); rfl) ?_; (with_reducible refine (codewrightref24_has.calls k1 _ _ x9_1 _ _ t420 false _ ?side1 ?side2 ?side3 ?side4 A16.out).mono ?_); (case side1 => exact (Kd.N_reads' HO_9.out).2.2); (case side2 => exact (Kd.N_reads' HO_9.out).2.1); (case side3 => exact (Kd.R_reads' HO422.out).2.2); (case side4 => exact (Kd.R_reads' HO422.out).2.1); rintro e w' ⟨rfl, ⟨nd, rfl⟩⟩; refine ⟨_, rfl, ?_⟩; have hcz29_0 : w26.cell? ⟨gb412, 0, none⟩ = some (.int .i64 a0_0) := (blk_cell BK412.out 0).trans rfl; have hcz29_1 : w26.cell? ⟨gb412, 1, none⟩ = some (.int .i64 a0_1) := (blk_cell BK412.out 1).trans rfl; have hcz29_2 : w26.cell? ⟨gb412, 2, none⟩ = some (.slice A0_2 l0_2.length c0_2) := (blk_cell BK412.out 2).trans rfl; have hfz29_0 := blk_frozen BK412.out 0; have hfz29_1 := blk_frozen BK412.out 1; have hfz29_2 := blk_frozen BK412.out 2) | ((with_reducible refine gate_callee (f := 37) rfl ?_); refine goesL_ (some 40) rfl rfl Try.func37 (by kernel_rfl) rfl #[.agg #[.int .i64 a0_0, .int .i64 a0_1, .slice A0_2 l0_2.length c0_2]] rfl (by (try simp only [List.map_toArray, List.map_cons, List.map_nil]); rfl) ?_; (with_reducible refine (codewrightref04_Order.calls k1 a0_0 a0_1 _ _ l0_2 t424 _ ?side1 ?side2 A22.out).mono ?_); (case side1 => repeat (exact (Kd.C_below HR0_2.out (by repeat ((with_reducible first | exact HB.out | apply pw_below_drewN)))))); (case side2 => exact HC0_2.out); rintro e w30 ⟨rfl, hb⟩; refine ⟨_, rfl, ?_⟩; have n0_ := Aside0.mk (Kd.N_below (by (with_reducible repeat (apply Kd.N_drewN)); exact HO_9.out) hb); have n1_ := Aside0.mk (Kd.R_below (by (with_reducible repeat (apply Kd.R_drewN)); exact HO422.out) hb); have n2_ := Aside0.mk (blk_below (g := gb412) (o := .cells #[.int .i64 a0_0, .int .i64 a0_1, .slice A0_2 l0_2.length c0_2] 53 (0, 0)) (by (with_reducible repeat (refine blk_drewN ?_ _)); exact BK412.out) hb); have n3_ := Aside0.mk (below_step (by repeat ((with_reducible first | exact HB.out | apply pw_below_drewN))) hb); clear HO_9; clear HO422; clear BK412; clear HB; have HO_9 := n0_; have HO422 := n1_; have BK412 := n2_; have HB := n3_; clear n0_ n1_ n2_ n3_; (try clear hb)))
          go_ret
          exact ⟨_, by rfl, by exact Kd.N_nil _ _ _ _ _, by repeat ((with_reducible exact HB.out))⟩
         ·rw [if_neg c24] at H
          have c24b0 : decide ((wrap64 (Int.tdiv a3 t424)) < (x9_1.length : Int)) = false := decide_eq_false c24
          clear c24
          have H' := Aside0.mk H
          clear H
          try go_wp2
          have n0_ := Aside0.mk (Kd.N_drew HO_9.out)
          have n1_ := Aside0.mk (blk_drew BK412.out)
          have n2_ := Aside0.mk (below_drew1 HB.out)
          clear HO_9
          clear BK412
          clear HB
          have HO_9 := n0_
          have BK412 := n1_
          have HB := n2_
          clear n0_ n1_ n2_
          have p419 : 0 ≤ (x10_1 : Int) := of_decide_eq_true (by (with_reducible assumption))
          have q419 : x10_1 < (l2.length : Int) := of_decide_eq_true (by (with_reducible assumption))
          obtain ⟨ad419, A419_0, c419_0, e419, hx419_0, hl419_0, hi419_0⟩ := at_LI HR2.out x10_1 p419 q419
          have hw419_0 := hx419_0
          cases e419
          replace hx419_0 := (HB.out.cell (World.block_lt_of_cell? w _ hx419_0)).trans hx419_0
          have HR419_0 := Aside0.mk hi419_0
          have HC419_0 := Aside0.mk hl419_0
          clear hi419_0 hl419_0
          replace p419 := eq_true p419
          replace q419 := eq_true q419
          refine start_ (n := 8) (S := fun w' => w'.cell? ⟨gb412, 0, none⟩ = some (.int .i64 a0_0) ∧ w'.cell? ⟨gb412, 1, none⟩ = some (.int .i64 a0_1) ∧ w'.cell? ⟨gb412, 2, none⟩ = some (.slice A0_2 l0_2.length c0_2) ∧ w'.cell? (ad419.add (x10_1).toNat) = some (.slice A419_0 (rd_LI l2 x10_1).length c419_0)) (ds := []) #[false, false, false, false, false, false, false, false] (by kernel_rfl) rfl rfl ⟨(blk_cell BK412.out 0).trans rfl, (blk_cell BK412.out 1).trans rfl, (blk_cell BK412.out 2).trans rfl, ((HB.out.cell (World.block_lt_of_cell? w _ hw419_0)).trans hw419_0)⟩ (fun hHeld => ?_); refine with_tabW codewrightref24_Span.tab5 codewrightref24_Span.bits5 (fun HT_ HW_ => ?_)
          generalize wr.drew = w31 at HO_9 BK412 HB HR419_0 hx419_0 hHeld ⊢
          refine pure_ (i := 1) (N := some 27) (v := ?_) (a' := ?_) #[false, true, false, false, false, false, false, false] rfl rfl (any_of HT_.out (by kernel_rfl)) (fun _ _ _ h => h) (Or.inl ⟨by rfl, ?_⟩) ?_ ?_
          rotate_left
          ·intro w'
           go_simp
           with_reducible rfl
          rotate_left
          ·simp only [Act.put, List.setIfInBounds_toArray, List.set_cons_zero, List.set_cons_succ, i64_w, i32_w]
           rfl
          refine pure_ (i := 2) (N := some 28) (v := ?_) (a' := ?_) #[false, true, true, false, false, false, false, false] rfl rfl (any_of HT_.out (by kernel_rfl)) (fun _ _ _ h => h) (Or.inl ⟨by rfl, ?_⟩) ?_ ?_
          rotate_left
          ·intro w'
           go_simp
           with_reducible rfl
          rotate_left
          ·simp only [Act.put, List.setIfInBounds_toArray, List.set_cons_zero, List.set_cons_succ, i64_w, i32_w]
           rfl
          refine pure_ (i := 3) (N := some 29) (v := ?_) (a' := ?_) #[false, true, true, true, false, false, false, false] rfl rfl (any_of HT_.out (by kernel_rfl)) (fun _ _ _ h => h) (Or.inl ⟨by rfl, ?_⟩) ?_ ?_
          rotate_left
          ·intro w'
           go_simp
           with_reducible rfl
          rotate_left
          ·simp only [Act.put, List.setIfInBounds_toArray, List.set_cons_zero, List.set_cons_succ, i64_w, i32_w]
           rfl
          refine pure_ (i := 4) (N := some 30) (v := ?_) (a' := ?_) #[false, true, true, true, true, false, false, false] rfl rfl (any_of HT_.out (by kernel_rfl)) (fun _ _ _ h => h) (Or.inl ⟨by rfl, ?_⟩) ?_ ?_
          rotate_left
          ·intro w'
           go_simp
           with_reducible rfl
          rotate_left
          ·simp only [Act.put, List.setIfInBounds_toArray, List.set_cons_zero, List.set_cons_succ, i64_w, i32_w]
           rfl
          refine take_ (i := 0) (N := some 26) (v := ?_) (a' := ?_) #[true, true, true, true, true, false, false, false] rfl rfl (take_ofW HT_.out HW_.out (by kernel_rfl)) (fun _ _ _ h => h) (Or.inl ⟨by rfl, ?_⟩) hHeld ?_ ?_
          rotate_left
          ·rintro w' ⟨s0, s1, s2, s3⟩
           go_simp
           with_reducible rfl
          rotate_left
          ·simp only [Act.put, List.setIfInBounds_toArray, List.set_cons_zero, List.set_cons_succ, i64_w, i32_w]
           rfl
          refine take_ (i := 5) (N := some 31) (v := ?_) (a' := ?_) #[true, true, true, true, true, true, false, false] rfl rfl (take_ofW HT_.out HW_.out (by kernel_rfl)) (fun _ _ _ h => h) (Or.inl ⟨by rfl, ?_⟩) hHeld ?_ ?_
          rotate_left
          ·rintro w' ⟨s0, s1, s2, s3⟩
           go_simp
           with_reducible rfl
          rotate_left
          ·simp only [Act.put, List.setIfInBounds_toArray, List.set_cons_zero, List.set_cons_succ, i64_w, i32_w]
           rfl
          refine one_ (i := 6) (N := some 32) #[true, true, true, true, true, true, true, false] rfl rfl (one_of HT_.out (by kernel_rfl)) (by decide) (fun K hK => ?_)
          refine goes_ Try.func76 (by kernel_rfl) rfl #[.agg #[.int .i64 a0_0, .int .i64 a0_1, .slice A0_2 l0_2.length c0_2], .int .i64 a1, .slice A419_0 (rd_LI l2 x10_1).length c419_0] (by rfl) rfl rfl (by (try simp only [List.map_toArray, List.map_cons, List.map_nil]); rfl) ?_
          with_reducible refine (codewrightref24_Row.calls k1 a0_0 a0_1 _ _ l0_2 a1 _ _ (rd_LI l2 x10_1) t420 _ ?side1 ?side2 ?side3 ?side4 A15.out).mono ?_
          (case side1 => repeat (exact (Kd.C_below HR0_2.out HB.out)))
          (case side2 => exact HC0_2.out)
          (case side3 => repeat (exact (Kd.C_below HR419_0.out HB.out)))
          (case side4 => exact HC419_0.out)
          rintro e w32 ⟨v421, rfl, ho0, hb⟩
          refine ⟨_, rfl, ?_⟩
          have n0_ := Aside0.mk (Kd.N_elder' (by (with_reducible repeat (fail)); exact HO_9.out) (Kd.R_base ho0) hb)
          have n1_ := Aside0.mk (Kd.R_lower (Kd.R_newM (M := fun k_ => (w.heap.size ≤ k_)) ho0 (below_size (by repeat ((with_reducible exact HB.out)))) (fun k_ h_ => h_)) (below_size (by repeat ((with_reducible exact HB.out)))))
          have n2_ := Aside0.mk (blk_below (g := gb412) (o := .cells #[.int .i64 a0_0, .int .i64 a0_1, .slice A0_2 l0_2.length c0_2] 53 (0, 0)) (by (with_reducible repeat (fail)); exact BK412.out) hb)
          have n3_ := Aside0.mk (below_step (by repeat ((with_reducible exact HB.out))) hb)
          clear HO_9
          clear BK412
          clear HB
          have HO_9 := n0_
          have HO422 := n1_
          have BK412 := n2_
          have HB := n3_
          clear n0_ n1_ n2_ n3_
          (try clear hb)
          (try clear ho0)
          refine hK.out _ _ ⟨(blk_cell BK412.out 0).trans rfl, (blk_cell BK412.out 1).trans rfl, (blk_cell BK412.out 2).trans rfl, ((HB.out.cell (World.block_lt_of_cell? w _ hw419_0)).trans hw419_0)⟩ (fun hHeld => ?_)
          clear hK K
          refine norm_ (a' := ?_) ?_ ?_
          rotate_left
          ·show Act.put _ (some 32) _ = _
           simp only [Act.put, List.setIfInBounds_toArray, List.set_cons_zero, List.set_cons_succ, i64_w, i32_w]
           rfl
          refine pure_ (i := 7) (N := some 11) (v := ?_) (a' := ?_) #[true, true, true, true, true, true, true, true] rfl rfl (any_of HT_.out (by kernel_rfl)) (fun _ _ _ h => h) (Or.inl ⟨by rfl, ?_⟩) ?_ ?_
          rotate_left
          ·intro w'
           go_simp
           with_reducible rfl
          rotate_left
          ·simp only [Act.put, List.setIfInBounds_toArray, List.set_cons_zero, List.set_cons_succ, i64_w, i32_w]
           rfl
          refine done_ (done_of HT_.out (by kernel_rfl)) ?_
          obtain ⟨Ao33, co33, eo33⟩ := Kd.N_slice HO_9.out
          subst eo33
          obtain ⟨Ao34, co34, eo34⟩ := Kd.R_slice HO422.out
          subst eo34
          try go_wp2_with (first | ((with_reducible refine gate_callee (f := 77) rfl ?_); refine goesL_ (some 35) rfl rfl Try.func77 (by kernel_rfl) rfl #[.slice Ao33 x9_1.length co33, .slice Ao34 t420.length co34] rfl (by (try simp only [List.map_toArray, List.map_cons, List.map_nil]); rfl) ?_; (with_reducible refine (codewrightref24_has.calls k1 _ _ x9_1 _ _ t420 false _ ?side1 ?side2 ?side3 ?side4 A16.out).mono ?_); (case side1 => exact (Kd.N_reads' HO_9.out).2.2); (case side2 => exact (Kd.N_reads' HO_9.out).2.1); (case side3 => exact (Kd.R_reads' HO422.out).2.2); (case side4 => exact (Kd.R_reads' HO422.out).2.1); rintro e w' ⟨rfl, ⟨nd, rfl⟩⟩; refine ⟨_, rfl, ?_⟩; have hcz35_0 : w32.cell? ⟨gb412, 0, none⟩ = some (.int .i64 a0_0) := (blk_cell BK412.out 0).trans rfl; have hcz35_1 : w32.cell? ⟨gb412, 1, none⟩ = some (.int .i64 a0_1) := (blk_cell BK412.out 1).trans rfl; have hcz35_2 : w32.cell? ⟨gb412, 2, none⟩ = some (.slice A0_2 l0_2.length c0_2) := (blk_cell BK412.out 2).trans rfl; have hfz35_0 := blk_frozen BK412.out 0; have hfz35_1 := blk_frozen BK412.out 1; have hfz35_2 := blk_frozen BK412.out 2) | ((with_reducible refine gate_callee (f := 37) rfl ?_); refine goesL_ (some 40) rfl rfl Try.func37 (by kernel_rfl) rfl #[.agg #[.int .i64 a0_0, .int .i64 a0_1, .slice A0_2 l0_2.length c0_2]] rfl (by (try simp only [List.map_toArray, List.map_cons, List.map_nil]); rfl) ?_; (with_reducible refine (codewrightref04_Order.calls k1 a0_0 a0_1 _ _ l0_2 t424 _ ?side1 ?side2 A22.out).mono ?_); (case side1 => repeat (exact (Kd.C_below HR0_2.out (by repeat ((with_reducible first | exact HB.out | apply pw_below_drewN)))))); (case side2 => exact HC0_2.out); rintro e w36 ⟨rfl, hb⟩; refine ⟨_, rfl, ?_⟩; have n0_ := Aside0.mk (Kd.N_below (by (with_reducible repeat (apply Kd.N_drewN)); exact HO_9.out) hb); have n1_ := Aside0.mk (Kd.R_below (by (with_reducible repeat (apply Kd.R_drewN)); exact HO422.out) hb); have n2_ := Aside0.mk (blk_below (g := gb412) (o := .cells #[.int .i64 a0_0, .int .i64 a0_1, .slice A0_2 l0_2.length c0_2] 53 (0, 0)) (by (with_reducible repeat (refine blk_drewN ?_ _)); exact BK412.out) hb); have n3_ := Aside0.mk (below_step (by repeat ((with_reducible first | exact HB.out | apply pw_below_drewN))) hb); clear HO_9; clear HO422; clear BK412; clear HB; have HO_9 := n0_; have HO422 := n1_; have BK412 := n2_; have HB := n3_; clear n0_ n1_ n2_ n3_; (try clear hb)))
          go_loopg [12, 13] k1 (fun kq v12 v13 w' => ∃ (x11_2 : List Int) (x12_2 : List (List Int)) (x13_2 : Int), v13 = .int .i64 x13_2 ∧ Aside0 (codewrightref24_Span.l1 kq a1 l2 a3 x9_1 x10_1 x11_2 x12_2 x13_2 a0_0 a0_1 l0_2 = some r) ∧ Aside0 (kq ≤ k1) ∧ Aside0 (Kd.N (Kd.slice 3 (Kd.int .i64)) 41 w' w.heap.size (fun k_ => (w.heap.size ≤ k_) ∧ some k_ ≠ ((.slice Ao34 t420.length co34) : Value).ownBlock ∧ some k_ ≠ (v12 : Value).ownBlock ∧ k_ ≠ gb412) (.slice Ao33 x9_1.length co33) x9_1) ∧ Aside0 (Kd.R (Kd.int .i64) 3 w' w.heap.size (fun k_ => (w.heap.size ≤ k_)) (.slice Ao34 t420.length co34) x11_2) ∧ Aside0 (Kd.N (Kd.slice 3 (Kd.int .i64)) 41 w' w.heap.size (fun k_ => (w.heap.size ≤ k_) ∧ some k_ ≠ ((.slice Ao33 x9_1.length co33) : Value).ownBlock ∧ some k_ ≠ ((.slice Ao34 t420.length co34) : Value).ownBlock ∧ k_ ≠ gb412) v12 x12_2) ∧ Aside0 (w'.heap[gb412]? = some (.cells #[.int .i64 a0_0, .int .i64 a0_1, (.slice A0_2 l0_2.length c0_2)] 53 (0, 0))) ∧ Aside0 (Below w.heap.size w w'))
          case atStart => exact ⟨(t420), (([] : List (List Int))), (0), (by rfl), H', ⟨Nat.le_refl _⟩, ⟨by (with_reducible repeat (fail)); exact Kd.N_mono HO_9.out (fun _ hk => ⟨hk.1.1, ⟨hk.2, ⟨(by simp [Value.ownBlock]), hk.1.2⟩⟩⟩)⟩, ⟨by (with_reducible repeat (fail)); exact Kd.R_mono HO422.out (fun _ hk => hk.1)⟩, ⟨by exact Kd.N_nil _ _ _ _ _⟩, ⟨by (with_reducible repeat (fail)); exact BK412.out⟩, ⟨by repeat ((with_reducible exact HB.out))⟩⟩
          case round =>
           clear H'
           try clear c13b0
           try clear c14b0
           try clear c23
           try clear c23b0
           try clear c23b1
           try clear c24b0
           try clear hcz35_0
           try clear hcz35_1
           try clear hcz35_2
           try clear hfz35_0
           try clear hfz35_1
           try clear hfz35_2
           try clear hx419_0
           try clear p419
           try clear q419
           obtain ⟨x11_2, x12_2, x13_2, rfl, HA, HK2, HO_9, HO_11, HO_12, BK412, HB⟩ := hrel
           have hl11_2 := (Kd.R_reads' HO_11.out).1
           rw [hl11_2] at HO_11
           (try simp only [hl11_2])
           (try simp only [hl11_2] at HO_9)
           (try simp only [hl11_2] at HO_12)
           cases gk with
           | zero => exact absurd HA.out (by simp [codewrightref24_Span.l1])
           | succ k2 =>
            have H := HA.out
            clear HA
            simp only [codewrightref24_Span.l1] at H
            replace H := Option.bind_eq_some_iff.mp H
            obtain ⟨t425, A370, H⟩ := H
            replace H : (if x13_2 < t425 then (codewrightref24_Span.l2 k2 a1 l2 a3 x9_1 x10_1 x11_2 x12_2 x13_2 0 a0_0 a0_1 l0_2) else (codewrightref24_Span.l0 k2 a1 l2 a3 x12_2 (wrap64 (x10_1 + 1)) a0_0 a0_1 l0_2)) = some r := H
            have A37 := Aside0.mk A370
            clear A370
            by_cases c38 : x13_2 < t425
            ·rw [if_pos c38] at H
             have c38b0 : decide (x13_2 < t425) = true := decide_eq_true c38
             clear c38
             have H' := Aside0.mk H
             clear H
             have hcz39_0 : wr.cell? ⟨gb412, 0, none⟩ = some (.int .i64 a0_0) := (blk_cell BK412.out 0).trans rfl
             have hcz39_1 : wr.cell? ⟨gb412, 1, none⟩ = some (.int .i64 a0_1) := (blk_cell BK412.out 1).trans rfl
             have hcz39_2 : wr.cell? ⟨gb412, 2, none⟩ = some (.slice A0_2 l0_2.length c0_2) := (blk_cell BK412.out 2).trans rfl
             have hfz39_0 := blk_frozen BK412.out 0
             have hfz39_1 := blk_frozen BK412.out 1
             have hfz39_2 := blk_frozen BK412.out 2
             go_wp2_with (((with_reducible refine gate_callee (f := 37) rfl ?_); refine goesL_ (some 45) rfl rfl Try.func37 (by kernel_rfl) rfl #[.agg #[.int .i64 a0_0, .int .i64 a0_1, .slice A0_2 l0_2.length c0_2]] rfl (by (try simp only [List.map_toArray, List.map_cons, List.map_nil]); rfl) ?_; (with_reducible refine (codewrightref04_Order.calls k2 a0_0 a0_1 _ _ l0_2 t425 _ ?side1 ?side2 A37.out).mono ?_); (case side1 => repeat (exact (Kd.C_below HR0_2.out HB.out))); (case side2 => exact HC0_2.out); rintro e w40 ⟨rfl, hb⟩; refine ⟨_, rfl, ?_⟩; have n0_ := Aside0.mk (Kd.N_below (by (with_reducible repeat (fail)); exact HO_9.out) hb); have n1_ := Aside0.mk (Kd.R_below (by (with_reducible repeat (fail)); exact HO_11.out) hb); have n2_ := Aside0.mk (Kd.N_below (by (with_reducible repeat (fail)); exact HO_12.out) hb); have n3_ := Aside0.mk (blk_below (g := gb412) (o := .cells #[.int .i64 a0_0, .int .i64 a0_1, .slice A0_2 l0_2.length c0_2] 53 (0, 0)) (by (with_reducible repeat (fail)); exact BK412.out) hb); have n4_ := Aside0.mk (below_step (by repeat ((with_reducible exact HB.out))) hb); clear HO_9; clear HO_11; clear HO_12; clear BK412; clear HB; have HO_9 := n0_; have HO_11 := n1_; have HO_12 := n2_; have BK412 := n3_; have HB := n4_; clear n0_ n1_ n2_ n3_ n4_; (try clear hb)))
             go_loopg [12, 14] k2 (fun kq v12 v14 w' => ∃ (x11_3 : List Int) (x12_3 : List (List Int)) (x14_3 : Int), v14 = .int .i64 x14_3 ∧ Aside0 (codewrightref24_Span.l2 kq a1 l2 a3 x9_1 x10_1 x11_3 x12_3 x13_2 x14_3 a0_0 a0_1 l0_2 = some r) ∧ Aside0 (kq ≤ k2) ∧ Aside0 (Kd.N (Kd.slice 3 (Kd.int .i64)) 41 w' w.heap.size (fun k_ => (w.heap.size ≤ k_) ∧ some k_ ≠ ((.slice Ao34 x11_2.length co34) : Value).ownBlock ∧ some k_ ≠ (v12 : Value).ownBlock ∧ k_ ≠ gb412) (.slice Ao33 x9_1.length co33) x9_1) ∧ Aside0 (Kd.R (Kd.int .i64) 3 w' w.heap.size (fun k_ => (w.heap.size ≤ k_)) (.slice Ao34 x11_2.length co34) x11_3) ∧ Aside0 (Kd.N (Kd.slice 3 (Kd.int .i64)) 41 w' w.heap.size (fun k_ => (w.heap.size ≤ k_) ∧ some k_ ≠ ((.slice Ao33 x9_1.length co33) : Value).ownBlock ∧ some k_ ≠ ((.slice Ao34 x11_2.length co34) : Value).ownBlock ∧ k_ ≠ gb412) v12 x12_3) ∧ Aside0 (w'.heap[gb412]? = some (.cells #[.int .i64 a0_0, .int .i64 a0_1, (.slice A0_2 l0_2.length c0_2)] 53 (0, 0))) ∧ Aside0 (Below w.heap.size w w'))
             case atStart => exact ⟨(x11_2), (x12_2), (0), (by rfl), H', ⟨Nat.le_refl _⟩, ⟨by (with_reducible repeat (fail)); exact HO_9.out⟩, ⟨by (with_reducible repeat (fail)); exact HO_11.out⟩, ⟨by (with_reducible repeat (fail)); exact HO_12.out⟩, ⟨by (with_reducible repeat (fail)); exact BK412.out⟩, ⟨by repeat ((with_reducible exact HB.out))⟩⟩
             case round =>
              clear H'
              try clear c38b0
              try clear hcz39_0
              try clear hcz39_1
              try clear hcz39_2
              try clear hfz39_0
              try clear hfz39_1
              try clear hfz39_2
              obtain ⟨x11_3, x12_3, x14_3, rfl, HA, HK3, HO_9, HO_11, HO_12, BK412, HB⟩ := hrel
              have hl11_3 := (Kd.R_reads' HO_11.out).1
              rw [hl11_3] at HO_11
              (try simp only [hl11_3])
              (try simp only [hl11_3] at HO_9)
              (try simp only [hl11_3] at HO_12)
              cases gk with
              | zero => exact absurd HA.out (by simp [codewrightref24_Span.l2])
              | succ k3 =>
               have H := HA.out
               clear HA
               simp only [codewrightref24_Span.l2] at H
               by_cases c41 : x14_3 < (x9_1.length : Int)
               ·rw [if_pos c41] at H
                have c41b0 : decide (x14_3 < (x9_1.length : Int)) = true := decide_eq_true c41
                clear c41
                by_cases c42 : 0 ≤ a1
                ·rw [if_pos c42] at H
                 have c42b0 := eq_true c42
                 have c42b1 : decide (0 ≤ a1) = true := decide_eq_true c42
                 clear c42
                 by_cases c43 : (a1 : Int).toNat ≤ 35184372088832
                 ·rw [if_pos c43] at H
                  have c43b0 := eq_true c43
                  have c43b1 : decide ((a1 : Int).toNat ≤ 35184372088832) = true := decide_eq_true c43
                  clear c43
                  obtain ⟨y426, hy426⟩ : ∃ y_ : List Int, y_ = (List.replicate (a1 : Int).toNat 0) := ⟨_, rfl⟩
                  replace H : (codewrightref24_Span.l3 k3 a1 l2 a3 x9_1 x10_1 x11_3 x12_3 x13_2 x14_3 y426 0 a0_0 a0_1 l0_2) = some r := by (rw [hy426]; with_reducible exact H)
                  have Ny426 := Aside0.mk hy426
                  clear hy426
                  have H' := Aside0.mk H
                  clear H
                  go_wp2_with (((with_reducible refine gate_dst (N := 56) rfl ?_); refine Kd.R_make (Kd.int .i64) _ 3 rfl (N := 56) rfl 41 _ _ rfl a1 rfl rfl Try.underlying41 (.int .i64 0) 8 info3 rfl (by decide) (by omega) 0 (ok := fun _ => True) (okp := fun _ => True) rfl (fun _ hk => hk) trivial (of_decide_eq_true (by (with_reducible assumption))) (Nat.le_trans (Nat.mul_le_mul_right _ (of_decide_eq_true (by (with_reducible assumption)) : a1.toNat ≤ 35184372088832)) (by omega)) (Below.refl _ _) (Nat.le_refl _) ?_; intro v427 w44 ho45 hb hg_ hnew_; clear hg_ hnew_; (rw [← Ny426.out] at ho45); have n0_ := Aside0.mk (Kd.N_elder' (by (with_reducible repeat (fail)); exact HO_9.out) (Kd.R_base ho45) hb); have n1_ := Aside0.mk (Kd.R_elder' (by (with_reducible repeat (fail)); exact HO_11.out) (Kd.R_base ho45) hb); have n2_ := Aside0.mk (Kd.N_elder' (by (with_reducible repeat (fail)); exact HO_12.out) (Kd.R_base ho45) hb); have n3_ := Aside0.mk (Kd.R_lower (Kd.R_new' (Kd.R_newM (M := fun k_ => (w.heap.size ≤ k_)) ho45 (below_size (by repeat ((with_reducible exact HB.out)))) (fun k_ h_ => h_)) (Kd.R_lt (by (with_reducible repeat (fail)); exact HO_11.out))) (below_size (by repeat ((with_reducible exact HB.out))))); have n4_ := Aside0.mk (blk_below (g := gb412) (o := .cells #[.int .i64 a0_0, .int .i64 a0_1, .slice A0_2 l0_2.length c0_2] 53 (0, 0)) (by (with_reducible repeat (fail)); exact BK412.out) hb); have n5_ := Aside0.mk (below_step (by repeat ((with_reducible exact HB.out))) hb); clear HO_9; clear HO_11; clear HO_12; clear BK412; clear HB; have HO_9 := n0_; have HO_11 := n1_; have HO_12 := n2_; have HO428 := n3_; have BK412 := n4_; have HB := n5_; clear n0_ n1_ n2_ n3_ n4_ n5_; clear hb ho45))
                  go_loopg [16] k3 (fun kq v16 w' => ∃ (x15_4 : List Int) (x16_4 : Int), v16 = .int .i64 x16_4 ∧ Aside0 (codewrightref24_Span.l3 kq a1 l2 a3 x9_1 x10_1 x11_3 x12_3 x13_2 x14_3 x15_4 x16_4 a0_0 a0_1 l0_2 = some r) ∧ Aside0 (kq ≤ k3) ∧ Aside0 (Kd.N (Kd.slice 3 (Kd.int .i64)) 41 w' w.heap.size (fun k_ => (w.heap.size ≤ k_) ∧ some k_ ≠ ((.slice Ao34 x11_3.length co34) : Value).ownBlock ∧ some k_ ≠ (u12 : Value).ownBlock ∧ some k_ ≠ (v427 : Value).ownBlock ∧ k_ ≠ gb412) (.slice Ao33 x9_1.length co33) x9_1) ∧ Aside0 (Kd.R (Kd.int .i64) 3 w' w.heap.size (fun k_ => (w.heap.size ≤ k_) ∧ some k_ ≠ (v427 : Value).ownBlock) (.slice Ao34 x11_3.length co34) x11_3) ∧ Aside0 (Kd.N (Kd.slice 3 (Kd.int .i64)) 41 w' w.heap.size (fun k_ => (w.heap.size ≤ k_) ∧ some k_ ≠ ((.slice Ao33 x9_1.length co33) : Value).ownBlock ∧ some k_ ≠ ((.slice Ao34 x11_3.length co34) : Value).ownBlock ∧ some k_ ≠ (v427 : Value).ownBlock ∧ k_ ≠ gb412) u12 x12_3) ∧ Aside0 (Kd.R (Kd.int .i64) 3 w' w.heap.size (fun k_ => (w.heap.size ≤ k_) ∧ some k_ ≠ ((.slice Ao34 x11_3.length co34) : Value).ownBlock) v427 x15_4) ∧ Aside0 (w'.heap[gb412]? = some (.cells #[.int .i64 a0_0, .int .i64 a0_1, (.slice A0_2 l0_2.length c0_2)] 53 (0, 0))) ∧ Aside0 (Below w.heap.size w w'))
                  case atStart => exact ⟨(y426), (0), (by rfl), H', ⟨Nat.le_refl _⟩, ⟨by (with_reducible repeat (fail)); exact Kd.N_mono HO_9.out (fun _ hk => ⟨hk.1.1, ⟨hk.1.2.1, ⟨hk.1.2.2.1, ⟨hk.2, hk.1.2.2.2⟩⟩⟩⟩)⟩, ⟨by (with_reducible repeat (fail)); exact HO_11.out⟩, ⟨by (with_reducible repeat (fail)); exact Kd.N_mono HO_12.out (fun _ hk => ⟨hk.1.1, ⟨hk.1.2.1, ⟨hk.1.2.2.1, ⟨hk.2, hk.1.2.2.2⟩⟩⟩⟩)⟩, ⟨by (with_reducible repeat (fail)); exact Kd.R_mono HO428.out (fun _ hk => ⟨hk.1.1, hk.2⟩)⟩, ⟨by (with_reducible repeat (fail)); exact BK412.out⟩, ⟨by repeat ((with_reducible exact HB.out))⟩⟩
                  case round =>
                   clear H'
                   try clear c41b0
                   try clear c42b0
                   try clear c42b1
                   try clear c43b0
                   try clear c43b1
                   obtain ⟨x15_4, x16_4, rfl, HA, HK4, HO_9, HO_11, HO_12, HO_15, BK412, HB⟩ := hrel
                   cases gk with
                   | zero => exact absurd HA.out (by simp [codewrightref24_Span.l3])
                   | succ k4 =>
                    have H := HA.out
                    clear HA
                    simp only [codewrightref24_Span.l3] at H
                    by_cases c46 : x16_4 < a1
                    ·rw [if_pos c46] at H
                     have c46b0 : decide (x16_4 < a1) = true := decide_eq_true c46
                     clear c46
                     by_cases c47 : 0 ≤ x14_3
                     ·rw [if_pos c47] at H
                      have c47b0 : decide (0 ≤ x14_3) = true := decide_eq_true c47
                      clear c47
                      by_cases c48 : x14_3 < (x9_1.length : Int)
                      ·rw [if_pos c48] at H
                       have c48b0 : decide (x14_3 < (x9_1.length : Int)) = true := decide_eq_true c48
                       clear c48
                       by_cases c49 : 0 ≤ x16_4
                       ·rw [if_pos c49] at H
                        have c49b0 : decide (0 ≤ x16_4) = true := decide_eq_true c49
                        clear c49
                        by_cases c50 : x16_4 < ((rd_LI x9_1 x14_3).length : Int)
                        ·rw [if_pos c50] at H
                         have c50b0 : decide (x16_4 < ((rd_LI x9_1 x14_3).length : Int)) = true := decide_eq_true c50
                         clear c50
                         by_cases c51 : x16_4 < (x11_3.length : Int)
                         ·rw [if_pos c51] at H
                          have c51b0 : decide (x16_4 < (x11_3.length : Int)) = true := decide_eq_true c51
                          clear c51
                          replace H := Option.bind_eq_some_iff.mp H
                          obtain ⟨t435, A520, H⟩ := H
                          replace H : ((codewrightref04_Add.f k4 a0_0 a0_1 l0_2 (rd (rd_LI x9_1 x14_3) x16_4) t435).bind fun t436 => (if x16_4 < (x15_4.length : Int) then (codewrightref24_Span.l3 k4 a1 l2 a3 x9_1 x10_1 x11_3 x12_3 x13_2 x14_3 (x15_4.set (x16_4 : Int).toNat t436) (wrap64 (x16_4 + 1)) a0_0 a0_1 l0_2) else (none))) = some r := H
                          have A52 := Aside0.mk A520
                          clear A520
                          replace H := Option.bind_eq_some_iff.mp H
                          obtain ⟨t436, A530, H⟩ := H
                          replace H : (if x16_4 < (x15_4.length : Int) then (codewrightref24_Span.l3 k4 a1 l2 a3 x9_1 x10_1 x11_3 x12_3 x13_2 x14_3 (x15_4.set (x16_4 : Int).toNat t436) (wrap64 (x16_4 + 1)) a0_0 a0_1 l0_2) else (none)) = some r := H
                          have A53 := Aside0.mk A530
                          clear A530
                          by_cases c54 : x16_4 < (x15_4.length : Int)
                          ·rw [if_pos c54] at H
                           have c54b0 : decide (x16_4 < (x15_4.length : Int)) = true := decide_eq_true c54
                           clear c54
                           obtain ⟨y437, hy437⟩ : ∃ y_ : List Int, y_ = (x15_4.set (x16_4 : Int).toNat t436) := ⟨_, rfl⟩
                           replace H : (codewrightref24_Span.l3 k4 a1 l2 a3 x9_1 x10_1 x11_3 x12_3 x13_2 x14_3 y437 (wrap64 (x16_4 + 1)) a0_0 a0_1 l0_2) = some r := by (rw [hy437]; with_reducible exact H)
                           have Ny437 := Aside0.mk hy437
                           clear hy437
                           have H' := Aside0.mk H
                           clear H
                           try go_wp2
                           have n0_ := Aside0.mk (Kd.N_drew HO_9.out)
                           have n1_ := Aside0.mk (Kd.R_drew HO_11.out)
                           have n2_ := Aside0.mk (Kd.N_drew HO_12.out)
                           have n3_ := Aside0.mk (Kd.R_drew HO_15.out)
                           have n4_ := Aside0.mk (blk_drew BK412.out)
                           have n5_ := Aside0.mk (below_drew1 HB.out)
                           clear HO_9
                           clear HO_11
                           clear HO_12
                           clear HO_15
                           clear BK412
                           clear HB
                           have HO_9 := n0_
                           have HO_11 := n1_
                           have HO_12 := n2_
                           have HO_15 := n3_
                           have BK412 := n4_
                           have HB := n5_
                           clear n0_ n1_ n2_ n3_ n4_ n5_
                           have p432 : 0 ≤ (x14_3 : Int) := of_decide_eq_true (by (with_reducible assumption))
                           have q432 : x14_3 < (x9_1.length : Int) := of_decide_eq_true (by (with_reducible assumption))
                           obtain ⟨ad432, A432_0, c432_0, e432, hx432_0, hl432_0, hi432_0⟩ := at_LI (Kd.N_reads' HO_9.out).2.2 x14_3 p432 q432
                           cases e432
                           obtain ⟨ce432, hce432, hMe432, hcc432⟩ := Kd.N_get HO_9.out [] x14_3 p432 (by exact q432)
                           obtain ⟨ua432_0, uc432_0, rfl, ul432_0, ge432_0⟩ := Kd.FK_slice_open hMe432
                           have hv432_0 := hcc432 0 _ rfl
                           rw [Nat.add_zero, show ((Kd.slice 3 (Kd.int .i64))).sz = 1 from rfl, Nat.mul_one] at hv432_0
                           replace hv432_0 := Option.some.inj (hv432_0.symm.trans hx432_0)
                           injection hv432_0 with hva_ hvn_ hvc_
                           rw [hva_] at ge432_0
                           rw [hvc_] at ul432_0
                           have HL432_0 := Aside0.mk (show Kd.V (Kd.int .i64) 3 _ w.heap.size _ _ (rd_LI x9_1 x14_3) from Kd.V_mk ul432_0 ge432_0)
                           clear hva_ hvn_ hvc_ ge432_0 ul432_0
                           clear hcc432 hce432
                           have HR432_0 := Aside0.mk hi432_0
                           have HC432_0 := Aside0.mk hl432_0
                           clear hi432_0 hl432_0
                           replace p432 := eq_true p432
                           replace q432 := eq_true q432
                           have p433 : 0 ≤ (x16_4 : Int) := of_decide_eq_true (by (with_reducible assumption))
                           have q433 : x16_4 < ((rd_LI x9_1 x14_3).length : Int) := of_decide_eq_true (by (with_reducible assumption))
                           obtain ⟨ad433, e433, hx433_0⟩ := Kd.at_int (by repeat ((with_reducible exact HR432_0.out))) x16_4 p433 q433
                           cases e433
                           replace p433 := eq_true p433
                           replace q433 := eq_true q433
                           have p434 : 0 ≤ (x16_4 : Int) := of_decide_eq_true (by (with_reducible assumption))
                           have q434 : x16_4 < (x11_3.length : Int) := of_decide_eq_true (by (with_reducible assumption))
                           obtain ⟨ad434, e434, hx434_0⟩ := Kd.at_int (Kd.R_reads' HO_11.out).2.2 x16_4 p434 q434
                           cases e434
                           replace p434 := eq_true p434
                           replace q434 := eq_true q434
                           refine start_ (n := 20) (S := fun w' => w'.cell? ⟨gb412, 0, none⟩ = some (.int .i64 a0_0) ∧ w'.cell? ⟨gb412, 1, none⟩ = some (.int .i64 a0_1) ∧ w'.cell? ⟨gb412, 2, none⟩ = some (.slice A0_2 l0_2.length c0_2) ∧ w'.cell? (ad432.add (x14_3).toNat) = some (.slice (some ad433) (rd_LI x9_1 x14_3).length c432_0) ∧ w'.cell? (ad433.add (x16_4).toNat) = some (.int .i64 (rd (rd_LI x9_1 x14_3) x16_4)) ∧ w'.cell? (ad434.add (x16_4).toNat) = some (.int .i64 (rd x11_3 x16_4))) (ds := [19]) #[false, false, false, false, false, false, false, false, false, false, false, false, false, false, false, false, false, false, false, false] (by kernel_rfl) rfl rfl ⟨(blk_cell BK412.out 0).trans rfl, (blk_cell BK412.out 1).trans rfl, (blk_cell BK412.out 2).trans rfl, hx432_0, hx433_0, hx434_0⟩ (fun hHeld => ?_); refine with_tabW codewrightref24_Span.tab20 codewrightref24_Span.bits20 (fun HT_ HW_ => ?_)
                           generalize wr.drew = w56 at HO_9 HO_11 HO_12 HO_15 BK412 HB HL432_0 HR432_0 hx432_0 hx433_0 hx434_0 hHeld ⊢
                           refine pure_ (i := 0) (N := some 62) (v := ?_) (a' := ?_) #[true, false, false, false, false, false, false, false, false, false, false, false, false, false, false, false, false, false, false, false] rfl rfl (any_of HT_.out (by kernel_rfl)) (fun _ _ _ h => h) (Or.inl ⟨by rfl, ?_⟩) ?_ ?_
                           rotate_left
                           ·intro w'
                            go_simp
                            with_reducible rfl
                           rotate_left
                           ·simp only [Act.put, List.setIfInBounds_toArray, List.set_cons_zero, List.set_cons_succ, i64_w, i32_w]
                            rfl
                           refine pure_ (i := 1) (N := some 63) (v := ?_) (a' := ?_) #[true, true, false, false, false, false, false, false, false, false, false, false, false, false, false, false, false, false, false, false] rfl rfl (any_of HT_.out (by kernel_rfl)) (fun _ _ _ h => h) (Or.inl ⟨by rfl, ?_⟩) ?_ ?_
                           rotate_left
                           ·intro w'
                            go_simp
                            with_reducible rfl
                           rotate_left
                           ·simp only [Act.put, List.setIfInBounds_toArray, List.set_cons_zero, List.set_cons_succ, i64_w, i32_w]
                            rfl
                           refine pure_ (i := 3) (N := some 65) (v := ?_) (a' := ?_) #[true, true, false, true, false, false, false, false, false, false, false, false, false, false, false, false, false, false, false, false] rfl rfl (any_of HT_.out (by kernel_rfl)) (fun _ _ _ h => h) (Or.inl ⟨by rfl, ?_⟩) ?_ ?_
                           rotate_left
                           ·intro w'
                            go_simp
                            with_reducible rfl
                           rotate_left
                           ·simp only [Act.put, List.setIfInBounds_toArray, List.set_cons_zero, List.set_cons_succ, i64_w, i32_w]
                            rfl
                           refine pure_ (i := 4) (N := some 66) (v := ?_) (a' := ?_) #[true, true, false, true, true, false, false, false, false, false, false, false, false, false, false, false, false, false, false, false] rfl rfl (any_of HT_.out (by kernel_rfl)) (fun _ _ _ h => h) (Or.inl ⟨by rfl, ?_⟩) ?_ ?_
                           rotate_left
                           ·intro w'
                            go_simp
                            with_reducible rfl
                           rotate_left
                           ·simp only [Act.put, List.setIfInBounds_toArray, List.set_cons_zero, List.set_cons_succ, i64_w, i32_w]
                            rfl
                           refine pure_ (i := 5) (N := some 67) (v := ?_) (a' := ?_) #[true, true, false, true, true, true, false, false, false, false, false, false, false, false, false, false, false, false, false, false] rfl rfl (any_of HT_.out (by kernel_rfl)) (fun _ _ _ h => h) (Or.inl ⟨by rfl, ?_⟩) ?_ ?_
                           rotate_left
                           ·intro w'
                            go_simp
                            with_reducible rfl
                           rotate_left
                           ·simp only [Act.put, List.setIfInBounds_toArray, List.set_cons_zero, List.set_cons_succ, i64_w, i32_w]
                            rfl
                           refine pure_ (i := 7) (N := some 69) (v := ?_) (a' := ?_) #[true, true, false, true, true, true, false, true, false, false, false, false, false, false, false, false, false, false, false, false] rfl rfl (any_of HT_.out (by kernel_rfl)) (fun _ _ _ h => h) (Or.inl ⟨by rfl, ?_⟩) ?_ ?_
                           rotate_left
                           ·intro w'
                            go_simp
                            with_reducible rfl
                           rotate_left
                           ·simp only [Act.put, List.setIfInBounds_toArray, List.set_cons_zero, List.set_cons_succ, i64_w, i32_w]
                            rfl
                           refine pure_ (i := 11) (N := some 73) (v := ?_) (a' := ?_) #[true, true, false, true, true, true, false, true, false, false, false, true, false, false, false, false, false, false, false, false] rfl rfl (any_of HT_.out (by kernel_rfl)) (fun _ _ _ h => h) (Or.inl ⟨by rfl, ?_⟩) ?_ ?_
                           rotate_left
                           ·intro w'
                            go_simp
                            with_reducible rfl
                           rotate_left
                           ·simp only [Act.put, List.setIfInBounds_toArray, List.set_cons_zero, List.set_cons_succ, i64_w, i32_w]
                            rfl
                           refine pure_ (i := 12) (N := some 74) (v := ?_) (a' := ?_) #[true, true, false, true, true, true, false, true, false, false, false, true, true, false, false, false, false, false, false, false] rfl rfl (any_of HT_.out (by kernel_rfl)) (fun _ _ _ h => h) (Or.inl ⟨by rfl, ?_⟩) ?_ ?_
                           rotate_left
                           ·intro w'
                            go_simp
                            with_reducible rfl
                           rotate_left
                           ·simp only [Act.put, List.setIfInBounds_toArray, List.set_cons_zero, List.set_cons_succ, i64_w, i32_w]
                            rfl
                           refine pure_ (i := 13) (N := some 75) (v := ?_) (a' := ?_) #[true, true, false, true, true, true, false, true, false, false, false, true, true, true, false, false, false, false, false, false] rfl rfl (any_of HT_.out (by kernel_rfl)) (fun _ _ _ h => h) (Or.inl ⟨by rfl, ?_⟩) ?_ ?_
                           rotate_left
                           ·intro w'
                            go_simp
                            with_reducible rfl
                           rotate_left
                           ·simp only [Act.put, List.setIfInBounds_toArray, List.set_cons_zero, List.set_cons_succ, i64_w, i32_w]
                            rfl
                           refine pure_ (i := 14) (N := some 76) (v := ?_) (a' := ?_) #[true, true, false, true, true, true, false, true, false, false, false, true, true, true, true, false, false, false, false, false] rfl rfl (any_of HT_.out (by kernel_rfl)) (fun _ _ _ h => h) (Or.inl ⟨by rfl, ?_⟩) ?_ ?_
                           rotate_left
                           ·intro w'
                            go_simp
                            with_reducible rfl
                           rotate_left
                           ·simp only [Act.put, List.setIfInBounds_toArray, List.set_cons_zero, List.set_cons_succ, i64_w, i32_w]
                            rfl
                           refine take_ (i := 2) (N := some 64) (v := ?_) (a' := ?_) #[true, true, true, true, true, true, false, true, false, false, false, true, true, true, true, false, false, false, false, false] rfl rfl (take_ofW HT_.out HW_.out (by kernel_rfl)) (fun _ _ _ h => h) (Or.inl ⟨by rfl, ?_⟩) hHeld ?_ ?_
                           rotate_left
                           ·rintro w' ⟨s0, s1, s2, s3, s4, s5⟩
                            go_simp
                            with_reducible rfl
                           rotate_left
                           ·simp only [Act.put, List.setIfInBounds_toArray, List.set_cons_zero, List.set_cons_succ, i64_w, i32_w]
                            rfl
                           refine take_ (i := 6) (N := some 68) (v := ?_) (a' := ?_) #[true, true, true, true, true, true, true, true, false, false, false, true, true, true, true, false, false, false, false, false] rfl rfl (take_ofW HT_.out HW_.out (by kernel_rfl)) (fun _ _ _ h => h) (Or.inl ⟨by rfl, ?_⟩) hHeld ?_ ?_
                           rotate_left
                           ·rintro w' ⟨s0, s1, s2, s3, s4, s5⟩
                            go_simp
                            with_reducible rfl
                           rotate_left
                           ·simp only [Act.put, List.setIfInBounds_toArray, List.set_cons_zero, List.set_cons_succ, i64_w, i32_w]
                            rfl
                           refine pure_ (i := 8) (N := some 70) (v := ?_) (a' := ?_) #[true, true, true, true, true, true, true, true, true, false, false, true, true, true, true, false, false, false, false, false] rfl rfl (any_of HT_.out (by kernel_rfl)) (fun _ _ _ h => h) (Or.inl ⟨by rfl, ?_⟩) ?_ ?_
                           rotate_left
                           ·intro w'
                            go_simp
                            with_reducible rfl
                           rotate_left
                           ·simp only [Act.put, List.setIfInBounds_toArray, List.set_cons_zero, List.set_cons_succ, i64_w, i32_w]
                            rfl
                           refine take_ (i := 9) (N := some 71) (v := ?_) (a' := ?_) #[true, true, true, true, true, true, true, true, true, true, false, true, true, true, true, false, false, false, false, false] rfl rfl (take_ofW HT_.out HW_.out (by kernel_rfl)) (fun _ _ _ h => h) (Or.inl ⟨by rfl, ?_⟩) hHeld ?_ ?_
                           rotate_left
                           ·rintro w' ⟨s0, s1, s2, s3, s4, s5⟩
                            go_simp
                            with_reducible rfl
                           rotate_left
                           ·simp only [Act.put, List.setIfInBounds_toArray, List.set_cons_zero, List.set_cons_succ, i64_w, i32_w]
                            rfl
                           refine take_ (i := 10) (N := some 72) (v := ?_) (a' := ?_) #[true, true, true, true, true, true, true, true, true, true, true, true, true, true, true, false, false, false, false, false] rfl rfl (take_ofW HT_.out HW_.out (by kernel_rfl)) (fun _ _ _ h => h) (Or.inl ⟨by rfl, ?_⟩) hHeld ?_ ?_
                           rotate_left
                           ·rintro w' ⟨s0, s1, s2, s3, s4, s5⟩
                            go_simp
                            with_reducible rfl
                           rotate_left
                           ·simp only [Act.put, List.setIfInBounds_toArray, List.set_cons_zero, List.set_cons_succ, i64_w, i32_w]
                            rfl
                           refine take_ (i := 15) (N := some 77) (v := ?_) (a' := ?_) #[true, true, true, true, true, true, true, true, true, true, true, true, true, true, true, true, false, false, false, false] rfl rfl (take_ofW HT_.out HW_.out (by kernel_rfl)) (fun _ _ _ h => h) (Or.inl ⟨by rfl, ?_⟩) hHeld ?_ ?_
                           rotate_left
                           ·rintro w' ⟨s0, s1, s2, s3, s4, s5⟩
                            go_simp
                            with_reducible rfl
                           rotate_left
                           ·simp only [Act.put, List.setIfInBounds_toArray, List.set_cons_zero, List.set_cons_succ, i64_w, i32_w]
                            rfl
                           refine one_ (i := 16) (N := some 78) #[true, true, true, true, true, true, true, true, true, true, true, true, true, true, true, true, true, false, false, false] rfl rfl (one_of HT_.out (by kernel_rfl)) (by decide) (fun K hK => ?_)
                           refine goes_ Try.func79 (by kernel_rfl) rfl #[.agg #[.int .i64 a0_0, .int .i64 a0_1, .slice A0_2 l0_2.length c0_2], .int .i64 x13_2, .int .i64 (rd x11_3 x16_4)] (by rfl) rfl rfl (by (try simp only [List.map_toArray, List.map_cons, List.map_nil]); rfl) ?_
                           with_reducible refine (codewrightref04_Mul.calls k4 a0_0 a0_1 _ _ l0_2 x13_2 (rd x11_3 x16_4) t435 _ ?side1 ?side2 A52.out).mono ?_
                           (case side1 => repeat (exact (Kd.C_below HR0_2.out HB.out)))
                           (case side2 => exact HC0_2.out)
                           rintro e w57 ⟨rfl, hb⟩
                           have HS3_ := (hb.cell (World.block_lt_of_cell? _ _ (hHeld.2.2.2.1))).trans (hHeld.2.2.2.1)
                           have HS4_ := (hb.cell (World.block_lt_of_cell? _ _ (hHeld.2.2.2.2.1))).trans (hHeld.2.2.2.2.1)
                           have HS5_ := (hb.cell (World.block_lt_of_cell? _ _ (hHeld.2.2.2.2.2))).trans (hHeld.2.2.2.2.2)
                           refine ⟨_, rfl, ?_⟩
                           have n0_ := Aside0.mk (Kd.N_below (by (with_reducible repeat (fail)); exact HO_9.out) hb)
                           have n1_ := Aside0.mk (Kd.R_below (by (with_reducible repeat (fail)); exact HO_11.out) hb)
                           have n2_ := Aside0.mk (Kd.N_below (by (with_reducible repeat (fail)); exact HO_12.out) hb)
                           have n3_ := Aside0.mk (Kd.R_below (by (with_reducible repeat (fail)); exact HO_15.out) hb)
                           have n4_ := Aside0.mk (Kd.V_below (by (with_reducible repeat (fail)); exact HL432_0.out) hb)
                           have n5_ := Aside0.mk (blk_below (g := gb412) (o := .cells #[.int .i64 a0_0, .int .i64 a0_1, .slice A0_2 l0_2.length c0_2] 53 (0, 0)) (by (with_reducible repeat (fail)); exact BK412.out) hb)
                           have n6_ := Aside0.mk (Kd.C_below (by repeat ((with_reducible exact HR432_0.out))) hb)
                           have n7_ := Aside0.mk (below_step (by repeat ((with_reducible exact HB.out))) hb)
                           clear HO_9
                           clear HO_11
                           clear HO_12
                           clear HO_15
                           clear HL432_0
                           clear BK412
                           clear HR432_0
                           clear HB
                           have HO_9 := n0_
                           have HO_11 := n1_
                           have HO_12 := n2_
                           have HO_15 := n3_
                           have HL432_0 := n4_
                           have BK412 := n5_
                           have HR432_0 := n6_
                           have HB := n7_
                           clear n0_ n1_ n2_ n3_ n4_ n5_ n6_ n7_
                           (try clear hb)
                           refine hK.out _ _ ⟨(blk_cell BK412.out 0).trans rfl, (blk_cell BK412.out 1).trans rfl, (blk_cell BK412.out 2).trans rfl, HS3_, HS4_, HS5_⟩ (fun hHeld => ?_)
                           clear hK K
                           refine norm_ (a' := ?_) ?_ ?_
                           rotate_left
                           ·show Act.put _ (some 78) _ = _
                            simp only [Act.put, List.setIfInBounds_toArray, List.set_cons_zero, List.set_cons_succ, i64_w, i32_w]
                            rfl
                           refine one_ (i := 17) (N := some 79) #[true, true, true, true, true, true, true, true, true, true, true, true, true, true, true, true, true, true, false, false] rfl rfl (one_of HT_.out (by kernel_rfl)) (by decide) (fun K hK => ?_)
                           refine goes_ Try.func78 (by kernel_rfl) rfl #[.agg #[.int .i64 a0_0, .int .i64 a0_1, .slice A0_2 l0_2.length c0_2], .int .i64 (rd (rd_LI x9_1 x14_3) x16_4), .int .i64 t435] (by rfl) rfl rfl (by (try simp only [List.map_toArray, List.map_cons, List.map_nil]); rfl) ?_
                           with_reducible refine (codewrightref04_Add.calls k4 a0_0 a0_1 _ _ l0_2 (rd (rd_LI x9_1 x14_3) x16_4) t435 t436 _ ?side1 ?side2 A53.out).mono ?_
                           (case side1 => repeat (exact (Kd.C_below HR0_2.out HB.out)))
                           (case side2 => exact HC0_2.out)
                           rintro e w58 ⟨rfl, hb⟩
                           have HS3_ := (hb.cell (World.block_lt_of_cell? _ _ (hHeld.2.2.2.1))).trans (hHeld.2.2.2.1)
                           have HS4_ := (hb.cell (World.block_lt_of_cell? _ _ (hHeld.2.2.2.2.1))).trans (hHeld.2.2.2.2.1)
                           have HS5_ := (hb.cell (World.block_lt_of_cell? _ _ (hHeld.2.2.2.2.2))).trans (hHeld.2.2.2.2.2)
                           refine ⟨_, rfl, ?_⟩
                           have n0_ := Aside0.mk (Kd.N_below (by (with_reducible repeat (fail)); exact HO_9.out) hb)
                           have n1_ := Aside0.mk (Kd.R_below (by (with_reducible repeat (fail)); exact HO_11.out) hb)
                           have n2_ := Aside0.mk (Kd.N_below (by (with_reducible repeat (fail)); exact HO_12.out) hb)
                           have n3_ := Aside0.mk (Kd.R_below (by (with_reducible repeat (fail)); exact HO_15.out) hb)
                           have n4_ := Aside0.mk (Kd.V_below (by (with_reducible repeat (fail)); exact HL432_0.out) hb)
                           have n5_ := Aside0.mk (blk_below (g := gb412) (o := .cells #[.int .i64 a0_0, .int .i64 a0_1, .slice A0_2 l0_2.length c0_2] 53 (0, 0)) (by (with_reducible repeat (fail)); exact BK412.out) hb)
                           have n6_ := Aside0.mk (Kd.C_below (by repeat ((with_reducible exact HR432_0.out))) hb)
                           have n7_ := Aside0.mk (below_step (by repeat ((with_reducible exact HB.out))) hb)
                           clear HO_9
                           clear HO_11
                           clear HO_12
                           clear HO_15
                           clear HL432_0
                           clear BK412
                           clear HR432_0
                           clear HB
                           have HO_9 := n0_
                           have HO_11 := n1_
                           have HO_12 := n2_
                           have HO_15 := n3_
                           have HL432_0 := n4_
                           have BK412 := n5_
                           have HR432_0 := n6_
                           have HB := n7_
                           clear n0_ n1_ n2_ n3_ n4_ n5_ n6_ n7_
                           (try clear hb)
                           have p55 : 0 ≤ (x16_4 : Int) := of_decide_eq_true (by (with_reducible assumption))
                           have q55 : (x16_4 : Int) < ((x15_4.length : Int) : Int) := of_decide_eq_true (by (with_reducible assumption))
                           obtain ⟨go55, co55, eo55, gb55, gl55, cl55, HG55⟩ := Kd.R_form HO_15.out (by omega)
                           (cases eo55)
                           have GB55 := Aside0.mk gb55
                           have GG55 := Aside0.mk HG55
                           clear gb55 gl55 HG55
                           obtain ⟨hx55_0, hf55_0⟩ := Kd.R_celln 0 HO_15.out (x16_4 : Int) p55 q55
                           replace p55 := eq_true p55
                           replace q55 := eq_true q55
                           have HP59 := Kd.R_putn HO_15.out (x16_4 : Int) t436
                           rw [← Ny437.out] at HP59
                           have HQ59 := Aside0.mk HP59
                           clear HP59
                           refine hK.out _ _ ⟨(blk_cell BK412.out 0).trans rfl, (blk_cell BK412.out 1).trans rfl, (blk_cell BK412.out 2).trans rfl, HS3_, HS4_, HS5_⟩ (fun hHeld => ?_)
                           clear hK K
                           refine norm_ (a' := ?_) ?_ ?_
                           rotate_left
                           ·show Act.put _ (some 79) _ = _
                            simp only [Act.put, List.setIfInBounds_toArray, List.set_cons_zero, List.set_cons_succ, i64_w, i32_w]
                            rfl
                           refine pure_ (i := 18) (N := some 80) (v := ?_) (a' := ?_) #[true, true, true, true, true, true, true, true, true, true, true, true, true, true, true, true, true, true, true, false] rfl rfl (any_of HT_.out (by kernel_rfl)) (fun _ _ _ h => h) (Or.inl ⟨by rfl, ?_⟩) ?_ ?_
                           rotate_left
                           ·intro w'
                            go_simp
                            with_reducible rfl
                           rotate_left
                           ·simp only [Act.put, List.setIfInBounds_toArray, List.set_cons_zero, List.set_cons_succ, i64_w, i32_w]
                            rfl
                           refine last_ (i := 19) (N := none) #[true, true, true, true, true, true, true, true, true, true, true, true, true, true, true, true, true, true, true, true] rfl rfl (one_of HT_.out (by kernel_rfl)) (by decide) (fun K hK => ?_)
                           refine skip_ (w1 := ?_) (by rfl) rfl ?_ ?_
                           rotate_left
                           ·go_simp
                            rfl
                           refine hK.out _ _ ?_
                           clear hK K
                           refine done_ (done_of HT_.out (by kernel_rfl)) ?_
                           try go_wp2
                           go_roundg k4
                           case measure => have := HK1.out; have := HK2.out; have := HK3.out; have := HK4.out; omega
                           case rel => exact ⟨(y437), (wrap64 (x16_4 + 1)), (by rfl), H', ⟨by have := HK1.out; have := HK2.out; have := HK3.out; have := HK4.out; omega⟩, ⟨by (with_reducible repeat (fail)); exact Kd.N_mono (Kd.N_far (p := ⟨go55, (x16_4 : Int).toNat, none⟩) (Kd.N_mono HO_9.out (fun k_ hk => (⟨hk, fun e_ => hk.2.2.2.1 (by rw [e_]; rfl)⟩ : _ ∧ k_ ≠ go55))) (fun _ hk => hk.2) (.int .i64 t436)) (fun _ hk => ⟨hk.1.1, ⟨hk.1.2.1, ⟨hk.1.2.2.1, ⟨hk.1.2.2.2.1, hk.1.2.2.2.2⟩⟩⟩⟩)⟩, ⟨by (with_reducible repeat (fail)); exact Kd.R_mono (Kd.R_far (p := ⟨go55, (x16_4 : Int).toNat, none⟩) (Kd.R_mono HO_11.out (fun k_ hk => (⟨hk, fun e_ => hk.2 (by rw [e_]; rfl)⟩ : _ ∧ k_ ≠ go55))) (fun _ hk => hk.2) (.int .i64 t436)) (fun _ hk => ⟨hk.1.1, hk.1.2⟩)⟩, ⟨by (with_reducible repeat (fail)); exact Kd.N_mono (Kd.N_far (p := ⟨go55, (x16_4 : Int).toNat, none⟩) (Kd.N_mono HO_12.out (fun k_ hk => (⟨hk, fun e_ => hk.2.2.2.1 (by rw [e_]; rfl)⟩ : _ ∧ k_ ≠ go55))) (fun _ hk => hk.2) (.int .i64 t436)) (fun _ hk => ⟨hk.1.1, ⟨hk.1.2.1, ⟨hk.1.2.2.1, ⟨hk.1.2.2.2.1, hk.1.2.2.2.2⟩⟩⟩⟩)⟩, ⟨by (with_reducible repeat (fail)); exact HQ59.out⟩, ⟨by (with_reducible repeat (fail)); refine blk_far ?_ (by have h_ := Kd.R_ne HO_15.out BK412.out (by decide); intro e_; exact h_ (by rw [e_]; rfl)) _; (with_reducible repeat (fail)); exact BK412.out⟩, ⟨by repeat ((with_reducible first | exact HB.out | refine below_set ?_ GB55.out))⟩⟩
                          ·rw [if_neg c54] at H
                           exact absurd H (by simp)
                         ·rw [if_neg c51] at H
                          exact absurd H (by simp)
                        ·rw [if_neg c50] at H
                         exact absurd H (by simp)
                       ·rw [if_neg c49] at H
                        exact absurd H (by simp)
                      ·rw [if_neg c48] at H
                       exact absurd H (by simp)
                     ·rw [if_neg c47] at H
                      exact absurd H (by simp)
                    ·rw [if_neg c46] at H
                     have c46b0 : decide (x16_4 < a1) = false := decide_eq_false c46
                     clear c46
                     by_cases c60 : x12_3.length < 5864062014805
                     ·rw [if_pos c60] at H
                      have LMc60 := Aside0.mk c60
                      clear c60
                      obtain ⟨y429, hy429⟩ : ∃ y_ : List (List Int), y_ = (x12_3 ++ [x15_4]) := ⟨_, rfl⟩
                      replace H : (codewrightref24_Span.l2 k4 a1 l2 a3 x9_1 x10_1 x11_3 y429 x13_2 (wrap64 (x14_3 + 1)) a0_0 a0_1 l0_2) = some r := by (rw [hy429]; with_reducible exact H)
                      have Ny429 := Aside0.mk hy429
                      clear hy429
                      have H' := Aside0.mk H
                      clear H
                      obtain ⟨Ao62, co62, eo62⟩ := Kd.R_slice HO_15.out
                      subst eo62
                      go_wp2_with (((with_reducible refine gate_builtin (b := .append) (xs := #[.tmp 81, .tmp 83]) rfl ?_); at_builtin; refine Kd.N_append (Kd.slice 3 (Kd.int .i64)) (w0 := w) w.heap.size rfl (.tmp 81) (.tmp 83) 34 41 (.slice none 0 0) 24 rfl Try.underlying34 info41 rfl (by decide) (by omega) u12 x12_3 x15_4 [.slice Ao62 x15_4.length co62] (fun k_ => (w.heap.size ≤ k_) ∧ some k_ ≠ (.slice Ao33 x9_1.length co33 : Value).ownBlock ∧ some k_ ≠ (.slice Ao34 x11_3.length co34 : Value).ownBlock ∧ k_ ≠ gb412) (fun k_ => ((fun k_ => (w.heap.size ≤ k_) ∧ some k_ ≠ (.slice Ao33 x9_1.length co33 : Value).ownBlock ∧ some k_ ≠ (.slice Ao34 x11_3.length co34 : Value).ownBlock ∧ k_ ≠ gb412)) k_ ∧ some k_ ≠ (u12 : Value).ownBlock) rfl rfl ?aP (fun _ hk => hk) ?aF ?aO ?aB ?aS ?aL ?_; (case aP => exact (Kd.FK_slice_mk (Kd.R_reads' (Kd.R_mono (ok' := (fun k_ => ((fun k_ => (w.heap.size ≤ k_) ∧ some k_ ≠ (.slice Ao33 x9_1.length co33 : Value).ownBlock ∧ some k_ ≠ (.slice Ao34 x11_3.length co34 : Value).ownBlock ∧ k_ ≠ gb412)) k_ ∧ some k_ ≠ (u12 : Value).ownBlock)) (Kd.R_types (Kd.R_apart' (Kd.R_apart' (HO_15.out) (Kd.N_typed HO_9.out) (by decide)) (Kd.N_typed HO_12.out) (by decide)) BK412.out (by decide)) (fun k_ hk => ⟨⟨hk.1.1.1.1, ⟨hk.1.1.2, ⟨hk.1.1.1.2, hk.2⟩⟩⟩, hk.1.2⟩))).2.1 (Kd.R_F (Kd.R_mono (ok' := (fun k_ => ((fun k_ => (w.heap.size ≤ k_) ∧ some k_ ≠ (.slice Ao33 x9_1.length co33 : Value).ownBlock ∧ some k_ ≠ (.slice Ao34 x11_3.length co34 : Value).ownBlock ∧ k_ ≠ gb412)) k_ ∧ some k_ ≠ (u12 : Value).ownBlock)) (Kd.R_types (Kd.R_apart' (Kd.R_apart' (HO_15.out) (Kd.N_typed HO_9.out) (by decide)) (Kd.N_typed HO_12.out) (by decide)) BK412.out (by decide)) (fun k_ hk => ⟨⟨hk.1.1.1.1, ⟨hk.1.1.2, ⟨hk.1.1.1.2, hk.2⟩⟩⟩, hk.1.2⟩))))); (case aB => exact (by repeat ((with_reducible exact HB.out)))); (case aF => exact (fun k_ hk => ⟨(Nat.le_trans (below_size (by repeat ((with_reducible exact HB.out)))) hk), Kd.fresh' (Kd.N_lt (by (with_reducible repeat (fail)); exact HO_9.out)) k_ hk, Kd.fresh' (Kd.R_lt (by (with_reducible repeat (fail)); exact HO_11.out)) k_ hk, Kd.freshB (g := gb412) (o := .cells #[.int .i64 a0_0, .int .i64 a0_1, .slice A0_2 l0_2.length c0_2] 53 (0, 0)) (by (with_reducible repeat (fail)); exact BK412.out) k_ hk⟩)); (case aO => exact (by (with_reducible repeat (fail)); exact Kd.N_mono HO_12.out (fun _ hk => ⟨hk.1, ⟨hk.2.1, ⟨hk.2.2.1, hk.2.2.2.2⟩⟩⟩))); (case aS => exact (below_size (by repeat ((with_reducible exact HB.out))))); (case aL => have := LMc60.out; omega); intro v430 w61 ho hb hg hat; rw [← Ny429.out] at ho; have n0_ := Aside0.mk (Kd.N_afterv (ok := (fun k_ => (w.heap.size ≤ k_) ∧ some k_ ≠ (.slice Ao34 x11_3.length co34 : Value).ownBlock ∧ some k_ ≠ (.slice Ao62 x15_4.length co62 : Value).ownBlock ∧ k_ ≠ gb412)) (by (with_reducible repeat (fail)); exact Kd.N_mono HO_9.out (fun _ hk => ⟨⟨hk.1, ⟨hk.2.1, ⟨hk.2.2.2.1, hk.2.2.2.2⟩⟩⟩, hk.2.2.1⟩)) hg hat); have n1_ := Aside0.mk (Kd.R_over' (by (with_reducible repeat (fail)); exact HO_11.out) (Kd.N_typed (by (with_reducible repeat (fail)); exact HO_12.out)) (by decide) hg); have n2_ := Aside0.mk (blk_grown (g := gb412) (o := .cells #[.int .i64 a0_0, .int .i64 a0_1, .slice A0_2 l0_2.length c0_2] 53 (0, 0)) (by (with_reducible repeat (fail)); exact BK412.out) hg (Kd.N_ne HO_12.out BK412.out (by decide))); have n3_ := Aside0.mk (hb); have n4_ := Aside0.mk (ho); clear HO_9; clear HO_11; clear BK412; clear HB; clear HO_12; clear HO_15; have HO_9 := n0_; have HO_11 := n1_; have BK412 := n2_; have HB := n3_; have HO431 := n4_; clear n0_ n1_ n2_ n3_ n4_; clear ho hb hg hat))
                      (try simp only [← hl11_3])
                      go_roundg k4
                      case measure => have := HK1.out; have := HK2.out; have := HK3.out; have := HK4.out; omega
                      case rel => exact ⟨(x11_3), (y429), (wrap64 (x14_3 + 1)), (by rfl), H', ⟨by have := HK1.out; have := HK2.out; have := HK3.out; have := HK4.out; omega⟩, ⟨by (try simp only [hl11_3]); (with_reducible repeat (fail)); exact Kd.N_mono HO_9.out (fun _ hk => ⟨hk.1.1, ⟨hk.1.2.1, ⟨hk.2, hk.1.2.2.2⟩⟩⟩)⟩, ⟨by (try simp only [hl11_3]); (with_reducible repeat (fail)); exact Kd.R_mono HO_11.out (fun _ hk => hk.1)⟩, ⟨by (try simp only [hl11_3]); (with_reducible repeat (fail)); exact HO431.out⟩, ⟨by (with_reducible repeat (fail)); exact BK412.out⟩, ⟨by repeat ((with_reducible exact HB.out))⟩⟩
                     ·rw [if_neg c60] at H
                      exact absurd H (by simp)
                 ·rw [if_neg c43] at H
                  exact absurd H (by simp)
                ·rw [if_neg c42] at H
                 exact absurd H (by simp)
               ·rw [if_neg c41] at H
                have c41b0 : decide (x14_3 < (x9_1.length : Int)) = false := decide_eq_false c41
                clear c41
                have H' := Aside0.mk H
                clear H
                go_wp2
                (try simp only [← hl11_2, ← hl11_3])
                go_roundg k3
                case measure => have := HK1.out; have := HK2.out; have := HK3.out; omega
                case rel => exact ⟨(x11_3), (x12_3), (wrap64 (x13_2 + 1)), (by rfl), H', ⟨by have := HK1.out; have := HK2.out; have := HK3.out; omega⟩, ⟨by (try simp only [hl11_2]); (try simp only [hl11_3]); (with_reducible repeat (fail)); exact HO_9.out⟩, ⟨by (try simp only [hl11_2]); (try simp only [hl11_3]); (with_reducible repeat (fail)); exact HO_11.out⟩, ⟨by (try simp only [hl11_2]); (try simp only [hl11_3]); (with_reducible repeat (fail)); exact HO_12.out⟩, ⟨by (with_reducible repeat (fail)); exact BK412.out⟩, ⟨by repeat ((with_reducible exact HB.out))⟩⟩
            ·rw [if_neg c38] at H
             have c38b0 : decide (x13_2 < t425) = false := decide_eq_false c38
             clear c38
             have H' := Aside0.mk H
             clear H
             have hcz63_0 : wr.cell? ⟨gb412, 0, none⟩ = some (.int .i64 a0_0) := (blk_cell BK412.out 0).trans rfl
             have hcz63_1 : wr.cell? ⟨gb412, 1, none⟩ = some (.int .i64 a0_1) := (blk_cell BK412.out 1).trans rfl
             have hcz63_2 : wr.cell? ⟨gb412, 2, none⟩ = some (.slice A0_2 l0_2.length c0_2) := (blk_cell BK412.out 2).trans rfl
             have hfz63_0 := blk_frozen BK412.out 0
             have hfz63_1 := blk_frozen BK412.out 1
             have hfz63_2 := blk_frozen BK412.out 2
             go_wp2_with (((with_reducible refine gate_callee (f := 37) rfl ?_); refine goesL_ (some 45) rfl rfl Try.func37 (by kernel_rfl) rfl #[.agg #[.int .i64 a0_0, .int .i64 a0_1, .slice A0_2 l0_2.length c0_2]] rfl (by (try simp only [List.map_toArray, List.map_cons, List.map_nil]); rfl) ?_; (with_reducible refine (codewrightref04_Order.calls k2 a0_0 a0_1 _ _ l0_2 t425 _ ?side1 ?side2 A37.out).mono ?_); (case side1 => repeat (exact (Kd.C_below HR0_2.out HB.out))); (case side2 => exact HC0_2.out); rintro e w64 ⟨rfl, hb⟩; refine ⟨_, rfl, ?_⟩; have n0_ := Aside0.mk (Kd.N_below (by (with_reducible repeat (fail)); exact HO_9.out) hb); have n1_ := Aside0.mk (Kd.R_below (by (with_reducible repeat (fail)); exact HO_11.out) hb); have n2_ := Aside0.mk (Kd.N_below (by (with_reducible repeat (fail)); exact HO_12.out) hb); have n3_ := Aside0.mk (blk_below (g := gb412) (o := .cells #[.int .i64 a0_0, .int .i64 a0_1, .slice A0_2 l0_2.length c0_2] 53 (0, 0)) (by (with_reducible repeat (fail)); exact BK412.out) hb); have n4_ := Aside0.mk (below_step (by repeat ((with_reducible exact HB.out))) hb); clear HO_9; clear HO_11; clear HO_12; clear BK412; clear HB; have HO_9 := n0_; have HO_11 := n1_; have HO_12 := n2_; have BK412 := n3_; have HB := n4_; clear n0_ n1_ n2_ n3_ n4_; (try clear hb)))
             (try simp only [← hl11_2])
             go_roundg k2
             case measure => have := HK1.out; have := HK2.out; omega
             case rel => exact ⟨(x12_2), (wrap64 (x10_1 + 1)), (by rfl), H', ⟨by have := HK1.out; have := HK2.out; omega⟩, ⟨by (with_reducible repeat (fail)); exact Kd.N_mono HO_12.out (fun _ hk => ⟨hk.1, hk.2.2.2⟩)⟩, ⟨by (with_reducible repeat (fail)); exact BK412.out⟩, ⟨by repeat ((with_reducible exact HB.out))⟩⟩
      ·rw [if_neg c14] at H
       exact absurd H (by simp)
     ·rw [if_neg c13] at H
      have c13b0 : decide (x10_1 < (l2.length : Int)) = false := decide_eq_false c13
      clear c13
      obtain rfl := Option.some.inj H
      go_wp2
      go_ret
      exact ⟨_, by rfl, by (with_reducible repeat (fail)); exact Kd.N_mono HO_9.out (fun _ hk => hk.1), by repeat ((with_reducible exact HB.out))⟩
  ·rw [if_neg c6] at H
   exact absurd H (by simp)
 ·rw [if_neg c5] at H
  exact absurd H (by simp)
end Go.Proofs.Ythheakfgmombdaa.F
end
section
namespace Go.Proofs.Ythheakfgmombdaa.F
open Go.RowKit Go.Proofs.YthheakfgmombdaaX.PrintWords Go.Proofs.YthheakfgmombdaaX.PrintLast Go.Proofs.YthheakfgmombdaaX.PrintMore
attribute [local go_sem] max2_int min2_int max_two min_two max_three min_three max_four min_four   -- for this text's walks alone
set_option linter.unusedVariables false
set_option linter.unusedSimpArgs false
set_option maxHeartbeats 8000000 in
set_option maxRecDepth 100000 in
theorem codewrightref01_Trim.calls (k : Nat) (A0 : Option Addr) (c0 : Nat) (l0 : List Int) (r : List Int) (w : World) (hr0 : Kd.C (Kd.int .u32) w A0 l0.length l0) (hc0 : l0.length ≤ c0) (h : codewrightref01_Trim.f k l0 = some r) :
  Calls Try.prog 97 #[.slice A0 l0.length c0] w fun e w' => ∃ v0_ : Value, e = .returned (v0_) ∧ Kd.R (Kd.int .u32) 100 w' w.heap.size (fun _ => True) v0_ r ∧ Below w.heap.size w w' := by
 have HR0 := Aside0.mk hr0
 have HC0 := Aside0.mk hc0
 clear hr0 hc0
 have HB := Aside0.mk (Below.refl w.heap.size w)
 have H : (codewrightref01_Trim.l0 k l0 (l0.length : Int)) = some r := h
 clear h
 have H' := Aside0.mk H
 clear H
 go_enter Try.func97, Try.ntmps97
 go_wp2
 go_loopg [3] k (fun kq v3 w' => ∃ (x3_1 : Int), v3 = .int .i64 x3_1 ∧ Aside0 (codewrightref01_Trim.l0 kq l0 x3_1 = some r) ∧ Aside0 (kq ≤ k) ∧ Aside0 (Below w.heap.size w w'))
 case atStart => exact ⟨((l0.length : Int)), rfl, H', ⟨Nat.le_refl _⟩, ⟨HB.out⟩⟩
 case round =>
  clear H'
  obtain ⟨x3_1, rfl, HA, HK1, HB⟩ := hrel
  cases gk with
  | zero => exact absurd HA.out (by simp [codewrightref01_Trim.l0])
  | succ k1 =>
   have H := HA.out
   clear HA
   simp only [codewrightref01_Trim.l0] at H
   by_cases c2 : x3_1 > 0
   ·rw [if_pos c2] at H
    have c2b0 : decide (0 < x3_1) = true := decide_eq_true c2
    clear c2
    obtain ⟨ji3, hji3⟩ : ∃ j_ : Int, (wrap64 (x3_1 - 1)) = j_ := ⟨_, rfl⟩
    rw [hji3] at H
    have hji3w : (IntKind.i64.wrap (x3_1 - 1)) = ji3 := (i64_w _).trans hji3
    by_cases c4 : 0 ≤ (ji3)
    ·rw [if_pos c4] at H
     have c4b0 : decide (0 ≤ (ji3)) = true := decide_eq_true c4
     clear c4
     by_cases c5 : (ji3) < (l0.length : Int)
     ·rw [if_pos c5] at H
      have c5b0 : decide ((ji3) < (l0.length : Int)) = true := decide_eq_true c5
      clear c5
      by_cases c6 : (rd l0 (ji3)) = 0
      ·rw [if_pos c6] at H
       have c6b1 : ((rd l0 (ji3)) != 0) = false := bne_eq_false_iff_eq.mpr c6
       clear c6
       have H' := Aside0.mk H
       clear H
       have p337 : 0 ≤ ((ji3) : Int) := of_decide_eq_true (by assumption)
       have q337 : (ji3) < (l0.length : Int) := of_decide_eq_true (by assumption)
       obtain ⟨ad337, e337, hx337_0⟩ := Kd.at_int HR0.out (ji3) p337 q337
       cases e337
       replace hx337_0 := (HB.out.cell (World.block_lt_of_cell? w _ hx337_0)).trans hx337_0
       replace q337 := eq_true q337
       go_wp2
       go_roundg k1
       case measure => have := HK1.out; omega
       case rel => exact ⟨(ji3), rfl, H', ⟨by have := HK1.out; omega⟩, ⟨HB.out⟩⟩
      ·rw [if_neg c6] at H
       obtain ⟨y338, hy338⟩ : ∃ y_ : List Int, y_ = (([] : List Int)) := ⟨_, rfl⟩
       (try replace H := (Option.bind_some _ _).symm.trans H); rw [← hy338] at H
       have Ny338 := Aside0.mk hy338
       clear hy338
       by_cases c7 : 0 ≤ x3_1
       ·rw [if_pos c7] at H
        have c7b1 : decide (0 ≤ x3_1) = true := decide_eq_true c7
        clear c7
        by_cases c8 : x3_1 ≤ (l0.length : Int)
        ·rw [if_pos c8] at H
         have c8b0 := eq_true c8
         have c8b1 : decide (x3_1 ≤ (l0.length : Int)) = true := decide_eq_true c8
         clear c8
         by_cases c9 : y338.length + (l0.take (x3_1 : Int).toNat).length < 35184372088832
         ·rw [if_pos c9] at H
          have LMc9 := Aside0.mk c9
          clear c9
          obtain ⟨y342, hy342⟩ : ∃ y_ : List Int, y_ = (y338 ++ (l0.take (x3_1 : Int).toNat)) := ⟨_, rfl⟩
          (try replace H := (Option.bind_some _ _).symm.trans H); rw [← hy342] at H
          have Ny342 := Aside0.mk hy342
          clear hy342
          obtain rfl := Option.some.inj H
          have p337 : 0 ≤ ((ji3) : Int) := of_decide_eq_true (by assumption)
          have q337 : (ji3) < (l0.length : Int) := of_decide_eq_true (by assumption)
          obtain ⟨ad337, e337, hx337_0⟩ := Kd.at_int HR0.out (ji3) p337 q337
          cases e337
          replace hx337_0 := (HB.out.cell (World.block_lt_of_cell? w _ hx337_0)).trans hx337_0
          replace q337 := eq_true q337
          go_wp2_with (first | (refine Kd.R_lit (Kd.int .u32) _ 100 ?hg (N := 18) ?hd (xs := ([] : List Int)) (inner := []) (ok := fun _ => True) (okp := fun _ => True) ?hr ?hp (fun _ hk => hk) trivial (Below.refl _ _) (Nat.le_refl _) (by simp) ?_; (case hd => rfl); (case hg => rfl); (case hr => go_simp; done); (case hp => exact (Reps.none _ _)); intro v339 w10 ho11 hb hg_ hnew_; clear hg_ hnew_; (rw [← Ny338.out] at ho11); have HO340 := Aside0.mk (Kd.R_lower ho11 (below_size (HB.out))); replace HB := Aside0.mk (below_step (HB.out) hb); clear hb ho11; obtain ⟨i012, hi012, _, hsz12, _⟩ := info_parts info100; obtain ⟨hcut12, hA12, hC12⟩ := print_take_of (P := Try.prog) (Value.int .u32) 0 44 100 .i64 Try.underlying44 hi012 hsz12 (some ad337) c0 l0 x3_1 (of_decide_eq_true (by assumption)) (of_decide_eq_true (by assumption)) HC0.out; have HR341 := Aside0.mk (Kd.C_of_reads (h1 := fun _ => rfl) (hA12 _ (Kd.reads_of_C HR0.out))); have HC341 := Aside0.mk hC12; clear hA12 hC12 hi012 hsz12) | ((with_reducible refine gate_builtin (b := .append) (xs := #[.tmp 18, .tmp 21]) rfl ?_); at_builtin; refine Kd.R_append_rows (Kd.int .u32) (w0 := w) w.heap.size rfl (.tmp 18) (.tmp 21) 44 100 (.int .u32 0) 4 rfl Try.underlying44 info100 rfl (by decide) (by omega) v339 y338 (l0.take (x3_1 : Int).toNat) _ _ _ (fun _ => True) (fun _ => False) rfl rfl ?aO ?aR (fun _ _ h => h) (fun _ h => h.elim) ?aF ?aB ?aS ?aL ?_; (case aR => (refine Kd.C_len_ (show (l0.take (x3_1 : Int).toNat).length = x3_1.toNat from (by rw [List.length_take]; have h_ : (x3_1 : Int) ≤ (l0.length : Int) := of_decide_eq_true (by assumption); omega)).symm ?_; repeat (exact (Kd.C_below HR341.out HB.out)))); (case aB => exact (HB.out)); (case aF => exact (fun _ _ => trivial)); (case aO => exact (HO340.out)); (case aS => exact (below_size (HB.out))); (case aL => have := LMc9.out; have hlx_ := (show (l0.take (x3_1 : Int).toNat).length = x3_1.toNat from (by rw [List.length_take]; have h_ : (x3_1 : Int) ≤ (l0.length : Int) := of_decide_eq_true (by assumption); omega)); omega); intro v343 w13 ho hb hg hat; rw [← Ny342.out] at ho; replace HB := Aside0.mk (hb); have HO344 := Aside0.mk (ho); clear HO340; clear ho hb hg hat))
          go_ret
          exact ⟨_, rfl, HO344.out, HB.out⟩
         ·rw [if_neg c9] at H
          exact absurd H (by simp)
        ·rw [if_neg c8] at H
         exact absurd H (by simp)
       ·rw [if_neg c7] at H
        exact absurd H (by simp)
     ·rw [if_neg c5] at H
      exact absurd H (by simp)
    ·rw [if_neg c4] at H
     exact absurd H (by simp)
   ·rw [if_neg c2] at H
    have c2b0 : decide (0 < x3_1) = false := decide_eq_false c2
    clear c2
    obtain ⟨y345, hy345⟩ : ∃ y_ : List Int, y_ = (([] : List Int)) := ⟨_, rfl⟩
    (try replace H := (Option.bind_some _ _).symm.trans H); rw [← hy345] at H
    have Ny345 := Aside0.mk hy345
    clear hy345
    by_cases c14 : 0 ≤ x3_1
    ·rw [if_pos c14] at H
     have c14b1 : decide (0 ≤ x3_1) = true := decide_eq_true c14
     clear c14
     by_cases c15 : x3_1 ≤ (l0.length : Int)
     ·rw [if_pos c15] at H
      have c15b0 := eq_true c15
      have c15b1 : decide (x3_1 ≤ (l0.length : Int)) = true := decide_eq_true c15
      clear c15
      by_cases c16 : y345.length + (l0.take (x3_1 : Int).toNat).length < 35184372088832
      ·rw [if_pos c16] at H
       have LMc16 := Aside0.mk c16
       clear c16
       obtain ⟨y349, hy349⟩ : ∃ y_ : List Int, y_ = (y345 ++ (l0.take (x3_1 : Int).toNat)) := ⟨_, rfl⟩
       (try replace H := (Option.bind_some _ _).symm.trans H); rw [← hy349] at H
       have Ny349 := Aside0.mk hy349
       clear hy349
       obtain rfl := Option.some.inj H
       go_wp2_with (first | (refine Kd.R_lit (Kd.int .u32) _ 100 ?hg (N := 18) ?hd (xs := ([] : List Int)) (inner := []) (ok := fun _ => True) (okp := fun _ => True) ?hr ?hp (fun _ hk => hk) trivial (Below.refl _ _) (Nat.le_refl _) (by simp) ?_; (case hd => rfl); (case hg => rfl); (case hr => go_simp; done); (case hp => exact (Reps.none _ _)); intro v346 w17 ho18 hb hg_ hnew_; clear hg_ hnew_; (rw [← Ny345.out] at ho18); have HO347 := Aside0.mk (Kd.R_lower ho18 (below_size (HB.out))); replace HB := Aside0.mk (below_step (HB.out) hb); clear hb ho18; obtain ⟨i019, hi019, _, hsz19, _⟩ := info_parts info100; obtain ⟨hcut19, hA19, hC19⟩ := print_take_of (P := Try.prog) (Value.int .u32) 0 44 100 .i64 Try.underlying44 hi019 hsz19 A0 c0 l0 x3_1 (of_decide_eq_true (by assumption)) (of_decide_eq_true (by assumption)) HC0.out; have HR348 := Aside0.mk (Kd.C_of_reads (h1 := fun _ => rfl) (hA19 _ (Kd.reads_of_C HR0.out))); have HC348 := Aside0.mk hC19; clear hA19 hC19 hi019 hsz19) | ((with_reducible refine gate_builtin (b := .append) (xs := #[.tmp 18, .tmp 21]) rfl ?_); at_builtin; refine Kd.R_append_rows (Kd.int .u32) (w0 := w) w.heap.size rfl (.tmp 18) (.tmp 21) 44 100 (.int .u32 0) 4 rfl Try.underlying44 info100 rfl (by decide) (by omega) v346 y345 (l0.take (x3_1 : Int).toNat) _ _ _ (fun _ => True) (fun _ => False) rfl rfl ?aO ?aR (fun _ _ h => h) (fun _ h => h.elim) ?aF ?aB ?aS ?aL ?_; (case aR => (refine Kd.C_len_ (show (l0.take (x3_1 : Int).toNat).length = x3_1.toNat from (by rw [List.length_take]; have h_ : (x3_1 : Int) ≤ (l0.length : Int) := of_decide_eq_true (by assumption); omega)).symm ?_; repeat (exact (Kd.C_below HR348.out HB.out)))); (case aB => exact (HB.out)); (case aF => exact (fun _ _ => trivial)); (case aO => exact (HO347.out)); (case aS => exact (below_size (HB.out))); (case aL => have := LMc16.out; have hlx_ := (show (l0.take (x3_1 : Int).toNat).length = x3_1.toNat from (by rw [List.length_take]; have h_ : (x3_1 : Int) ≤ (l0.length : Int) := of_decide_eq_true (by assumption); omega)); omega); intro v350 w20 ho hb hg hat; rw [← Ny349.out] at ho; replace HB := Aside0.mk (hb); have HO351 := Aside0.mk (ho); clear HO347; clear ho hb hg hat))
       go_ret
       exact ⟨_, rfl, HO351.out, HB.out⟩
      ·rw [if_neg c16] at H
       exact absurd H (by simp)
     ·rw [if_neg c15] at H
      exact absurd H (by simp)
    ·rw [if_neg c14] at H
     exact absurd H (by simp)
end Go.Proofs.Ythheakfgmombdaa.F
end
section
namespace Go.Proofs.Ythheakfgmombdaa.F
open Go.RowKit Go.Proofs.YthheakfgmombdaaX.PrintWords Go.Proofs.YthheakfgmombdaaX.PrintLast Go.Proofs.YthheakfgmombdaaX.PrintMore
attribute [local go_sem] max2_int min2_int max_two min_two max_three min_three max_four min_four   -- for this text's walks alone
set_option linter.unusedVariables false
set_option linter.unusedSimpArgs false
set_option maxHeartbeats 8000000 in
set_option maxRecDepth 100000 in
theorem codewrightref01_Of.calls (k : Nat) (a0 : Int) (r : List Int) (w : World) (h : codewrightref01_Of.f k a0 = some r) :
  Calls Try.prog 80 #[.int .u64 a0] w fun e w' => ∃ v0_ : Value, e = .returned (v0_) ∧ Kd.R (Kd.int .u32) 100 w' w.heap.size (fun _ => True) v0_ r ∧ Below w.heap.size w w' := by
 have HB := Aside0.mk (Below.refl w.heap.size w)
 have H : ((codewrightref01_Trim.f k (([(Int.tmod a0 4294967296) % 4294967296, (IntKind.u64.wrap (Int.tdiv a0 4294967296)) % 4294967296] : List Int))).bind fun t582 => (some t582)) = some r := h
 clear h
 obtain ⟨y579, hy579⟩ : ∃ y_ : List Int, y_ = (([(Int.tmod a0 4294967296) % 4294967296, (IntKind.u64.wrap (Int.tdiv a0 4294967296)) % 4294967296] : List Int)) := ⟨_, rfl⟩
 (try replace H := (Option.bind_some _ _).symm.trans H); rw [← hy579] at H
 have Ny579 := Aside0.mk hy579
 clear hy579
 obtain ⟨t582, A2, H⟩ := bindA H
 obtain rfl := Option.some.inj H
 go_enter Try.func80, Try.ntmps80
 go_wp2_with (first | (refine Kd.R_lit (Kd.int .u32) _ 100 ?hg (N := 9) ?hd (xs := ([(Int.tmod a0 4294967296) % 4294967296, (IntKind.u64.wrap (Int.tdiv a0 4294967296)) % 4294967296] : List Int)) (inner := [.int .u32 ((Int.tmod a0 4294967296) % 4294967296), .int .u32 ((IntKind.u64.wrap (Int.tdiv a0 4294967296)) % 4294967296)]) (ok := fun _ => True) (okp := fun _ => True) ?hr ?hp (fun _ hk => hk) trivial (Below.refl _ _) (Nat.le_refl _) (by simp) ?_; (case hd => rfl); (case hg => rfl); (case hr => go_simp; done); (case hp => exact (Reps.one (show Kd.M (Kd.int .u32) _ _ _ ((Int.tmod a0 4294967296) % 4294967296) [.int .u32 ((Int.tmod a0 4294967296) % 4294967296)] from rfl) (Reps.one (show Kd.M (Kd.int .u32) _ _ _ ((IntKind.u64.wrap (Int.tdiv a0 4294967296)) % 4294967296) [.int .u32 ((IntKind.u64.wrap (Int.tdiv a0 4294967296)) % 4294967296)] from rfl) (Reps.none _ _)))); intro v580 w3 ho4 hb hg_ hnew_; clear hg_ hnew_; (rw [← Ny579.out] at ho4); have HO581 := Aside0.mk (Kd.R_lower ho4 (below_size (HB.out))); replace HB := Aside0.mk (below_step (HB.out) hb); clear hb ho4; obtain ⟨Ao5, co5, eo5⟩ := Kd.R_slice HO581.out; subst eo5) | (refine goesL_ (some 10) rfl rfl Try.func97 (by kernel_rfl) rfl #[.slice Ao5 y579.length co5] rfl (by simp only [List.map_toArray, List.map_cons, List.map_nil]; rfl) ?_; (with_reducible refine (codewrightref01_Trim.calls k _ _ y579 t582 _ ?side1 ?side2 A2.out).mono ?_); (case side1 => exact (Kd.R_reads' HO581.out).2.2); (case side2 => exact (Kd.R_reads' HO581.out).2.1); rintro e w6 ⟨v583, rfl, ho0, hb⟩; refine ⟨_, rfl, ?_⟩; have n0_ := Aside0.mk (Kd.R_elder' (HO581.out) (Kd.R_base ho0) hb); have n1_ := Aside0.mk (Kd.R_lower (Kd.R_new' ho0 (Kd.R_lt (HO581.out))) (below_size (HB.out))); have n2_ := Aside0.mk (below_step (HB.out) hb); clear HO581; clear HB; have HO581 := n0_; have HO584 := n1_; have HB := n2_; clear n0_ n1_ n2_))
 go_ret
 exact ⟨_, rfl, Kd.R_mono HO584.out (fun _ hk => trivial), HB.out⟩
end Go.Proofs.Ythheakfgmombdaa.F
end
section
namespace Go.Proofs.Ythheakfgmombdaa.F
open Go.RowKit Go.Proofs.YthheakfgmombdaaX.PrintWords Go.Proofs.YthheakfgmombdaaX.PrintLast Go.Proofs.YthheakfgmombdaaX.PrintMore
attribute [local go_sem] max2_int min2_int max_two min_two max_three min_three max_four min_four   -- for this text's walks alone
set_option linter.unusedVariables false
set_option linter.unusedSimpArgs false
set_option maxHeartbeats 8000000 in
set_option maxRecDepth 100000 in
theorem codewrightref24_Weights.calls (k : Nat) (a0 : Int) (A1 : Option Addr) (c1 : Nat) (l1 : List (List Int)) (r : List (List Int)) (w : World) (hr1 : Kd.C (Kd.slice 3 (Kd.int .i64)) w A1 l1.length l1) (hc1 : l1.length ≤ c1) (h : codewrightref24_Weights.f k a0 l1 = some r) :
  Calls Try.prog 38 #[.int .i64 a0, .slice A1 l1.length c1] w fun e w' => ∃ v0_ : Value, e = .returned (v0_) ∧ Kd.S (Kd.slice 100 (Kd.int .u32)) 44 w' w.heap.size (fun _ => True) v0_ r ∧ Below w.heap.size w w' := by
 have HR1 := Aside0.mk hr1
 have HC1 := Aside0.mk hc1
 clear hr1 hc1
 have HB := Aside0.mk (Below.refl w.heap.size w)
 have H : (if 0 ≤ (wrap64 (a0 + 1)) then (if (wrap64 (a0 + 1) : Int).toNat ≤ 35184372088832 then (if 0 ≤ a0 then (if (a0 : Int).toNat ≤ 35184372088832 then (codewrightref24_Weights.l0 k a0 l1 (List.replicate (wrap64 (a0 + 1) : Int).toNat 0) (List.replicate (a0 : Int).toNat 0) 0) else (none)) else (none)) else (none)) else (none)) = some r := h
 clear h
 obtain ⟨ji3, hji3⟩ : ∃ j_ : Int, (wrap64 (a0 + 1)) = j_ := ⟨_, rfl⟩
 replace H : (if 0 ≤ (ji3) then (if (ji3 : Int).toNat ≤ 35184372088832 then (if 0 ≤ a0 then (if (a0 : Int).toNat ≤ 35184372088832 then (codewrightref24_Weights.l0 k a0 l1 (List.replicate (ji3 : Int).toNat 0) (List.replicate (a0 : Int).toNat 0) 0) else (none)) else (none)) else (none)) else (none)) = some r := by (rw [hji3] at H; exact H)
 have hji3w : (IntKind.i64.wrap (a0 + 1)) = ji3 := (i64_w _).trans hji3
 by_cases c4 : 0 ≤ (ji3)
 ·rw [if_pos c4] at H
  have c4b0 := eq_true c4
  have c4b1 : decide (0 ≤ (ji3)) = true := decide_eq_true c4
  clear c4
  by_cases c5 : (ji3 : Int).toNat ≤ 35184372088832
  ·rw [if_pos c5] at H
   have c5b0 := eq_true c5
   have c5b1 : decide ((ji3 : Int).toNat ≤ 35184372088832) = true := decide_eq_true c5
   clear c5
   obtain ⟨y459, hy459⟩ : ∃ y_ : List Int, y_ = (List.replicate (ji3 : Int).toNat 0) := ⟨_, rfl⟩
   replace H : (if 0 ≤ a0 then (if (a0 : Int).toNat ≤ 35184372088832 then (codewrightref24_Weights.l0 k a0 l1 y459 (List.replicate (a0 : Int).toNat 0) 0) else (none)) else (none)) = some r := by (rw [hy459]; with_reducible exact H)
   have Ny459 := Aside0.mk hy459
   clear hy459
   by_cases c6 : 0 ≤ a0
   ·rw [if_pos c6] at H
    have c6b0 := eq_true c6
    have c6b1 : decide (0 ≤ a0) = true := decide_eq_true c6
    clear c6
    by_cases c7 : (a0 : Int).toNat ≤ 35184372088832
    ·rw [if_pos c7] at H
     have c7b0 := eq_true c7
     have c7b1 : decide ((a0 : Int).toNat ≤ 35184372088832) = true := decide_eq_true c7
     clear c7
     obtain ⟨y462, hy462⟩ : ∃ y_ : List Int, y_ = (List.replicate (a0 : Int).toNat 0) := ⟨_, rfl⟩
     replace H : (codewrightref24_Weights.l0 k a0 l1 y459 y462 0) = some r := by (rw [hy462]; with_reducible exact H)
     have Ny462 := Aside0.mk hy462
     clear hy462
     have H' := Aside0.mk H
     clear H
     go_enter Try.func38, Try.ntmps38
     go_wp2_with (first | ((with_reducible refine gate_dst (N := 12) rfl ?_); refine Kd.R_make (Kd.int .i64) _ 3 rfl (N := 12) rfl 41 _ _ rfl ji3 rfl rfl Try.underlying41 (.int .i64 0) 8 info3 rfl (by decide) (by omega) 0 (ok := fun _ => True) (okp := fun _ => True) rfl (fun _ hk => hk) trivial (of_decide_eq_true (by (with_reducible assumption))) (Nat.le_trans (Nat.mul_le_mul_right _ (of_decide_eq_true (by (with_reducible assumption)) : ji3.toNat ≤ 35184372088832)) (by omega)) (Below.refl _ _) (Nat.le_refl _) ?_; intro v460 w8 ho9 hb hg_ hnew_; clear hg_ hnew_; (rw [← Ny459.out] at ho9); have n0_ := Aside0.mk (Kd.R_lower ho9 (below_size (by repeat ((with_reducible exact HB.out))))); have n1_ := Aside0.mk (below_step (by repeat ((with_reducible exact HB.out))) hb); clear HB; have HO461 := n0_; have HB := n1_; clear n0_ n1_; clear hb ho9) | ((with_reducible refine gate_dst (N := 14) rfl ?_); refine Kd.R_make (Kd.int .i64) _ 3 rfl (N := 14) rfl 41 _ _ rfl a0 rfl rfl Try.underlying41 (.int .i64 0) 8 info3 rfl (by decide) (by omega) 0 (ok := fun _ => True) (okp := fun _ => True) rfl (fun _ hk => hk) trivial (of_decide_eq_true (by (with_reducible assumption))) (Nat.le_trans (Nat.mul_le_mul_right _ (of_decide_eq_true (by (with_reducible assumption)) : a0.toNat ≤ 35184372088832)) (by omega)) (Below.refl _ _) (Nat.le_refl _) ?_; intro v463 w10 ho11 hb hg_ hnew_; clear hg_ hnew_; (rw [← Ny462.out] at ho11); have n0_ := Aside0.mk (Kd.R_elder' (by (with_reducible repeat (fail)); exact HO461.out) (Kd.R_base ho11) hb); have n1_ := Aside0.mk (Kd.R_lower (Kd.R_new' ho11 (Kd.R_lt (by (with_reducible repeat (fail)); exact HO461.out))) (below_size (by repeat ((with_reducible exact HB.out))))); have n2_ := Aside0.mk (below_step (by repeat ((with_reducible exact HB.out))) hb); clear HO461; clear HB; have HO461 := n0_; have HO464 := n1_; have HB := n2_; clear n0_ n1_ n2_; clear hb ho11))
     go_loopg [7] k (fun kq v7 w' => ∃ (x5_1 : List Int) (x7_1 : Int), v7 = .int .i64 x7_1 ∧ Aside0 (codewrightref24_Weights.l0 kq a0 l1 x5_1 y462 x7_1 = some r) ∧ Aside0 (kq ≤ k) ∧ Aside0 (Kd.R (Kd.int .i64) 3 w' w.heap.size (fun k_ => some k_ ≠ (v463 : Value).ownBlock) v460 x5_1) ∧ Aside0 (Kd.R (Kd.int .i64) 3 w' w.heap.size (fun k_ => some k_ ≠ (v460 : Value).ownBlock) v463 y462) ∧ Aside0 (Below w.heap.size w w'))
     case atStart => exact ⟨(y459), (0), (by rfl), H', ⟨Nat.le_refl _⟩, ⟨by (with_reducible repeat (fail)); exact Kd.R_mono HO461.out (fun _ hk => hk.2)⟩, ⟨by (with_reducible repeat (fail)); exact Kd.R_mono HO464.out (fun _ hk => hk.2)⟩, ⟨by repeat ((with_reducible exact HB.out))⟩⟩
     case round =>
      clear H'
      try clear c4b0
      try clear c4b1
      try clear c5b0
      try clear c5b1
      try clear c6b0
      try clear c6b1
      try clear c7b0
      try clear c7b1
      obtain ⟨x5_1, x7_1, rfl, HA, HK1, HO_5, HO_6, HB⟩ := hrel
      cases gk with
      | zero => exact absurd HA.out (by simp [codewrightref24_Weights.l0])
      | succ k1 =>
       have H := HA.out
       clear HA
       simp only [codewrightref24_Weights.l0] at H
       by_cases c12 : x7_1 < (l1.length : Int)
       ·rw [if_pos c12] at H
        have c12b0 : decide (x7_1 < (l1.length : Int)) = true := decide_eq_true c12
        clear c12
        by_cases c13 : 0 ≤ x7_1
        ·rw [if_pos c13] at H
         have c13b0 : decide (0 ≤ x7_1) = true := decide_eq_true c13
         clear c13
         replace H := Option.bind_eq_some_iff.mp H
         obtain ⟨t466, A140, H⟩ := H
         replace H : (if 0 ≤ t466 then (if t466 < (x5_1.length : Int) then (codewrightref24_Weights.l0 k1 a0 l1 (x5_1.set (t466 : Int).toNat (wrap64 ((rd x5_1 t466) + 1))) y462 (wrap64 (x7_1 + 1))) else (none)) else (none)) = some r := H
         have A14 := Aside0.mk A140
         clear A140
         by_cases c15 : 0 ≤ t466
         ·rw [if_pos c15] at H
          have c15b0 : decide (0 ≤ t466) = true := decide_eq_true c15
          clear c15
          by_cases c16 : t466 < (x5_1.length : Int)
          ·rw [if_pos c16] at H
           have c16b0 : decide (t466 < (x5_1.length : Int)) = true := decide_eq_true c16
           clear c16
           obtain ⟨y468, hy468⟩ : ∃ y_ : List Int, y_ = (x5_1.set (t466 : Int).toNat (wrap64 ((rd x5_1 t466) + 1))) := ⟨_, rfl⟩
           replace H : (codewrightref24_Weights.l0 k1 a0 l1 y468 y462 (wrap64 (x7_1 + 1))) = some r := by (rw [hy468]; with_reducible exact H)
           have Ny468 := Aside0.mk hy468
           clear hy468
           have H' := Aside0.mk H
           clear H
           have p465 : 0 ≤ (x7_1 : Int) := of_decide_eq_true (by (with_reducible assumption))
           have q465 : x7_1 < (l1.length : Int) := of_decide_eq_true (by (with_reducible assumption))
           obtain ⟨ad465, A465_0, c465_0, e465, hx465_0, hl465_0, hi465_0⟩ := at_LI HR1.out x7_1 p465 q465
           cases e465
           replace hx465_0 := (HB.out.cell (World.block_lt_of_cell? w _ hx465_0)).trans hx465_0
           have HR465_0 := Aside0.mk hi465_0
           have HC465_0 := Aside0.mk hl465_0
           clear hi465_0 hl465_0
           replace p465 := eq_true p465
           replace q465 := eq_true q465
           obtain ⟨Ao18, co18, eo18⟩ := Kd.R_slice HO_6.out
           subst eo18
           go_wp2_with (first | ((with_reducible refine gate_callee (f := 64) rfl ?_); refine goesL_ (some 27) rfl rfl Try.func64 (by kernel_rfl) rfl #[.slice A465_0 (rd_LI l1 x7_1).length c465_0, .slice Ao18 y462.length co18] rfl (by (try simp only [List.map_toArray, List.map_cons, List.map_nil]); rfl) ?_; (with_reducible refine (codewrightref24_Distance.calls k1 _ _ (rd_LI l1 x7_1) _ _ y462 t466 _ ?side1 ?side2 ?side3 ?side4 A14.out).mono ?_); (case side1 => repeat (exact (Kd.C_below HR465_0.out HB.out))); (case side2 => exact HC465_0.out); (case side3 => exact (Kd.R_reads' HO_6.out).2.2); (case side4 => exact (Kd.R_reads' HO_6.out).2.1); rintro e w' ⟨rfl, ⟨nd, rfl⟩⟩; refine ⟨_, rfl, ?_⟩; (try (rw [drewN_self wr]; generalize hq_ : World.drewN wr _ = wr; have n0_ : Aside0 (Kd.R (Kd.int .i64) 3 wr w.heap.size (fun k_ => some k_ ≠ (.slice Ao18 y462.length co18 : Value).ownBlock) v460 x5_1) := ⟨by rw [← hq_]; exact (by (with_reducible repeat (apply Kd.R_drewN)); exact HO_5.out)⟩; have n1_ : Aside0 (Kd.R (Kd.int .i64) 3 wr w.heap.size (fun k_ => some k_ ≠ (v460 : Value).ownBlock) (.slice Ao18 y462.length co18) y462) := ⟨by rw [← hq_]; exact (by (with_reducible repeat (apply Kd.R_drewN)); exact HO_6.out)⟩; have n2_ : Aside0 (Below w.heap.size w wr) := ⟨by rw [← hq_]; exact (by repeat ((with_reducible first | exact HB.out | apply pw_below_drewN)))⟩; clear HO_5 HO_6 HB hq_; have HO_5 := n0_; have HO_6 := n1_; have HB := n2_; clear n0_ n1_ n2_)); obtain ⟨Ao19, co19, eo19⟩ := Kd.R_slice HO_5.out; subst eo19; have p467 : 0 ≤ (t466 : Int) := of_decide_eq_true (by (with_reducible assumption)); have q467 : t466 < (x5_1.length : Int) := of_decide_eq_true (by (with_reducible assumption)); obtain ⟨ad467, e467, hx467_0⟩ := Kd.at_int (Kd.R_reads' HO_5.out).2.2 t466 p467 q467; cases e467; replace p467 := eq_true p467; replace q467 := eq_true q467; have p17 : 0 ≤ (t466 : Int) := of_decide_eq_true (by (with_reducible assumption)); have q17 : (t466 : Int) < ((x5_1.length : Int) : Int) := of_decide_eq_true (by (with_reducible assumption)); obtain ⟨go17, co17, eo17, gb17, gl17, cl17, HG17⟩ := Kd.R_form HO_5.out (by omega); (cases eo17); have GB17 := Aside0.mk gb17; have GG17 := Aside0.mk HG17; clear gb17 gl17 HG17; (simp only [add_plain] at hx467_0); obtain ⟨hx17_0, hf17_0⟩ := Kd.R_celln 0 HO_5.out (t466 : Int) p17 q17; replace p17 := eq_true p17; replace q17 := eq_true q17; obtain ⟨hy20_, hz20_⟩ := Kd.R_celln 0 HO_5.out (t466 : Int) (of_decide_eq_true (by (with_reducible assumption))) (of_decide_eq_true (by (with_reducible assumption))); have HP20 := Kd.R_putg HO_5.out (t466 : Int) (wrap64 ((rd x5_1 t466) + 1))) | ((with_reducible refine gate_store (t := 3) (p := 31) rfl ?_); refine store_event (t := 3) (p := 31) (v := ?vo_w21) (w1 := (wr.setCell ⟨go17, (t466 : Int).toNat, none⟩ (.int .i64 (wrap64 ((rd x5_1 t466) + 1))))) ?hg ?ho ?hn ?hr ?_; (case ho => rfl); (case hg => rfl); (case hn => rfl); (case hr => (go_simp; done)); intro w21 hw; have hg : wr.grownBy w21 (some go17) := (by rw [hw]; exact HP20.2); have hp_ : Kd.R (Kd.int .i64) 3 w21 w.heap.size (fun k_ => some k_ ≠ (.slice Ao18 y462.length co18 : Value).ownBlock) (.slice (some ⟨go17, 0, none⟩) x5_1.length co19) y468 := (by rw [hw, Ny468.out]; exact HP20.1); clear HP20; have n0_ := Aside0.mk (hp_); have n1_ := Aside0.mk (Kd.R_after (v := (.slice (some ⟨go17, 0, none⟩) x5_1.length co19)) (v1 := (.slice (some ⟨go17, 0, none⟩) x5_1.length co19)) (ok := (fun _ => True)) (by (with_reducible repeat (fail)); exact Kd.R_mono HO_6.out (fun _ hk => ⟨trivial, hk⟩)) hg (.inl rfl)); have n2_ := Aside0.mk ((by rw [hw]; exact below_set (HB.out) GB17.out : Below w.heap.size w w21)); clear HO_5; clear HO_6; clear HB; have HO_5 := n0_; have HO_6 := n1_; have HB := n2_; clear n0_ n1_ n2_; clear hg hw hp_))
           go_roundg k1
           case measure => have := HK1.out; omega
           case rel => exact ⟨(y468), (wrap64 (x7_1 + 1)), (by rfl), H', ⟨by have := HK1.out; omega⟩, ⟨by (with_reducible repeat (fail)); exact HO_5.out⟩, ⟨by (with_reducible repeat (fail)); exact Kd.R_mono HO_6.out (fun _ hk => hk.2)⟩, ⟨by repeat ((with_reducible exact HB.out))⟩⟩
          ·rw [if_neg c16] at H
           exact absurd H (by simp)
         ·rw [if_neg c15] at H
          exact absurd H (by simp)
        ·rw [if_neg c13] at H
         exact absurd H (by simp)
       ·rw [if_neg c12] at H
        have c12b0 : decide (x7_1 < (l1.length : Int)) = false := decide_eq_false c12
        clear c12
        have H' := Aside0.mk H
        clear H
        go_wp2
        go_loopg [8, 9] k1 (fun kq v8 v9 w' => ∃ (x8_2 : List (List Int)) (x9_2 : Int), v9 = .int .i64 x9_2 ∧ Aside0 (codewrightref24_Weights.l1 kq a0 x5_1 x8_2 x9_2 = some r) ∧ Aside0 (kq ≤ k1) ∧ Aside0 (Kd.R (Kd.int .i64) 3 w' w.heap.size (fun _ => True) v460 x5_1) ∧ Aside0 (Kd.S (Kd.slice 100 (Kd.int .u32)) 44 w' w.heap.size (fun _ => True) v8 x8_2) ∧ Aside0 (Below w.heap.size w w'))
        case atStart => exact ⟨(([] : List (List Int))), (0), (by rfl), H', ⟨Nat.le_refl _⟩, ⟨by (with_reducible repeat (fail)); exact Kd.R_mono HO_5.out (fun _ hk => trivial)⟩, ⟨by exact Kd.S_nil _ _ _ _ _⟩, ⟨by repeat ((with_reducible exact HB.out))⟩⟩
        case round =>
         clear H'
         try clear c12b0
         obtain ⟨x8_2, x9_2, rfl, HA, HK2, HO_5, HO_8, HB⟩ := hrel
         cases gk with
         | zero => exact absurd HA.out (by simp [codewrightref24_Weights.l1])
         | succ k2 =>
          have H := HA.out
          clear HA
          simp only [codewrightref24_Weights.l1] at H
          by_cases c22 : x9_2 ≤ a0
          ·rw [if_pos c22] at H
           have c22b0 : decide (x9_2 ≤ a0) = true := decide_eq_true c22
           clear c22
           by_cases c23 : 0 ≤ x9_2
           ·rw [if_pos c23] at H
            have c23b0 : decide (0 ≤ x9_2) = true := decide_eq_true c23
            clear c23
            by_cases c24 : x9_2 < (x5_1.length : Int)
            ·rw [if_pos c24] at H
             have c24b0 : decide (x9_2 < (x5_1.length : Int)) = true := decide_eq_true c24
             clear c24
             replace H := Option.bind_eq_some_iff.mp H
             obtain ⟨t470, A250, H⟩ := H
             replace H : (if x8_2.length < 5864062014805 then (codewrightref24_Weights.l1 k2 a0 x5_1 (x8_2 ++ [t470]) (wrap64 (x9_2 + 1))) else (none)) = some r := H
             have A25 := Aside0.mk A250
             clear A250
             by_cases c26 : x8_2.length < 5864062014805
             ·rw [if_pos c26] at H
              have LMc26 := Aside0.mk c26
              clear c26
              obtain ⟨y473, hy473⟩ : ∃ y_ : List (List Int), y_ = (x8_2 ++ [t470]) := ⟨_, rfl⟩
              replace H : (codewrightref24_Weights.l1 k2 a0 x5_1 y473 (wrap64 (x9_2 + 1))) = some r := by (rw [hy473]; with_reducible exact H)
              have Ny473 := Aside0.mk hy473
              clear hy473
              have H' := Aside0.mk H
              clear H
              obtain ⟨Ao27, co27, eo27⟩ := Kd.R_slice HO_5.out
              subst eo27
              have p469 : 0 ≤ (x9_2 : Int) := of_decide_eq_true (by (with_reducible assumption))
              have q469 : x9_2 < (x5_1.length : Int) := of_decide_eq_true (by (with_reducible assumption))
              obtain ⟨ad469, e469, hx469_0⟩ := Kd.at_int (Kd.R_reads' HO_5.out).2.2 x9_2 p469 q469
              cases e469
              replace p469 := eq_true p469
              replace q469 := eq_true q469
              go_wp2_with (first | ((with_reducible refine gate_callee (f := 80) rfl ?_); refine goesL_ (some 43) rfl rfl Try.func80 (by kernel_rfl) rfl #[.int .u64 (IntKind.u64.wrap (rd x5_1 x9_2))] rfl (by (try simp only [List.map_toArray, List.map_cons, List.map_nil]); rfl) ?_; (with_reducible refine (codewrightref01_Of.calls k2 (IntKind.u64.wrap (rd x5_1 x9_2)) t470 _ A25.out).mono ?_); rintro e w28 ⟨v471, rfl, ho0, hb⟩; refine ⟨_, rfl, ?_⟩; have n0_ := Aside0.mk (Kd.R_below (by (with_reducible repeat (fail)); exact HO_5.out) hb); have n1_ := Aside0.mk (Kd.S_elder' (by (with_reducible repeat (fail)); exact HO_8.out) (Kd.R_base ho0) hb); have n2_ := Aside0.mk (Kd.R_lower ho0 (below_size (by repeat ((with_reducible exact HB.out))))); have n3_ := Aside0.mk (below_step (by repeat ((with_reducible exact HB.out))) hb); clear HO_5; clear HO_8; clear HB; have HO_5 := n0_; have HO_8 := n1_; have HO472 := n2_; have HB := n3_; clear n0_ n1_ n2_ n3_; (try clear hb); (try clear ho0); obtain ⟨Ao30, co30, eo30⟩ := Kd.R_slice HO472.out; subst eo30) | ((with_reducible refine gate_builtin (b := .append) (xs := #[.tmp 37, .tmp 44]) rfl ?_); at_builtin; refine Kd.S_append (Kd.slice 100 (Kd.int .u32)) (w0 := w) w.heap.size rfl (.tmp 37) (.tmp 44) 57 44 (.slice none 0 0) 24 rfl Try.underlying57 info44 rfl (by decide) (by omega) u8 x8_2 t470 [.slice Ao30 t470.length co30] (fun _ => True) (fun k_ => some k_ = (.slice Ao30 t470.length co30 : Value).ownBlock) rfl rfl ?aP (fun k_ hk_ => ((Kd.R_mono (ok' := fun k_ => ((fun _ => True)) k_ ∧ some k_ ≠ (u8 : Value).ownBlock) (Kd.R_apart' (HO472.out) (Kd.S_typed HO_8.out) (by decide)) (fun k_ hk => ⟨trivial, hk.2⟩))).1 k_ hk_.symm) ?aF ?aO ?aB ?aS ?aL ?_; (case aP => exact Kd.M_row (Kd.R_mono (Kd.R_tight rfl (Kd.R_mono (ok' := fun k_ => ((fun _ => True)) k_ ∧ some k_ ≠ (u8 : Value).ownBlock) (Kd.R_apart' (HO472.out) (Kd.S_typed HO_8.out) (by decide)) (fun k_ hk => ⟨trivial, hk.2⟩))) (fun _ h_ => h_))); (case aB => exact (by repeat ((with_reducible exact HB.out)))); (case aF => exact (fun _ _ => trivial)); (case aO => exact (by (with_reducible repeat (fail)); exact Kd.S_mono HO_8.out (fun k_ hk => ⟨trivial, fun e_ => hk.2 e_⟩))); (case aS => exact (below_size (by repeat ((with_reducible exact HB.out))))); (case aL => have := LMc26.out; omega); intro v474 w29 ho hb hg hat; rw [← Ny473.out] at ho; have n0_ := Aside0.mk (Kd.R_over' (by (with_reducible repeat (fail)); exact HO_5.out) (Kd.S_typed (by (with_reducible repeat (fail)); exact HO_8.out)) (by decide) hg); have n1_ := Aside0.mk (hb); have n2_ := Aside0.mk (ho); clear HO_5; clear HB; clear HO_8; clear HO472; have HO_5 := n0_; have HB := n1_; have HO475 := n2_; clear n0_ n1_ n2_; clear ho hb hg hat))
              go_roundg k2
              case measure => have := HK1.out; have := HK2.out; omega
              case rel => exact ⟨(y473), (wrap64 (x9_2 + 1)), (by rfl), H', ⟨by have := HK1.out; have := HK2.out; omega⟩, ⟨by (with_reducible repeat (fail)); exact HO_5.out⟩, ⟨by (with_reducible repeat (fail)); exact HO475.out⟩, ⟨by repeat ((with_reducible exact HB.out))⟩⟩
             ·rw [if_neg c26] at H
              exact absurd H (by simp)
            ·rw [if_neg c24] at H
             exact absurd H (by simp)
           ·rw [if_neg c23] at H
            exact absurd H (by simp)
          ·rw [if_neg c22] at H
           have c22b0 : decide (x9_2 ≤ a0) = false := decide_eq_false c22
           clear c22
           obtain rfl := Option.some.inj H
           go_wp2
           go_ret
           exact ⟨_, by rfl, by (with_reducible repeat (fail)); exact HO_8.out, by repeat ((with_reducible exact HB.out))⟩
    ·rw [if_neg c7] at H
     exact absurd H (by simp)
   ·rw [if_neg c6] at H
    exact absurd H (by simp)
  ·rw [if_neg c5] at H
   exact absurd H (by simp)
 ·rw [if_neg c4] at H
  exact absurd H (by simp)
end Go.Proofs.Ythheakfgmombdaa.F
end
section
namespace Go.Proofs.Ythheakfgmombdaa.F
open Go.RowKit Go.Proofs.YthheakfgmombdaaX.PrintWords Go.Proofs.YthheakfgmombdaaX.PrintLast Go.Proofs.YthheakfgmombdaaX.PrintMore
attribute [local go_sem] max2_int min2_int max_two min_two max_three min_three max_four min_four   -- for this text's walks alone
set_option linter.unusedVariables false
set_option linter.unusedSimpArgs false
set_option maxHeartbeats 8000000 in
set_option maxRecDepth 100000 in
theorem codewrightref01_Zero.calls (k : Nat) (A0 : Option Addr) (c0 : Nat) (l0 : List Int) (r : Bool) (w : World) (hr0 : Kd.C (Kd.int .u32) w A0 l0.length l0) (hc0 : l0.length ≤ c0) (h : codewrightref01_Zero.f k l0 = some r) :
  Calls Try.prog 98 #[.slice A0 l0.length c0] w fun e w' => e = .returned (.bool r) ∧ Below w.heap.size w w' := by
 have HR0 := Aside0.mk hr0
 have HC0 := Aside0.mk hc0
 clear hr0 hc0
 have HB := Aside0.mk (Below.refl w.heap.size w)
 have H : ((codewrightref01_Trim.f k l0).bind fun t352 => (some ((t352.length : Int) == 0))) = some r := h
 clear h
 obtain ⟨t352, A2, H⟩ := bindA H
 obtain rfl := Option.some.inj H
 go_enter Try.func98, Try.ntmps98
 go_wp2_with ((refine goesL_ (some 4) rfl rfl Try.func97 (by kernel_rfl) rfl #[.slice A0 l0.length c0] rfl (by simp only [List.map_toArray, List.map_cons, List.map_nil]; rfl) ?_; (with_reducible refine (codewrightref01_Trim.calls k _ _ l0 t352 _ HR0.out HC0.out A2.out).mono ?_); rintro e w3 ⟨v353, rfl, ho0, hb⟩; refine ⟨_, rfl, ?_⟩; have HO354 := Aside0.mk (Kd.R_lower ho0 (below_size (HB.out))); replace HB := Aside0.mk (below_step (HB.out) hb); (try clear hb); (try clear ho0); obtain ⟨Ao4, co4, eo4⟩ := Kd.R_slice HO354.out; subst eo4))
 go_ret
 exact ⟨rfl, HB.out⟩
end Go.Proofs.Ythheakfgmombdaa.F
end
section
namespace Go.Proofs.Ythheakfgmombdaa.F
open Go.RowKit Go.Proofs.YthheakfgmombdaaX.PrintWords Go.Proofs.YthheakfgmombdaaX.PrintLast Go.Proofs.YthheakfgmombdaaX.PrintMore
attribute [local go_sem] max2_int min2_int max_two min_two max_three min_three max_four min_four   -- for this text's walks alone
set_option linter.unusedVariables false
set_option linter.unusedSimpArgs false
set_option maxHeartbeats 8000000 in
set_option maxRecDepth 100000 in
theorem codewrightref01_limb.calls (A0 : Option Addr) (c0 : Nat) (l0 : List Int) (a1 : Int) (r : Int) (w : World) (hr0 : Kd.C (Kd.int .u32) w A0 l0.length l0) (hc0 : l0.length ≤ c0) (h : codewrightref01_limb.f l0 a1 = some r) :
  Calls Try.prog 101 #[.slice A0 l0.length c0, .int .i64 a1] w fun e w' => e = .returned (.int .u64 r) ∧ Drawn0 w w' := by
 have HR0 := Aside0.mk hr0
 have HC0 := Aside0.mk hc0
 clear hr0 hc0
 have H : (if a1 < (l0.length : Int) then (if 0 ≤ a1 then (some (IntKind.u64.wrap (rd l0 a1))) else (none)) else (some 0)) = some r := h
 clear h
 by_cases c3 : a1 < (l0.length : Int)
 ·rw [if_pos c3] at H
  have c3b0 : decide (a1 < (l0.length : Int)) = true := decide_eq_true c3
  clear c3
  by_cases c4 : 0 ≤ a1
  ·rw [if_pos c4] at H
   have c4b0 : decide (0 ≤ a1) = true := decide_eq_true c4
   clear c4
   obtain rfl := Option.some.inj H
   have p355 : 0 ≤ (a1 : Int) := of_decide_eq_true (by assumption)
   have q355 : a1 < (l0.length : Int) := of_decide_eq_true (by assumption)
   obtain ⟨ad355, e355, hx355_0⟩ := Kd.at_int HR0.out a1 p355 q355
   cases e355
   replace q355 := eq_true q355
   go_enter Try.func101, Try.ntmps101
   go_wp2
   go_ret
   exact ⟨by rfl, by repeat (exact Drawn0.refl _)⟩
  ·rw [if_neg c4] at H
   exact absurd H (by simp)
 ·rw [if_neg c3] at H
  have c3b0 : decide (a1 < (l0.length : Int)) = false := decide_eq_false c3
  clear c3
  obtain rfl := Option.some.inj H
  go_enter Try.func101, Try.ntmps101
  go_wp2
  go_ret
  exact ⟨by rfl, by repeat (exact Drawn0.refl _)⟩
end Go.Proofs.Ythheakfgmombdaa.F
end
section
namespace Go.Proofs.Ythheakfgmombdaa.F
open Go.RowKit Go.Proofs.YthheakfgmombdaaX.PrintWords Go.Proofs.YthheakfgmombdaaX.PrintLast Go.Proofs.YthheakfgmombdaaX.PrintMore
attribute [local go_sem] max2_int min2_int max_two min_two max_three min_three max_four min_four   -- for this text's walks alone
set_option linter.unusedVariables false
set_option linter.unusedSimpArgs false
set_option maxHeartbeats 8000000 in
set_option maxRecDepth 100000 in
theorem codewrightref01_Add.calls (k : Nat) (A0 : Option Addr) (c0 : Nat) (l0 : List Int) (A1 : Option Addr) (c1 : Nat) (l1 : List Int) (r : List Int) (w : World) (hr0 : Kd.C (Kd.int .u32) w A0 l0.length l0) (hc0 : l0.length ≤ c0) (hr1 : Kd.C (Kd.int .u32) w A1 l1.length l1) (hc1 : l1.length ≤ c1) (h : codewrightref01_Add.f k l0 l1 = some r) :
  Calls Try.prog 70 #[.slice A0 l0.length c0, .slice A1 l1.length c1] w fun e w' => ∃ v0_ : Value, e = .returned (v0_) ∧ Kd.R (Kd.int .u32) 100 w' w.heap.size (fun _ => True) v0_ r ∧ Below w.heap.size w w' := by
 have HR0 := Aside0.mk hr0
 have HC0 := Aside0.mk hc0
 clear hr0 hc0
 have HR1 := Aside0.mk hr1
 have HC1 := Aside0.mk hc1
 clear hr1 hc1
 have HB := Aside0.mk (Below.refl w.heap.size w)
 have H : (codewrightref01_Add.l0 k l0 l1 ([] : List Int) 0 0) = some r := h
 clear h
 have H' := Aside0.mk H
 clear H
 go_enter Try.func70, Try.ntmps70
 go_wp2
 go_loopg [5, 6, 7] k (fun kq v5 v6 v7 w' => ∃ (x5_1 : List Int) (x6_1 : Int) (x7_1 : Int), v6 = .int .u64 x6_1 ∧ v7 = .int .i64 x7_1 ∧ Aside0 (codewrightref01_Add.l0 kq l0 l1 x5_1 x6_1 x7_1 = some r) ∧ Aside0 (kq ≤ k) ∧ Aside0 (Kd.R (Kd.int .u32) 100 w' w.heap.size (fun _ => True) v5 x5_1) ∧ Aside0 (Below w.heap.size w w'))
 case atStart => exact ⟨(([] : List Int)), (0), (0), rfl, rfl, H', ⟨Nat.le_refl _⟩, ⟨by exact Kd.R_nil _ _ _ _ _⟩, ⟨HB.out⟩⟩
 case round =>
  clear H'
  obtain ⟨x5_1, x6_1, x7_1, rfl, rfl, HA, HK1, HO_5, HB⟩ := hrel
  cases gk with
  | zero => exact absurd HA.out (by simp [codewrightref01_Add.l0])
  | succ k1 =>
   have H := HA.out
   clear HA
   simp only [codewrightref01_Add.l0] at H
   have HC3 := Aside0.mk H
   clear H
   go_upto_region 4 with (fail)
   go_cut [22] (fun v22 wc => ∃ (kq : Nat) (x22_2 : Bool), v22 = .bool x22_2 ∧ Aside0 (codewrightref01_Add.j1 kq l0 l1 x5_1 x6_1 x7_1 x22_2 = some r) ∧ Aside0 (kq ≤ k1) ∧ Aside0 (Kd.R (Kd.int .u32) 100 wc w.heap.size (fun _ => True) u5 x5_1) ∧ Aside0 (Below w.heap.size w wc))
   case first =>
    have H := HC3.out
    clear HC3
    by_cases c4 : x7_1 < (l0.length : Int)
    ·rw [if_pos c4] at H
     have c4b0 : decide (x7_1 < (l0.length : Int)) = true := decide_eq_true c4
     clear c4
     (skip)
     have H' := Aside0.mk H
     clear H
     go_wp2
     go_meet
     case rel => exact ⟨_, (true), rfl, H', ⟨by have := HK1.out; omega⟩, ⟨HO_5.out⟩, ⟨HB.out⟩⟩
    ·rw [if_neg c4] at H
     have c4b0 : decide (x7_1 < (l0.length : Int)) = false := decide_eq_false c4
     clear c4
     (skip)
     by_cases c5 : x7_1 < (l1.length : Int)
     ·rw [if_pos c5] at H
      have c5b0 : decide (x7_1 < (l1.length : Int)) = true := decide_eq_true c5
      clear c5
      have H' := Aside0.mk H
      clear H
      go_wp2
      go_meet
      case rel => exact ⟨_, (true), rfl, H', ⟨by have := HK1.out; omega⟩, ⟨HO_5.out⟩, ⟨HB.out⟩⟩
     ·rw [if_neg c5] at H
      have c5b0 : decide (x7_1 < (l1.length : Int)) = false := decide_eq_false c5
      clear c5
      have H' := Aside0.mk H
      clear H
      go_wp2
      go_meet
      case rel => exact ⟨_, (decide (x6_1 > 0)), rfl, H', ⟨by have := HK1.out; omega⟩, ⟨HO_5.out⟩, ⟨HB.out⟩⟩
   case rest =>
    clear HC3
    obtain ⟨kq, x22_2, rfl, HA, HJ2, HO_5, HB⟩ := hcut
    cases kq with
    | zero => exact absurd HA.out (by simp [codewrightref01_Add.j1])
    | succ kj2 =>
     have H := HA.out
     clear HA
     simp only [codewrightref01_Add.j1] at H
     by_cases c6 : x22_2 = true
     ·subst c6
      rw [if_pos rfl] at H
      obtain ⟨t359, A7, H⟩ := bindA H
      obtain ⟨t360, A8, H⟩ := bindA H
      by_cases c9 : x5_1.length < 35184372088832
      ·rw [if_pos c9] at H
       have LMc9 := Aside0.mk c9
       clear c9
       obtain ⟨y361, hy361⟩ : ∃ y_ : List Int, y_ = (x5_1 ++ [(Int.tmod (IntKind.u64.wrap ((IntKind.u64.wrap (t359 + t360)) + x6_1)) 4294967296) % 4294967296]) := ⟨_, rfl⟩
       (try replace H := (Option.bind_some _ _).symm.trans H); rw [← hy361] at H
       have Ny361 := Aside0.mk hy361
       clear hy361
       have H' := Aside0.mk H
       clear H
       go_wp2_with (first | (refine goesL_ (some 27) rfl rfl Try.func101 (by kernel_rfl) rfl #[.slice A0 l0.length c0, .int .i64 x7_1] rfl (by simp only [List.map_toArray, List.map_cons, List.map_nil]; rfl) ?_; (with_reducible refine (codewrightref01_limb.calls _ _ l0 x7_1 t359 _ (Kd.C_below HR0.out HB.out) HC0.out A7.out).mono ?_); rintro e w' ⟨rfl, ⟨nd, rfl⟩⟩; refine ⟨_, rfl, ?_⟩) | (refine goesL_ (some 30) rfl rfl Try.func101 (by kernel_rfl) rfl #[.slice A1 l1.length c1, .int .i64 x7_1] rfl (by simp only [List.map_toArray, List.map_cons, List.map_nil]; rfl) ?_; (with_reducible refine (codewrightref01_limb.calls _ _ l1 x7_1 t360 _ ?side1 ?side2 A8.out).mono ?_); (case side1 => repeat (first | exact (Kd.C_below HR1.out (HB.out)) | (with_reducible refine Kd.C_drewN ?_ _))); (case side2 => exact HC1.out); rintro e w' ⟨rfl, ⟨nd, rfl⟩⟩; refine ⟨_, rfl, ?_⟩) | ((with_reducible refine gate_builtin (b := .append) (xs := #[.tmp 34, .tmp 38]) rfl ?_); (try (refine gate_guard (by rfl) ?_; dsimp only)); at_builtin; refine Kd.R_append (Kd.int .u32) (w0 := w) w.heap.size rfl (.tmp 34) (.tmp 38) 44 100 (.int .u32 0) 4 rfl Try.underlying44 info100 rfl (by decide) (by omega) u5 x5_1 ((Int.tmod (IntKind.u64.wrap ((IntKind.u64.wrap (t359 + t360)) + x6_1)) 4294967296) % 4294967296) [.int .u32 ((Int.tmod (IntKind.u64.wrap ((IntKind.u64.wrap (t359 + t360)) + x6_1)) 4294967296) % 4294967296)] (fun _ => True) (fun _ => False) rfl rfl ?aP (fun _ hk => hk.elim) ?aF ?aO ?aB ?aS ?aL ?_; (case aP => exact rfl); (case aB => exact (by repeat ((with_reducible first | exact HB.out | apply pw_below_drewN)))); (case aF => exact (fun _ _ => trivial)); (case aO => exact (HO_5.out)); (case aS => exact (below_size (by repeat ((with_reducible first | exact HB.out | apply pw_below_drewN))))); (case aL => have := LMc9.out; omega); intro v362 w10 ho hb hg hat; rw [← Ny361.out] at ho; replace HB := Aside0.mk (hb); have HO363 := Aside0.mk (ho); clear HO_5; clear ho hb hg hat))
       go_roundg kj2
       case measure => have := HK1.out; have := HJ2.out; omega
       case rel => exact ⟨(y361), (IntKind.u64.wrap (Int.tdiv (IntKind.u64.wrap ((IntKind.u64.wrap (t359 + t360)) + x6_1)) 4294967296)), (wrap64 (x7_1 + 1)), rfl, rfl, H', ⟨by have := HK1.out; have := HJ2.out; omega⟩, ⟨HO363.out⟩, ⟨HB.out⟩⟩
      ·rw [if_neg c9] at H
       exact absurd H (by simp)
     ·replace c6 := Bool.eq_false_iff.mpr c6
      subst c6
      rw [if_neg (show ¬ (false = true) by decide)] at H
      obtain ⟨t356, A11, H⟩ := bindA H
      obtain rfl := Option.some.inj H
      obtain ⟨Ao12, co12, eo12⟩ := Kd.R_slice HO_5.out
      subst eo12
      go_wp2_with ((refine goesL_ (some 43) rfl rfl Try.func97 (by kernel_rfl) rfl #[.slice Ao12 x5_1.length co12] rfl (by simp only [List.map_toArray, List.map_cons, List.map_nil]; rfl) ?_; (with_reducible refine (codewrightref01_Trim.calls kj2 _ _ x5_1 t356 _ ?side1 ?side2 A11.out).mono ?_); (case side1 => exact (Kd.R_reads' HO_5.out).2.2); (case side2 => exact (Kd.R_reads' HO_5.out).2.1); rintro e w13 ⟨v357, rfl, ho0, hb⟩; refine ⟨_, rfl, ?_⟩; have n0_ := Aside0.mk (Kd.R_elder' (HO_5.out) (Kd.R_base ho0) hb); have n1_ := Aside0.mk (Kd.R_lower (Kd.R_new' ho0 (Kd.R_lt (HO_5.out))) (below_size (HB.out))); have n2_ := Aside0.mk (below_step (HB.out) hb); clear HO_5; clear HB; have HO_5 := n0_; have HO358 := n1_; have HB := n2_; clear n0_ n1_ n2_))
      go_ret
      exact ⟨_, rfl, Kd.R_mono HO358.out (fun _ hk => trivial), HB.out⟩
end Go.Proofs.Ythheakfgmombdaa.F
end
section
namespace Go.Proofs.Ythheakfgmombdaa.F
open Go.RowKit Go.Proofs.YthheakfgmombdaaX.PrintWords Go.Proofs.YthheakfgmombdaaX.PrintLast Go.Proofs.YthheakfgmombdaaX.PrintMore
attribute [local go_sem] max2_int min2_int max_two min_two max_three min_three max_four min_four   -- for this text's walks alone
set_option linter.unusedVariables false
set_option linter.unusedSimpArgs false
set_option maxHeartbeats 8000000 in
set_option maxRecDepth 100000 in
theorem codewrightref01_Cmp.calls (k : Nat) (A0 : Option Addr) (c0 : Nat) (l0 : List Int) (A1 : Option Addr) (c1 : Nat) (l1 : List Int) (r : Int) (w : World) (hr0 : Kd.C (Kd.int .u32) w A0 l0.length l0) (hc0 : l0.length ≤ c0) (hr1 : Kd.C (Kd.int .u32) w A1 l1.length l1) (hc1 : l1.length ≤ c1) (h : codewrightref01_Cmp.f k l0 l1 = some r) :
  Calls Try.prog 71 #[.slice A0 l0.length c0, .slice A1 l1.length c1] w fun e w' => e = .returned (.int .i64 r) ∧ Below w.heap.size w w' := by
 have HR0 := Aside0.mk hr0
 have HC0 := Aside0.mk hc0
 clear hr0 hc0
 have HR1 := Aside0.mk hr1
 have HC1 := Aside0.mk hc1
 clear hr1 hc1
 have HB := Aside0.mk (Below.refl w.heap.size w)
 have H : (codewrightref01_Cmp.l0 k l0 l1 (wrap64 ((mx (l0.length : Int) (l1.length : Int)) - 1))) = some r := h
 clear h
 obtain ⟨ji3, hji3⟩ : ∃ j_ : Int, (mx (l0.length : Int) (l1.length : Int)) = j_ := ⟨_, rfl⟩
 rw [hji3] at H
 (try (have hji3l : 0 ≤ ji3 := by (rw [← hji3]; unfold mx; (repeat' split) <;> omega)))
 (try (have hji3m : 0 ≤ ji3 := by omega))
 have hji3n_ : (if l0.length < l1.length then (l1.length : Int) else (l0.length : Int)) = ji3 := by rw [← hji3]; simp only [mx, mn]; split <;> split <;> omega
 have H' := Aside0.mk H
 clear H
 go_enter Try.func71, Try.ntmps71
 go_wp2
 go_loopg [5] k (fun kq v5 w' => ∃ (x5_1 : Int), v5 = .int .i64 x5_1 ∧ Aside0 (codewrightref01_Cmp.l0 kq l0 l1 x5_1 = some r) ∧ Aside0 (kq ≤ k) ∧ Aside0 (Below w.heap.size w w'))
 case atStart => exact ⟨(wrap64 ((ji3) - 1)), rfl, H', ⟨Nat.le_refl _⟩, ⟨HB.out⟩⟩
 case round =>
  clear H'
  obtain ⟨x5_1, rfl, HA, HK1, HB⟩ := hrel
  cases gk with
  | zero => exact absurd HA.out (by simp [codewrightref01_Cmp.l0])
  | succ k1 =>
   have H := HA.out
   clear HA
   simp only [codewrightref01_Cmp.l0] at H
   by_cases c4 : x5_1 ≥ 0
   ·rw [if_pos c4] at H
    have c4b0 : decide (0 ≤ x5_1) = true := decide_eq_true c4
    clear c4
    obtain ⟨t364, A5, H⟩ := bindA H
    obtain ⟨t365, A6, H⟩ := bindA H
    by_cases c7 : t364 < t365
    ·rw [if_pos c7] at H
     have c7b0 : decide (t364 < t365) = true := decide_eq_true c7
     clear c7
     obtain rfl := Option.some.inj H
     go_wp2_with (first | (refine goesL_ (some 18) rfl rfl Try.func101 (by kernel_rfl) rfl #[.slice A0 l0.length c0, .int .i64 x5_1] rfl (by simp only [List.map_toArray, List.map_cons, List.map_nil]; rfl) ?_; (with_reducible refine (codewrightref01_limb.calls _ _ l0 x5_1 t364 _ (Kd.C_below HR0.out HB.out) HC0.out A5.out).mono ?_); rintro e w' ⟨rfl, ⟨nd, rfl⟩⟩; refine ⟨_, rfl, ?_⟩) | (refine goesL_ (some 21) rfl rfl Try.func101 (by kernel_rfl) rfl #[.slice A1 l1.length c1, .int .i64 x5_1] rfl (by simp only [List.map_toArray, List.map_cons, List.map_nil]; rfl) ?_; (with_reducible refine (codewrightref01_limb.calls _ _ l1 x5_1 t365 _ ?side1 ?side2 A6.out).mono ?_); (case side1 => repeat (first | exact (Kd.C_below HR1.out (HB.out)) | (with_reducible refine Kd.C_drewN ?_ _))); (case side2 => exact HC1.out); rintro e w' ⟨rfl, ⟨nd, rfl⟩⟩; refine ⟨_, rfl, ?_⟩))
     go_ret
     exact ⟨rfl, by repeat ((with_reducible first | exact HB.out | apply pw_below_drewN))⟩
    ·rw [if_neg c7] at H
     have c7b0 : decide (t364 < t365) = false := decide_eq_false c7
     clear c7
     obtain ⟨t366, A8, H⟩ := bindA H
     obtain ⟨t367, A9, H⟩ := bindA H
     by_cases c10 : t366 > t367
     ·rw [if_pos c10] at H
      have c10b0 : decide (t367 < t366) = true := decide_eq_true c10
      clear c10
      obtain rfl := Option.some.inj H
      go_wp2_with (first | (refine goesL_ (some 18) rfl rfl Try.func101 (by kernel_rfl) rfl #[.slice A0 l0.length c0, .int .i64 x5_1] rfl (by simp only [List.map_toArray, List.map_cons, List.map_nil]; rfl) ?_; (with_reducible refine (codewrightref01_limb.calls _ _ l0 x5_1 t364 _ (Kd.C_below HR0.out HB.out) HC0.out A5.out).mono ?_); rintro e w' ⟨rfl, ⟨nd, rfl⟩⟩; refine ⟨_, rfl, ?_⟩) | (refine goesL_ (some 21) rfl rfl Try.func101 (by kernel_rfl) rfl #[.slice A1 l1.length c1, .int .i64 x5_1] rfl (by simp only [List.map_toArray, List.map_cons, List.map_nil]; rfl) ?_; (with_reducible refine (codewrightref01_limb.calls _ _ l1 x5_1 t365 _ ?side1 ?side2 A6.out).mono ?_); (case side1 => repeat (first | exact (Kd.C_below HR1.out (HB.out)) | (with_reducible refine Kd.C_drewN ?_ _))); (case side2 => exact HC1.out); rintro e w' ⟨rfl, ⟨nd, rfl⟩⟩; refine ⟨_, rfl, ?_⟩) | (refine goesL_ (some 25) rfl rfl Try.func101 (by kernel_rfl) rfl #[.slice A0 l0.length c0, .int .i64 x5_1] rfl (by simp only [List.map_toArray, List.map_cons, List.map_nil]; rfl) ?_; (with_reducible refine (codewrightref01_limb.calls _ _ l0 x5_1 t366 _ ?side1 ?side2 A8.out).mono ?_); (case side1 => repeat (first | exact (Kd.C_below HR0.out (HB.out)) | (with_reducible refine Kd.C_drewN ?_ _))); (case side2 => exact HC0.out); rintro e w' ⟨rfl, ⟨nd, rfl⟩⟩; refine ⟨_, rfl, ?_⟩) | (refine goesL_ (some 28) rfl rfl Try.func101 (by kernel_rfl) rfl #[.slice A1 l1.length c1, .int .i64 x5_1] rfl (by simp only [List.map_toArray, List.map_cons, List.map_nil]; rfl) ?_; (with_reducible refine (codewrightref01_limb.calls _ _ l1 x5_1 t367 _ ?side1 ?side2 A9.out).mono ?_); (case side1 => repeat (first | exact (Kd.C_below HR1.out (HB.out)) | (with_reducible refine Kd.C_drewN ?_ _))); (case side2 => exact HC1.out); rintro e w' ⟨rfl, ⟨nd, rfl⟩⟩; refine ⟨_, rfl, ?_⟩))
      go_ret
      exact ⟨rfl, by repeat ((with_reducible first | exact HB.out | apply pw_below_drewN))⟩
     ·rw [if_neg c10] at H
      have c10b0 : decide (t367 < t366) = false := decide_eq_false c10
      clear c10
      have H' := Aside0.mk H
      clear H
      go_wp2_with (first | (refine goesL_ (some 18) rfl rfl Try.func101 (by kernel_rfl) rfl #[.slice A0 l0.length c0, .int .i64 x5_1] rfl (by simp only [List.map_toArray, List.map_cons, List.map_nil]; rfl) ?_; (with_reducible refine (codewrightref01_limb.calls _ _ l0 x5_1 t364 _ (Kd.C_below HR0.out HB.out) HC0.out A5.out).mono ?_); rintro e w' ⟨rfl, ⟨nd, rfl⟩⟩; refine ⟨_, rfl, ?_⟩) | (refine goesL_ (some 21) rfl rfl Try.func101 (by kernel_rfl) rfl #[.slice A1 l1.length c1, .int .i64 x5_1] rfl (by simp only [List.map_toArray, List.map_cons, List.map_nil]; rfl) ?_; (with_reducible refine (codewrightref01_limb.calls _ _ l1 x5_1 t365 _ ?side1 ?side2 A6.out).mono ?_); (case side1 => repeat (first | exact (Kd.C_below HR1.out (HB.out)) | (with_reducible refine Kd.C_drewN ?_ _))); (case side2 => exact HC1.out); rintro e w' ⟨rfl, ⟨nd, rfl⟩⟩; refine ⟨_, rfl, ?_⟩) | (refine goesL_ (some 25) rfl rfl Try.func101 (by kernel_rfl) rfl #[.slice A0 l0.length c0, .int .i64 x5_1] rfl (by simp only [List.map_toArray, List.map_cons, List.map_nil]; rfl) ?_; (with_reducible refine (codewrightref01_limb.calls _ _ l0 x5_1 t366 _ ?side1 ?side2 A8.out).mono ?_); (case side1 => repeat (first | exact (Kd.C_below HR0.out (HB.out)) | (with_reducible refine Kd.C_drewN ?_ _))); (case side2 => exact HC0.out); rintro e w' ⟨rfl, ⟨nd, rfl⟩⟩; refine ⟨_, rfl, ?_⟩) | (refine goesL_ (some 28) rfl rfl Try.func101 (by kernel_rfl) rfl #[.slice A1 l1.length c1, .int .i64 x5_1] rfl (by simp only [List.map_toArray, List.map_cons, List.map_nil]; rfl) ?_; (with_reducible refine (codewrightref01_limb.calls _ _ l1 x5_1 t367 _ ?side1 ?side2 A9.out).mono ?_); (case side1 => repeat (first | exact (Kd.C_below HR1.out (HB.out)) | (with_reducible refine Kd.C_drewN ?_ _))); (case side2 => exact HC1.out); rintro e w' ⟨rfl, ⟨nd, rfl⟩⟩; refine ⟨_, rfl, ?_⟩))
      go_roundg k1
      case measure => have := HK1.out; omega
      case rel => exact ⟨(wrap64 (x5_1 - 1)), rfl, H', ⟨by have := HK1.out; omega⟩, ⟨by repeat ((with_reducible first | exact HB.out | apply pw_below_drewN))⟩⟩
   ·rw [if_neg c4] at H
    have c4b0 : decide (0 ≤ x5_1) = false := decide_eq_false c4
    clear c4
    obtain rfl := Option.some.inj H
    go_wp2
    go_ret
    exact ⟨rfl, HB.out⟩
end Go.Proofs.Ythheakfgmombdaa.F
end
section
namespace Go.Proofs.Ythheakfgmombdaa.F
open Go.RowKit Go.Proofs.YthheakfgmombdaaX.PrintWords Go.Proofs.YthheakfgmombdaaX.PrintLast Go.Proofs.YthheakfgmombdaaX.PrintMore
attribute [local go_sem] max2_int min2_int max_two min_two max_three min_three max_four min_four   -- for this text's walks alone
set_option linter.unusedVariables false
set_option linter.unusedSimpArgs false
set_option maxHeartbeats 8000000 in
set_option maxRecDepth 100000 in
theorem codewrightref01_Sub.calls (k : Nat) (A0 : Option Addr) (c0 : Nat) (l0 : List Int) (A1 : Option Addr) (c1 : Nat) (l1 : List Int) (r : List Int) (w : World) (hr0 : Kd.C (Kd.int .u32) w A0 l0.length l0) (hc0 : l0.length ≤ c0) (hr1 : Kd.C (Kd.int .u32) w A1 l1.length l1) (hc1 : l1.length ≤ c1) (h : codewrightref01_Sub.f k l0 l1 = some r) :
  Calls Try.prog 72 #[.slice A0 l0.length c0, .slice A1 l1.length c1] w fun e w' => ∃ v0_ : Value, e = .returned (v0_) ∧ Kd.R (Kd.int .u32) 100 w' w.heap.size (fun _ => True) v0_ r ∧ Below w.heap.size w w' := by
 have HR0 := Aside0.mk hr0
 have HC0 := Aside0.mk hc0
 clear hr0 hc0
 have HR1 := Aside0.mk hr1
 have HC1 := Aside0.mk hc1
 clear hr1 hc1
 have HB := Aside0.mk (Below.refl w.heap.size w)
 have H : (codewrightref01_Sub.l0 k l0 l1 ([] : List Int) 0 0) = some r := h
 clear h
 have H' := Aside0.mk H
 clear H
 go_enter Try.func72, Try.ntmps72
 go_wp2
 go_loopg [5, 6, 7] k (fun kq v5 v6 v7 w' => ∃ (x5_1 : List Int) (x6_1 : Int) (x7_1 : Int), v6 = .int .u64 x6_1 ∧ v7 = .int .i64 x7_1 ∧ Aside0 (codewrightref01_Sub.l0 kq l0 l1 x5_1 x6_1 x7_1 = some r) ∧ Aside0 (kq ≤ k) ∧ Aside0 (Kd.R (Kd.int .u32) 100 w' w.heap.size (fun _ => True) v5 x5_1) ∧ Aside0 (Below w.heap.size w w'))
 case atStart => exact ⟨(([] : List Int)), (0), (0), rfl, rfl, H', ⟨Nat.le_refl _⟩, ⟨by exact Kd.R_nil _ _ _ _ _⟩, ⟨HB.out⟩⟩
 case round =>
  clear H'
  obtain ⟨x5_1, x6_1, x7_1, rfl, rfl, HA, HK1, HO_5, HB⟩ := hrel
  cases gk with
  | zero => exact absurd HA.out (by simp [codewrightref01_Sub.l0])
  | succ k1 =>
   have H := HA.out
   clear HA
   simp only [codewrightref01_Sub.l0] at H
   by_cases c3 : x7_1 < (l0.length : Int)
   ·rw [if_pos c3] at H
    have c3b0 : decide (x7_1 < (l0.length : Int)) = true := decide_eq_true c3
    clear c3
    obtain ⟨t371, A4, H⟩ := bindA H
    obtain ⟨t372, A5, H⟩ := bindA H
    by_cases c6 : x5_1.length < 35184372088832
    ·rw [if_pos c6] at H
     have LMc6 := Aside0.mk c6
     clear c6
     obtain ⟨y373, hy373⟩ : ∃ y_ : List Int, y_ = (x5_1 ++ [(Int.tmod (IntKind.u64.wrap ((IntKind.u64.wrap ((IntKind.u64.wrap (t371 + 4294967296)) - t372)) - x6_1)) 4294967296) % 4294967296]) := ⟨_, rfl⟩
     (try replace H := (Option.bind_some _ _).symm.trans H); rw [← hy373] at H
     have Ny373 := Aside0.mk hy373
     clear hy373
     have H' := Aside0.mk H
     clear H
     go_wp2_with (first | (refine goesL_ (some 17) rfl rfl Try.func101 (by kernel_rfl) rfl #[.slice A0 l0.length c0, .int .i64 x7_1] rfl (by simp only [List.map_toArray, List.map_cons, List.map_nil]; rfl) ?_; (with_reducible refine (codewrightref01_limb.calls _ _ l0 x7_1 t371 _ (Kd.C_below HR0.out HB.out) HC0.out A4.out).mono ?_); rintro e w' ⟨rfl, ⟨nd, rfl⟩⟩; refine ⟨_, rfl, ?_⟩) | (refine goesL_ (some 21) rfl rfl Try.func101 (by kernel_rfl) rfl #[.slice A1 l1.length c1, .int .i64 x7_1] rfl (by simp only [List.map_toArray, List.map_cons, List.map_nil]; rfl) ?_; (with_reducible refine (codewrightref01_limb.calls _ _ l1 x7_1 t372 _ ?side1 ?side2 A5.out).mono ?_); (case side1 => repeat (first | exact (Kd.C_below HR1.out (HB.out)) | (with_reducible refine Kd.C_drewN ?_ _))); (case side2 => exact HC1.out); rintro e w' ⟨rfl, ⟨nd, rfl⟩⟩; refine ⟨_, rfl, ?_⟩) | ((with_reducible refine gate_builtin (b := .append) (xs := #[.tmp 25, .tmp 29]) rfl ?_); at_builtin; refine Kd.R_append (Kd.int .u32) (w0 := w) w.heap.size rfl (.tmp 25) (.tmp 29) 44 100 (.int .u32 0) 4 rfl Try.underlying44 info100 rfl (by decide) (by omega) u5 x5_1 ((Int.tmod (IntKind.u64.wrap ((IntKind.u64.wrap ((IntKind.u64.wrap (t371 + 4294967296)) - t372)) - x6_1)) 4294967296) % 4294967296) [.int .u32 ((Int.tmod (IntKind.u64.wrap ((IntKind.u64.wrap ((IntKind.u64.wrap (t371 + 4294967296)) - t372)) - x6_1)) 4294967296) % 4294967296)] (fun _ => True) (fun _ => False) rfl rfl ?aP (fun _ hk => hk.elim) ?aF ?aO ?aB ?aS ?aL ?_; (case aP => exact rfl); (case aB => exact (by repeat ((with_reducible first | exact HB.out | apply pw_below_drewN)))); (case aF => exact (fun _ _ => trivial)); (case aO => exact (HO_5.out)); (case aS => exact (below_size (by repeat ((with_reducible first | exact HB.out | apply pw_below_drewN))))); (case aL => have := LMc6.out; omega); intro v374 w7 ho hb hg hat; rw [← Ny373.out] at ho; replace HB := Aside0.mk (hb); have HO375 := Aside0.mk (ho); clear HO_5; clear ho hb hg hat))
     go_roundg k1
     case measure => have := HK1.out; omega
     case rel => exact ⟨(y373), (IntKind.u64.wrap (1 - (IntKind.u64.wrap (Int.tdiv (IntKind.u64.wrap ((IntKind.u64.wrap ((IntKind.u64.wrap (t371 + 4294967296)) - t372)) - x6_1)) 4294967296)))), (wrap64 (x7_1 + 1)), rfl, rfl, H', ⟨by have := HK1.out; omega⟩, ⟨HO375.out⟩, ⟨HB.out⟩⟩
    ·rw [if_neg c6] at H
     exact absurd H (by simp)
   ·rw [if_neg c3] at H
    have c3b0 : decide (x7_1 < (l0.length : Int)) = false := decide_eq_false c3
    clear c3
    obtain ⟨t368, A8, H⟩ := bindA H
    obtain rfl := Option.some.inj H
    obtain ⟨Ao9, co9, eo9⟩ := Kd.R_slice HO_5.out
    subst eo9
    go_wp2_with ((refine goesL_ (some 35) rfl rfl Try.func97 (by kernel_rfl) rfl #[.slice Ao9 x5_1.length co9] rfl (by simp only [List.map_toArray, List.map_cons, List.map_nil]; rfl) ?_; (with_reducible refine (codewrightref01_Trim.calls k1 _ _ x5_1 t368 _ ?side1 ?side2 A8.out).mono ?_); (case side1 => exact (Kd.R_reads' HO_5.out).2.2); (case side2 => exact (Kd.R_reads' HO_5.out).2.1); rintro e w10 ⟨v369, rfl, ho0, hb⟩; refine ⟨_, rfl, ?_⟩; have n0_ := Aside0.mk (Kd.R_elder' (HO_5.out) (Kd.R_base ho0) hb); have n1_ := Aside0.mk (Kd.R_lower (Kd.R_new' ho0 (Kd.R_lt (HO_5.out))) (below_size (HB.out))); have n2_ := Aside0.mk (below_step (HB.out) hb); clear HO_5; clear HB; have HO_5 := n0_; have HO370 := n1_; have HB := n2_; clear n0_ n1_ n2_))
    go_ret
    exact ⟨_, rfl, Kd.R_mono HO370.out (fun _ hk => trivial), HB.out⟩
end Go.Proofs.Ythheakfgmombdaa.F
end
section
namespace Go.Proofs.Ythheakfgmombdaa.F
open Go.RowKit Go.Proofs.YthheakfgmombdaaX.PrintWords Go.Proofs.YthheakfgmombdaaX.PrintLast Go.Proofs.YthheakfgmombdaaX.PrintMore
attribute [local go_sem] max2_int min2_int max_two min_two max_three min_three max_four min_four   -- for this text's walks alone
set_option linter.unusedVariables false
set_option linter.unusedSimpArgs false
set_option maxHeartbeats 8000000 in
set_option maxRecDepth 100000 in
theorem codewrightref01_Bits.calls (k : Nat) (A0 : Option Addr) (c0 : Nat) (l0 : List Int) (r : Int) (w : World) (hr0 : Kd.C (Kd.int .u32) w A0 l0.length l0) (hc0 : l0.length ≤ c0) (h : codewrightref01_Bits.f k l0 = some r) :
  Calls Try.prog 116 #[.slice A0 l0.length c0] w fun e w' => e = .returned (.int .i64 r) ∧ Below w.heap.size w w' := by
 have HR0 := Aside0.mk hr0
 have HC0 := Aside0.mk hc0
 clear hr0 hc0
 have HB := Aside0.mk (Below.refl w.heap.size w)
 have H : ((codewrightref01_Trim.f k l0).bind fun t376 => (if (t376.length : Int) = 0 then (some 0) else (if 0 ≤ (wrap64 ((t376.length : Int) - 1)) then (if (wrap64 ((t376.length : Int) - 1)) < (t376.length : Int) then (codewrightref01_Bits.l0 k (wrap64 (32 * (wrap64 ((t376.length : Int) - 1)))) (rd t376 (wrap64 ((t376.length : Int) - 1)))) else (none)) else (none)))) = some r := h
 clear h
 obtain ⟨t376, A2, H⟩ := bindA H
 by_cases c3 : (t376.length : Int) = 0
 ·rw [if_pos c3] at H
  have c3b1 : ((t376.length : Int) != 0) = false := bne_eq_false_iff_eq.mpr c3
  clear c3
  obtain rfl := Option.some.inj H
  go_enter Try.func116, Try.ntmps116
  go_wp2_with ((refine goesL_ (some 6) rfl rfl Try.func97 (by kernel_rfl) rfl #[.slice A0 l0.length c0] rfl (by simp only [List.map_toArray, List.map_cons, List.map_nil]; rfl) ?_; (with_reducible refine (codewrightref01_Trim.calls k _ _ l0 t376 _ HR0.out HC0.out A2.out).mono ?_); rintro e w4 ⟨v377, rfl, ho0, hb⟩; refine ⟨_, rfl, ?_⟩; have HO378 := Aside0.mk (Kd.R_lower ho0 (below_size (HB.out))); replace HB := Aside0.mk (below_step (HB.out) hb); (try clear hb); (try clear ho0); obtain ⟨Ao5, co5, eo5⟩ := Kd.R_slice HO378.out; subst eo5))
  go_ret
  exact ⟨rfl, HB.out⟩
 ·rw [if_neg c3] at H
  obtain ⟨ji6, hji6⟩ : ∃ j_ : Int, (wrap64 ((t376.length : Int) - 1)) = j_ := ⟨_, rfl⟩
  rw [hji6] at H
  by_cases c7 : 0 ≤ (ji6)
  ·rw [if_pos c7] at H
   have c7b0 : decide (0 ≤ (ji6)) = true := decide_eq_true c7
   clear c7
   by_cases c8 : (ji6) < (t376.length : Int)
   ·rw [if_pos c8] at H
    have c8b0 : decide ((ji6) < (t376.length : Int)) = true := decide_eq_true c8
    clear c8
    have H' := Aside0.mk H
    clear H
    go_enter Try.func116, Try.ntmps116
    go_wp2_with ((refine goesL_ (some 6) rfl rfl Try.func97 (by kernel_rfl) rfl #[.slice A0 l0.length c0] rfl (by simp only [List.map_toArray, List.map_cons, List.map_nil]; rfl) ?_; (with_reducible refine (codewrightref01_Trim.calls k _ _ l0 t376 _ HR0.out HC0.out A2.out).mono ?_); rintro e w9 ⟨v377, rfl, ho0, hb⟩; refine ⟨_, rfl, ?_⟩; have HO378 := Aside0.mk (Kd.R_lower ho0 (below_size (HB.out))); replace HB := Aside0.mk (below_step (HB.out) hb); (try clear hb); (try clear ho0); obtain ⟨Ao10, co10, eo10⟩ := Kd.R_slice HO378.out; subst eo10; have p379 : 0 ≤ ((ji6) : Int) := of_decide_eq_true (by assumption); have q379 : (ji6) < (t376.length : Int) := of_decide_eq_true (by assumption); obtain ⟨ad379, e379, hx379_0⟩ := Kd.at_int (Kd.R_reads' HO378.out).2.2 (ji6) p379 q379; cases e379; replace p379 := eq_true p379; replace q379 := eq_true q379))
    go_loopg [3, 4] k (fun kq v3 v4 w' => ∃ (x3_1 : Int) (x4_1 : Int), v3 = .int .i64 x3_1 ∧ v4 = .int .u32 x4_1 ∧ Aside0 (codewrightref01_Bits.l0 kq x3_1 x4_1 = some r) ∧ Aside0 (kq ≤ k) ∧ Aside0 (Below w.heap.size w w'))
    case atStart => exact ⟨(wrap64 (32 * (ji6))), (rd t376 (ji6)), rfl, rfl, H', ⟨Nat.le_refl _⟩, ⟨HB.out⟩⟩
    case round =>
     clear H'
     obtain ⟨x3_1, x4_1, rfl, rfl, HA, HK1, HB⟩ := hrel
     cases gk with
     | zero => exact absurd HA.out (by simp [codewrightref01_Bits.l0])
     | succ k1 =>
      have H := HA.out
      clear HA
      simp only [codewrightref01_Bits.l0] at H
      by_cases c11 : x4_1 > 0
      ·rw [if_pos c11] at H
       have c11b0 : decide (0 < x4_1) = true := decide_eq_true c11
       clear c11
       have H' := Aside0.mk H
       clear H
       go_wp2
       go_roundg k1
       case measure => have := HK1.out; omega
       case rel => exact ⟨(wrap64 (x3_1 + 1)), ((Int.tdiv x4_1 2) % 4294967296), rfl, rfl, H', ⟨by have := HK1.out; omega⟩, ⟨HB.out⟩⟩
      ·rw [if_neg c11] at H
       have c11b0 : decide (0 < x4_1) = false := decide_eq_false c11
       clear c11
       obtain rfl := Option.some.inj H
       go_wp2
       go_ret
       exact ⟨rfl, HB.out⟩
   ·rw [if_neg c8] at H
    exact absurd H (by simp)
  ·rw [if_neg c7] at H
   exact absurd H (by simp)
end Go.Proofs.Ythheakfgmombdaa.F
end
section
namespace Go.Proofs.Ythheakfgmombdaa.F
open Go.RowKit Go.Proofs.YthheakfgmombdaaX.PrintWords Go.Proofs.YthheakfgmombdaaX.PrintLast Go.Proofs.YthheakfgmombdaaX.PrintMore
attribute [local go_sem] max2_int min2_int max_two min_two max_three min_three max_four min_four   -- for this text's walks alone
set_option linter.unusedVariables false
set_option linter.unusedSimpArgs false
set_option maxHeartbeats 8000000 in
set_option maxRecDepth 100000 in
theorem codewrightref01_shift.calls (k : Nat) (A0 : Option Addr) (c0 : Nat) (l0 : List Int) (a1 : Int) (r : List Int) (w : World) (hr0 : Kd.C (Kd.int .u32) w A0 l0.length l0) (hc0 : l0.length ≤ c0) (h : codewrightref01_shift.f k l0 a1 = some r) :
  Calls Try.prog 120 #[.slice A0 l0.length c0, .int .i64 a1] w fun e w' => ∃ v0_ : Value, e = .returned (v0_) ∧ Kd.R (Kd.int .u32) 100 w' w.heap.size (fun _ => True) v0_ r ∧ Below w.heap.size w w' := by
 have HR0 := Aside0.mk hr0
 have HC0 := Aside0.mk hc0
 clear hr0 hc0
 have HB := Aside0.mk (Below.refl w.heap.size w)
 have H : (if 0 ≤ (wrap64 (Int.tdiv a1 32)) then (if (wrap64 (Int.tdiv a1 32) : Int).toNat ≤ 70368744177664 then (codewrightref01_shift.l0 k l0 a1 (List.replicate (wrap64 (Int.tdiv a1 32) : Int).toNat 0) 0 0) else (none)) else (none)) = some r := h
 clear h
 obtain ⟨ji3, hji3⟩ : ∃ j_ : Int, (wrap64 (Int.tdiv a1 32)) = j_ := ⟨_, rfl⟩
 rw [hji3] at H
 have hji3w : (IntKind.i64.wrap (Int.tdiv a1 32)) = ji3 := (i64_w _).trans hji3
 by_cases c4 : 0 ≤ (ji3)
 ·rw [if_pos c4] at H
  have c4b1 : decide (0 ≤ (ji3)) = true := decide_eq_true c4
  clear c4
  by_cases c5 : (ji3 : Int).toNat ≤ 70368744177664
  ·rw [if_pos c5] at H
   have c5b1 : decide ((ji3 : Int).toNat ≤ 70368744177664) = true := decide_eq_true c5
   clear c5
   obtain ⟨y380, hy380⟩ : ∃ y_ : List Int, y_ = (List.replicate (ji3 : Int).toNat 0) := ⟨_, rfl⟩
   (try replace H := (Option.bind_some _ _).symm.trans H); rw [← hy380] at H
   have Ny380 := Aside0.mk hy380
   clear hy380
   have H' := Aside0.mk H
   clear H
   go_enter Try.func120, Try.ntmps120
   go_wp2_with ((refine Kd.R_make (Kd.int .u32) _ 100 rfl (N := 11) rfl 44 _ _ rfl ji3 rfl rfl Try.underlying44 (.int .u32 0) 4 info100 rfl (by decide) (by omega) 0 (ok := fun _ => True) (okp := fun _ => True) rfl (fun _ hk => hk) trivial (of_decide_eq_true (by assumption)) (Nat.le_trans (Nat.mul_le_mul_right _ (of_decide_eq_true (by assumption) : ji3.toNat ≤ 70368744177664)) (by omega)) (Below.refl _ _) (Nat.le_refl _) ?_; intro v381 w6 ho7 hb hg_ hnew_; clear hg_ hnew_; (rw [← Ny380.out] at ho7); have HO382 := Aside0.mk (Kd.R_lower ho7 (below_size (HB.out))); replace HB := Aside0.mk (below_step (HB.out) hb); clear hb ho7))
   go_loopg [5, 6, 7] k (fun kq v5 v6 v7 w' => ∃ (x5_1 : List Int) (x6_1 : Int) (x7_1 : Int), v6 = .int .u64 x6_1 ∧ v7 = .int .i64 x7_1 ∧ Aside0 (codewrightref01_shift.l0 kq l0 a1 x5_1 x6_1 x7_1 = some r) ∧ Aside0 (kq ≤ k) ∧ Aside0 (Kd.R (Kd.int .u32) 100 w' w.heap.size (fun _ => True) v5 x5_1) ∧ Aside0 (Below w.heap.size w w'))
   case atStart => exact ⟨(y380), (0), (0), rfl, rfl, H', ⟨Nat.le_refl _⟩, ⟨HO382.out⟩, ⟨HB.out⟩⟩
   case round =>
    clear H'
    obtain ⟨x5_1, x6_1, x7_1, rfl, rfl, HA, HK1, HO_5, HB⟩ := hrel
    cases gk with
    | zero => exact absurd HA.out (by simp [codewrightref01_shift.l0])
    | succ k1 =>
     have H := HA.out
     clear HA
     simp only [codewrightref01_shift.l0] at H
     by_cases c8 : x7_1 < (l0.length : Int)
     ·rw [if_pos c8] at H
      have c8b0 : decide (x7_1 < (l0.length : Int)) = true := decide_eq_true c8
      clear c8
      by_cases c9 : 0 ≤ x7_1
      ·rw [if_pos c9] at H
       have c9b0 : decide (0 ≤ x7_1) = true := decide_eq_true c9
       clear c9
       obtain ⟨ji10, hji10⟩ : ∃ j_ : Int, (Int.tmod a1 32) = j_ := ⟨_, rfl⟩
       rw [hji10] at H
       by_cases c11 : 0 ≤ (ji10)
       ·rw [if_pos c11] at H
        have c11b0 := eq_true c11
        clear c11
        obtain ⟨ji12, hji12⟩ : ∃ j_ : Int, (shl .u64 (IntKind.u64.wrap (rd l0 x7_1)) (ji10)) = j_ := ⟨_, rfl⟩
        rw [hji12] at H
        have hji12_ : (IntKind.u64.wrap ((IntKind.u64.wrap (rd l0 x7_1)) * 2 ^ min (ji10).toNat 64)) = ji12 := hji12
        by_cases c13 : x5_1.length < 35184372088832
        ·rw [if_pos c13] at H
         have LMc13 := Aside0.mk c13
         clear c13
         obtain ⟨y384, hy384⟩ : ∃ y_ : List Int, y_ = (x5_1 ++ [(Int.tmod (IntKind.u64.wrap ((ji12) + x6_1)) 4294967296) % 4294967296]) := ⟨_, rfl⟩
         (try replace H := (Option.bind_some _ _).symm.trans H); rw [← hy384] at H
         have Ny384 := Aside0.mk hy384
         clear hy384
         have H' := Aside0.mk H
         clear H
         have p383 : 0 ≤ (x7_1 : Int) := of_decide_eq_true (by assumption)
         have q383 : x7_1 < (l0.length : Int) := of_decide_eq_true (by assumption)
         obtain ⟨ad383, e383, hx383_0⟩ := Kd.at_int HR0.out x7_1 p383 q383
         cases e383
         replace hx383_0 := (HB.out.cell (World.block_lt_of_cell? w _ hx383_0)).trans hx383_0
         replace q383 := eq_true q383
         go_wp2_with (((with_reducible refine gate_builtin (b := .append) (xs := #[.tmp 28, .tmp 32]) rfl ?_); at_builtin; refine Kd.R_append (Kd.int .u32) (w0 := w) w.heap.size rfl (.tmp 28) (.tmp 32) 44 100 (.int .u32 0) 4 rfl Try.underlying44 info100 rfl (by decide) (by omega) u5 x5_1 ((Int.tmod (IntKind.u64.wrap ((ji12) + x6_1)) 4294967296) % 4294967296) [.int .u32 ((Int.tmod (IntKind.u64.wrap ((ji12) + x6_1)) 4294967296) % 4294967296)] (fun _ => True) (fun _ => False) rfl rfl ?aP (fun _ hk => hk.elim) ?aF ?aO ?aB ?aS ?aL ?_; (case aP => exact rfl); (case aB => exact (HB.out)); (case aF => exact (fun _ _ => trivial)); (case aO => exact (HO_5.out)); (case aS => exact (below_size (HB.out))); (case aL => have := LMc13.out; omega); intro v385 w14 ho hb hg hat; rw [← Ny384.out] at ho; replace HB := Aside0.mk (hb); have HO386 := Aside0.mk (ho); clear HO_5; clear ho hb hg hat))
         go_roundg k1
         case measure => have := HK1.out; omega
         case rel => exact ⟨(y384), (IntKind.u64.wrap (Int.tdiv (IntKind.u64.wrap ((ji12) + x6_1)) 4294967296)), (wrap64 (x7_1 + 1)), rfl, rfl, H', ⟨by have := HK1.out; omega⟩, ⟨HO386.out⟩, ⟨HB.out⟩⟩
        ·rw [if_neg c13] at H
         exact absurd H (by simp)
       ·rw [if_neg c11] at H
        exact absurd H (by simp)
      ·rw [if_neg c9] at H
       exact absurd H (by simp)
     ·rw [if_neg c8] at H
      have c8b0 : decide (x7_1 < (l0.length : Int)) = false := decide_eq_false c8
      clear c8
      by_cases c15 : x5_1.length < 35184372088832
      ·rw [if_pos c15] at H
       have LMc15 := Aside0.mk c15
       clear c15
       obtain ⟨y387, hy387⟩ : ∃ y_ : List Int, y_ = (x5_1 ++ [(x6_1) % 4294967296]) := ⟨_, rfl⟩
       (try replace H := (Option.bind_some _ _).symm.trans H); rw [← hy387] at H
       have Ny387 := Aside0.mk hy387
       clear hy387
       obtain ⟨t390, A16, H⟩ := bindA H
       obtain rfl := Option.some.inj H
       go_wp2_with (first | ((with_reducible refine gate_builtin (b := .append) (xs := #[.tmp 36, .tmp 39]) rfl ?_); at_builtin; refine Kd.R_append (Kd.int .u32) (w0 := w) w.heap.size rfl (.tmp 36) (.tmp 39) 44 100 (.int .u32 0) 4 rfl Try.underlying44 info100 rfl (by decide) (by omega) u5 x5_1 ((x6_1) % 4294967296) [.int .u32 ((x6_1) % 4294967296)] (fun _ => True) (fun _ => False) rfl rfl ?aP (fun _ hk => hk.elim) ?aF ?aO ?aB ?aS ?aL ?_; (case aP => exact rfl); (case aB => exact (HB.out)); (case aF => exact (fun _ _ => trivial)); (case aO => exact (HO_5.out)); (case aS => exact (below_size (HB.out))); (case aL => have := LMc15.out; omega); intro v388 w17 ho hb hg hat; rw [← Ny387.out] at ho; replace HB := Aside0.mk (hb); have HO389 := Aside0.mk (ho); clear HO_5; clear ho hb hg hat; obtain ⟨Ao18, co18, eo18⟩ := Kd.R_slice HO389.out; subst eo18) | (refine goesL_ (some 41) rfl rfl Try.func97 (by kernel_rfl) rfl #[.slice Ao18 y387.length co18] rfl (by simp only [List.map_toArray, List.map_cons, List.map_nil]; rfl) ?_; (with_reducible refine (codewrightref01_Trim.calls k1 _ _ y387 t390 _ ?side1 ?side2 A16.out).mono ?_); (case side1 => exact (Kd.R_reads' HO389.out).2.2); (case side2 => exact (Kd.R_reads' HO389.out).2.1); rintro e w19 ⟨v391, rfl, ho0, hb⟩; refine ⟨_, rfl, ?_⟩; have n0_ := Aside0.mk (Kd.R_elder' (HO389.out) (Kd.R_base ho0) hb); have n1_ := Aside0.mk (Kd.R_lower (Kd.R_new' ho0 (Kd.R_lt (HO389.out))) (below_size (HB.out))); have n2_ := Aside0.mk (below_step (HB.out) hb); clear HO389; clear HB; have HO389 := n0_; have HO392 := n1_; have HB := n2_; clear n0_ n1_ n2_))
       go_ret
       exact ⟨_, rfl, Kd.R_mono HO392.out (fun _ hk => trivial), HB.out⟩
      ·rw [if_neg c15] at H
       exact absurd H (by simp)
  ·rw [if_neg c5] at H
   exact absurd H (by simp)
 ·rw [if_neg c4] at H
  exact absurd H (by simp)
end Go.Proofs.Ythheakfgmombdaa.F
end
section
namespace Go.Proofs.Ythheakfgmombdaa.F
open Go.RowKit Go.Proofs.YthheakfgmombdaaX.PrintWords Go.Proofs.YthheakfgmombdaaX.PrintLast Go.Proofs.YthheakfgmombdaaX.PrintMore
attribute [local go_sem] max2_int min2_int max_two min_two max_three min_three max_four min_four   -- for this text's walks alone
set_option linter.unusedVariables false
set_option linter.unusedSimpArgs false
set_option maxHeartbeats 8000000 in
set_option maxRecDepth 100000 in
theorem codewrightref01_DivMod.calls (k : Nat) (A0 : Option Addr) (c0 : Nat) (l0 : List Int) (A1 : Option Addr) (c1 : Nat) (l1 : List Int) (r1 : List Int) (r2 : List Int) (w : World) (hr0 : Kd.C (Kd.int .u32) w A0 l0.length l0) (hc0 : l0.length ≤ c0) (hr1 : Kd.C (Kd.int .u32) w A1 l1.length l1) (hc1 : l1.length ≤ c1) (h : codewrightref01_DivMod.f k l0 l1 = some (r1, r2)) :
  Calls Try.prog 100 #[.slice A0 l0.length c0, .slice A1 l1.length c1] w fun e w' => ∃ v0_ v1_ : Value, e = .returned (.tuple #[v0_, v1_]) ∧ Kd.R (Kd.int .u32) 100 w' w.heap.size (fun k_ => some k_ ≠ (v1_ : Value).ownBlock) v0_ r1 ∧ Kd.R (Kd.int .u32) 100 w' w.heap.size (fun k_ => some k_ ≠ (v0_ : Value).ownBlock) v1_ r2 ∧ Below w.heap.size w w' := by
 have HR0 := Aside0.mk hr0
 have HC0 := Aside0.mk hc0
 clear hr0 hc0
 have HR1 := Aside0.mk hr1
 have HC1 := Aside0.mk hc1
 clear hr1 hc1
 have HB := Aside0.mk (Below.refl w.heap.size w)
 have H : ((codewrightref01_Trim.f k l0).bind fun t393 => ((codewrightref01_Bits.f k l0).bind fun t396 => ((codewrightref01_Bits.f k l1).bind fun t397 => (codewrightref01_DivMod.l0 k l1 ([] : List Int) t393 (wrap64 (t396 - t397)))))) = some (r1, r2) := h
 clear h
 obtain ⟨t393, A3, H⟩ := bindA H
 obtain ⟨t396, A4, H⟩ := bindA H
 obtain ⟨t397, A5, H⟩ := bindA H
 have H' := Aside0.mk H
 clear H
 go_enter Try.func100, Try.ntmps100
 go_wp2_with (first | (refine goesL_ (some 10) rfl rfl Try.func97 (by kernel_rfl) rfl #[.slice A0 l0.length c0] rfl (by simp only [List.map_toArray, List.map_cons, List.map_nil]; rfl) ?_; (with_reducible refine (codewrightref01_Trim.calls k _ _ l0 t393 _ HR0.out HC0.out A3.out).mono ?_); rintro e w6 ⟨v394, rfl, ho0, hb⟩; refine ⟨_, rfl, ?_⟩; have HO395 := Aside0.mk (Kd.R_lower ho0 (below_size (HB.out))); replace HB := Aside0.mk (below_step (HB.out) hb)) | (refine goesL_ (some 12) rfl rfl Try.func116 (by kernel_rfl) rfl #[.slice A0 l0.length c0] rfl (by simp only [List.map_toArray, List.map_cons, List.map_nil]; rfl) ?_; (with_reducible refine (codewrightref01_Bits.calls k _ _ l0 t396 _ (Kd.C_below HR0.out HB.out) HC0.out A4.out).mono ?_); rintro e w7 ⟨rfl, hb⟩; refine ⟨_, rfl, ?_⟩; replace HO395 := Aside0.mk (Kd.R_below (HO395.out) hb); replace HB := Aside0.mk (below_step (HB.out) hb)) | (refine goesL_ (some 14) rfl rfl Try.func116 (by kernel_rfl) rfl #[.slice A1 l1.length c1] rfl (by simp only [List.map_toArray, List.map_cons, List.map_nil]; rfl) ?_; (with_reducible refine (codewrightref01_Bits.calls k _ _ l1 t397 _ (Kd.C_below HR1.out HB.out) HC1.out A5.out).mono ?_); rintro e w8 ⟨rfl, hb⟩; refine ⟨_, rfl, ?_⟩; replace HO395 := Aside0.mk (Kd.R_below (HO395.out) hb); replace HB := Aside0.mk (below_step (HB.out) hb)))
 go_loopg [4, 5, 7] k (fun kq v4 v5 v7 w' => ∃ (x4_1 : List Int) (x5_1 : List Int) (x7_1 : Int), v7 = .int .i64 x7_1 ∧ Aside0 (codewrightref01_DivMod.l0 kq l1 x4_1 x5_1 x7_1 = some (r1, r2)) ∧ Aside0 (kq ≤ k) ∧ Aside0 (Kd.R (Kd.int .u32) 100 w' w.heap.size (fun k_ => some k_ ≠ (v5 : Value).ownBlock) v4 x4_1) ∧ Aside0 (Kd.R (Kd.int .u32) 100 w' w.heap.size (fun k_ => some k_ ≠ (v4 : Value).ownBlock) v5 x5_1) ∧ Aside0 (Below w.heap.size w w'))
 case atStart => exact ⟨(([] : List Int)), (t393), (wrap64 (t396 - t397)), rfl, H', ⟨Nat.le_refl _⟩, ⟨by exact Kd.R_nil _ _ _ _ _⟩, ⟨Kd.R_mono HO395.out (fun _ hk => (by simp [Value.ownBlock]))⟩, ⟨HB.out⟩⟩
 case round =>
  clear H'
  obtain ⟨x4_1, x5_1, x7_1, rfl, HA, HK1, HO_4, HO_5, HB⟩ := hrel
  cases gk with
  | zero => exact absurd HA.out (by simp [codewrightref01_DivMod.l0])
  | succ k1 =>
   have H := HA.out
   clear HA
   simp only [codewrightref01_DivMod.l0] at H
   by_cases c9 : x7_1 ≥ 0
   ·rw [if_pos c9] at H
    have c9b0 : decide (0 ≤ x7_1) = true := decide_eq_true c9
    clear c9
    obtain ⟨t401, A10, H⟩ := bindA H
    obtain ⟨t404, A11, H⟩ := bindA H
    by_cases c12 : t404 ≥ 0
    ·rw [if_pos c12] at H
     have c12b0 : decide (0 ≤ t404) = true := decide_eq_true c12
     clear c12
     obtain ⟨t405, A13, H⟩ := bindA H
     obtain ⟨y408, hy408⟩ : ∃ y_ : List Int, y_ = (([1] : List Int)) := ⟨_, rfl⟩
     (try replace H := (Option.bind_some _ _).symm.trans H); rw [← hy408] at H
     have Ny408 := Aside0.mk hy408
     clear hy408
     obtain ⟨t411, A14, H⟩ := bindA H
     obtain ⟨t414, A15, H⟩ := bindA H
     have H' := Aside0.mk H
     clear H
     go_wp2_with (first | (refine goesL_ (some 23) rfl rfl Try.func120 (by kernel_rfl) rfl #[.slice A1 l1.length c1, .int .i64 x7_1] rfl (by simp only [List.map_toArray, List.map_cons, List.map_nil]; rfl) ?_; (with_reducible refine (codewrightref01_shift.calls k1 _ _ l1 x7_1 t401 _ (Kd.C_below HR1.out HB.out) HC1.out A10.out).mono ?_); rintro e w16 ⟨v402, rfl, ho0, hb⟩; refine ⟨_, rfl, ?_⟩; have n0_ := Aside0.mk (Kd.R_elder' (HO_4.out) (Kd.R_base ho0) hb); have n1_ := Aside0.mk (Kd.R_elder' (HO_5.out) (Kd.R_base ho0) hb); have n2_ := Aside0.mk (Kd.R_lower (Kd.R_new' (Kd.R_new' ho0 (Kd.R_lt (HO_4.out))) (Kd.R_lt (HO_5.out))) (below_size (HB.out))); have n3_ := Aside0.mk (below_step (HB.out) hb); clear HO_4; clear HO_5; clear HB; have HO_4 := n0_; have HO_5 := n1_; have HO403 := n2_; have HB := n3_; clear n0_ n1_ n2_ n3_; (try clear hb); (try clear ho0); obtain ⟨Ao17, co17, eo17⟩ := Kd.R_slice HO_5.out; subst eo17; obtain ⟨Ao18, co18, eo18⟩ := Kd.R_slice HO403.out; subst eo18) | (refine goesL_ (some 26) rfl rfl Try.func71 (by kernel_rfl) rfl #[.slice Ao17 x5_1.length co17, .slice Ao18 t401.length co18] rfl (by simp only [List.map_toArray, List.map_cons, List.map_nil]; rfl) ?_; (with_reducible refine (codewrightref01_Cmp.calls k1 _ _ x5_1 _ _ t401 t404 _ ?side1 ?side2 ?side3 ?side4 A11.out).mono ?_); (case side1 => exact (Kd.R_reads' HO_5.out).2.2); (case side2 => exact (Kd.R_reads' HO_5.out).2.1); (case side3 => exact (Kd.R_reads' HO403.out).2.2); (case side4 => exact (Kd.R_reads' HO403.out).2.1); rintro e w19 ⟨rfl, hb⟩; refine ⟨_, rfl, ?_⟩; replace HO_4 := Aside0.mk (Kd.R_below (HO_4.out) hb); replace HO_5 := Aside0.mk (Kd.R_below (HO_5.out) hb); replace HO403 := Aside0.mk (Kd.R_below (HO403.out) hb); replace HB := Aside0.mk (below_step (HB.out) hb)) | (refine goesL_ (some 30) rfl rfl Try.func72 (by kernel_rfl) rfl #[.slice Ao17 x5_1.length co17, .slice Ao18 t401.length co18] rfl (by simp only [List.map_toArray, List.map_cons, List.map_nil]; rfl) ?_; (with_reducible refine (codewrightref01_Sub.calls k1 _ _ x5_1 _ _ t401 t405 _ ?side1 ?side2 ?side3 ?side4 A13.out).mono ?_); (case side1 => exact (Kd.R_reads' HO_5.out).2.2); (case side2 => exact (Kd.R_reads' HO_5.out).2.1); (case side3 => exact (Kd.R_reads' HO403.out).2.2); (case side4 => exact (Kd.R_reads' HO403.out).2.1); rintro e w20 ⟨v406, rfl, ho0, hb⟩; refine ⟨_, rfl, ?_⟩; have n0_ := Aside0.mk (Kd.R_elder' (HO_4.out) (Kd.R_base ho0) hb); have n1_ := Aside0.mk (Kd.R_elder' (HO_5.out) (Kd.R_base ho0) hb); have n2_ := Aside0.mk (Kd.R_elder' (HO403.out) (Kd.R_base ho0) hb); have n3_ := Aside0.mk (Kd.R_lower (Kd.R_new' (Kd.R_new' (Kd.R_new' ho0 (Kd.R_lt (HO_4.out))) (Kd.R_lt (HO_5.out))) (Kd.R_lt (HO403.out))) (below_size (HB.out))); have n4_ := Aside0.mk (below_step (HB.out) hb); clear HO_4; clear HO_5; clear HO403; clear HB; have HO_4 := n0_; have HO_5 := n1_; have HO403 := n2_; have HO407 := n3_; have HB := n4_; clear n0_ n1_ n2_ n3_ n4_) | (refine Kd.R_lit (Kd.int .u32) _ 100 ?hg (N := 32) ?hd (xs := ([1] : List Int)) (inner := [.int .u32 1]) (ok := fun _ => True) (okp := fun _ => True) ?hr ?hp (fun _ hk => hk) trivial (Below.refl _ _) (Nat.le_refl _) (by simp) ?_; (case hd => rfl); (case hg => rfl); (case hr => go_simp; done); (case hp => exact (Reps.one (show Kd.M (Kd.int .u32) _ _ _ 1 [.int .u32 1] from rfl) (Reps.none _ _))); intro v409 w21 ho22 hb hg_ hnew_; clear hg_ hnew_; (rw [← Ny408.out] at ho22); have n0_ := Aside0.mk (Kd.R_elder' (HO_4.out) (Kd.R_base ho22) hb); have n1_ := Aside0.mk (Kd.R_elder' (HO_5.out) (Kd.R_base ho22) hb); have n2_ := Aside0.mk (Kd.R_elder' (HO403.out) (Kd.R_base ho22) hb); have n3_ := Aside0.mk (Kd.R_elder' (HO407.out) (Kd.R_base ho22) hb); have n4_ := Aside0.mk (Kd.R_lower (Kd.R_new' (Kd.R_new' (Kd.R_new' (Kd.R_new' ho22 (Kd.R_lt (HO_4.out))) (Kd.R_lt (HO_5.out))) (Kd.R_lt (HO403.out))) (Kd.R_lt (HO407.out))) (below_size (HB.out))); have n5_ := Aside0.mk (below_step (HB.out) hb); clear HO_4; clear HO_5; clear HO403; clear HO407; clear HB; have HO_4 := n0_; have HO_5 := n1_; have HO403 := n2_; have HO407 := n3_; have HO410 := n4_; have HB := n5_; clear n0_ n1_ n2_ n3_ n4_ n5_; clear hb ho22; obtain ⟨Ao23, co23, eo23⟩ := Kd.R_slice HO410.out; subst eo23) | (refine goesL_ (some 34) rfl rfl Try.func120 (by kernel_rfl) rfl #[.slice Ao23 y408.length co23, .int .i64 x7_1] rfl (by simp only [List.map_toArray, List.map_cons, List.map_nil]; rfl) ?_; (with_reducible refine (codewrightref01_shift.calls k1 _ _ y408 x7_1 t411 _ ?side1 ?side2 A14.out).mono ?_); (case side1 => exact (Kd.R_reads' HO410.out).2.2); (case side2 => exact (Kd.R_reads' HO410.out).2.1); rintro e w24 ⟨v412, rfl, ho0, hb⟩; refine ⟨_, rfl, ?_⟩; have n0_ := Aside0.mk (Kd.R_elder' (HO_4.out) (Kd.R_base ho0) hb); have n1_ := Aside0.mk (Kd.R_elder' (HO_5.out) (Kd.R_base ho0) hb); have n2_ := Aside0.mk (Kd.R_elder' (HO403.out) (Kd.R_base ho0) hb); have n3_ := Aside0.mk (Kd.R_elder' (HO407.out) (Kd.R_base ho0) hb); have n4_ := Aside0.mk (Kd.R_elder' (HO410.out) (Kd.R_base ho0) hb); have n5_ := Aside0.mk (Kd.R_lower (Kd.R_new' (Kd.R_new' (Kd.R_new' (Kd.R_new' (Kd.R_new' ho0 (Kd.R_lt (HO_4.out))) (Kd.R_lt (HO_5.out))) (Kd.R_lt (HO403.out))) (Kd.R_lt (HO407.out))) (Kd.R_lt (HO410.out))) (below_size (HB.out))); have n6_ := Aside0.mk (below_step (HB.out) hb); clear HO_4; clear HO_5; clear HO403; clear HO407; clear HO410; clear HB; have HO_4 := n0_; have HO_5 := n1_; have HO403 := n2_; have HO407 := n3_; have HO410 := n4_; have HO413 := n5_; have HB := n6_; clear n0_ n1_ n2_ n3_ n4_ n5_ n6_; (try clear hb); (try clear ho0); obtain ⟨Ao25, co25, eo25⟩ := Kd.R_slice HO_4.out; subst eo25; obtain ⟨Ao26, co26, eo26⟩ := Kd.R_slice HO413.out; subst eo26) | (refine goesL_ (some 35) rfl rfl Try.func70 (by kernel_rfl) rfl #[.slice Ao25 x4_1.length co25, .slice Ao26 t411.length co26] rfl (by simp only [List.map_toArray, List.map_cons, List.map_nil]; rfl) ?_; (with_reducible refine (codewrightref01_Add.calls k1 _ _ x4_1 _ _ t411 t414 _ ?side1 ?side2 ?side3 ?side4 A15.out).mono ?_); (case side1 => exact (Kd.R_reads' HO_4.out).2.2); (case side2 => exact (Kd.R_reads' HO_4.out).2.1); (case side3 => exact (Kd.R_reads' HO413.out).2.2); (case side4 => exact (Kd.R_reads' HO413.out).2.1); rintro e w27 ⟨v415, rfl, ho0, hb⟩; refine ⟨_, rfl, ?_⟩; have n0_ := Aside0.mk (Kd.R_elder' (HO_4.out) (Kd.R_base ho0) hb); have n1_ := Aside0.mk (Kd.R_elder' (HO_5.out) (Kd.R_base ho0) hb); have n2_ := Aside0.mk (Kd.R_elder' (HO403.out) (Kd.R_base ho0) hb); have n3_ := Aside0.mk (Kd.R_elder' (HO407.out) (Kd.R_base ho0) hb); have n4_ := Aside0.mk (Kd.R_elder' (HO410.out) (Kd.R_base ho0) hb); have n5_ := Aside0.mk (Kd.R_elder' (HO413.out) (Kd.R_base ho0) hb); have n6_ := Aside0.mk (Kd.R_lower (Kd.R_new' (Kd.R_new' (Kd.R_new' (Kd.R_new' (Kd.R_new' (Kd.R_new' ho0 (Kd.R_lt (HO_4.out))) (Kd.R_lt (HO_5.out))) (Kd.R_lt (HO403.out))) (Kd.R_lt (HO407.out))) (Kd.R_lt (HO410.out))) (Kd.R_lt (HO413.out))) (below_size (HB.out))); have n7_ := Aside0.mk (below_step (HB.out) hb); clear HO_4; clear HO_5; clear HO403; clear HO407; clear HO410; clear HO413; clear HB; have HO_4 := n0_; have HO_5 := n1_; have HO403 := n2_; have HO407 := n3_; have HO410 := n4_; have HO413 := n5_; have HO416 := n6_; have HB := n7_; clear n0_ n1_ n2_ n3_ n4_ n5_ n6_ n7_))
     go_roundg k1
     case measure => have := HK1.out; omega
     case rel => exact ⟨(t414), (t405), (wrap64 (x7_1 - 1)), rfl, H', ⟨by have := HK1.out; omega⟩, ⟨Kd.R_mono HO416.out (fun _ hk => hk.1.1.2)⟩, ⟨Kd.R_mono HO407.out (fun _ hk => hk.2)⟩, ⟨HB.out⟩⟩
    ·rw [if_neg c12] at H
     have c12b0 : decide (0 ≤ t404) = false := decide_eq_false c12
     clear c12
     have H' := Aside0.mk H
     clear H
     go_wp2_with (first | (refine goesL_ (some 23) rfl rfl Try.func120 (by kernel_rfl) rfl #[.slice A1 l1.length c1, .int .i64 x7_1] rfl (by simp only [List.map_toArray, List.map_cons, List.map_nil]; rfl) ?_; (with_reducible refine (codewrightref01_shift.calls k1 _ _ l1 x7_1 t401 _ (Kd.C_below HR1.out HB.out) HC1.out A10.out).mono ?_); rintro e w28 ⟨v402, rfl, ho0, hb⟩; refine ⟨_, rfl, ?_⟩; have n0_ := Aside0.mk (Kd.R_elder' (HO_4.out) (Kd.R_base ho0) hb); have n1_ := Aside0.mk (Kd.R_elder' (HO_5.out) (Kd.R_base ho0) hb); have n2_ := Aside0.mk (Kd.R_lower (Kd.R_new' (Kd.R_new' ho0 (Kd.R_lt (HO_4.out))) (Kd.R_lt (HO_5.out))) (below_size (HB.out))); have n3_ := Aside0.mk (below_step (HB.out) hb); clear HO_4; clear HO_5; clear HB; have HO_4 := n0_; have HO_5 := n1_; have HO403 := n2_; have HB := n3_; clear n0_ n1_ n2_ n3_; (try clear hb); (try clear ho0); obtain ⟨Ao29, co29, eo29⟩ := Kd.R_slice HO_5.out; subst eo29; obtain ⟨Ao30, co30, eo30⟩ := Kd.R_slice HO403.out; subst eo30) | (refine goesL_ (some 26) rfl rfl Try.func71 (by kernel_rfl) rfl #[.slice Ao29 x5_1.length co29, .slice Ao30 t401.length co30] rfl (by simp only [List.map_toArray, List.map_cons, List.map_nil]; rfl) ?_; (with_reducible refine (codewrightref01_Cmp.calls k1 _ _ x5_1 _ _ t401 t404 _ ?side1 ?side2 ?side3 ?side4 A11.out).mono ?_); (case side1 => exact (Kd.R_reads' HO_5.out).2.2); (case side2 => exact (Kd.R_reads' HO_5.out).2.1); (case side3 => exact (Kd.R_reads' HO403.out).2.2); (case side4 => exact (Kd.R_reads' HO403.out).2.1); rintro e w31 ⟨rfl, hb⟩; refine ⟨_, rfl, ?_⟩; replace HO_4 := Aside0.mk (Kd.R_below (HO_4.out) hb); replace HO_5 := Aside0.mk (Kd.R_below (HO_5.out) hb); replace HO403 := Aside0.mk (Kd.R_below (HO403.out) hb); replace HB := Aside0.mk (below_step (HB.out) hb)))
     go_roundg k1
     case measure => have := HK1.out; omega
     case rel => exact ⟨(x4_1), (x5_1), (wrap64 (x7_1 - 1)), rfl, H', ⟨by have := HK1.out; omega⟩, ⟨Kd.R_mono HO_4.out (fun _ hk => hk.1)⟩, ⟨Kd.R_mono HO_5.out (fun _ hk => hk.1)⟩, ⟨HB.out⟩⟩
   ·rw [if_neg c9] at H
    have c9b0 : decide (0 ≤ x7_1) = false := decide_eq_false c9
    clear c9
    obtain ⟨t398, A32, H⟩ := bindA H
    simp only [Option.some.injEq, Prod.mk.injEq] at H
    obtain ⟨rfl, rfl⟩ := H
    obtain ⟨Ao33, co33, eo33⟩ := Kd.R_slice HO_4.out
    subst eo33
    go_wp2_with ((refine goesL_ (some 37) rfl rfl Try.func97 (by kernel_rfl) rfl #[.slice Ao33 x4_1.length co33] rfl (by simp only [List.map_toArray, List.map_cons, List.map_nil]; rfl) ?_; (with_reducible refine (codewrightref01_Trim.calls k1 _ _ x4_1 t398 _ ?side1 ?side2 A32.out).mono ?_); (case side1 => exact (Kd.R_reads' HO_4.out).2.2); (case side2 => exact (Kd.R_reads' HO_4.out).2.1); rintro e w34 ⟨v399, rfl, ho0, hb⟩; refine ⟨_, rfl, ?_⟩; have n0_ := Aside0.mk (Kd.R_elder' (HO_4.out) (Kd.R_base ho0) hb); have n1_ := Aside0.mk (Kd.R_elder' (HO_5.out) (Kd.R_base ho0) hb); have n2_ := Aside0.mk (Kd.R_lower (Kd.R_new' (Kd.R_new' ho0 (Kd.R_lt (HO_4.out))) (Kd.R_lt (HO_5.out))) (below_size (HB.out))); have n3_ := Aside0.mk (below_step (HB.out) hb); clear HO_4; clear HO_5; clear HB; have HO_4 := n0_; have HO_5 := n1_; have HO400 := n2_; have HB := n3_; clear n0_ n1_ n2_ n3_))
    go_ret2
    exact ⟨_, _, rfl, Kd.R_mono HO400.out (fun _ hk => hk.2), Kd.R_mono HO_5.out (fun _ hk => hk.2), HB.out⟩
end Go.Proofs.Ythheakfgmombdaa.F
end
section
namespace Go.Proofs.Ythheakfgmombdaa.F
open Go.RowKit Go.Proofs.YthheakfgmombdaaX.PrintWords Go.Proofs.YthheakfgmombdaaX.PrintLast Go.Proofs.YthheakfgmombdaaX.PrintMore
attribute [local go_sem] max2_int min2_int max_two min_two max_three min_three max_four min_four   -- for this text's walks alone
set_option linter.unusedVariables false
set_option linter.unusedSimpArgs false
set_option maxHeartbeats 8000000 in
set_option maxRecDepth 100000 in
theorem codewrightref01_Gcd.calls (k : Nat) (P0_ : Nat → Prop) (A0 : Option Addr) (c0 : Nat) (l0 : List Int) (P1_ : Nat → Prop) (A1 : Option Addr) (c1 : Nat) (l1 : List Int) (r : List Int) (w : World) (hs0 : Kd.V (Kd.int .u32) 100 w w.heap.size (fun k_ => P0_ k_) (.slice A0 l0.length c0) l0) (hs1 : Kd.V (Kd.int .u32) 100 w w.heap.size (fun k_ => P1_ k_) (.slice A1 l1.length c1) l1) (h : codewrightref01_Gcd.f k l0 l1 = some r) :
  Calls Try.prog 99 #[.slice A0 l0.length c0, .slice A1 l1.length c1] w fun e w' => ∃ v0_ : Value, e = .returned (v0_) ∧ Kd.R (Kd.int .u32) 100 w' w.heap.size (fun k_ => (w.heap.size ≤ k_)) v0_ r ∧ Below w.heap.size w w' := by
 have HO0 := Aside0.mk (show Kd.V (Kd.int .u32) 100 w w.heap.size (fun k_ => ((P0_ k_ ∨ P1_ k_) ∨ w.heap.size ≤ k_)) (.slice A0 l0.length c0) l0 from Kd.V_mono hs0 (fun k_ hk => .inl (.inl hk)))
 have HO1 := Aside0.mk (show Kd.V (Kd.int .u32) 100 w w.heap.size (fun k_ => ((P0_ k_ ∨ P1_ k_) ∨ w.heap.size ≤ k_)) (.slice A1 l1.length c1) l1 from Kd.V_mono hs1 (fun k_ hk => .inl (.inr hk)))
 have HB := Aside0.mk (Below.refl w.heap.size w)
 have H : (codewrightref01_Gcd.l0 k l0 l1) = some r := h
 clear h
 have H' := Aside0.mk H
 clear H
 go_enter Try.func99, Try.ntmps99
 go_wp2
 go_loopg [0, 1] k (fun kq v0 v1 w' => ∃ (x0_1 : List Int) (x1_1 : List Int), Aside0 (codewrightref01_Gcd.l0 kq x0_1 x1_1 = some r) ∧ Aside0 (kq ≤ k) ∧ Aside0 (Kd.V (Kd.int .u32) 100 w' w.heap.size (fun k_ => ((P0_ k_ ∨ P1_ k_) ∨ w.heap.size ≤ k_)) v0 x0_1) ∧ Aside0 (Kd.V (Kd.int .u32) 100 w' w.heap.size (fun k_ => ((P0_ k_ ∨ P1_ k_) ∨ w.heap.size ≤ k_)) v1 x1_1) ∧ Aside0 (Below w.heap.size w w'))
 case atStart => exact ⟨(l0), (l1), H', ⟨Nat.le_refl _⟩, ⟨HO0.out⟩, ⟨HO1.out⟩, ⟨HB.out⟩⟩
 case round =>
  clear H'
  obtain ⟨x0_1, x1_1, HA, HK1, HO_0, HO_1, HB⟩ := hrel
  cases gk with
  | zero => exact absurd HA.out (by simp [codewrightref01_Gcd.l0])
  | succ k1 =>
   have H := HA.out
   clear HA
   simp only [codewrightref01_Gcd.l0] at H
   obtain ⟨t417, A3, H⟩ := bindA H
   by_cases c4 : t417 = true
   ·subst c4
    rw [if_pos rfl] at H
    obtain ⟨t418, A5, H⟩ := bindA H
    obtain rfl := Option.some.inj H
    obtain ⟨Ao6, co6, eo6⟩ := Kd.V_slice HO_1.out
    subst eo6
    go_wp2_with (first | (refine goesL_ (some 8) rfl rfl Try.func98 (by kernel_rfl) rfl #[.slice Ao6 x1_1.length co6] rfl (by simp only [List.map_toArray, List.map_cons, List.map_nil]; rfl) ?_; (with_reducible refine (codewrightref01_Zero.calls k1 _ _ x1_1 true _ ?side1 ?side2 A3.out).mono ?_); (case side1 => exact (Kd.V_reads' HO_1.out).2.2); (case side2 => exact (Kd.V_reads' HO_1.out).2.1); rintro e w7 ⟨rfl, hb⟩; refine ⟨_, rfl, ?_⟩; replace HO_0 := Aside0.mk (Kd.V_below (HO_0.out) hb); replace HO_1 := Aside0.mk (Kd.V_below (HO_1.out) hb); replace HB := Aside0.mk (below_step (HB.out) hb); (try clear hb); obtain ⟨Ao8, co8, eo8⟩ := Kd.V_slice HO_0.out; subst eo8) | (refine goesL_ (some 19) rfl rfl Try.func97 (by kernel_rfl) rfl #[.slice Ao8 x0_1.length co8] rfl (by simp only [List.map_toArray, List.map_cons, List.map_nil]; rfl) ?_; (with_reducible refine (codewrightref01_Trim.calls k1 _ _ x0_1 t418 _ ?side1 ?side2 A5.out).mono ?_); (case side1 => exact (Kd.V_reads' HO_0.out).2.2); (case side2 => exact (Kd.V_reads' HO_0.out).2.1); rintro e w9 ⟨v419, rfl, ho0, hb⟩; refine ⟨_, rfl, ?_⟩; replace HO_0 := Aside0.mk (Kd.V_elder' (HO_0.out) (Kd.R_base ho0) hb); replace HO_1 := Aside0.mk (Kd.V_elder' (HO_1.out) (Kd.R_base ho0) hb); have HO420 := Aside0.mk (Kd.R_lower (Kd.R_newM (M := fun k_ => (w.heap.size ≤ k_)) ho0 (below_size (HB.out)) (fun k_ h_ => h_)) (below_size (HB.out))); replace HB := Aside0.mk (below_step (HB.out) hb)))
    go_ret
    exact ⟨_, rfl, Kd.R_mono HO420.out (fun _ hk => hk.1), HB.out⟩
   ·replace c4 := Bool.eq_false_iff.mpr c4
    subst c4
    rw [if_neg (show ¬ (false = true) by decide)] at H
    obtain ⟨⟨t421, t422⟩, A10, H⟩ := bindA H
    have H' := Aside0.mk H
    clear H
    obtain ⟨Ao11, co11, eo11⟩ := Kd.V_slice HO_1.out
    subst eo11
    go_wp2_with (first | (refine goesL_ (some 8) rfl rfl Try.func98 (by kernel_rfl) rfl #[.slice Ao11 x1_1.length co11] rfl (by simp only [List.map_toArray, List.map_cons, List.map_nil]; rfl) ?_; (with_reducible refine (codewrightref01_Zero.calls k1 _ _ x1_1 false _ ?side1 ?side2 A3.out).mono ?_); (case side1 => exact (Kd.V_reads' HO_1.out).2.2); (case side2 => exact (Kd.V_reads' HO_1.out).2.1); rintro e w12 ⟨rfl, hb⟩; refine ⟨_, rfl, ?_⟩; replace HO_0 := Aside0.mk (Kd.V_below (HO_0.out) hb); replace HO_1 := Aside0.mk (Kd.V_below (HO_1.out) hb); replace HB := Aside0.mk (below_step (HB.out) hb); (try clear hb); obtain ⟨Ao13, co13, eo13⟩ := Kd.V_slice HO_0.out; subst eo13) | (refine goesL_ (some 13) rfl rfl Try.func100 (by kernel_rfl) rfl #[.slice Ao13 x0_1.length co13, .slice Ao11 x1_1.length co11] rfl (by simp only [List.map_toArray, List.map_cons, List.map_nil]; rfl) ?_; (with_reducible refine (codewrightref01_DivMod.calls k1 _ _ x0_1 _ _ x1_1 t421 t422 _ ?side1 ?side2 ?side3 ?side4 A10.out).mono ?_); (case side1 => exact (Kd.V_reads' HO_0.out).2.2); (case side2 => exact (Kd.V_reads' HO_0.out).2.1); (case side3 => exact (Kd.V_reads' HO_1.out).2.2); (case side4 => exact (Kd.V_reads' HO_1.out).2.1); rintro e w14 ⟨v423, v425, rfl, ho0, ho1, hb⟩; refine ⟨_, rfl, ?_⟩; replace HO_0 := Aside0.mk (Kd.V_mono (Kd.V_told (Kd.V_told (Kd.V_old (HO_0.out) hb) (Kd.R_base ho0)) (Kd.R_base ho1)) (fun _ h_ => h_.1)); replace HO_1 := Aside0.mk (Kd.V_mono (Kd.V_told (Kd.V_told (Kd.V_old (HO_1.out) hb) (Kd.R_base ho0)) (Kd.R_base ho1)) (fun _ h_ => h_.1)); have HO424 := Aside0.mk (Kd.R_lower (Kd.R_newM (M := fun k_ => (w.heap.size ≤ k_)) ho0 (below_size (HB.out)) (fun k_ h_ => h_)) (below_size (HB.out))); have HO426 := Aside0.mk (Kd.R_lower (Kd.R_newM (M := fun k_ => (w.heap.size ≤ k_)) ho1 (below_size (HB.out)) (fun k_ h_ => h_)) (below_size (HB.out))); replace HB := Aside0.mk (below_step (HB.out) hb)))
    go_roundg k1
    case measure => have := HK1.out; omega
    case rel => exact ⟨(x1_1), (t422), H', ⟨by have := HK1.out; omega⟩, ⟨Kd.V_mono HO_1.out (fun _ hk => hk.1.1)⟩, ⟨Kd.V_mono (Kd.R_V (HO426.out)) (fun k_ hk => by ((have hk := hk.1; exact (.inr (hk)))))⟩, ⟨HB.out⟩⟩
end Go.Proofs.Ythheakfgmombdaa.F
end
section
namespace Go.Proofs.Ythheakfgmombdaa.F
open Go.RowKit Go.Proofs.YthheakfgmombdaaX.PrintWords Go.Proofs.YthheakfgmombdaaX.PrintLast Go.Proofs.YthheakfgmombdaaX.PrintMore
attribute [local go_sem] max2_int min2_int max_two min_two max_three min_three max_four min_four   -- for this text's walks alone
set_option linter.unusedVariables false
set_option linter.unusedSimpArgs false
set_option maxHeartbeats 8000000 in
set_option maxRecDepth 100000 in
theorem codewrightref02_Make.calls (k : Nat) (a0 : Bool) (A1 : Option Addr) (c1 : Nat) (l1 : List Int) (A2 : Option Addr) (c2 : Nat) (l2 : List Int) (r1 : Bool) (r2 : List Int) (r3 : List Int) (w : World) (hr1 : Kd.C (Kd.int .u32) w A1 l1.length l1) (hc1 : l1.length ≤ c1) (hr2 : Kd.C (Kd.int .u32) w A2 l2.length l2) (hc2 : l2.length ≤ c2) (h : codewrightref02_Make.f k a0 l1 l2 = some (r1, r2, r3)) :
  Calls Try.prog 69 #[.bool a0, .slice A1 l1.length c1, .slice A2 l2.length c2] w fun e w' => ∃ v1_ v2_ : Value, e = .returned (.agg #[.bool r1, v1_, v2_]) ∧ Kd.R (Kd.int .u32) 100 w' w.heap.size (fun k_ => some k_ ≠ (v2_ : Value).ownBlock) v1_ r2 ∧ Kd.R (Kd.int .u32) 100 w' w.heap.size (fun k_ => some k_ ≠ (v1_ : Value).ownBlock) v2_ r3 ∧ Below w.heap.size w w' := by
 have hu46 := Try.underlying46
 have HR1 := Aside0.mk hr1
 have HC1 := Aside0.mk hc1
 clear hr1 hc1
 have HR2 := Aside0.mk hr2
 have HC2 := Aside0.mk hc2
 clear hr2 hc2
 have HB := Aside0.mk (Below.refl w.heap.size w)
 have H : ((codewrightref01_Zero.f k l1).bind fun t428 => (if t428 = true then (codewrightref02_Make.j0 k a0 l1 l2 true) else ((codewrightref01_Zero.f k l2).bind fun t429 => (codewrightref02_Make.j0 k a0 l1 l2 t429)))) = some (r1, r2, r3) := h
 clear h
 have HC4 := Aside0.mk H
 clear H
 go_enter Try.func69, Try.ntmps69
 go_upto_region 1 with ((refine box_event ?hg (N := 6) ?hd (cs := #[.bool false, .slice none 0 0, .slice none 0 0]) (t := 46) ?hr ?_; (case hd => rfl); (case hg => rfl); (case hr => go_simp; done); intro gb427 hg w5 hbox hb; have n0_ := Aside0.mk (below_step (HB.out) hb); have n1_ := Aside0.mk (hbox); have n2_ := Aside0.mk ((by rw [hg]; exact (below_size (HB.out)) : w.heap.size ≤ gb427)); have n3_ := Aside0.mk ((by rw [hg]; exact (below_size (HB.out)) : w.heap.size ≤ gb427)); clear HB; have HB := n0_; have BK427 := n1_; have GW427 := n2_; have GE427 := n3_; clear n0_ n1_ n2_ n3_; clear hb hbox hg))
 (try simp only [Act.put, List.setIfInBounds_toArray, List.set_cons_zero, List.set_cons_succ])
 go_cut [17] (fun v17 wc => ∃ (kq : Nat) (x17_3 : Bool), v17 = .bool x17_3 ∧ Aside0 (codewrightref02_Make.j0 kq a0 l1 l2 x17_3 = some (r1, r2, r3)) ∧ Aside0 (kq ≤ k) ∧ Aside0 (wc.heap[gb427]? = some (.cells #[.bool false, (.slice none 0 0), (.slice none 0 0)] 46 (0, 0))) ∧ Aside0 (Below w.heap.size w wc))
 case first =>
  have H := HC4.out
  clear HC4
  obtain ⟨t428, A6, H⟩ := bindA H
  by_cases c7 : t428 = true
  ·subst c7
   rw [if_pos rfl] at H
   have H' := Aside0.mk H
   clear H
   go_wp2_with ((refine goesL_ (some 13) rfl rfl Try.func98 (by kernel_rfl) rfl #[.slice A1 l1.length c1] rfl (by simp only [List.map_toArray, List.map_cons, List.map_nil]; rfl) ?_; (with_reducible refine (codewrightref01_Zero.calls k _ _ l1 true _ (Kd.C_below HR1.out HB.out) HC1.out A6.out).mono ?_); rintro e w8 ⟨rfl, hb⟩; refine ⟨_, rfl, ?_⟩; replace BK427 := Aside0.mk (blk_below (BK427.out) hb); replace HB := Aside0.mk (below_step (HB.out) hb)))
   go_meet
   case rel => exact ⟨_, (true), rfl, H', ⟨by omega⟩, ⟨BK427.out⟩, ⟨HB.out⟩⟩
  ·replace c7 := Bool.eq_false_iff.mpr c7
   subst c7
   rw [if_neg (show ¬ (false = true) by decide)] at H
   obtain ⟨t429, A9, H⟩ := bindA H
   have H' := Aside0.mk H
   clear H
   go_wp2_with (first | (refine goesL_ (some 13) rfl rfl Try.func98 (by kernel_rfl) rfl #[.slice A1 l1.length c1] rfl (by simp only [List.map_toArray, List.map_cons, List.map_nil]; rfl) ?_; (with_reducible refine (codewrightref01_Zero.calls k _ _ l1 false _ (Kd.C_below HR1.out HB.out) HC1.out A6.out).mono ?_); rintro e w10 ⟨rfl, hb⟩; refine ⟨_, rfl, ?_⟩; replace BK427 := Aside0.mk (blk_below (BK427.out) hb); replace HB := Aside0.mk (below_step (HB.out) hb)) | (go_at_call 98; (with_reducible refine (codewrightref01_Zero.calls k _ _ l2 t429 _ (Kd.C_below HR2.out HB.out) HC2.out A9.out).mono ?_); rintro e w11 ⟨rfl, hb⟩; replace BK427 := Aside0.mk (blk_below (BK427.out) hb); replace HB := Aside0.mk (below_step (HB.out) hb)))
   go_meet
   case rel => exact ⟨_, (t429), rfl, H', ⟨by omega⟩, ⟨BK427.out⟩, ⟨HB.out⟩⟩
 case rest =>
  clear HC4
  obtain ⟨kq, x17_3, rfl, HA, HJ3, BK427, HB⟩ := hcut
  cases kq with
  | zero => exact absurd HA.out (by simp [codewrightref02_Make.j0])
  | succ kj3 =>
   have H := HA.out
   clear HA
   simp only [codewrightref02_Make.j0] at H
   by_cases c12 : x17_3 = true
   ·subst c12
    rw [if_pos rfl] at H
    obtain ⟨y430, hy430⟩ : ∃ y_ : List Int, y_ = (([] : List Int)) := ⟨_, rfl⟩
    replace H : (some (false, y430, (([1] : List Int)))) = some (r1, r2, r3) := by (rw [hy430]; with_reducible exact H)
    have Ny430 := Aside0.mk hy430
    clear hy430
    obtain ⟨y433, hy433⟩ : ∃ y_ : List Int, y_ = (([1] : List Int)) := ⟨_, rfl⟩
    (try replace H := (Option.bind_some _ _).symm.trans H); rw [← hy433] at H
    have Ny433 := Aside0.mk hy433
    clear hy433
    simp only [Option.some.injEq, Prod.mk.injEq] at H
    obtain ⟨rfl, rfl, rfl⟩ := H
    go_wp2_with (first | (refine Kd.R_lit (Kd.int .u32) _ 100 ?hg (N := 18) ?hd (xs := ([] : List Int)) (inner := []) (ok := fun _ => True) (okp := fun _ => True) ?hr ?hp (fun _ hk => hk) trivial (Below.refl _ _) (Nat.le_refl _) (by simp) ?_; (case hd => rfl); (case hg => rfl); (case hr => go_simp; done); (case hp => exact (Reps.none _ _)); intro v431 w13 ho14 hb hg_ hnew_; clear hg_ hnew_; (rw [← Ny430.out] at ho14); have HO432 := Aside0.mk (Kd.R_lower ho14 (below_size (HB.out))); replace BK427 := Aside0.mk (blk_below (BK427.out) hb); replace HB := Aside0.mk (below_step (HB.out) hb); clear hb ho14) | (refine Kd.R_lit (Kd.int .u32) _ 100 ?hg (N := 19) ?hd (xs := ([1] : List Int)) (inner := [.int .u32 1]) (ok := fun _ => True) (okp := fun _ => True) ?hr ?hp (fun _ hk => hk) trivial (Below.refl _ _) (Nat.le_refl _) (by simp) ?_; (case hd => rfl); (case hg => rfl); (case hr => go_simp; done); (case hp => exact (Reps.one (show Kd.M (Kd.int .u32) _ _ _ 1 [.int .u32 1] from rfl) (Reps.none _ _))); intro v434 w15 ho16 hb hg_ hnew_; clear hg_ hnew_; (rw [← Ny433.out] at ho16); have n0_ := Aside0.mk (Kd.R_elder' (HO432.out) (Kd.R_base ho16) hb); have n1_ := Aside0.mk (Kd.R_lower (Kd.R_new' ho16 (Kd.R_lt (HO432.out))) (below_size (HB.out))); have n2_ := Aside0.mk (blk_below (BK427.out) hb); have n3_ := Aside0.mk (below_step (HB.out) hb); clear HO432; clear BK427; clear HB; have HO432 := n0_; have HO435 := n1_; have BK427 := n2_; have HB := n3_; clear n0_ n1_ n2_ n3_; clear hb ho16; obtain ⟨Ao17, co17, eo17⟩ := Kd.R_slice HO435.out; subst eo17; obtain ⟨Ao18, co18, eo18⟩ := Kd.R_slice HO432.out; subst eo18; have hcz19_0 : w15.cell? ⟨gb427, 0, none⟩ = some (.bool false) := (blk_cell BK427.out 0).trans rfl; have hcz19_1 : w15.cell? ⟨gb427, 1, none⟩ = some (.slice none 0 0) := (blk_cell BK427.out 1).trans rfl; have hcz19_2 : w15.cell? ⟨gb427, 2, none⟩ = some (.slice none 0 0) := (blk_cell BK427.out 2).trans rfl; have hfz19_0 := blk_frozen BK427.out 0; have hfz19_1 := blk_frozen BK427.out 1; have hfz19_2 := blk_frozen BK427.out 2))
    refine bodyPost_ret (results_cell_row rfl _ _ gb427 46 #[.bool false, .slice Ao18 y430.length co18, .slice Ao17 y433.length co17] (0, 0) _ rfl (by (with_reducible repeat (fail)); refine blk_put (cs := #[.bool false, .slice Ao18 y430.length co18, .slice none 0 0]) ?_ 2 _ rfl; (with_reducible repeat (fail)); refine blk_put (cs := #[.bool false, .slice none 0 0, .slice none 0 0]) ?_ 1 _ rfl; (with_reducible repeat (fail)); refine blk_put (cs := #[.bool false, .slice none 0 0, .slice none 0 0]) ?_ 0 _ rfl; (with_reducible repeat (fail)); exact BK427.out) Try.underlying46 rfl (by kernel_rfl)) rfl ?_
    exact ⟨_, _, rfl, Kd.R_mono (Kd.R_far (p := ⟨gb427, 2, none⟩) (Kd.R_far (p := ⟨gb427, 1, none⟩) (Kd.R_far (p := ⟨gb427, 0, none⟩) (Kd.R_types HO432.out BK427.out (by decide)) (fun _ hk => hk.2) (.bool false)) (fun _ hk => hk.2) (.slice Ao18 y430.length co18)) (fun _ hk => hk.2) (.slice Ao17 y433.length co17)) (fun _ hk => hk.1.2), Kd.R_mono (Kd.R_far (p := ⟨gb427, 2, none⟩) (Kd.R_far (p := ⟨gb427, 1, none⟩) (Kd.R_far (p := ⟨gb427, 0, none⟩) (Kd.R_types HO435.out BK427.out (by decide)) (fun _ hk => hk.2) (.bool false)) (fun _ hk => hk.2) (.slice Ao18 y430.length co18)) (fun _ hk => hk.2) (.slice Ao17 y433.length co17)) (fun _ hk => hk.1.2), by repeat ((with_reducible first | exact HB.out | refine below_set ?_ GE427.out))⟩
   ·replace c12 := Bool.eq_false_iff.mpr c12
    subst c12
    rw [if_neg (show ¬ (false = true) by decide)] at H
    obtain ⟨t436, A20, H⟩ := bindA H
    obtain ⟨⟨t439, t440⟩, A21, H⟩ := bindA H
    obtain ⟨⟨t445, t446⟩, A22, H⟩ := bindA H
    simp only [Option.some.injEq, Prod.mk.injEq] at H
    obtain ⟨rfl, rfl, rfl⟩ := H
    go_wp2_with (first | (refine goesL_ (some 23) rfl rfl Try.func99 (by kernel_rfl) rfl #[.slice A1 l1.length c1, .slice A2 l2.length c2] rfl (by simp only [List.map_toArray, List.map_cons, List.map_nil]; rfl) ?_; (with_reducible refine (codewrightref01_Gcd.calls kj3 (fun k_ => k_ < w.heap.size) _ _ l1 (fun k_ => k_ < w.heap.size) _ _ l2 t436 _ (Kd.V_mk HC1.out (Kd.F_below (Kd.C_F (Kd.heap_int .u32) HR1.out) (HB.out))) (Kd.V_mk HC2.out (Kd.F_below (Kd.C_F (Kd.heap_int .u32) HR2.out) (HB.out))) A20.out).mono ?_); rintro e w23 ⟨v437, rfl, ho0, hb⟩; refine ⟨_, rfl, ?_⟩; have HO438 := Aside0.mk (Kd.R_lower (Kd.R_mono (ok' := fun k_ => True) ho0 (fun _ hk_ => trivial)) (below_size (HB.out))); replace BK427 := Aside0.mk (blk_below (BK427.out) hb); replace HB := Aside0.mk (below_step (HB.out) hb); (try clear hb); (try clear ho0); obtain ⟨Ao24, co24, eo24⟩ := Kd.R_slice HO438.out; subst eo24) | (refine goesL_ (some 27) rfl rfl Try.func100 (by kernel_rfl) rfl #[.slice A1 l1.length c1, .slice Ao24 t436.length co24] rfl (by simp only [List.map_toArray, List.map_cons, List.map_nil]; rfl) ?_; (with_reducible refine (codewrightref01_DivMod.calls kj3 _ _ l1 _ _ t436 t439 t440 _ ?side1 ?side2 ?side3 ?side4 A21.out).mono ?_); (case side1 => exact (Kd.C_below HR1.out HB.out)); (case side2 => exact HC1.out); (case side3 => exact (Kd.R_reads' HO438.out).2.2); (case side4 => exact (Kd.R_reads' HO438.out).2.1); rintro e w25 ⟨v441, v443, rfl, ho0, ho1, hb⟩; refine ⟨_, rfl, ?_⟩; have n0_ := Aside0.mk (Kd.R_mono (Kd.R_told (Kd.R_told (Kd.R_old (HO438.out) hb) (Kd.R_base ho0)) (Kd.R_base ho1)) (fun _ h_ => h_.1)); have n1_ := Aside0.mk (Kd.R_lower (Kd.R_new' ho0 (Kd.R_lt (HO438.out))) (below_size (HB.out))); have n2_ := Aside0.mk (Kd.R_lower (Kd.R_new' ho1 (Kd.R_lt (HO438.out))) (below_size (HB.out))); have n3_ := Aside0.mk (blk_below (BK427.out) hb); have n4_ := Aside0.mk (below_step (HB.out) hb); clear HO438; clear BK427; clear HB; have HO438 := n0_; have HO442 := n1_; have HO444 := n2_; have BK427 := n3_; have HB := n4_; clear n0_ n1_ n2_ n3_ n4_) | (refine goesL_ (some 33) rfl rfl Try.func100 (by kernel_rfl) rfl #[.slice A2 l2.length c2, .slice Ao24 t436.length co24] rfl (by simp only [List.map_toArray, List.map_cons, List.map_nil]; rfl) ?_; (with_reducible refine (codewrightref01_DivMod.calls kj3 _ _ l2 _ _ t436 t445 t446 _ ?side1 ?side2 ?side3 ?side4 A22.out).mono ?_); (case side1 => exact (Kd.C_below HR2.out HB.out)); (case side2 => exact HC2.out); (case side3 => exact (Kd.R_reads' HO438.out).2.2); (case side4 => exact (Kd.R_reads' HO438.out).2.1); rintro e w26 ⟨v447, v449, rfl, ho0, ho1, hb⟩; refine ⟨_, rfl, ?_⟩; have n0_ := Aside0.mk (Kd.R_mono (Kd.R_told (Kd.R_told (Kd.R_old (HO438.out) hb) (Kd.R_base ho0)) (Kd.R_base ho1)) (fun _ h_ => h_.1)); have n1_ := Aside0.mk (Kd.R_mono (Kd.R_told (Kd.R_told (Kd.R_old (HO442.out) hb) (Kd.R_base ho0)) (Kd.R_base ho1)) (fun _ h_ => h_.1)); have n2_ := Aside0.mk (Kd.R_mono (Kd.R_told (Kd.R_told (Kd.R_old (HO444.out) hb) (Kd.R_base ho0)) (Kd.R_base ho1)) (fun _ h_ => h_.1)); have n3_ := Aside0.mk (Kd.R_lower (Kd.R_new' (Kd.R_new' (Kd.R_new' ho0 (Kd.R_lt (HO438.out))) (Kd.R_lt (HO442.out))) (Kd.R_lt (HO444.out))) (below_size (HB.out))); have n4_ := Aside0.mk (Kd.R_lower (Kd.R_new' (Kd.R_new' (Kd.R_new' ho1 (Kd.R_lt (HO438.out))) (Kd.R_lt (HO442.out))) (Kd.R_lt (HO444.out))) (below_size (HB.out))); have n5_ := Aside0.mk (blk_below (BK427.out) hb); have n6_ := Aside0.mk (below_step (HB.out) hb); clear HO438; clear HO442; clear HO444; clear BK427; clear HB; have HO438 := n0_; have HO442 := n1_; have HO444 := n2_; have HO448 := n3_; have HO450 := n4_; have BK427 := n5_; have HB := n6_; clear n0_ n1_ n2_ n3_ n4_ n5_ n6_; (try clear hb); (try clear ho0); (try clear ho1); obtain ⟨Ao27, co27, eo27⟩ := Kd.R_slice HO448.out; subst eo27; obtain ⟨Ao28, co28, eo28⟩ := Kd.R_slice HO442.out; subst eo28; have hcz29_0 : w26.cell? ⟨gb427, 0, none⟩ = some (.bool false) := (blk_cell BK427.out 0).trans rfl; have hcz29_1 : w26.cell? ⟨gb427, 1, none⟩ = some (.slice none 0 0) := (blk_cell BK427.out 1).trans rfl; have hcz29_2 : w26.cell? ⟨gb427, 2, none⟩ = some (.slice none 0 0) := (blk_cell BK427.out 2).trans rfl; have hfz29_0 := blk_frozen BK427.out 0; have hfz29_1 := blk_frozen BK427.out 1; have hfz29_2 := blk_frozen BK427.out 2))
    refine bodyPost_ret (results_cell_row rfl _ _ gb427 46 #[.bool a0, .slice Ao28 t439.length co28, .slice Ao27 t445.length co27] (0, 0) _ rfl (by (with_reducible repeat (fail)); refine blk_put (cs := #[.bool a0, .slice Ao28 t439.length co28, .slice none 0 0]) ?_ 2 _ rfl; (with_reducible repeat (fail)); refine blk_put (cs := #[.bool a0, .slice none 0 0, .slice none 0 0]) ?_ 1 _ rfl; (with_reducible repeat (fail)); refine blk_put (cs := #[.bool false, .slice none 0 0, .slice none 0 0]) ?_ 0 _ rfl; (with_reducible repeat (fail)); exact BK427.out) Try.underlying46 rfl (by kernel_rfl)) rfl ?_
    exact ⟨_, _, rfl, Kd.R_mono (Kd.R_far (p := ⟨gb427, 2, none⟩) (Kd.R_far (p := ⟨gb427, 1, none⟩) (Kd.R_far (p := ⟨gb427, 0, none⟩) (Kd.R_types HO442.out BK427.out (by decide)) (fun _ hk => hk.2) (.bool a0)) (fun _ hk => hk.2) (.slice Ao28 t439.length co28)) (fun _ hk => hk.2) (.slice Ao27 t445.length co27)) (fun _ hk => hk.1.1.2), Kd.R_mono (Kd.R_far (p := ⟨gb427, 2, none⟩) (Kd.R_far (p := ⟨gb427, 1, none⟩) (Kd.R_far (p := ⟨gb427, 0, none⟩) (Kd.R_types HO448.out BK427.out (by decide)) (fun _ hk => hk.2) (.bool a0)) (fun _ hk => hk.2) (.slice Ao28 t439.length co28)) (fun _ hk => hk.2) (.slice Ao27 t445.length co27)) (fun _ hk => hk.1.1.2), by repeat ((with_reducible first | exact HB.out | refine below_set ?_ GE427.out))⟩
end Go.Proofs.Ythheakfgmombdaa.F
end
section
namespace Go.Proofs.Ythheakfgmombdaa.F
open Go.RowKit Go.Proofs.YthheakfgmombdaaX.PrintWords Go.Proofs.YthheakfgmombdaaX.PrintLast Go.Proofs.YthheakfgmombdaaX.PrintMore
attribute [local go_sem] max2_int min2_int max_two min_two max_three min_three max_four min_four   -- for this text's walks alone
set_option linter.unusedVariables false
set_option linter.unusedSimpArgs false
set_option maxHeartbeats 8000000 in
set_option maxRecDepth 100000 in
theorem codewrightref02_Nat.calls (k : Nat) (A0 : Option Addr) (c0 : Nat) (l0 : List Int) (r1 : Bool) (r2 : List Int) (r3 : List Int) (w : World) (hr0 : Kd.C (Kd.int .u32) w A0 l0.length l0) (hc0 : l0.length ≤ c0) (h : codewrightref02_Nat.f k l0 = some (r1, r2, r3)) :
  Calls Try.prog 39 #[.slice A0 l0.length c0] w fun e w' => ∃ v1_ v2_ : Value, e = .returned (.agg #[.bool r1, v1_, v2_]) ∧ Kd.R (Kd.int .u32) 100 w' w.heap.size (fun k_ => some k_ ≠ (v2_ : Value).ownBlock) v1_ r2 ∧ Kd.R (Kd.int .u32) 100 w' w.heap.size (fun k_ => some k_ ≠ (v1_ : Value).ownBlock) v2_ r3 ∧ Below w.heap.size w w' := by
 have hu46 := Try.underlying46
 have HR0 := Aside0.mk hr0
 have HC0 := Aside0.mk hc0
 clear hr0 hc0
 have HB := Aside0.mk (Below.refl w.heap.size w)
 have H : ((codewrightref02_Make.f k false l0 (([1] : List Int))).bind fun bt645 => (some (bt645.1, bt645.2.1, bt645.2.2))) = some (r1, r2, r3) := h
 clear h
 obtain ⟨y642, hy642⟩ : ∃ y_ : List Int, y_ = (([1] : List Int)) := ⟨_, rfl⟩
 replace H : ((codewrightref02_Make.f k false l0 y642).bind fun bt645 => (some (bt645.1, bt645.2.1, bt645.2.2))) = some (r1, r2, r3) := by (rw [hy642]; with_reducible exact H)
 have Ny642 := Aside0.mk hy642
 clear hy642
 replace H := Option.bind_eq_some_iff.mp H
 obtain ⟨⟨t645, t646, t649⟩, A20, H⟩ := H
 replace H : (some (t645, t646, t649)) = some (r1, r2, r3) := H
 have A2 := Aside0.mk A20
 clear A20
 simp only [Option.some.injEq, Prod.mk.injEq] at H
 obtain ⟨rfl, rfl, rfl⟩ := H
 go_enter Try.func39, Try.ntmps39
 go_wp2_with (first | ((with_reducible refine gate_dst (N := 2) rfl ?_); refine box_event ?hg (N := 2) ?hd (cs := #[.bool false, .slice none 0 0, .slice none 0 0]) (t := 46) ?hr ?_; (case hd => rfl); (case hg => rfl); (case hr => (go_simp; done)); intro gb641 hg w3 hbox hb; have n0_ := Aside0.mk (below_step (by repeat ((with_reducible exact HB.out))) hb); have n1_ := Aside0.mk (hbox); have n2_ := Aside0.mk ((by rw [hg]; exact (below_size (by repeat ((with_reducible exact HB.out)))) : w.heap.size ≤ gb641)); have n3_ := Aside0.mk ((by rw [hg]; exact (below_size (by repeat ((with_reducible exact HB.out)))) : w.heap.size ≤ gb641)); clear HB; have HB := n0_; have BK641 := n1_; have GW641 := n2_; have GE641 := n3_; clear n0_ n1_ n2_ n3_; clear hb hbox hg) | ((with_reducible refine gate_dst (N := 4) rfl ?_); refine Kd.R_lit (Kd.int .u32) _ 100 ?hg (N := 4) ?hd (xs := ([1] : List Int)) (inner := [.int .u32 1]) (ok := fun _ => True) (okp := fun _ => True) ?hr ?hp (fun _ hk => hk) trivial (Below.refl _ _) (Nat.le_refl _) (by simp) ?_; (case hd => rfl); (case hg => rfl); (case hr => (go_simp; done)); (case hp => exact (Reps.one (show Kd.M (Kd.int .u32) _ _ _ 1 [.int .u32 1] from rfl) (Reps.none _ _))); intro v643 w4 ho5 hb hg_ hnew_; clear hg_ hnew_; (rw [← Ny642.out] at ho5); have n0_ := Aside0.mk (Kd.R_lower ho5 (below_size (by repeat ((with_reducible exact HB.out))))); have n1_ := Aside0.mk (blk_below (g := gb641) (o := .cells #[.bool false, .slice none 0 0, .slice none 0 0] 46 (0, 0)) (by (with_reducible repeat (fail)); exact BK641.out) hb); have n2_ := Aside0.mk (below_step (by repeat ((with_reducible exact HB.out))) hb); clear BK641; clear HB; have HO644 := n0_; have BK641 := n1_; have HB := n2_; clear n0_ n1_ n2_; clear hb ho5; obtain ⟨Ao6, co6, eo6⟩ := Kd.R_slice HO644.out; subst eo6) | ((with_reducible refine gate_callee (f := 69) rfl ?_); refine goesL_ (some 5) rfl rfl Try.func69 (by kernel_rfl) rfl #[.bool false, .slice A0 l0.length c0, .slice Ao6 y642.length co6] rfl (by (try simp only [List.map_toArray, List.map_cons, List.map_nil]); rfl) ?_; (with_reducible refine (codewrightref02_Make.calls k false _ _ l0 _ _ y642 t645 t646 t649 _ ?side1 ?side2 ?side3 ?side4 A2.out).mono ?_); (case side1 => repeat (exact (Kd.C_below HR0.out HB.out))); (case side2 => exact HC0.out); (case side3 => exact (Kd.R_reads' HO644.out).2.2); (case side4 => exact (Kd.R_reads' HO644.out).2.1); rintro e w7 ⟨v647, v650, rfl, ho0, ho1, hb⟩; refine ⟨_, rfl, ?_⟩; have n0_ := Aside0.mk (Kd.R_mono (Kd.R_told (Kd.R_told (Kd.R_old (by (with_reducible repeat (fail)); exact HO644.out) hb) (Kd.R_base ho0)) (Kd.R_base ho1)) (fun _ h_ => h_.1)); have n1_ := Aside0.mk (Kd.R_lower (Kd.R_new' ho0 (Kd.R_lt (by (with_reducible repeat (fail)); exact HO644.out))) (below_size (by repeat ((with_reducible exact HB.out))))); have n2_ := Aside0.mk (Kd.R_lower (Kd.R_new' ho1 (Kd.R_lt (by (with_reducible repeat (fail)); exact HO644.out))) (below_size (by repeat ((with_reducible exact HB.out))))); have n3_ := Aside0.mk (blk_below (g := gb641) (o := .cells #[.bool false, .slice none 0 0, .slice none 0 0] 46 (0, 0)) (by (with_reducible repeat (fail)); exact BK641.out) hb); have n4_ := Aside0.mk (below_step (by repeat ((with_reducible exact HB.out))) hb); clear HO644; clear BK641; clear HB; have HO644 := n0_; have HO648 := n1_; have HO651 := n2_; have BK641 := n3_; have HB := n4_; clear n0_ n1_ n2_ n3_ n4_; (try clear hb); (try clear ho0); (try clear ho1); have hcz8_0 : w7.cell? ⟨gb641, 0, none⟩ = some (.bool false) := (blk_cell BK641.out 0).trans rfl; have hcz8_1 : w7.cell? ⟨gb641, 1, none⟩ = some (.slice none 0 0) := (blk_cell BK641.out 1).trans rfl; have hcz8_2 : w7.cell? ⟨gb641, 2, none⟩ = some (.slice none 0 0) := (blk_cell BK641.out 2).trans rfl; have hfz8_0 := blk_frozen BK641.out 0; have hfz8_1 := blk_frozen BK641.out 1; have hfz8_2 := blk_frozen BK641.out 2; obtain ⟨Ao9, co9, eo9⟩ := Kd.R_slice HO648.out; subst eo9; obtain ⟨Ao10, co10, eo10⟩ := Kd.R_slice HO651.out; subst eo10))
 refine bodyPost_ret (results_cell_row rfl _ _ gb641 46 #[.bool t645, .slice Ao9 t646.length co9, .slice Ao10 t649.length co10] (0, 0) _ rfl (by (with_reducible repeat (fail)); refine blk_put (cs := #[.bool t645, .slice Ao9 t646.length co9, .slice none 0 0]) ?_ 2 _ rfl; (with_reducible repeat (fail)); refine blk_put (cs := #[.bool t645, .slice none 0 0, .slice none 0 0]) ?_ 1 _ rfl; (with_reducible repeat (fail)); refine blk_put (cs := #[.bool false, .slice none 0 0, .slice none 0 0]) ?_ 0 _ rfl; (with_reducible repeat (fail)); exact BK641.out) Try.underlying46 rfl (by kernel_rfl)) rfl ?_
 exact ⟨_, _, by rfl, by (with_reducible repeat (fail)); exact Kd.R_mono (Kd.R_far (p := ⟨gb641, 2, none⟩) (Kd.R_far (p := ⟨gb641, 1, none⟩) (Kd.R_far (p := ⟨gb641, 0, none⟩) (Kd.R_types HO648.out BK641.out (by decide)) (fun _ hk => hk.2) (.bool t645)) (fun _ hk => hk.2) (.slice Ao9 t646.length co9)) (fun _ hk => hk.2) (.slice Ao10 t649.length co10)) (fun _ hk => hk.1.1), by (with_reducible repeat (fail)); exact Kd.R_mono (Kd.R_far (p := ⟨gb641, 2, none⟩) (Kd.R_far (p := ⟨gb641, 1, none⟩) (Kd.R_far (p := ⟨gb641, 0, none⟩) (Kd.R_types HO651.out BK641.out (by decide)) (fun _ hk => hk.2) (.bool t645)) (fun _ hk => hk.2) (.slice Ao9 t646.length co9)) (fun _ hk => hk.2) (.slice Ao10 t649.length co10)) (fun _ hk => hk.1.1), by repeat ((with_reducible first | exact HB.out | refine below_set ?_ GE641.out))⟩
end Go.Proofs.Ythheakfgmombdaa.F
end
section
namespace Go.Proofs.Ythheakfgmombdaa.F
open Go.RowKit Go.Proofs.YthheakfgmombdaaX.PrintWords Go.Proofs.YthheakfgmombdaaX.PrintLast Go.Proofs.YthheakfgmombdaaX.PrintMore
attribute [local go_sem] max2_int min2_int max_two min_two max_three min_three max_four min_four   -- for this text's walks alone
set_option linter.unusedVariables false
set_option linter.unusedSimpArgs false
def codewrightlaw36_DelsarteLinear.T14 : Bool × List (List Nat × List Nat) := (true, [([], []), ([], []), ([0, 1], [0, 1]), ([2], [2]), ([], []), ([], []), ([4, 5], [4, 5]), ([6], [6]), ([7], [7]), ([3, 8, 8], [3, 8]), ([9], [9])])
def codewrightlaw36_DelsarteLinear.B14 : List Nat := [0, 0, 3, 7, 0, 0, 48, 112, 240, 511, 1023]
theorem codewrightlaw36_DelsarteLinear.tab14 : rtab .any (opsOf Try.f8 14) = codewrightlaw36_DelsarteLinear.T14 := by kernel_rfl
theorem codewrightlaw36_DelsarteLinear.bits14 : waitsOk codewrightlaw36_DelsarteLinear.T14.2 codewrightlaw36_DelsarteLinear.B14 = true := by kernel_rfl
set_option maxHeartbeats 8000000 in
set_option maxRecDepth 100000 in
theorem codewrightlaw36_DelsarteLinear.calls (k : Nat) (a0_0 : Int) (a0_1 : Int) (A0_2 : Option Addr) (c0_2 : Nat) (l0_2 : List Int) (a1 : Int) (A2 : Option Addr) (c2 : Nat) (l2 : List (List Int)) (r : Bool) (w : World) (hr0_2 : Kd.C (Kd.int .i64) w A0_2 l0_2.length l0_2) (hc0_2 : l0_2.length ≤ c0_2) (hr2 : Kd.C (Kd.slice 3 (Kd.int .i64)) w A2 l2.length l2) (hc2 : l2.length ≤ c2) (h : codewrightlaw36_DelsarteLinear.f k a0_0 a0_1 l0_2 a1 l2 = some r) :
  Calls Try.prog 8 #[.agg #[.int .i64 a0_0, .int .i64 a0_1, .slice A0_2 l0_2.length c0_2], .int .u8 a1, .slice A2 l2.length c2] w fun e w' => e = .returned (.bool r) ∧ Below w.heap.size w w' := by
 have hu53 := Try.underlying53
 have hu46 := Try.underlying46
 have HR0_2 := Aside0.mk hr0_2
 have HC0_2 := Aside0.mk hc0_2
 clear hr0_2 hc0_2
 have HR2 := Aside0.mk hr2
 have HC2 := Aside0.mk hc2
 clear hr2 hc2
 have HB := Aside0.mk (Below.refl w.heap.size w)
 have H : ((codewrightref04_Check.f k a0_0 a0_1 l0_2).bind fun t587 => (if t587 = 0 then (codewrightlaw36_DelsarteLinear.j0 k l2 (wrap64 ((Int.tmod (wrap64 (a1)) 10) + 1)) (decide ((l2.length : Int) > 8)) a0_0 a0_1 l0_2) else (codewrightlaw36_DelsarteLinear.j0 k l2 (wrap64 ((Int.tmod (wrap64 (a1)) 10) + 1)) true a0_0 a0_1 l0_2))) = some r := h
 clear h
 have HC4 := Aside0.mk H
 clear H
 go_enter Try.func8, Try.ntmps8
 go_upto_region 2 with (((with_reducible refine gate_dst (N := 3) rfl ?_); (try (refine gate_guard (by rfl) ?_; dsimp only)); refine box_event ?hg (N := 3) ?hd (cs := #[.int .i64 a0_0, .int .i64 a0_1, .slice A0_2 l0_2.length c0_2]) (t := 53) ?hr ?_; (case hd => rfl); (case hg => rfl); (case hr => (go_simp; done)); intro gb586 hg w5 hbox hb; have n0_ := Aside0.mk (below_step (by repeat ((with_reducible exact HB.out))) hb); have n1_ := Aside0.mk (hbox); have n2_ := Aside0.mk ((by rw [hg]; exact (below_size (by repeat ((with_reducible exact HB.out)))) : w.heap.size ≤ gb586)); have n3_ := Aside0.mk ((by rw [hg]; exact (below_size (by repeat ((with_reducible exact HB.out)))) : w.heap.size ≤ gb586)); clear HB; have HB := n0_; have BK586 := n1_; have GW586 := n2_; have GE586 := n3_; clear n0_ n1_ n2_ n3_; clear hb hbox hg))
 go_cut [24] (fun v24 wc => ∃ (kq : Nat) (x24_3 : Bool), v24 = .bool x24_3 ∧ Aside0 (codewrightlaw36_DelsarteLinear.j0 kq l2 (wrap64 ((Int.tmod (wrap64 (a1)) 10) + 1)) x24_3 a0_0 a0_1 l0_2 = some r) ∧ Aside0 (kq ≤ k) ∧ Aside0 (wc.heap[gb586]? = some (.cells #[.int .i64 a0_0, .int .i64 a0_1, (.slice A0_2 l0_2.length c0_2)] 53 (0, 0))) ∧ Aside0 (Below w.heap.size w wc))
 case first =>
  have H := HC4.out
  clear HC4
  replace H := Option.bind_eq_some_iff.mp H
  obtain ⟨t587, A60, H⟩ := H
  replace H : (if t587 = 0 then (codewrightlaw36_DelsarteLinear.j0 k l2 (wrap64 ((Int.tmod (wrap64 (a1)) 10) + 1)) (decide ((l2.length : Int) > 8)) a0_0 a0_1 l0_2) else (codewrightlaw36_DelsarteLinear.j0 k l2 (wrap64 ((Int.tmod (wrap64 (a1)) 10) + 1)) true a0_0 a0_1 l0_2)) = some r := H
  have A6 := Aside0.mk A60
  clear A60
  by_cases c7 : t587 = 0
  ·rw [if_pos c7] at H
   have c7b0 : (t587 == 0) = true := beq_iff_eq.mpr c7
   have c7b1 : (t587 != 0) = false := bne_eq_false_iff_eq.mpr c7
   clear c7
   (skip)
   have H' := Aside0.mk H
   clear H
   have hcz8_0 : w5.cell? ⟨gb586, 0, none⟩ = some (.int .i64 a0_0) := (blk_cell BK586.out 0).trans rfl
   have hcz8_1 : w5.cell? ⟨gb586, 1, none⟩ = some (.int .i64 a0_1) := (blk_cell BK586.out 1).trans rfl
   have hcz8_2 : w5.cell? ⟨gb586, 2, none⟩ = some (.slice A0_2 l0_2.length c0_2) := (blk_cell BK586.out 2).trans rfl
   have hfz8_0 := blk_frozen BK586.out 0
   have hfz8_1 := blk_frozen BK586.out 1
   have hfz8_2 := blk_frozen BK586.out 2
   go_wp2_with (((with_reducible refine gate_callee (f := 35) rfl ?_); refine goesL_ (some 18) rfl rfl Try.func35 (by kernel_rfl) rfl #[.agg #[.int .i64 a0_0, .int .i64 a0_1, .slice A0_2 l0_2.length c0_2]] rfl (by (try simp only [List.map_toArray, List.map_cons, List.map_nil]); rfl) ?_; (with_reducible refine (codewrightref04_Check.calls k a0_0 a0_1 _ _ l0_2 t587 _ ?side1 ?side2 A6.out).mono ?_); (case side1 => repeat (exact (Kd.C_below HR0_2.out HB.out))); (case side2 => exact HC0_2.out); rintro e w9 ⟨rfl, hb⟩; refine ⟨_, rfl, ?_⟩; have n0_ := Aside0.mk (blk_below (g := gb586) (o := .cells #[.int .i64 a0_0, .int .i64 a0_1, .slice A0_2 l0_2.length c0_2] 53 (0, 0)) (by (with_reducible repeat (fail)); exact BK586.out) hb); have n1_ := Aside0.mk (below_step (by repeat ((with_reducible exact HB.out))) hb); clear BK586; clear HB; have BK586 := n0_; have HB := n1_; clear n0_ n1_; (try clear hb)))
   go_meet
   case rel => exact ⟨_, (decide ((l2.length : Int) > 8)), (by rfl), H', ⟨by omega⟩, ⟨by (with_reducible repeat (fail)); exact BK586.out⟩, ⟨by repeat ((with_reducible exact HB.out))⟩⟩
  ·rw [if_neg c7] at H
   have c7b0 : (t587 == 0) = false := beq_eq_false_iff_ne.mpr c7
   have c7b1 : (t587 != 0) = true := bne_iff_ne.mpr c7
   (skip)
   have H' := Aside0.mk H
   clear H
   have hcz10_0 : w5.cell? ⟨gb586, 0, none⟩ = some (.int .i64 a0_0) := (blk_cell BK586.out 0).trans rfl
   have hcz10_1 : w5.cell? ⟨gb586, 1, none⟩ = some (.int .i64 a0_1) := (blk_cell BK586.out 1).trans rfl
   have hcz10_2 : w5.cell? ⟨gb586, 2, none⟩ = some (.slice A0_2 l0_2.length c0_2) := (blk_cell BK586.out 2).trans rfl
   have hfz10_0 := blk_frozen BK586.out 0
   have hfz10_1 := blk_frozen BK586.out 1
   have hfz10_2 := blk_frozen BK586.out 2
   go_wp2_with (((with_reducible refine gate_callee (f := 35) rfl ?_); refine goesL_ (some 18) rfl rfl Try.func35 (by kernel_rfl) rfl #[.agg #[.int .i64 a0_0, .int .i64 a0_1, .slice A0_2 l0_2.length c0_2]] rfl (by (try simp only [List.map_toArray, List.map_cons, List.map_nil]); rfl) ?_; (with_reducible refine (codewrightref04_Check.calls k a0_0 a0_1 _ _ l0_2 t587 _ ?side1 ?side2 A6.out).mono ?_); (case side1 => repeat (exact (Kd.C_below HR0_2.out HB.out))); (case side2 => exact HC0_2.out); rintro e w11 ⟨rfl, hb⟩; refine ⟨_, rfl, ?_⟩; have n0_ := Aside0.mk (blk_below (g := gb586) (o := .cells #[.int .i64 a0_0, .int .i64 a0_1, .slice A0_2 l0_2.length c0_2] 53 (0, 0)) (by (with_reducible repeat (fail)); exact BK586.out) hb); have n1_ := Aside0.mk (below_step (by repeat ((with_reducible exact HB.out))) hb); clear BK586; clear HB; have BK586 := n0_; have HB := n1_; clear n0_ n1_; (try clear hb)))
   go_meet
   case rel => exact ⟨_, (true), (by rfl), H', ⟨by omega⟩, ⟨by (with_reducible repeat (fail)); exact BK586.out⟩, ⟨by repeat ((with_reducible exact HB.out))⟩⟩
 case rest =>
  clear HC4
  obtain ⟨kq, x24_3, rfl, HA, HJ3, BK586, HB⟩ := hcut
  cases kq with
  | zero => exact absurd HA.out (by simp [codewrightlaw36_DelsarteLinear.j0])
  | succ kj3 =>
   have H := HA.out
   clear HA
   simp only [codewrightlaw36_DelsarteLinear.j0] at H
   by_cases c12 : x24_3 = true
   ·subst c12
    have H1 : (some true) = some r := by rw [if_pos rfl] at H; exact H
    clear H
    have H := H1
    clear H1
    obtain rfl := Option.some.inj H
    go_wp2
    go_ret
    exact ⟨by rfl, by repeat ((with_reducible exact HB.out))⟩
   ·replace c12 := Bool.eq_false_iff.mpr c12
    subst c12
    have H1 : ((codewrightref24_Span.f kj3 a0_0 a0_1 l0_2 (wrap64 ((Int.tmod (wrap64 (a1)) 10) + 1)) l2 128).bind fun t588 => (if (t588.length : Int) = 0 then (some true) else ((codewrightref04_Order.f kj3 a0_0 a0_1 l0_2).bind fun t591 => ((delsarte_Distances.f kj3 t591 t588).bind fun bt592 => ((codewrightref24_Weights.f kj3 (wrap64 ((Int.tmod (wrap64 (a1)) 10) + 1)) t588).bind fun t596 => (if bt592.2 = 0 then (codewrightlaw36_DelsarteLinear.j1 kj3 bt592.1 t596 ((bt592.1.length : Int) != (t596.length : Int))) else (codewrightlaw36_DelsarteLinear.j1 kj3 bt592.1 t596 true))))))) = some r := by rw [if_neg (show ¬ (false = true) by decide)] at H; exact H
    clear H
    have H := H1
    clear H1
    replace H := Option.bind_eq_some_iff.mp H
    obtain ⟨t588, A130, H⟩ := H
    replace H : (if (t588.length : Int) = 0 then (some true) else ((codewrightref04_Order.f kj3 a0_0 a0_1 l0_2).bind fun t591 => ((delsarte_Distances.f kj3 t591 t588).bind fun bt592 => ((codewrightref24_Weights.f kj3 (wrap64 ((Int.tmod (wrap64 (a1)) 10) + 1)) t588).bind fun t596 => (if bt592.2 = 0 then (codewrightlaw36_DelsarteLinear.j1 kj3 bt592.1 t596 ((bt592.1.length : Int) != (t596.length : Int))) else (codewrightlaw36_DelsarteLinear.j1 kj3 bt592.1 t596 true)))))) = some r := H
    have A13 := Aside0.mk A130
    clear A130
    by_cases c14 : (t588.length : Int) = 0
    ·rw [if_pos c14] at H
     have c14b0 : ((t588.length : Int) == 0) = true := beq_iff_eq.mpr c14
     have c14b1 : ((t588.length : Int) != 0) = false := bne_eq_false_iff_eq.mpr c14
     clear c14
     obtain rfl := Option.some.inj H
     have hcz15_0 : wc.cell? ⟨gb586, 0, none⟩ = some (.int .i64 a0_0) := (blk_cell BK586.out 0).trans rfl
     have hcz15_1 : wc.cell? ⟨gb586, 1, none⟩ = some (.int .i64 a0_1) := (blk_cell BK586.out 1).trans rfl
     have hcz15_2 : wc.cell? ⟨gb586, 2, none⟩ = some (.slice A0_2 l0_2.length c0_2) := (blk_cell BK586.out 2).trans rfl
     have hfz15_0 := blk_frozen BK586.out 0
     have hfz15_1 := blk_frozen BK586.out 1
     have hfz15_2 := blk_frozen BK586.out 2
     go_wp2_with (((with_reducible refine gate_callee (f := 36) rfl ?_); refine goesL_ (some 28) rfl rfl Try.func36 (by kernel_rfl) rfl #[.agg #[.int .i64 a0_0, .int .i64 a0_1, .slice A0_2 l0_2.length c0_2], .int .i64 (wrap64 ((Int.tmod (wrap64 (a1)) 10) + 1)), .slice A2 l2.length c2, .int .i64 128] rfl (by (try simp only [List.map_toArray, List.map_cons, List.map_nil]); rfl) ?_; (with_reducible refine (codewrightref24_Span.calls kj3 a0_0 a0_1 _ _ l0_2 (wrap64 ((Int.tmod (wrap64 (a1)) 10) + 1)) _ _ l2 128 t588 _ ?side1 ?side2 ?side3 ?side4 A13.out).mono ?_); (case side1 => repeat (exact (Kd.C_below HR0_2.out HB.out))); (case side2 => exact HC0_2.out); (case side3 => repeat (exact (Kd.C_below HR2.out HB.out))); (case side4 => exact HC2.out); rintro e w16 ⟨v589, rfl, ho0, hb⟩; refine ⟨_, rfl, ?_⟩; have n0_ := Aside0.mk (Kd.N_lower (Kd.N_mono (ok' := fun k_ => k_ ≠ gb586) ho0 (fun k_ hk_ => (Kd.freshB (g := gb586) (o := .cells #[.int .i64 a0_0, .int .i64 a0_1, .slice A0_2 l0_2.length c0_2] 53 (0, 0)) (by (with_reducible repeat (fail)); exact BK586.out) k_ hk_))) (below_size (by repeat ((with_reducible exact HB.out))))); have n1_ := Aside0.mk (blk_below (g := gb586) (o := .cells #[.int .i64 a0_0, .int .i64 a0_1, .slice A0_2 l0_2.length c0_2] 53 (0, 0)) (by (with_reducible repeat (fail)); exact BK586.out) hb); have n2_ := Aside0.mk (below_step (by repeat ((with_reducible exact HB.out))) hb); clear BK586; clear HB; have HO590 := n0_; have BK586 := n1_; have HB := n2_; clear n0_ n1_ n2_; (try clear hb); (try clear ho0); obtain ⟨Ao17, co17, eo17⟩ := Kd.N_slice HO590.out; subst eo17))
     go_ret
     exact ⟨by rfl, by repeat ((with_reducible exact HB.out))⟩
    ·rw [if_neg c14] at H
     have c14b0 : ((t588.length : Int) == 0) = false := beq_eq_false_iff_ne.mpr c14
     have c14b1 : ((t588.length : Int) != 0) = true := bne_iff_ne.mpr c14
     have c14b2 : ¬ (t588 = []) := fun h_ => c14 (by rw [h_]; rfl)
     replace H := Option.bind_eq_some_iff.mp H
     obtain ⟨t591, A180, H⟩ := H
     replace H : ((delsarte_Distances.f kj3 t591 t588).bind fun bt592 => ((codewrightref24_Weights.f kj3 (wrap64 ((Int.tmod (wrap64 (a1)) 10) + 1)) t588).bind fun t596 => (if bt592.2 = 0 then (codewrightlaw36_DelsarteLinear.j1 kj3 bt592.1 t596 ((bt592.1.length : Int) != (t596.length : Int))) else (codewrightlaw36_DelsarteLinear.j1 kj3 bt592.1 t596 true)))) = some r := H
     have A18 := Aside0.mk A180
     clear A180
     replace H := Option.bind_eq_some_iff.mp H
     obtain ⟨⟨t592, t593⟩, A190, H⟩ := H
     replace H : ((codewrightref24_Weights.f kj3 (wrap64 ((Int.tmod (wrap64 (a1)) 10) + 1)) t588).bind fun t596 => (if t593 = 0 then (codewrightlaw36_DelsarteLinear.j1 kj3 t592 t596 ((t592.length : Int) != (t596.length : Int))) else (codewrightlaw36_DelsarteLinear.j1 kj3 t592 t596 true))) = some r := H
     have A19 := Aside0.mk A190
     clear A190
     replace H := Option.bind_eq_some_iff.mp H
     obtain ⟨t596, A200, H⟩ := H
     replace H : (if t593 = 0 then (codewrightlaw36_DelsarteLinear.j1 kj3 t592 t596 ((t592.length : Int) != (t596.length : Int))) else (codewrightlaw36_DelsarteLinear.j1 kj3 t592 t596 true)) = some r := H
     have A20 := Aside0.mk A200
     clear A200
     have HC21 := Aside0.mk H
     clear H
     have hcz22_0 : wc.cell? ⟨gb586, 0, none⟩ = some (.int .i64 a0_0) := (blk_cell BK586.out 0).trans rfl
     have hcz22_1 : wc.cell? ⟨gb586, 1, none⟩ = some (.int .i64 a0_1) := (blk_cell BK586.out 1).trans rfl
     have hcz22_2 : wc.cell? ⟨gb586, 2, none⟩ = some (.slice A0_2 l0_2.length c0_2) := (blk_cell BK586.out 2).trans rfl
     have hfz22_0 := blk_frozen BK586.out 0
     have hfz22_1 := blk_frozen BK586.out 1
     have hfz22_2 := blk_frozen BK586.out 2
     go_upto_region 9 with (first | ((with_reducible refine gate_callee (f := 36) rfl ?_); refine goesL_ (some 28) rfl rfl Try.func36 (by kernel_rfl) rfl #[.agg #[.int .i64 a0_0, .int .i64 a0_1, .slice A0_2 l0_2.length c0_2], .int .i64 (wrap64 ((Int.tmod (wrap64 (a1)) 10) + 1)), .slice A2 l2.length c2, .int .i64 128] rfl (by (try simp only [List.map_toArray, List.map_cons, List.map_nil]); rfl) ?_; (with_reducible refine (codewrightref24_Span.calls kj3 a0_0 a0_1 _ _ l0_2 (wrap64 ((Int.tmod (wrap64 (a1)) 10) + 1)) _ _ l2 128 t588 _ ?side1 ?side2 ?side3 ?side4 A13.out).mono ?_); (case side1 => repeat (exact (Kd.C_below HR0_2.out HB.out))); (case side2 => exact HC0_2.out); (case side3 => repeat (exact (Kd.C_below HR2.out HB.out))); (case side4 => exact HC2.out); rintro e w23 ⟨v589, rfl, ho0, hb⟩; refine ⟨_, rfl, ?_⟩; have n0_ := Aside0.mk (Kd.N_lower (Kd.N_mono (ok' := fun k_ => k_ ≠ gb586) ho0 (fun k_ hk_ => (Kd.freshB (g := gb586) (o := .cells #[.int .i64 a0_0, .int .i64 a0_1, .slice A0_2 l0_2.length c0_2] 53 (0, 0)) (by (with_reducible repeat (fail)); exact BK586.out) k_ hk_))) (below_size (by repeat ((with_reducible exact HB.out))))); have n1_ := Aside0.mk (blk_below (g := gb586) (o := .cells #[.int .i64 a0_0, .int .i64 a0_1, .slice A0_2 l0_2.length c0_2] 53 (0, 0)) (by (with_reducible repeat (fail)); exact BK586.out) hb); have n2_ := Aside0.mk (below_step (by repeat ((with_reducible exact HB.out))) hb); clear BK586; clear HB; have HO590 := n0_; have BK586 := n1_; have HB := n2_; clear n0_ n1_ n2_; (try clear hb); (try clear ho0); obtain ⟨Ao24, co24, eo24⟩ := Kd.N_slice HO590.out; subst eo24; have hcz25_0 : w23.cell? ⟨gb586, 0, none⟩ = some (.int .i64 a0_0) := (blk_cell BK586.out 0).trans rfl; have hcz25_1 : w23.cell? ⟨gb586, 1, none⟩ = some (.int .i64 a0_1) := (blk_cell BK586.out 1).trans rfl; have hcz25_2 : w23.cell? ⟨gb586, 2, none⟩ = some (.slice A0_2 l0_2.length c0_2) := (blk_cell BK586.out 2).trans rfl; have hfz25_0 := blk_frozen BK586.out 0; have hfz25_1 := blk_frozen BK586.out 1; have hfz25_2 := blk_frozen BK586.out 2) | ((with_reducible refine gate_callee (f := 37) rfl ?_); refine goesL_ (some 34) rfl rfl Try.func37 (by kernel_rfl) rfl #[.agg #[.int .i64 a0_0, .int .i64 a0_1, .slice A0_2 l0_2.length c0_2]] rfl (by (try simp only [List.map_toArray, List.map_cons, List.map_nil]); rfl) ?_; (with_reducible refine (codewrightref04_Order.calls kj3 a0_0 a0_1 _ _ l0_2 t591 _ ?side1 ?side2 A18.out).mono ?_); (case side1 => repeat (exact (Kd.C_below HR0_2.out HB.out))); (case side2 => exact HC0_2.out); rintro e w26 ⟨rfl, hb⟩; refine ⟨_, rfl, ?_⟩; have n0_ := Aside0.mk (Kd.N_below (by (with_reducible repeat (fail)); exact HO590.out) hb); have n1_ := Aside0.mk (blk_below (g := gb586) (o := .cells #[.int .i64 a0_0, .int .i64 a0_1, .slice A0_2 l0_2.length c0_2] 53 (0, 0)) (by (with_reducible repeat (fail)); exact BK586.out) hb); have n2_ := Aside0.mk (below_step (by repeat ((with_reducible exact HB.out))) hb); clear HO590; clear BK586; clear HB; have HO590 := n0_; have BK586 := n1_; have HB := n2_; clear n0_ n1_ n2_; (try clear hb)) | ((with_reducible refine gate_callee (f := 25) rfl ?_); refine goesL_ (some 36) rfl rfl Try.func25 (by kernel_rfl) rfl #[.int .i64 t591, .slice Ao24 t588.length co24] rfl (by (try simp only [List.map_toArray, List.map_cons, List.map_nil]); rfl) ?_; (with_reducible refine (delsarte_Distances.calls kj3 t591 _ _ t588 t592 t593 _ ?side1 ?side2 A19.out).mono ?_); (case side1 => exact (Kd.N_reads' HO590.out).2.2); (case side2 => exact (Kd.N_reads' HO590.out).2.1); rintro e w27 ⟨v594, rfl, ho0, hb⟩; refine ⟨_, rfl, ?_⟩; have n0_ := Aside0.mk (Kd.N_elder' (by (with_reducible repeat (fail)); exact HO590.out) (by exact Kd.S_base ho0) hb); have n1_ := Aside0.mk (Kd.N_lower (Kd.N_mono (ok' := fun k_ => some k_ ≠ (.slice Ao24 t588.length co24 : Value).ownBlock ∧ k_ ≠ gb586) (Kd.S_N (Kd.S_bound ho0)) (fun k_ hk_ => ⟨(Kd.fresh' (Kd.N_lt (by (with_reducible repeat (fail)); exact HO590.out)) k_ hk_.2.1), (Kd.freshB (g := gb586) (o := .cells #[.int .i64 a0_0, .int .i64 a0_1, .slice A0_2 l0_2.length c0_2] 53 (0, 0)) (by (with_reducible repeat (fail)); exact BK586.out) k_ hk_.2.1)⟩)) (below_size (by repeat ((with_reducible exact HB.out))))); have n2_ := Aside0.mk (blk_below (g := gb586) (o := .cells #[.int .i64 a0_0, .int .i64 a0_1, .slice A0_2 l0_2.length c0_2] 53 (0, 0)) (by (with_reducible repeat (fail)); exact BK586.out) hb); have n3_ := Aside0.mk (below_step (by repeat ((with_reducible exact HB.out))) hb); clear HO590; clear BK586; clear HB; have HO590 := n0_; have HO595 := n1_; have BK586 := n2_; have HB := n3_; clear n0_ n1_ n2_ n3_; (try clear hb); (try clear ho0)) | ((with_reducible refine gate_callee (f := 38) rfl ?_); refine goesL_ (some 41) rfl rfl Try.func38 (by kernel_rfl) rfl #[.int .i64 (wrap64 ((Int.tmod (wrap64 (a1)) 10) + 1)), .slice Ao24 t588.length co24] rfl (by (try simp only [List.map_toArray, List.map_cons, List.map_nil]); rfl) ?_; (with_reducible refine (codewrightref24_Weights.calls kj3 (wrap64 ((Int.tmod (wrap64 (a1)) 10) + 1)) _ _ t588 t596 _ ?side1 ?side2 A20.out).mono ?_); (case side1 => exact (Kd.N_reads' HO590.out).2.2); (case side2 => exact (Kd.N_reads' HO590.out).2.1); rintro e w28 ⟨v597, rfl, ho0, hb⟩; refine ⟨_, rfl, ?_⟩; have n0_ := Aside0.mk (Kd.N_elder' (by (with_reducible repeat (fail)); exact HO590.out) (by exact Kd.S_base ho0) hb); have n1_ := Aside0.mk (Kd.N_elder' (by (with_reducible repeat (fail)); exact HO595.out) (by exact Kd.S_base ho0) hb); have n2_ := Aside0.mk (Kd.N_lower (Kd.N_mono (ok' := fun k_ => some k_ ≠ (.slice Ao24 t588.length co24 : Value).ownBlock ∧ some k_ ≠ (v594 : Value).ownBlock ∧ k_ ≠ gb586) (Kd.S_N (Kd.S_bound ho0)) (fun k_ hk_ => ⟨(Kd.fresh' (Kd.N_lt (by (with_reducible repeat (fail)); exact HO590.out)) k_ hk_.2.1), (Kd.fresh' (Kd.N_lt (by (with_reducible repeat (fail)); exact HO595.out)) k_ hk_.2.1), (Kd.freshB (g := gb586) (o := .cells #[.int .i64 a0_0, .int .i64 a0_1, .slice A0_2 l0_2.length c0_2] 53 (0, 0)) (by (with_reducible repeat (fail)); exact BK586.out) k_ hk_.2.1)⟩)) (below_size (by repeat ((with_reducible exact HB.out))))); have n3_ := Aside0.mk (blk_below (g := gb586) (o := .cells #[.int .i64 a0_0, .int .i64 a0_1, .slice A0_2 l0_2.length c0_2] 53 (0, 0)) (by (with_reducible repeat (fail)); exact BK586.out) hb); have n4_ := Aside0.mk (below_step (by repeat ((with_reducible exact HB.out))) hb); clear HO590; clear HO595; clear BK586; clear HB; have HO590 := n0_; have HO595 := n1_; have HO598 := n2_; have BK586 := n3_; have HB := n4_; clear n0_ n1_ n2_ n3_ n4_; (try clear hb); (try clear ho0)))
     go_cut [50] (fun v50 wc => ∃ (kq : Nat) (x50_20 : Bool), v50 = .bool x50_20 ∧ Aside0 (codewrightlaw36_DelsarteLinear.j1 kq t592 t596 x50_20 = some r) ∧ Aside0 (kq ≤ kj3) ∧ Aside0 (Kd.N k46 46 wc w.heap.size (fun k_ => some k_ ≠ (v597 : Value).ownBlock ∧ k_ ≠ gb586) v594 t592) ∧ Aside0 (Kd.N (Kd.slice 100 (Kd.int .u32)) 44 wc w.heap.size (fun k_ => some k_ ≠ (v594 : Value).ownBlock ∧ k_ ≠ gb586) v597 t596) ∧ Aside0 (wc.heap[gb586]? = some (.cells #[.int .i64 a0_0, .int .i64 a0_1, (.slice A0_2 l0_2.length c0_2)] 53 (0, 0))) ∧ Aside0 (Below w.heap.size w wc))
     case first =>
      have H := HC21.out
      clear HC21
      by_cases c29 : t593 = 0
      ·rw [if_pos c29] at H
       have c29b0 : (t593 == 0) = true := beq_iff_eq.mpr c29
       have c29b1 : (t593 != 0) = false := bne_eq_false_iff_eq.mpr c29
       clear c29
       (skip)
       have H' := Aside0.mk H
       clear H
       obtain ⟨Ao30, co30, eo30⟩ := Kd.N_slice HO595.out
       subst eo30
       obtain ⟨Ao31, co31, eo31⟩ := Kd.N_slice HO598.out
       subst eo31
       go_wp2
       go_meet
       case rel => exact ⟨_, (((t592.length : Int) != (t596.length : Int))), (by rfl), H', ⟨by have := HJ3.out; omega⟩, ⟨by (with_reducible repeat (fail)); exact Kd.N_mono HO595.out (fun _ hk => ⟨hk.2, hk.1.2⟩)⟩, ⟨by (with_reducible repeat (fail)); exact Kd.N_mono HO598.out (fun _ hk => ⟨hk.2.1, hk.2.2⟩)⟩, ⟨by (with_reducible repeat (fail)); exact BK586.out⟩, ⟨by repeat ((with_reducible exact HB.out))⟩⟩
      ·rw [if_neg c29] at H
       have c29b0 : (t593 == 0) = false := beq_eq_false_iff_ne.mpr c29
       have c29b1 : (t593 != 0) = true := bne_iff_ne.mpr c29
       (skip)
       have H' := Aside0.mk H
       clear H
       go_wp2
       go_meet
       case rel => exact ⟨_, (true), (by rfl), H', ⟨by have := HJ3.out; omega⟩, ⟨by (with_reducible repeat (fail)); exact Kd.N_mono HO595.out (fun _ hk => ⟨hk.2, hk.1.2⟩)⟩, ⟨by (with_reducible repeat (fail)); exact Kd.N_mono HO598.out (fun _ hk => ⟨hk.2.1, hk.2.2⟩)⟩, ⟨by (with_reducible repeat (fail)); exact BK586.out⟩, ⟨by repeat ((with_reducible exact HB.out))⟩⟩
     case rest =>
      clear HC21
      try clear c14
      try clear c14b0
      try clear c14b1
      try clear c14b2
      try clear hcz22_0
      try clear hcz22_1
      try clear hcz22_2
      try clear hcz25_0
      try clear hcz25_1
      try clear hcz25_2
      try clear hfz22_0
      try clear hfz22_1
      try clear hfz22_2
      try clear hfz25_0
      try clear hfz25_1
      try clear hfz25_2
      obtain ⟨kq, x50_20, rfl, HA, HJ20, HO_9, HO_11, BK586, HB⟩ := hcut
      cases kq with
      | zero => exact absurd HA.out (by simp [codewrightlaw36_DelsarteLinear.j1])
      | succ kj20 =>
       have H := HA.out
       clear HA
       simp only [codewrightlaw36_DelsarteLinear.j1] at H
       by_cases c32 : x50_20 = true
       ·subst c32
        have H1 : (some false) = some r := by rw [if_pos rfl] at H; exact H
        clear H
        have H := H1
        clear H1
        obtain rfl := Option.some.inj H
        go_wp2
        go_ret
        exact ⟨by rfl, by repeat ((with_reducible exact HB.out))⟩
       ·replace c32 := Bool.eq_false_iff.mpr c32
        subst c32
        have H1 : (codewrightlaw36_DelsarteLinear.l0 kj20 t592 t596 0) = some r := by rw [if_neg (show ¬ (false = true) by decide)] at H; exact H
        clear H
        have H := H1
        clear H1
        have H' := Aside0.mk H
        clear H
        go_wp2
        go_loopg [12] kj20 (fun kq v12 w' => ∃ (x12_3 : Int), v12 = .int .i64 x12_3 ∧ Aside0 (codewrightlaw36_DelsarteLinear.l0 kq t592 t596 x12_3 = some r) ∧ Aside0 (kq ≤ kj20) ∧ Aside0 (Kd.N k46 46 w' w.heap.size (fun k_ => some k_ ≠ (v597 : Value).ownBlock ∧ k_ ≠ gb586) v594 t592) ∧ Aside0 (Kd.N (Kd.slice 100 (Kd.int .u32)) 44 w' w.heap.size (fun k_ => some k_ ≠ (v594 : Value).ownBlock ∧ k_ ≠ gb586) v597 t596) ∧ Aside0 (w'.heap[gb586]? = some (.cells #[.int .i64 a0_0, .int .i64 a0_1, (.slice A0_2 l0_2.length c0_2)] 53 (0, 0))) ∧ Aside0 (Below w.heap.size w w'))
        case atStart => exact ⟨(0), (by rfl), H', ⟨Nat.le_refl _⟩, ⟨by (with_reducible repeat (fail)); exact HO_9.out⟩, ⟨by (with_reducible repeat (fail)); exact HO_11.out⟩, ⟨by (with_reducible repeat (fail)); exact BK586.out⟩, ⟨by repeat ((with_reducible exact HB.out))⟩⟩
        case round =>
         clear H'
         obtain ⟨x12_3, rfl, HA, HK3, HO_9, HO_11, BK586, HB⟩ := hrel
         cases gk with
         | zero => exact absurd HA.out (by simp [codewrightlaw36_DelsarteLinear.l0])
         | succ k3 =>
          have H := HA.out
          clear HA
          simp only [codewrightlaw36_DelsarteLinear.l0] at H
          by_cases c33 : x12_3 < (t596.length : Int)
          ·rw [if_pos c33] at H
           have c33b0 : decide (x12_3 < (t596.length : Int)) = true := decide_eq_true c33
           clear c33
           by_cases c34 : 0 ≤ x12_3
           ·rw [if_pos c34] at H
            have c34b0 : decide (0 ≤ x12_3) = true := decide_eq_true c34
            clear c34
            by_cases c35 : x12_3 < (t592.length : Int)
            ·rw [if_pos c35] at H
             have c35b0 : decide (x12_3 < (t592.length : Int)) = true := decide_eq_true c35
             clear c35
             replace H := Option.bind_eq_some_iff.mp H
             obtain ⟨⟨t601, t602, t605⟩, A360, H⟩ := H
             replace H : ((codewrightref02_Same.f k3 ((rd_T46 t592 x12_3).f0) ((rd_T46 t592 x12_3).f1) ((rd_T46 t592 x12_3).f2) t601 t602 t605).bind fun t608 => (if t608 = true then (codewrightlaw36_DelsarteLinear.l0 k3 t592 t596 (wrap64 (x12_3 + 1))) else (some false))) = some r := H
             have A36 := Aside0.mk A360
             clear A360
             replace H := Option.bind_eq_some_iff.mp H
             obtain ⟨t608, A370, H⟩ := H
             replace H : (if t608 = true then (codewrightlaw36_DelsarteLinear.l0 k3 t592 t596 (wrap64 (x12_3 + 1))) else (some false)) = some r := H
             have A37 := Aside0.mk A370
             clear A370
             by_cases c38 : t608 = true
             ·subst c38
              have H1 : (codewrightlaw36_DelsarteLinear.l0 k3 t592 t596 (wrap64 (x12_3 + 1))) = some r := by rw [if_pos rfl] at H; exact H
              clear H
              have H := H1
              clear H1
              have H' := Aside0.mk H
              clear H
              obtain ⟨Ao39, co39, eo39⟩ := Kd.N_slice HO_11.out
              subst eo39
              try go_wp2
              have n0_ := Aside0.mk (Kd.N_drew HO_9.out)
              have n1_ := Aside0.mk (Kd.N_drew HO_11.out)
              have n2_ := Aside0.mk (blk_drew BK586.out)
              have n3_ := Aside0.mk (below_drew1 HB.out)
              clear HO_9
              clear HO_11
              clear BK586
              clear HB
              have HO_9 := n0_
              have HO_11 := n1_
              have BK586 := n2_
              have HB := n3_
              clear n0_ n1_ n2_ n3_
              obtain ⟨Ao41, co41, eo41⟩ := Kd.N_slice HO_9.out
              (subst eo41)
              have p599 : 0 ≤ (x12_3 : Int) := of_decide_eq_true (by (with_reducible assumption))
              have q599 : x12_3 < (t592.length : Int) := of_decide_eq_true (by (with_reducible assumption))
              obtain ⟨ad599, A599_1, c599_1, A599_2, c599_2, e599, hx599_0, hx599_1, hx599_2, hl599_1, hi599_1, hl599_2, hi599_2⟩ := at_T46 (Kd.N_reads' HO_9.out).2.2 x12_3 p599 q599
              cases e599
              obtain ⟨ce599, hce599, hMe599, hcc599⟩ := Kd.N_get HO_9.out z46 x12_3 p599 (by exact q599)
              obtain ⟨ua599_1, uc599_1, ua599_2, uc599_2, rfl, ul599_1, ge599_1, ul599_2, ge599_2⟩ := k46_openF hMe599
              have hv599_1 := hcc599 1 _ rfl
              rw [add_field _ _ 1 (by omega)] at hv599_1
              replace hv599_1 := Option.some.inj (hv599_1.symm.trans hx599_1)
              injection hv599_1 with hva_ hvn_ hvc_
              rw [hva_] at ge599_1
              rw [hvc_] at ul599_1
              have HL599_1 := Aside0.mk (show Kd.V (Kd.int .u32) 100 _ w.heap.size _ _ ((rd_T46 t592 x12_3).f1) from Kd.V_mk ul599_1 ge599_1)
              clear hva_ hvn_ hvc_ ge599_1 ul599_1
              have hv599_2 := hcc599 2 _ rfl
              rw [add_field _ _ 2 (by omega)] at hv599_2
              replace hv599_2 := Option.some.inj (hv599_2.symm.trans hx599_2)
              injection hv599_2 with hva_ hvn_ hvc_
              rw [hva_] at ge599_2
              rw [hvc_] at ul599_2
              have HL599_2 := Aside0.mk (show Kd.V (Kd.int .u32) 100 _ w.heap.size _ _ ((rd_T46 t592 x12_3).f2) from Kd.V_mk ul599_2 ge599_2)
              clear hva_ hvn_ hvc_ ge599_2 ul599_2
              clear hcc599 hce599
              have HR599_1 := Aside0.mk hi599_1
              have HC599_1 := Aside0.mk hl599_1
              clear hi599_1 hl599_1
              have HR599_2 := Aside0.mk hi599_2
              have HC599_2 := Aside0.mk hl599_2
              clear hi599_2 hl599_2
              replace p599 := eq_true p599
              replace q599 := eq_true q599
              have p600 : 0 ≤ (x12_3 : Int) := of_decide_eq_true (by (with_reducible assumption))
              have q600 : x12_3 < (t596.length : Int) := of_decide_eq_true (by (with_reducible assumption))
              obtain ⟨ad600, A600_0, c600_0, e600, hx600_0, hl600_0, hi600_0⟩ := at_L2 (Kd.N_reads' HO_11.out).2.2 x12_3 p600 q600
              cases e600
              obtain ⟨ce600, hce600, hMe600, hcc600⟩ := Kd.N_get HO_11.out [] x12_3 p600 (by exact q600)
              obtain ⟨ua600_0, uc600_0, rfl, ul600_0, ge600_0⟩ := Kd.FK_slice_open hMe600
              have hv600_0 := hcc600 0 _ rfl
              rw [Nat.add_zero, show ((Kd.slice 100 (Kd.int .u32))).sz = 1 from rfl, Nat.mul_one] at hv600_0
              replace hv600_0 := Option.some.inj (hv600_0.symm.trans hx600_0)
              injection hv600_0 with hva_ hvn_ hvc_
              rw [hva_] at ge600_0
              rw [hvc_] at ul600_0
              have HL600_0 := Aside0.mk (show Kd.V (Kd.int .u32) 100 _ w.heap.size _ _ (rd_L2 t596 x12_3) from Kd.V_mk ul600_0 ge600_0)
              clear hva_ hvn_ hvc_ ge600_0 ul600_0
              clear hcc600 hce600
              have HR600_0 := Aside0.mk hi600_0
              have HC600_0 := Aside0.mk hl600_0
              clear hi600_0 hl600_0
              replace p600 := eq_true p600
              replace q600 := eq_true q600
              refine start_ (n := 11) (S := fun w' => w'.cell? (ad599.add ((x12_3).toNat * 3)) = some (.bool ((rd_T46 t592 x12_3).f0)) ∧ w'.cell? ⟨(ad599.add ((x12_3).toNat * 3)).block, (ad599.add ((x12_3).toNat * 3)).off + 1, none⟩ = some (.slice A599_1 ((rd_T46 t592 x12_3).f1).length c599_1) ∧ w'.cell? ⟨(ad599.add ((x12_3).toNat * 3)).block, (ad599.add ((x12_3).toNat * 3)).off + 2, none⟩ = some (.slice A599_2 ((rd_T46 t592 x12_3).f2).length c599_2) ∧ w'.cell? (ad600.add (x12_3).toNat) = some (.slice A600_0 (rd_L2 t596 x12_3).length c600_0)) (ds := []) #[false, false, false, false, false, false, false, false, false, false, false] (by kernel_rfl) rfl rfl ⟨hx599_0, hx599_1, hx599_2, hx600_0⟩ (fun hHeld => ?_); refine with_tabW codewrightlaw36_DelsarteLinear.tab14 codewrightlaw36_DelsarteLinear.bits14 (fun HT_ HW_ => ?_)
              generalize wr.drew = w40 at HO_9 HO_11 BK586 HB HL599_1 HL599_2 HL600_0 HR599_1 HR599_2 HR600_0 hx599_0 hx599_1 hx599_2 hx600_0 hHeld ⊢
              refine pure_ (i := 0) (N := some 57) (v := ?_) (a' := ?_) #[true, false, false, false, false, false, false, false, false, false, false] rfl rfl (any_of HT_.out (by kernel_rfl)) (fun _ _ _ h => h) (Or.inl ⟨by rfl, ?_⟩) ?_ ?_
              rotate_left
              ·intro w'
               go_simp
               with_reducible rfl
              rotate_left
              ·simp only [Act.put, List.setIfInBounds_toArray, List.set_cons_zero, List.set_cons_succ, i64_w, i32_w]
               rfl
              refine pure_ (i := 1) (N := some 58) (v := ?_) (a' := ?_) #[true, true, false, false, false, false, false, false, false, false, false] rfl rfl (any_of HT_.out (by kernel_rfl)) (fun _ _ _ h => h) (Or.inl ⟨by rfl, ?_⟩) ?_ ?_
              rotate_left
              ·intro w'
               go_simp
               with_reducible rfl
              rotate_left
              ·simp only [Act.put, List.setIfInBounds_toArray, List.set_cons_zero, List.set_cons_succ, i64_w, i32_w]
               rfl
              refine pure_ (i := 2) (N := some 59) (v := ?_) (a' := ?_) #[true, true, true, false, false, false, false, false, false, false, false] rfl rfl (any_of HT_.out (by kernel_rfl)) (fun _ _ _ h => h) (Or.inl ⟨by rfl, ?_⟩) ?_ ?_
              rotate_left
              ·intro w'
               go_simp
               with_reducible rfl
              rotate_left
              ·simp only [Act.put, List.setIfInBounds_toArray, List.set_cons_zero, List.set_cons_succ, i64_w, i32_w]
               rfl
              refine pure_ (i := 4) (N := some 61) (v := ?_) (a' := ?_) #[true, true, true, false, true, false, false, false, false, false, false] rfl rfl (any_of HT_.out (by kernel_rfl)) (fun _ _ _ h => h) (Or.inl ⟨by rfl, ?_⟩) ?_ ?_
              rotate_left
              ·intro w'
               go_simp
               with_reducible rfl
              rotate_left
              ·simp only [Act.put, List.setIfInBounds_toArray, List.set_cons_zero, List.set_cons_succ, i64_w, i32_w]
               rfl
              refine pure_ (i := 5) (N := some 62) (v := ?_) (a' := ?_) #[true, true, true, false, true, true, false, false, false, false, false] rfl rfl (any_of HT_.out (by kernel_rfl)) (fun _ _ _ h => h) (Or.inl ⟨by rfl, ?_⟩) ?_ ?_
              rotate_left
              ·intro w'
               go_simp
               with_reducible rfl
              rotate_left
              ·simp only [Act.put, List.setIfInBounds_toArray, List.set_cons_zero, List.set_cons_succ, i64_w, i32_w]
               rfl
              refine pure_ (i := 6) (N := some 63) (v := ?_) (a' := ?_) #[true, true, true, false, true, true, true, false, false, false, false] rfl rfl (any_of HT_.out (by kernel_rfl)) (fun _ _ _ h => h) (Or.inl ⟨by rfl, ?_⟩) ?_ ?_
              rotate_left
              ·intro w'
               go_simp
               with_reducible rfl
              rotate_left
              ·simp only [Act.put, List.setIfInBounds_toArray, List.set_cons_zero, List.set_cons_succ, i64_w, i32_w]
               rfl
              refine take_ (i := 3) (N := some 60) (v := ?_) (a' := ?_) #[true, true, true, true, true, true, true, false, false, false, false] rfl rfl (take_ofW HT_.out HW_.out (by kernel_rfl)) (fun _ _ _ h => h) (Or.inl ⟨by rfl, ?_⟩) hHeld ?_ ?_
              rotate_left
              ·rintro w' ⟨s0, s1, s2, s3⟩
               go_simp
               with_reducible rfl
              rotate_left
              ·simp only [Act.put, List.setIfInBounds_toArray, List.set_cons_zero, List.set_cons_succ, i64_w, i32_w]
               rfl
              refine take_ (i := 7) (N := some 64) (v := ?_) (a' := ?_) #[true, true, true, true, true, true, true, true, false, false, false] rfl rfl (take_ofW HT_.out HW_.out (by kernel_rfl)) (fun _ _ _ h => h) (Or.inl ⟨by rfl, ?_⟩) hHeld ?_ ?_
              rotate_left
              ·rintro w' ⟨s0, s1, s2, s3⟩
               go_simp
               with_reducible rfl
              rotate_left
              ·simp only [Act.put, List.setIfInBounds_toArray, List.set_cons_zero, List.set_cons_succ, i64_w, i32_w]
               rfl
              refine one_ (i := 8) (N := some 65) #[true, true, true, true, true, true, true, true, true, false, false] rfl rfl (one_of HT_.out (by kernel_rfl)) (by decide) (fun K hK => ?_)
              refine goes_ Try.func39 (by kernel_rfl) rfl #[.slice A600_0 (rd_L2 t596 x12_3).length c600_0] (by rfl) rfl rfl (by (try simp only [List.map_toArray, List.map_cons, List.map_nil]); rfl) ?_
              with_reducible refine (codewrightref02_Nat.calls k3 _ _ (rd_L2 t596 x12_3) t601 t602 t605 _ ?side1 ?side2 A36.out).mono ?_
              (case side1 => repeat (exact (by repeat ((with_reducible exact HR600_0.out)))))
              (case side2 => exact HC600_0.out)
              rintro e w42 ⟨v603, v606, rfl, ho0, ho1, hb⟩
              have HS0_ := (hb.cell (World.block_lt_of_cell? _ _ (hHeld.1))).trans (hHeld.1)
              have HS1_ := (hb.cell (World.block_lt_of_cell? _ _ (hHeld.2.1))).trans (hHeld.2.1)
              have HS2_ := (hb.cell (World.block_lt_of_cell? _ _ (hHeld.2.2.1))).trans (hHeld.2.2.1)
              have HS3_ := (hb.cell (World.block_lt_of_cell? _ _ (hHeld.2.2.2))).trans (hHeld.2.2.2)
              refine ⟨_, rfl, ?_⟩
              have n0_ := Aside0.mk (Kd.N_mono (Kd.N_told (Kd.N_told (Kd.N_old (by (with_reducible repeat (fail)); exact HO_9.out) hb) (Kd.R_base ho0)) (Kd.R_base ho1)) (fun _ h_ => h_.1))
              have n1_ := Aside0.mk (Kd.N_mono (Kd.N_told (Kd.N_told (Kd.N_old (by (with_reducible repeat (fail)); exact HO_11.out) hb) (Kd.R_base ho0)) (Kd.R_base ho1)) (fun _ h_ => h_.1))
              have n2_ := Aside0.mk (Kd.V_mono (Kd.V_told (Kd.V_told (Kd.V_old (by (with_reducible repeat (fail)); exact HL599_1.out) hb) (Kd.R_base ho0)) (Kd.R_base ho1)) (fun _ h_ => h_.1))
              have n3_ := Aside0.mk (Kd.V_mono (Kd.V_told (Kd.V_told (Kd.V_old (by (with_reducible repeat (fail)); exact HL599_2.out) hb) (Kd.R_base ho0)) (Kd.R_base ho1)) (fun _ h_ => h_.1))
              have n4_ := Aside0.mk (Kd.V_mono (Kd.V_told (Kd.V_told (Kd.V_old (by (with_reducible repeat (fail)); exact HL600_0.out) hb) (Kd.R_base ho0)) (Kd.R_base ho1)) (fun _ h_ => h_.1))
              have n5_ := Aside0.mk (Kd.R_lower ho0 (below_size (by repeat ((with_reducible exact HB.out)))))
              have n6_ := Aside0.mk (Kd.R_lower ho1 (below_size (by repeat ((with_reducible exact HB.out)))))
              have n7_ := Aside0.mk (blk_below (g := gb586) (o := .cells #[.int .i64 a0_0, .int .i64 a0_1, .slice A0_2 l0_2.length c0_2] 53 (0, 0)) (by (with_reducible repeat (fail)); exact BK586.out) hb)
              have n8_ := Aside0.mk (Kd.C_below (by repeat ((with_reducible exact HR599_1.out))) hb)
              have n9_ := Aside0.mk (Kd.C_below (by repeat ((with_reducible exact HR599_2.out))) hb)
              have n10_ := Aside0.mk (Kd.C_below (by repeat ((with_reducible exact HR600_0.out))) hb)
              have n11_ := Aside0.mk (below_step (by repeat ((with_reducible exact HB.out))) hb)
              clear HO_9
              clear HO_11
              clear HL599_1
              clear HL599_2
              clear HL600_0
              clear BK586
              clear HR599_1
              clear HR599_2
              clear HR600_0
              clear HB
              have HO_9 := n0_
              have HO_11 := n1_
              have HL599_1 := n2_
              have HL599_2 := n3_
              have HL600_0 := n4_
              have HO604 := n5_
              have HO607 := n6_
              have BK586 := n7_
              have HR599_1 := n8_
              have HR599_2 := n9_
              have HR600_0 := n10_
              have HB := n11_
              clear n0_ n1_ n2_ n3_ n4_ n5_ n6_ n7_ n8_ n9_ n10_ n11_
              (try clear hb)
              (try clear ho0)
              (try clear ho1)
              obtain ⟨Ao43, co43, eo43⟩ := Kd.R_slice HO604.out
              (subst eo43)
              obtain ⟨Ao44, co44, eo44⟩ := Kd.R_slice HO607.out
              (subst eo44)
              refine hK.out _ _ ⟨HS0_, HS1_, HS2_, HS3_⟩ (fun hHeld => ?_)
              clear hK K
              refine norm_ (a' := ?_) ?_ ?_
              rotate_left
              ·show Act.put _ (some 65) _ = _
               simp only [Act.put, List.setIfInBounds_toArray, List.set_cons_zero, List.set_cons_succ, i64_w, i32_w]
               rfl
              refine one_ (i := 9) (N := some 66) #[true, true, true, true, true, true, true, true, true, true, false] rfl rfl (one_of HT_.out (by kernel_rfl)) (by decide) (fun K hK => ?_)
              refine goes_ Try.func34 (by kernel_rfl) rfl #[.agg #[.bool ((rd_T46 t592 x12_3).f0), .slice A599_1 ((rd_T46 t592 x12_3).f1).length c599_1, .slice A599_2 ((rd_T46 t592 x12_3).f2).length c599_2], .agg #[.bool t601, .slice Ao43 t602.length co43, .slice Ao44 t605.length co44]] (by rfl) rfl rfl (by (try simp only [List.map_toArray, List.map_cons, List.map_nil]); rfl) ?_
              with_reducible refine (codewrightref02_Same.calls k3 ((rd_T46 t592 x12_3).f0) _ _ ((rd_T46 t592 x12_3).f1) _ _ ((rd_T46 t592 x12_3).f2) t601 _ _ t602 _ _ t605 true _ ?side1 ?side2 ?side3 ?side4 ?side5 ?side6 ?side7 ?side8 A37.out).mono ?_
              (case side1 => repeat (exact (by repeat ((with_reducible exact HR599_1.out)))))
              (case side2 => exact HC599_1.out)
              (case side3 => repeat (exact (by repeat ((with_reducible exact HR599_2.out)))))
              (case side4 => exact HC599_2.out)
              (case side5 => exact (Kd.R_reads' HO604.out).2.2)
              (case side6 => exact (Kd.R_reads' HO604.out).2.1)
              (case side7 => exact (Kd.R_reads' HO607.out).2.2)
              (case side8 => exact (Kd.R_reads' HO607.out).2.1)
              rintro e w45 ⟨rfl, hb⟩
              have HS0_ := (hb.cell (World.block_lt_of_cell? _ _ (hHeld.1))).trans (hHeld.1)
              have HS1_ := (hb.cell (World.block_lt_of_cell? _ _ (hHeld.2.1))).trans (hHeld.2.1)
              have HS2_ := (hb.cell (World.block_lt_of_cell? _ _ (hHeld.2.2.1))).trans (hHeld.2.2.1)
              have HS3_ := (hb.cell (World.block_lt_of_cell? _ _ (hHeld.2.2.2))).trans (hHeld.2.2.2)
              refine ⟨_, rfl, ?_⟩
              have n0_ := Aside0.mk (Kd.N_below (by (with_reducible repeat (fail)); exact HO_9.out) hb)
              have n1_ := Aside0.mk (Kd.N_below (by (with_reducible repeat (fail)); exact HO_11.out) hb)
              have n2_ := Aside0.mk (Kd.V_below (by (with_reducible repeat (fail)); exact HL599_1.out) hb)
              have n3_ := Aside0.mk (Kd.V_below (by (with_reducible repeat (fail)); exact HL599_2.out) hb)
              have n4_ := Aside0.mk (Kd.V_below (by (with_reducible repeat (fail)); exact HL600_0.out) hb)
              have n5_ := Aside0.mk (Kd.R_below (by (with_reducible repeat (fail)); exact HO604.out) hb)
              have n6_ := Aside0.mk (Kd.R_below (by (with_reducible repeat (fail)); exact HO607.out) hb)
              have n7_ := Aside0.mk (blk_below (g := gb586) (o := .cells #[.int .i64 a0_0, .int .i64 a0_1, .slice A0_2 l0_2.length c0_2] 53 (0, 0)) (by (with_reducible repeat (fail)); exact BK586.out) hb)
              have n8_ := Aside0.mk (Kd.C_below (by repeat ((with_reducible exact HR599_1.out))) hb)
              have n9_ := Aside0.mk (Kd.C_below (by repeat ((with_reducible exact HR599_2.out))) hb)
              have n10_ := Aside0.mk (Kd.C_below (by repeat ((with_reducible exact HR600_0.out))) hb)
              have n11_ := Aside0.mk (below_step (by repeat ((with_reducible exact HB.out))) hb)
              clear HO_9
              clear HO_11
              clear HL599_1
              clear HL599_2
              clear HL600_0
              clear HO604
              clear HO607
              clear BK586
              clear HR599_1
              clear HR599_2
              clear HR600_0
              clear HB
              have HO_9 := n0_
              have HO_11 := n1_
              have HL599_1 := n2_
              have HL599_2 := n3_
              have HL600_0 := n4_
              have HO604 := n5_
              have HO607 := n6_
              have BK586 := n7_
              have HR599_1 := n8_
              have HR599_2 := n9_
              have HR600_0 := n10_
              have HB := n11_
              clear n0_ n1_ n2_ n3_ n4_ n5_ n6_ n7_ n8_ n9_ n10_ n11_
              (try clear hb)
              refine hK.out _ _ ⟨HS0_, HS1_, HS2_, HS3_⟩ (fun hHeld => ?_)
              clear hK K
              refine norm_ (a' := ?_) ?_ ?_
              rotate_left
              ·show Act.put _ (some 66) _ = _
               simp only [Act.put, List.setIfInBounds_toArray, List.set_cons_zero, List.set_cons_succ, i64_w, i32_w]
               rfl
              refine pure_ (i := 10) (N := some 67) (v := ?_) (a' := ?_) #[true, true, true, true, true, true, true, true, true, true, true] rfl rfl (any_of HT_.out (by kernel_rfl)) (fun _ _ _ h => h) (Or.inl ⟨by rfl, ?_⟩) ?_ ?_
              rotate_left
              ·intro w'
               go_simp
               with_reducible rfl
              rotate_left
              ·simp only [Act.put, List.setIfInBounds_toArray, List.set_cons_zero, List.set_cons_succ, i64_w, i32_w]
               rfl
              refine done_ (done_of HT_.out (by kernel_rfl)) ?_
              try go_wp2
              go_roundg k3
              case measure => have := HJ3.out; have := HJ20.out; have := HK3.out; omega
              case rel => exact ⟨(wrap64 (x12_3 + 1)), (by rfl), H', ⟨by have := HJ3.out; have := HJ20.out; have := HK3.out; omega⟩, ⟨by (with_reducible repeat (fail)); exact Kd.N_mono HO_9.out (fun _ hk => ⟨hk.1.1.1, hk.1.1.2⟩)⟩, ⟨by (with_reducible repeat (fail)); exact Kd.N_mono HO_11.out (fun _ hk => ⟨hk.1.1.1, hk.1.1.2⟩)⟩, ⟨by (with_reducible repeat (fail)); exact BK586.out⟩, ⟨by repeat ((with_reducible exact HB.out))⟩⟩
             ·replace c38 := Bool.eq_false_iff.mpr c38
              subst c38
              have H1 : (some false) = some r := by rw [if_neg (show ¬ (false = true) by decide)] at H; exact H
              clear H
              have H := H1
              clear H1
              obtain rfl := Option.some.inj H
              obtain ⟨Ao46, co46, eo46⟩ := Kd.N_slice HO_11.out
              subst eo46
              try go_wp2
              have n0_ := Aside0.mk (Kd.N_drew HO_9.out)
              have n1_ := Aside0.mk (Kd.N_drew HO_11.out)
              have n2_ := Aside0.mk (blk_drew BK586.out)
              have n3_ := Aside0.mk (below_drew1 HB.out)
              clear HO_9
              clear HO_11
              clear BK586
              clear HB
              have HO_9 := n0_
              have HO_11 := n1_
              have BK586 := n2_
              have HB := n3_
              clear n0_ n1_ n2_ n3_
              obtain ⟨Ao48, co48, eo48⟩ := Kd.N_slice HO_9.out
              (subst eo48)
              have p599 : 0 ≤ (x12_3 : Int) := of_decide_eq_true (by (with_reducible assumption))
              have q599 : x12_3 < (t592.length : Int) := of_decide_eq_true (by (with_reducible assumption))
              obtain ⟨ad599, A599_1, c599_1, A599_2, c599_2, e599, hx599_0, hx599_1, hx599_2, hl599_1, hi599_1, hl599_2, hi599_2⟩ := at_T46 (Kd.N_reads' HO_9.out).2.2 x12_3 p599 q599
              cases e599
              obtain ⟨ce599, hce599, hMe599, hcc599⟩ := Kd.N_get HO_9.out z46 x12_3 p599 (by exact q599)
              obtain ⟨ua599_1, uc599_1, ua599_2, uc599_2, rfl, ul599_1, ge599_1, ul599_2, ge599_2⟩ := k46_openF hMe599
              have hv599_1 := hcc599 1 _ rfl
              rw [add_field _ _ 1 (by omega)] at hv599_1
              replace hv599_1 := Option.some.inj (hv599_1.symm.trans hx599_1)
              injection hv599_1 with hva_ hvn_ hvc_
              rw [hva_] at ge599_1
              rw [hvc_] at ul599_1
              have HL599_1 := Aside0.mk (show Kd.V (Kd.int .u32) 100 _ w.heap.size _ _ ((rd_T46 t592 x12_3).f1) from Kd.V_mk ul599_1 ge599_1)
              clear hva_ hvn_ hvc_ ge599_1 ul599_1
              have hv599_2 := hcc599 2 _ rfl
              rw [add_field _ _ 2 (by omega)] at hv599_2
              replace hv599_2 := Option.some.inj (hv599_2.symm.trans hx599_2)
              injection hv599_2 with hva_ hvn_ hvc_
              rw [hva_] at ge599_2
              rw [hvc_] at ul599_2
              have HL599_2 := Aside0.mk (show Kd.V (Kd.int .u32) 100 _ w.heap.size _ _ ((rd_T46 t592 x12_3).f2) from Kd.V_mk ul599_2 ge599_2)
              clear hva_ hvn_ hvc_ ge599_2 ul599_2
              clear hcc599 hce599
              have HR599_1 := Aside0.mk hi599_1
              have HC599_1 := Aside0.mk hl599_1
              clear hi599_1 hl599_1
              have HR599_2 := Aside0.mk hi599_2
              have HC599_2 := Aside0.mk hl599_2
              clear hi599_2 hl599_2
              replace p599 := eq_true p599
              replace q599 := eq_true q599
              have p600 : 0 ≤ (x12_3 : Int) := of_decide_eq_true (by (with_reducible assumption))
              have q600 : x12_3 < (t596.length : Int) := of_decide_eq_true (by (with_reducible assumption))
              obtain ⟨ad600, A600_0, c600_0, e600, hx600_0, hl600_0, hi600_0⟩ := at_L2 (Kd.N_reads' HO_11.out).2.2 x12_3 p600 q600
              cases e600
              obtain ⟨ce600, hce600, hMe600, hcc600⟩ := Kd.N_get HO_11.out [] x12_3 p600 (by exact q600)
              obtain ⟨ua600_0, uc600_0, rfl, ul600_0, ge600_0⟩ := Kd.FK_slice_open hMe600
              have hv600_0 := hcc600 0 _ rfl
              rw [Nat.add_zero, show ((Kd.slice 100 (Kd.int .u32))).sz = 1 from rfl, Nat.mul_one] at hv600_0
              replace hv600_0 := Option.some.inj (hv600_0.symm.trans hx600_0)
              injection hv600_0 with hva_ hvn_ hvc_
              rw [hva_] at ge600_0
              rw [hvc_] at ul600_0
              have HL600_0 := Aside0.mk (show Kd.V (Kd.int .u32) 100 _ w.heap.size _ _ (rd_L2 t596 x12_3) from Kd.V_mk ul600_0 ge600_0)
              clear hva_ hvn_ hvc_ ge600_0 ul600_0
              clear hcc600 hce600
              have HR600_0 := Aside0.mk hi600_0
              have HC600_0 := Aside0.mk hl600_0
              clear hi600_0 hl600_0
              replace p600 := eq_true p600
              replace q600 := eq_true q600
              refine start_ (n := 11) (S := fun w' => w'.cell? (ad599.add ((x12_3).toNat * 3)) = some (.bool ((rd_T46 t592 x12_3).f0)) ∧ w'.cell? ⟨(ad599.add ((x12_3).toNat * 3)).block, (ad599.add ((x12_3).toNat * 3)).off + 1, none⟩ = some (.slice A599_1 ((rd_T46 t592 x12_3).f1).length c599_1) ∧ w'.cell? ⟨(ad599.add ((x12_3).toNat * 3)).block, (ad599.add ((x12_3).toNat * 3)).off + 2, none⟩ = some (.slice A599_2 ((rd_T46 t592 x12_3).f2).length c599_2) ∧ w'.cell? (ad600.add (x12_3).toNat) = some (.slice A600_0 (rd_L2 t596 x12_3).length c600_0)) (ds := []) #[false, false, false, false, false, false, false, false, false, false, false] (by kernel_rfl) rfl rfl ⟨hx599_0, hx599_1, hx599_2, hx600_0⟩ (fun hHeld => ?_); refine with_tabW codewrightlaw36_DelsarteLinear.tab14 codewrightlaw36_DelsarteLinear.bits14 (fun HT_ HW_ => ?_)
              generalize wr.drew = w47 at HO_9 HO_11 BK586 HB HL599_1 HL599_2 HL600_0 HR599_1 HR599_2 HR600_0 hx599_0 hx599_1 hx599_2 hx600_0 hHeld ⊢
              refine pure_ (i := 0) (N := some 57) (v := ?_) (a' := ?_) #[true, false, false, false, false, false, false, false, false, false, false] rfl rfl (any_of HT_.out (by kernel_rfl)) (fun _ _ _ h => h) (Or.inl ⟨by rfl, ?_⟩) ?_ ?_
              rotate_left
              ·intro w'
               go_simp
               with_reducible rfl
              rotate_left
              ·simp only [Act.put, List.setIfInBounds_toArray, List.set_cons_zero, List.set_cons_succ, i64_w, i32_w]
               rfl
              refine pure_ (i := 1) (N := some 58) (v := ?_) (a' := ?_) #[true, true, false, false, false, false, false, false, false, false, false] rfl rfl (any_of HT_.out (by kernel_rfl)) (fun _ _ _ h => h) (Or.inl ⟨by rfl, ?_⟩) ?_ ?_
              rotate_left
              ·intro w'
               go_simp
               with_reducible rfl
              rotate_left
              ·simp only [Act.put, List.setIfInBounds_toArray, List.set_cons_zero, List.set_cons_succ, i64_w, i32_w]
               rfl
              refine pure_ (i := 2) (N := some 59) (v := ?_) (a' := ?_) #[true, true, true, false, false, false, false, false, false, false, false] rfl rfl (any_of HT_.out (by kernel_rfl)) (fun _ _ _ h => h) (Or.inl ⟨by rfl, ?_⟩) ?_ ?_
              rotate_left
              ·intro w'
               go_simp
               with_reducible rfl
              rotate_left
              ·simp only [Act.put, List.setIfInBounds_toArray, List.set_cons_zero, List.set_cons_succ, i64_w, i32_w]
               rfl
              refine pure_ (i := 4) (N := some 61) (v := ?_) (a' := ?_) #[true, true, true, false, true, false, false, false, false, false, false] rfl rfl (any_of HT_.out (by kernel_rfl)) (fun _ _ _ h => h) (Or.inl ⟨by rfl, ?_⟩) ?_ ?_
              rotate_left
              ·intro w'
               go_simp
               with_reducible rfl
              rotate_left
              ·simp only [Act.put, List.setIfInBounds_toArray, List.set_cons_zero, List.set_cons_succ, i64_w, i32_w]
               rfl
              refine pure_ (i := 5) (N := some 62) (v := ?_) (a' := ?_) #[true, true, true, false, true, true, false, false, false, false, false] rfl rfl (any_of HT_.out (by kernel_rfl)) (fun _ _ _ h => h) (Or.inl ⟨by rfl, ?_⟩) ?_ ?_
              rotate_left
              ·intro w'
               go_simp
               with_reducible rfl
              rotate_left
              ·simp only [Act.put, List.setIfInBounds_toArray, List.set_cons_zero, List.set_cons_succ, i64_w, i32_w]
               rfl
              refine pure_ (i := 6) (N := some 63) (v := ?_) (a' := ?_) #[true, true, true, false, true, true, true, false, false, false, false] rfl rfl (any_of HT_.out (by kernel_rfl)) (fun _ _ _ h => h) (Or.inl ⟨by rfl, ?_⟩) ?_ ?_
              rotate_left
              ·intro w'
               go_simp
               with_reducible rfl
              rotate_left
              ·simp only [Act.put, List.setIfInBounds_toArray, List.set_cons_zero, List.set_cons_succ, i64_w, i32_w]
               rfl
              refine take_ (i := 3) (N := some 60) (v := ?_) (a' := ?_) #[true, true, true, true, true, true, true, false, false, false, false] rfl rfl (take_ofW HT_.out HW_.out (by kernel_rfl)) (fun _ _ _ h => h) (Or.inl ⟨by rfl, ?_⟩) hHeld ?_ ?_
              rotate_left
              ·rintro w' ⟨s0, s1, s2, s3⟩
               go_simp
               with_reducible rfl
              rotate_left
              ·simp only [Act.put, List.setIfInBounds_toArray, List.set_cons_zero, List.set_cons_succ, i64_w, i32_w]
               rfl
              refine take_ (i := 7) (N := some 64) (v := ?_) (a' := ?_) #[true, true, true, true, true, true, true, true, false, false, false] rfl rfl (take_ofW HT_.out HW_.out (by kernel_rfl)) (fun _ _ _ h => h) (Or.inl ⟨by rfl, ?_⟩) hHeld ?_ ?_
              rotate_left
              ·rintro w' ⟨s0, s1, s2, s3⟩
               go_simp
               with_reducible rfl
              rotate_left
              ·simp only [Act.put, List.setIfInBounds_toArray, List.set_cons_zero, List.set_cons_succ, i64_w, i32_w]
               rfl
              refine one_ (i := 8) (N := some 65) #[true, true, true, true, true, true, true, true, true, false, false] rfl rfl (one_of HT_.out (by kernel_rfl)) (by decide) (fun K hK => ?_)
              refine goes_ Try.func39 (by kernel_rfl) rfl #[.slice A600_0 (rd_L2 t596 x12_3).length c600_0] (by rfl) rfl rfl (by (try simp only [List.map_toArray, List.map_cons, List.map_nil]); rfl) ?_
              with_reducible refine (codewrightref02_Nat.calls k3 _ _ (rd_L2 t596 x12_3) t601 t602 t605 _ ?side1 ?side2 A36.out).mono ?_
              (case side1 => repeat (exact (by repeat ((with_reducible exact HR600_0.out)))))
              (case side2 => exact HC600_0.out)
              rintro e w49 ⟨v603, v606, rfl, ho0, ho1, hb⟩
              have HS0_ := (hb.cell (World.block_lt_of_cell? _ _ (hHeld.1))).trans (hHeld.1)
              have HS1_ := (hb.cell (World.block_lt_of_cell? _ _ (hHeld.2.1))).trans (hHeld.2.1)
              have HS2_ := (hb.cell (World.block_lt_of_cell? _ _ (hHeld.2.2.1))).trans (hHeld.2.2.1)
              have HS3_ := (hb.cell (World.block_lt_of_cell? _ _ (hHeld.2.2.2))).trans (hHeld.2.2.2)
              refine ⟨_, rfl, ?_⟩
              have n0_ := Aside0.mk (Kd.N_mono (Kd.N_told (Kd.N_told (Kd.N_old (by (with_reducible repeat (fail)); exact HO_9.out) hb) (Kd.R_base ho0)) (Kd.R_base ho1)) (fun _ h_ => h_.1))
              have n1_ := Aside0.mk (Kd.N_mono (Kd.N_told (Kd.N_told (Kd.N_old (by (with_reducible repeat (fail)); exact HO_11.out) hb) (Kd.R_base ho0)) (Kd.R_base ho1)) (fun _ h_ => h_.1))
              have n2_ := Aside0.mk (Kd.V_mono (Kd.V_told (Kd.V_told (Kd.V_old (by (with_reducible repeat (fail)); exact HL599_1.out) hb) (Kd.R_base ho0)) (Kd.R_base ho1)) (fun _ h_ => h_.1))
              have n3_ := Aside0.mk (Kd.V_mono (Kd.V_told (Kd.V_told (Kd.V_old (by (with_reducible repeat (fail)); exact HL599_2.out) hb) (Kd.R_base ho0)) (Kd.R_base ho1)) (fun _ h_ => h_.1))
              have n4_ := Aside0.mk (Kd.V_mono (Kd.V_told (Kd.V_told (Kd.V_old (by (with_reducible repeat (fail)); exact HL600_0.out) hb) (Kd.R_base ho0)) (Kd.R_base ho1)) (fun _ h_ => h_.1))
              have n5_ := Aside0.mk (Kd.R_lower ho0 (below_size (by repeat ((with_reducible exact HB.out)))))
              have n6_ := Aside0.mk (Kd.R_lower ho1 (below_size (by repeat ((with_reducible exact HB.out)))))
              have n7_ := Aside0.mk (blk_below (g := gb586) (o := .cells #[.int .i64 a0_0, .int .i64 a0_1, .slice A0_2 l0_2.length c0_2] 53 (0, 0)) (by (with_reducible repeat (fail)); exact BK586.out) hb)
              have n8_ := Aside0.mk (Kd.C_below (by repeat ((with_reducible exact HR599_1.out))) hb)
              have n9_ := Aside0.mk (Kd.C_below (by repeat ((with_reducible exact HR599_2.out))) hb)
              have n10_ := Aside0.mk (Kd.C_below (by repeat ((with_reducible exact HR600_0.out))) hb)
              have n11_ := Aside0.mk (below_step (by repeat ((with_reducible exact HB.out))) hb)
              clear HO_9
              clear HO_11
              clear HL599_1
              clear HL599_2
              clear HL600_0
              clear BK586
              clear HR599_1
              clear HR599_2
              clear HR600_0
              clear HB
              have HO_9 := n0_
              have HO_11 := n1_
              have HL599_1 := n2_
              have HL599_2 := n3_
              have HL600_0 := n4_
              have HO604 := n5_
              have HO607 := n6_
              have BK586 := n7_
              have HR599_1 := n8_
              have HR599_2 := n9_
              have HR600_0 := n10_
              have HB := n11_
              clear n0_ n1_ n2_ n3_ n4_ n5_ n6_ n7_ n8_ n9_ n10_ n11_
              (try clear hb)
              (try clear ho0)
              (try clear ho1)
              obtain ⟨Ao50, co50, eo50⟩ := Kd.R_slice HO604.out
              (subst eo50)
              obtain ⟨Ao51, co51, eo51⟩ := Kd.R_slice HO607.out
              (subst eo51)
              refine hK.out _ _ ⟨HS0_, HS1_, HS2_, HS3_⟩ (fun hHeld => ?_)
              clear hK K
              refine norm_ (a' := ?_) ?_ ?_
              rotate_left
              ·show Act.put _ (some 65) _ = _
               simp only [Act.put, List.setIfInBounds_toArray, List.set_cons_zero, List.set_cons_succ, i64_w, i32_w]
               rfl
              refine one_ (i := 9) (N := some 66) #[true, true, true, true, true, true, true, true, true, true, false] rfl rfl (one_of HT_.out (by kernel_rfl)) (by decide) (fun K hK => ?_)
              refine goes_ Try.func34 (by kernel_rfl) rfl #[.agg #[.bool ((rd_T46 t592 x12_3).f0), .slice A599_1 ((rd_T46 t592 x12_3).f1).length c599_1, .slice A599_2 ((rd_T46 t592 x12_3).f2).length c599_2], .agg #[.bool t601, .slice Ao50 t602.length co50, .slice Ao51 t605.length co51]] (by rfl) rfl rfl (by (try simp only [List.map_toArray, List.map_cons, List.map_nil]); rfl) ?_
              with_reducible refine (codewrightref02_Same.calls k3 ((rd_T46 t592 x12_3).f0) _ _ ((rd_T46 t592 x12_3).f1) _ _ ((rd_T46 t592 x12_3).f2) t601 _ _ t602 _ _ t605 false _ ?side1 ?side2 ?side3 ?side4 ?side5 ?side6 ?side7 ?side8 A37.out).mono ?_
              (case side1 => repeat (exact (by repeat ((with_reducible exact HR599_1.out)))))
              (case side2 => exact HC599_1.out)
              (case side3 => repeat (exact (by repeat ((with_reducible exact HR599_2.out)))))
              (case side4 => exact HC599_2.out)
              (case side5 => exact (Kd.R_reads' HO604.out).2.2)
              (case side6 => exact (Kd.R_reads' HO604.out).2.1)
              (case side7 => exact (Kd.R_reads' HO607.out).2.2)
              (case side8 => exact (Kd.R_reads' HO607.out).2.1)
              rintro e w52 ⟨rfl, hb⟩
              have HS0_ := (hb.cell (World.block_lt_of_cell? _ _ (hHeld.1))).trans (hHeld.1)
              have HS1_ := (hb.cell (World.block_lt_of_cell? _ _ (hHeld.2.1))).trans (hHeld.2.1)
              have HS2_ := (hb.cell (World.block_lt_of_cell? _ _ (hHeld.2.2.1))).trans (hHeld.2.2.1)
              have HS3_ := (hb.cell (World.block_lt_of_cell? _ _ (hHeld.2.2.2))).trans (hHeld.2.2.2)
              refine ⟨_, rfl, ?_⟩
              have n0_ := Aside0.mk (Kd.N_below (by (with_reducible repeat (fail)); exact HO_9.out) hb)
              have n1_ := Aside0.mk (Kd.N_below (by (with_reducible repeat (fail)); exact HO_11.out) hb)
              have n2_ := Aside0.mk (Kd.V_below (by (with_reducible repeat (fail)); exact HL599_1.out) hb)
              have n3_ := Aside0.mk (Kd.V_below (by (with_reducible repeat (fail)); exact HL599_2.out) hb)
              have n4_ := Aside0.mk (Kd.V_below (by (with_reducible repeat (fail)); exact HL600_0.out) hb)
              have n5_ := Aside0.mk (Kd.R_below (by (with_reducible repeat (fail)); exact HO604.out) hb)
              have n6_ := Aside0.mk (Kd.R_below (by (with_reducible repeat (fail)); exact HO607.out) hb)
              have n7_ := Aside0.mk (blk_below (g := gb586) (o := .cells #[.int .i64 a0_0, .int .i64 a0_1, .slice A0_2 l0_2.length c0_2] 53 (0, 0)) (by (with_reducible repeat (fail)); exact BK586.out) hb)
              have n8_ := Aside0.mk (Kd.C_below (by repeat ((with_reducible exact HR599_1.out))) hb)
              have n9_ := Aside0.mk (Kd.C_below (by repeat ((with_reducible exact HR599_2.out))) hb)
              have n10_ := Aside0.mk (Kd.C_below (by repeat ((with_reducible exact HR600_0.out))) hb)
              have n11_ := Aside0.mk (below_step (by repeat ((with_reducible exact HB.out))) hb)
              clear HO_9
              clear HO_11
              clear HL599_1
              clear HL599_2
              clear HL600_0
              clear HO604
              clear HO607
              clear BK586
              clear HR599_1
              clear HR599_2
              clear HR600_0
              clear HB
              have HO_9 := n0_
              have HO_11 := n1_
              have HL599_1 := n2_
              have HL599_2 := n3_
              have HL600_0 := n4_
              have HO604 := n5_
              have HO607 := n6_
              have BK586 := n7_
              have HR599_1 := n8_
              have HR599_2 := n9_
              have HR600_0 := n10_
              have HB := n11_
              clear n0_ n1_ n2_ n3_ n4_ n5_ n6_ n7_ n8_ n9_ n10_ n11_
              (try clear hb)
              refine hK.out _ _ ⟨HS0_, HS1_, HS2_, HS3_⟩ (fun hHeld => ?_)
              clear hK K
              refine norm_ (a' := ?_) ?_ ?_
              rotate_left
              ·show Act.put _ (some 66) _ = _
               simp only [Act.put, List.setIfInBounds_toArray, List.set_cons_zero, List.set_cons_succ, i64_w, i32_w]
               rfl
              refine pure_ (i := 10) (N := some 67) (v := ?_) (a' := ?_) #[true, true, true, true, true, true, true, true, true, true, true] rfl rfl (any_of HT_.out (by kernel_rfl)) (fun _ _ _ h => h) (Or.inl ⟨by rfl, ?_⟩) ?_ ?_
              rotate_left
              ·intro w'
               go_simp
               with_reducible rfl
              rotate_left
              ·simp only [Act.put, List.setIfInBounds_toArray, List.set_cons_zero, List.set_cons_succ, i64_w, i32_w]
               rfl
              refine done_ (done_of HT_.out (by kernel_rfl)) ?_
              try go_wp2
              go_ret
              exact ⟨by rfl, by repeat ((with_reducible exact HB.out))⟩
            ·rw [if_neg c35] at H
             exact absurd H (by simp)
           ·rw [if_neg c34] at H
            exact absurd H (by simp)
          ·rw [if_neg c33] at H
           have c33b0 : decide (x12_3 < (t596.length : Int)) = false := decide_eq_false c33
           clear c33
           obtain rfl := Option.some.inj H
           obtain ⟨Ao53, co53, eo53⟩ := Kd.N_slice HO_11.out
           subst eo53
           go_wp2
           go_ret
           exact ⟨by rfl, by repeat ((with_reducible exact HB.out))⟩
end Go.Proofs.Ythheakfgmombdaa.F
end
