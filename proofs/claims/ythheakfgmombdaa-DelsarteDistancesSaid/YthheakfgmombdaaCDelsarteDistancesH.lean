import Derived.Test.YthheakfgmombdaaCDelsarteDistancesG
/- Part H of the proof: FRef36Distances, FLaw36DelsarteDistances. -/
section
namespace Go.Proofs.Ythheakfgmombdaa.F
open Go.RowKit Go.Proofs.YthheakfgmombdaaX.PrintWords Go.Proofs.YthheakfgmombdaaX.PrintLast Go.Proofs.YthheakfgmombdaaX.PrintMore
attribute [local go_sem] max2_int min2_int max_two min_two max_three min_three max_four min_four   -- for this text's walks alone
set_option linter.unusedVariables false
set_option linter.unusedSimpArgs false
def codewrightref36_Distances.T8 : Bool × List (List Nat × List Nat) := (true, [([], []), ([], []), ([], []), ([1, 2], [1, 2]), ([3], [3]), ([], []), ([], []), ([5, 6], [5, 6]), ([7], [7]), ([4, 8], [4, 8]), ([0, 9], [0, 9]), ([10], [10]), ([11], [11]), ([0, 9, 0, 1, 2, 3, 4, 5, 6, 7, 8, 9, 10, 11, 12], [0, 9]), ([13, 12, 9, 0, 1, 2, 3, 4, 5, 6, 7, 8, 9, 10, 11, 12], [12, 13])])
def codewrightref36_Distances.B8 : List Nat := [0, 0, 0, 6, 14, 0, 0, 96, 224, 510, 1023, 2047, 4095, 8191, 16383]
theorem codewrightref36_Distances.tab8 : rtab .any (opsOf Try.f28 8) = codewrightref36_Distances.T8 := by kernel_rfl
theorem codewrightref36_Distances.bits8 : waitsOk codewrightref36_Distances.T8.2 codewrightref36_Distances.B8 = true := by kernel_rfl
set_option maxHeartbeats 8000000 in
set_option maxRecDepth 100000 in
theorem codewrightref36_Distances.calls (k : Nat) (A0 : Option Addr) (c0 : Nat) (l0 : List (List Int)) (r : List (S46)) (w : World) (hr0 : Kd.C (Kd.slice 3 (Kd.int .i64)) w A0 l0.length l0) (hc0 : l0.length ≤ c0) (h : codewrightref36_Distances.f k l0 = some r) :
    Calls Try.prog 28 #[.slice A0 l0.length c0] w fun e w' => ∃ v0_ : Value, e = .returned (v0_) ∧ Kd.S k46 46 w' w.heap.size (fun _ => True) v0_ r ∧ Below w.heap.size w w' := by
  have HR0 := Aside0.mk hr0
  have HC0 := Aside0.mk hc0
  clear hr0 hc0
  have HB := Aside0.mk (Below.refl w.heap.size w)
  have H : (if 0 < (l0.length : Int) then (if 0 ≤ (wrap64 (((rd_LI l0 0).length : Int) + 1)) then (if (wrap64 (((rd_LI l0 0).length : Int) + 1) : Int).toNat ≤ 35184372088832 then (codewrightref36_Distances.l0 k l0 (List.replicate (wrap64 (((rd_LI l0 0).length : Int) + 1) : Int).toNat 0) 0) else (none)) else (none)) else (none)) = some r := h
  clear h
  by_cases c2 : 0 < (l0.length : Int)
  · rw [if_pos c2] at H
    have c2b0 : decide (0 < (l0.length : Int)) = true := decide_eq_true c2
    have c2b1 : decide (0 < l0.length) = true := decide_eq_true (by omega)
    clear c2
    obtain ⟨ji3, hji3⟩ : ∃ j_ : Int, (wrap64 (((rd_LI l0 0).length : Int) + 1)) = j_ := ⟨_, rfl⟩
    replace H : (if 0 ≤ (ji3) then (if (ji3 : Int).toNat ≤ 35184372088832 then (codewrightref36_Distances.l0 k l0 (List.replicate (ji3 : Int).toNat 0) 0) else (none)) else (none)) = some r := by (rw [hji3] at H; exact H)
    have hji3w : (IntKind.i64.wrap (((rd_LI l0 0).length : Int) + 1)) = ji3 := (i64_w _).trans hji3
    by_cases c4 : 0 ≤ (ji3)
    · rw [if_pos c4] at H
      have c4b0 := eq_true c4
      have c4b1 : decide (0 ≤ (ji3)) = true := decide_eq_true c4
      clear c4
      by_cases c5 : (ji3 : Int).toNat ≤ 35184372088832
      · rw [if_pos c5] at H
        have c5b0 := eq_true c5
        have c5b1 : decide ((ji3 : Int).toNat ≤ 35184372088832) = true := decide_eq_true c5
        clear c5
        obtain ⟨y487, hy487⟩ : ∃ y_ : List Int, y_ = (List.replicate (ji3 : Int).toNat 0) := ⟨_, rfl⟩
        replace H : (codewrightref36_Distances.l0 k l0 y487 0) = some r := by (rw [hy487]; with_reducible exact H)
        have Ny487 := Aside0.mk hy487
        clear hy487
        have H' := Aside0.mk H
        clear H
        have p486 : 0 ≤ (0 : Int) := (by omega)
        have q486 : 0 < (l0.length : Int) := of_decide_eq_true (by (with_reducible assumption))
        obtain ⟨ad486, A486_0, c486_0, e486, hx486_0, hl486_0, hi486_0⟩ := at_LI HR0.out 0 p486 q486
        cases e486
        have qi486 : (0 < l0.length) = True := eq_true (by omega)
        (try rw [show ((0 : Int)).toNat = 0 from rfl] at hx486_0)
        (try rw [Addr.add_zero'] at hx486_0)
        have HR486_0 := Aside0.mk hi486_0
        have HC486_0 := Aside0.mk hl486_0
        clear hi486_0 hl486_0
        replace p486 := eq_true p486
        replace q486 := eq_true q486
        go_enter Try.func28, Try.ntmps28
        go_wp2_with (((with_reducible refine gate_dst (N := 13) rfl ?_); refine Kd.R_make (Kd.int .i64) _ 3 rfl (N := 13) rfl 41 _ _ rfl ji3 rfl rfl Try.underlying41 (.int .i64 0) 8 info3 rfl (by decide) (by omega) 0 (ok := fun _ => True) (okp := fun _ => True) rfl (fun _ hk => hk) trivial (of_decide_eq_true (by (with_reducible assumption))) (Nat.le_trans (Nat.mul_le_mul_right _ (of_decide_eq_true (by (with_reducible assumption)) : ji3.toNat ≤ 35184372088832)) (by omega)) (Below.refl _ _) (Nat.le_refl _) ?_; intro v488 w6 ho7 hb hg_ hnew_; clear hg_ hnew_; (rw [← Ny487.out] at ho7); have n0_ := Aside0.mk (Kd.R_lower ho7 (below_size (by repeat ((with_reducible exact HB.out))))); have n1_ := Aside0.mk (below_step (by repeat ((with_reducible exact HB.out))) hb); clear HB; have HO489 := n0_; have HB := n1_; clear n0_ n1_; clear hb ho7))
        go_loopg [4] k (fun kq v4 w' => ∃ (x3_1 : List Int) (x4_1 : Int), v4 = .int .i64 x4_1 ∧ Aside0 (codewrightref36_Distances.l0 kq l0 x3_1 x4_1 = some r) ∧ Aside0 (kq ≤ k) ∧ Aside0 (Kd.R (Kd.int .i64) 3 w' w.heap.size (fun _ => True) v488 x3_1) ∧ Aside0 (Below w.heap.size w w'))
        case atStart => exact ⟨(y487), (0), (by rfl), H', ⟨Nat.le_refl _⟩, ⟨by (with_reducible repeat (fail)); exact HO489.out⟩, ⟨by repeat ((with_reducible exact HB.out))⟩⟩
        case round =>
          clear H'
          try clear c2b0
          try clear c2b1
          try clear c4b0
          try clear c4b1
          try clear c5b0
          try clear c5b1
          try clear hx486_0
          try clear p486
          try clear q486
          obtain ⟨x3_1, x4_1, rfl, HA, HK1, HO_3, HB⟩ := hrel
          cases gk with
          | zero => exact absurd HA.out (by simp [codewrightref36_Distances.l0])
          | succ k1 =>
            have H := HA.out
            clear HA
            simp only [codewrightref36_Distances.l0] at H
            by_cases c8 : x4_1 < (l0.length : Int)
            · rw [if_pos c8] at H
              have c8b0 : decide (x4_1 < (l0.length : Int)) = true := decide_eq_true c8
              clear c8
              have H' := Aside0.mk H
              clear H
              go_wp2
              go_loopg [5] k1 (fun kq v5 w' => ∃ (x3_2 : List Int) (x5_2 : Int), v5 = .int .i64 x5_2 ∧ Aside0 (codewrightref36_Distances.l1 kq l0 x3_2 x4_1 x5_2 = some r) ∧ Aside0 (kq ≤ k1) ∧ Aside0 (Kd.R (Kd.int .i64) 3 w' w.heap.size (fun _ => True) v488 x3_2) ∧ Aside0 (Below w.heap.size w w'))
              case atStart => exact ⟨(x3_1), (0), (by rfl), H', ⟨Nat.le_refl _⟩, ⟨by (with_reducible repeat (fail)); exact HO_3.out⟩, ⟨by repeat ((with_reducible exact HB.out))⟩⟩
              case round =>
                clear H'
                try clear c8b0
                obtain ⟨x3_2, x5_2, rfl, HA, HK2, HO_3, HB⟩ := hrel
                cases gk with
                | zero => exact absurd HA.out (by simp [codewrightref36_Distances.l1])
                | succ k2 =>
                  have H := HA.out
                  clear HA
                  simp only [codewrightref36_Distances.l1] at H
                  by_cases c9 : x5_2 < (l0.length : Int)
                  · rw [if_pos c9] at H
                    have c9b0 : decide (x5_2 < (l0.length : Int)) = true := decide_eq_true c9
                    clear c9
                    by_cases c10 : 0 ≤ x4_1
                    · rw [if_pos c10] at H
                      have c10b0 : decide (0 ≤ x4_1) = true := decide_eq_true c10
                      clear c10
                      by_cases c11 : x4_1 < (l0.length : Int)
                      · rw [if_pos c11] at H
                        have c11b0 : decide (x4_1 < (l0.length : Int)) = true := decide_eq_true c11
                        clear c11
                        by_cases c12 : 0 ≤ x5_2
                        · rw [if_pos c12] at H
                          have c12b0 : decide (0 ≤ x5_2) = true := decide_eq_true c12
                          clear c12
                          replace H := Option.bind_eq_some_iff.mp H
                          obtain ⟨t492, A130, H⟩ := H
                          replace H : (if 0 ≤ t492 then (if t492 < (x3_2.length : Int) then (codewrightref36_Distances.l1 k2 l0 (x3_2.set (t492 : Int).toNat (wrap64 ((rd x3_2 t492) + 1))) x4_1 (wrap64 (x5_2 + 1))) else (none)) else (none)) = some r := H
                          have A13 := Aside0.mk A130
                          clear A130
                          by_cases c14 : 0 ≤ t492
                          · rw [if_pos c14] at H
                            have c14b0 : decide (0 ≤ t492) = true := decide_eq_true c14
                            clear c14
                            by_cases c15 : t492 < (x3_2.length : Int)
                            · rw [if_pos c15] at H
                              have c15b0 : decide (t492 < (x3_2.length : Int)) = true := decide_eq_true c15
                              clear c15
                              obtain ⟨y494, hy494⟩ : ∃ y_ : List Int, y_ = (x3_2.set (t492 : Int).toNat (wrap64 ((rd x3_2 t492) + 1))) := ⟨_, rfl⟩
                              replace H : (codewrightref36_Distances.l1 k2 l0 y494 x4_1 (wrap64 (x5_2 + 1))) = some r := by (rw [hy494]; with_reducible exact H)
                              have Ny494 := Aside0.mk hy494
                              clear hy494
                              have H' := Aside0.mk H
                              clear H
                              try go_wp2
                              have n0_ := Aside0.mk (Kd.R_drew HO_3.out)
                              have n1_ := Aside0.mk (below_drew1 HB.out)
                              clear HO_3
                              clear HB
                              have HO_3 := n0_
                              have HB := n1_
                              clear n0_ n1_
                              have p490 : 0 ≤ (x4_1 : Int) := of_decide_eq_true (by (with_reducible assumption))
                              have q490 : x4_1 < (l0.length : Int) := of_decide_eq_true (by (with_reducible assumption))
                              obtain ⟨ad490, A490_0, c490_0, e490, hx490_0, hl490_0, hi490_0⟩ := at_LI HR0.out x4_1 p490 q490
                              have hw490_0 := hx490_0
                              obtain rfl : ad486 = ad490 := (by injection e490)
                              replace hx490_0 := (HB.out.cell (World.block_lt_of_cell? w _ hx490_0)).trans hx490_0
                              have HR490_0 := Aside0.mk hi490_0
                              have HC490_0 := Aside0.mk hl490_0
                              clear hi490_0 hl490_0
                              replace p490 := eq_true p490
                              replace q490 := eq_true q490
                              have p491 : 0 ≤ (x5_2 : Int) := of_decide_eq_true (by (with_reducible assumption))
                              have q491 : x5_2 < (l0.length : Int) := of_decide_eq_true (by (with_reducible assumption))
                              obtain ⟨ad491, A491_0, c491_0, e491, hx491_0, hl491_0, hi491_0⟩ := at_LI HR0.out x5_2 p491 q491
                              have hw491_0 := hx491_0
                              obtain rfl : ad486 = ad491 := (by injection e491)
                              replace hx491_0 := (HB.out.cell (World.block_lt_of_cell? w _ hx491_0)).trans hx491_0
                              have HR491_0 := Aside0.mk hi491_0
                              have HC491_0 := Aside0.mk hl491_0
                              clear hi491_0 hl491_0
                              replace p491 := eq_true p491
                              replace q491 := eq_true q491
                              obtain ⟨Ao99, co99, eo99⟩ := Kd.R_slice HO_3.out
                              subst eo99
                              have p493 : 0 ≤ (t492 : Int) := of_decide_eq_true (by (with_reducible assumption))
                              have q493 : t492 < (x3_2.length : Int) := of_decide_eq_true (by (with_reducible assumption))
                              obtain ⟨ad493, e493, hx493_0⟩ := Kd.at_int (Kd.R_reads' HO_3.out).2.2 t492 p493 q493
                              cases e493
                              replace p493 := eq_true p493
                              replace q493 := eq_true q493
                              refine start_ (n := 15) (S := fun w' => w'.cell? (ad486.add (x4_1).toNat) = some (.slice A490_0 (rd_LI l0 x4_1).length c490_0) ∧ w'.cell? (ad486.add (x5_2).toNat) = some (.slice A491_0 (rd_LI l0 x5_2).length c491_0) ∧ w'.cell? (ad493.add (t492).toNat) = some (.int .i64 (rd x3_2 t492))) (ds := [14]) #[false, false, false, false, false, false, false, false, false, false, false, false, false, false, false] (by kernel_rfl) rfl rfl ⟨((HB.out.cell (World.block_lt_of_cell? w _ hw490_0)).trans hw490_0), ((HB.out.cell (World.block_lt_of_cell? w _ hw491_0)).trans hw491_0), hx493_0⟩ (fun hHeld => ?_); refine with_tabW codewrightref36_Distances.tab8 codewrightref36_Distances.bits8 (fun HT_ HW_ => ?_)
                              generalize wr.drew = w17 at HO_3 HB HR490_0 HR491_0 hx490_0 hx491_0 hx493_0 hHeld ⊢
                              refine pure_ (i := 0) (N := some 26) (v := ?_) (a' := ?_) #[true, false, false, false, false, false, false, false, false, false, false, false, false, false, false] rfl rfl (any_of HT_.out (by kernel_rfl)) (fun _ _ _ h => h) (Or.inl ⟨by rfl, ?_⟩) ?_ ?_
                              rotate_left
                              · intro w'
                                go_simp
                                with_reducible rfl
                              rotate_left
                              · simp only [Act.put, List.setIfInBounds_toArray, List.set_cons_zero, List.set_cons_succ, i64_w, i32_w]
                                rfl
                              refine pure_ (i := 1) (N := some 27) (v := ?_) (a' := ?_) #[true, true, false, false, false, false, false, false, false, false, false, false, false, false, false] rfl rfl (any_of HT_.out (by kernel_rfl)) (fun _ _ _ h => h) (Or.inl ⟨by rfl, ?_⟩) ?_ ?_
                              rotate_left
                              · intro w'
                                go_simp
                                with_reducible rfl
                              rotate_left
                              · simp only [Act.put, List.setIfInBounds_toArray, List.set_cons_zero, List.set_cons_succ, i64_w, i32_w]
                                rfl
                              refine pure_ (i := 2) (N := some 28) (v := ?_) (a' := ?_) #[true, true, true, false, false, false, false, false, false, false, false, false, false, false, false] rfl rfl (any_of HT_.out (by kernel_rfl)) (fun _ _ _ h => h) (Or.inl ⟨by rfl, ?_⟩) ?_ ?_
                              rotate_left
                              · intro w'
                                go_simp
                                with_reducible rfl
                              rotate_left
                              · simp only [Act.put, List.setIfInBounds_toArray, List.set_cons_zero, List.set_cons_succ, i64_w, i32_w]
                                rfl
                              refine pure_ (i := 3) (N := some 29) (v := ?_) (a' := ?_) #[true, true, true, true, false, false, false, false, false, false, false, false, false, false, false] rfl rfl (any_of HT_.out (by kernel_rfl)) (fun _ _ _ h => h) (Or.inl ⟨by rfl, ?_⟩) ?_ ?_
                              rotate_left
                              · intro w'
                                go_simp
                                with_reducible rfl
                              rotate_left
                              · simp only [Act.put, List.setIfInBounds_toArray, List.set_cons_zero, List.set_cons_succ, i64_w, i32_w]
                                rfl
                              refine pure_ (i := 5) (N := some 31) (v := ?_) (a' := ?_) #[true, true, true, true, false, true, false, false, false, false, false, false, false, false, false] rfl rfl (any_of HT_.out (by kernel_rfl)) (fun _ _ _ h => h) (Or.inl ⟨by rfl, ?_⟩) ?_ ?_
                              rotate_left
                              · intro w'
                                go_simp
                                with_reducible rfl
                              rotate_left
                              · simp only [Act.put, List.setIfInBounds_toArray, List.set_cons_zero, List.set_cons_succ, i64_w, i32_w]
                                rfl
                              refine pure_ (i := 6) (N := some 32) (v := ?_) (a' := ?_) #[true, true, true, true, false, true, true, false, false, false, false, false, false, false, false] rfl rfl (any_of HT_.out (by kernel_rfl)) (fun _ _ _ h => h) (Or.inl ⟨by rfl, ?_⟩) ?_ ?_
                              rotate_left
                              · intro w'
                                go_simp
                                with_reducible rfl
                              rotate_left
                              · simp only [Act.put, List.setIfInBounds_toArray, List.set_cons_zero, List.set_cons_succ, i64_w, i32_w]
                                rfl
                              refine pure_ (i := 7) (N := some 33) (v := ?_) (a' := ?_) #[true, true, true, true, false, true, true, true, false, false, false, false, false, false, false] rfl rfl (any_of HT_.out (by kernel_rfl)) (fun _ _ _ h => h) (Or.inl ⟨by rfl, ?_⟩) ?_ ?_
                              rotate_left
                              · intro w'
                                go_simp
                                with_reducible rfl
                              rotate_left
                              · simp only [Act.put, List.setIfInBounds_toArray, List.set_cons_zero, List.set_cons_succ, i64_w, i32_w]
                                rfl
                              refine take_ (i := 4) (N := some 30) (v := ?_) (a' := ?_) #[true, true, true, true, true, true, true, true, false, false, false, false, false, false, false] rfl rfl (take_ofW HT_.out HW_.out (by kernel_rfl)) (fun _ _ _ h => h) (Or.inl ⟨by rfl, ?_⟩) hHeld ?_ ?_
                              rotate_left
                              · rintro w' ⟨s0, s1, s2⟩
                                go_simp
                                with_reducible rfl
                              rotate_left
                              · simp only [Act.put, List.setIfInBounds_toArray, List.set_cons_zero, List.set_cons_succ, i64_w, i32_w]
                                rfl
                              refine take_ (i := 8) (N := some 34) (v := ?_) (a' := ?_) #[true, true, true, true, true, true, true, true, true, false, false, false, false, false, false] rfl rfl (take_ofW HT_.out HW_.out (by kernel_rfl)) (fun _ _ _ h => h) (Or.inl ⟨by rfl, ?_⟩) hHeld ?_ ?_
                              rotate_left
                              · rintro w' ⟨s0, s1, s2⟩
                                go_simp
                                with_reducible rfl
                              rotate_left
                              · simp only [Act.put, List.setIfInBounds_toArray, List.set_cons_zero, List.set_cons_succ, i64_w, i32_w]
                                rfl
                              refine one_ (i := 9) (N := some 35) #[true, true, true, true, true, true, true, true, true, true, false, false, false, false, false] rfl rfl (one_of HT_.out (by kernel_rfl)) (by decide) (fun K hK => ?_)
                              refine goes_ Try.func64 (by kernel_rfl) rfl #[.slice A490_0 (rd_LI l0 x4_1).length c490_0, .slice A491_0 (rd_LI l0 x5_2).length c491_0] (by rfl) rfl rfl (by (try simp only [List.map_toArray, List.map_cons, List.map_nil]); rfl) ?_
                              with_reducible refine (codewrightref24_Distance.calls k2 _ _ (rd_LI l0 x4_1) _ _ (rd_LI l0 x5_2) t492 _ ?side1 ?side2 ?side3 ?side4 A13.out).mono ?_
                              (case side1 => repeat (exact (Kd.C_below HR490_0.out HB.out)))
                              (case side2 => exact HC490_0.out)
                              (case side3 => repeat (exact (Kd.C_below HR491_0.out HB.out)))
                              (case side4 => exact HC491_0.out)
                              rintro e w' ⟨rfl, ⟨nd, rfl⟩⟩
                              refine ⟨_, rfl, ?_⟩
                              obtain ⟨Ao18, co18, eo18⟩ := Kd.R_slice HO_3.out
                              ((injection eo18 with f1_ f2_ f3_; have f4_ := f1_.symm; have f5_ := f3_.symm; clear f1_ f2_ f3_; subst f4_; subst f5_))
                              have p16 : 0 ≤ (t492 : Int) := of_decide_eq_true (by (with_reducible assumption))
                              have q16 : (t492 : Int) < ((x3_2.length : Int) : Int) := of_decide_eq_true (by (with_reducible assumption))
                              obtain ⟨go16, co16, eo16, gb16, gl16, cl16, HG16⟩ := Kd.R_form HO_3.out (by omega)
                              (cases eo16)
                              have GB16 := Aside0.mk gb16
                              have GG16 := Aside0.mk HG16
                              clear gb16 gl16 HG16
                              (simp only [add_plain] at hx493_0)
                              obtain ⟨hx16_0, hf16_0⟩ := Kd.R_celln 0 HO_3.out (t492 : Int) p16 q16
                              replace p16 := eq_true p16
                              replace q16 := eq_true q16
                              have HP19 := Kd.R_putn HO_3.out (t492 : Int) (wrap64 ((rd x3_2 t492) + 1))
                              rw [← Ny494.out] at HP19
                              have HQ19 := Aside0.mk HP19
                              clear HP19
                              refine hK.out _ _ ⟨((HB.out.cell (World.block_lt_of_cell? w _ hw490_0)).trans hw490_0), ((HB.out.cell (World.block_lt_of_cell? w _ hw491_0)).trans hw491_0), hHeld.2.2⟩ (fun hHeld => ?_)
                              clear hK K
                              refine norm_ (a' := ?_) ?_ ?_
                              rotate_left
                              · show Act.put _ (some 35) _ = _
                                simp only [Act.put, List.setIfInBounds_toArray, List.set_cons_zero, List.set_cons_succ, i64_w, i32_w]
                                rfl
                              refine pure_ (i := 10) (N := some 36) (v := ?_) (a' := ?_) #[true, true, true, true, true, true, true, true, true, true, true, false, false, false, false] rfl rfl (any_of HT_.out (by kernel_rfl)) (fun _ _ _ h => h) (Or.inl ⟨by rfl, ?_⟩) ?_ ?_
                              rotate_left
                              · intro w'
                                go_simp
                                with_reducible rfl
                              rotate_left
                              · simp only [Act.put, List.setIfInBounds_toArray, List.set_cons_zero, List.set_cons_succ, i64_w, i32_w]
                                rfl
                              refine take_ (i := 11) (N := some 37) (v := ?_) (a' := ?_) #[true, true, true, true, true, true, true, true, true, true, true, true, false, false, false] rfl rfl (take_ofW HT_.out HW_.out (by kernel_rfl)) (fun _ _ _ h => h) (Or.inl ⟨by rfl, ?_⟩) hHeld ?_ ?_
                              rotate_left
                              · rintro w' ⟨s0, s1, s2⟩
                                try simp only [add_plain] at s2
                                go_simp
                                with_reducible rfl
                              rotate_left
                              · simp only [Act.put, List.setIfInBounds_toArray, List.set_cons_zero, List.set_cons_succ, i64_w, i32_w]
                                rfl
                              refine pure_ (i := 12) (N := some 38) (v := ?_) (a' := ?_) #[true, true, true, true, true, true, true, true, true, true, true, true, true, false, false] rfl rfl (any_of HT_.out (by kernel_rfl)) (fun _ _ _ h => h) (Or.inl ⟨by rfl, ?_⟩) ?_ ?_
                              rotate_left
                              · intro w'
                                go_simp
                                with_reducible rfl
                              rotate_left
                              · simp only [Act.put, List.setIfInBounds_toArray, List.set_cons_zero, List.set_cons_succ, i64_w, i32_w]
                                rfl
                              refine pure_ (i := 13) (N := some 39) (v := ?_) (a' := ?_) #[true, true, true, true, true, true, true, true, true, true, true, true, true, true, false] rfl rfl (any_of HT_.out (by kernel_rfl)) (fun _ _ _ h => h) (Or.inl ⟨by rfl, ?_⟩) ?_ ?_
                              rotate_left
                              · intro w'
                                go_simp
                                with_reducible rfl
                              rotate_left
                              · simp only [Act.put, List.setIfInBounds_toArray, List.set_cons_zero, List.set_cons_succ, i64_w, i32_w]
                                rfl
                              refine last_ (i := 14) (N := none) #[true, true, true, true, true, true, true, true, true, true, true, true, true, true, true] rfl rfl (one_of HT_.out (by kernel_rfl)) (by decide) (fun K hK => ?_)
                              refine skip_ (w1 := ?_) (by rfl) rfl ?_ ?_
                              rotate_left
                              · go_simp
                                rfl
                              refine hK.out _ _ ?_
                              clear hK K
                              refine done_ (done_of HT_.out (by kernel_rfl)) ?_
                              try go_wp2
                              go_roundg k2
                              case measure => have := HK1.out; have := HK2.out; omega
                              case rel => exact ⟨(y494), (wrap64 (x5_2 + 1)), (by rfl), H', ⟨by have := HK1.out; have := HK2.out; omega⟩, ⟨by (with_reducible repeat (fail)); exact HQ19.out⟩, ⟨by repeat ((with_reducible first | exact HB.out | apply pw_below_drewN | refine below_set ?_ GB16.out))⟩⟩
                            · rw [if_neg c15] at H
                              exact absurd H (by simp)
                          · rw [if_neg c14] at H
                            exact absurd H (by simp)
                        · rw [if_neg c12] at H
                          exact absurd H (by simp)
                      · rw [if_neg c11] at H
                        exact absurd H (by simp)
                    · rw [if_neg c10] at H
                      exact absurd H (by simp)
                  · rw [if_neg c9] at H
                    have c9b0 : decide (x5_2 < (l0.length : Int)) = false := decide_eq_false c9
                    clear c9
                    have H' := Aside0.mk H
                    clear H
                    go_wp2
                    go_roundg k2
                    case measure => have := HK1.out; have := HK2.out; omega
                    case rel => exact ⟨(x3_2), (wrap64 (x4_1 + 1)), (by rfl), H', ⟨by have := HK1.out; have := HK2.out; omega⟩, ⟨by (with_reducible repeat (fail)); exact HO_3.out⟩, ⟨by repeat ((with_reducible exact HB.out))⟩⟩
            · rw [if_neg c8] at H
              have c8b0 : decide (x4_1 < (l0.length : Int)) = false := decide_eq_false c8
              clear c8
              have H' := Aside0.mk H
              clear H
              go_wp2
              go_loopg [6, 7] k1 (fun kq v6 v7 w' => ∃ (x6_2 : List (S46)) (x7_2 : Int), v7 = .int .i64 x7_2 ∧ Aside0 (codewrightref36_Distances.l2 kq l0 x3_1 x6_2 x7_2 = some r) ∧ Aside0 (kq ≤ k1) ∧ Aside0 (Kd.R (Kd.int .i64) 3 w' w.heap.size (fun _ => True) v488 x3_1) ∧ Aside0 (Kd.S k46 46 w' w.heap.size (fun _ => True) v6 x6_2) ∧ Aside0 (Below w.heap.size w w'))
              case atStart => exact ⟨(([] : List (S46))), (0), (by rfl), H', ⟨Nat.le_refl _⟩, ⟨by (with_reducible repeat (fail)); exact HO_3.out⟩, ⟨by exact Kd.S_nil _ _ _ _ _⟩, ⟨by repeat ((with_reducible exact HB.out))⟩⟩
              case round =>
                clear H'
                try clear c8b0
                obtain ⟨x6_2, x7_2, rfl, HA, HK2, HO_3, HO_6, HB⟩ := hrel
                cases gk with
                | zero => exact absurd HA.out (by simp [codewrightref36_Distances.l2])
                | succ k2 =>
                  have H := HA.out
                  clear HA
                  simp only [codewrightref36_Distances.l2] at H
                  by_cases c20 : x7_2 < (x3_1.length : Int)
                  · rw [if_pos c20] at H
                    have c20b0 : decide (x7_2 < (x3_1.length : Int)) = true := decide_eq_true c20
                    clear c20
                    by_cases c21 : 0 ≤ x7_2
                    · rw [if_pos c21] at H
                      have c21b0 : decide (0 ≤ x7_2) = true := decide_eq_true c21
                      clear c21
                      replace H := Option.bind_eq_some_iff.mp H
                      obtain ⟨⟨t496, t497, t500⟩, A220, H⟩ := H
                      replace H : (if x6_2.length < 2513169434916 then (codewrightref36_Distances.l2 k2 l0 x3_1 (x6_2 ++ [(⟨t496, t497, t500⟩ : S46)]) (wrap64 (x7_2 + 1))) else (none)) = some r := H
                      have A22 := Aside0.mk A220
                      clear A220
                      by_cases c23 : x6_2.length < 2513169434916
                      · rw [if_pos c23] at H
                        have LMc23 := Aside0.mk c23
                        clear c23
                        obtain ⟨y503, hy503⟩ : ∃ y_ : List (S46), y_ = (x6_2 ++ [(⟨t496, t497, t500⟩ : S46)]) := ⟨_, rfl⟩
                        replace H : (codewrightref36_Distances.l2 k2 l0 x3_1 y503 (wrap64 (x7_2 + 1))) = some r := by (rw [hy503]; with_reducible exact H)
                        have Ny503 := Aside0.mk hy503
                        clear hy503
                        have H' := Aside0.mk H
                        clear H
                        obtain ⟨Ao24, co24, eo24⟩ := Kd.R_slice HO_3.out
                        subst eo24
                        have p495 : 0 ≤ (x7_2 : Int) := of_decide_eq_true (by (with_reducible assumption))
                        have q495 : x7_2 < (x3_1.length : Int) := of_decide_eq_true (by (with_reducible assumption))
                        obtain ⟨ad495, e495, hx495_0⟩ := Kd.at_int (Kd.R_reads' HO_3.out).2.2 x7_2 p495 q495
                        cases e495
                        replace p495 := eq_true p495
                        replace q495 := eq_true q495
                        go_wp2_with (first | ((with_reducible refine gate_callee (f := 65) rfl ?_); refine goesL_ (some 53) rfl rfl Try.func65 (by kernel_rfl) rfl #[.int .i64 (rd x3_1 x7_2), .int .i64 (l0.length : Int)] rfl (by (try simp only [List.map_toArray, List.map_cons, List.map_nil]); rfl) ?_; (with_reducible refine (codewrightref02_Of.calls k2 (rd x3_1 x7_2) (l0.length : Int) t496 t497 t500 _ A22.out).mono ?_); rintro e w25 ⟨v498, v501, rfl, ho0, ho1, hb⟩; refine ⟨_, rfl, ?_⟩; have n0_ := Aside0.mk (Kd.R_below (by (with_reducible repeat (fail)); exact HO_3.out) hb); have n1_ := Aside0.mk (Kd.S_mono (Kd.S_told (Kd.S_told (Kd.S_old (by (with_reducible repeat (fail)); exact HO_6.out) hb) (Kd.R_base ho0)) (Kd.R_base ho1)) (fun _ h_ => h_.1)); have n2_ := Aside0.mk (Kd.R_lower ho0 (below_size (by repeat ((with_reducible exact HB.out))))); have n3_ := Aside0.mk (Kd.R_lower ho1 (below_size (by repeat ((with_reducible exact HB.out))))); have n4_ := Aside0.mk (below_step (by repeat ((with_reducible exact HB.out))) hb); clear HO_3; clear HO_6; clear HB; have HO_3 := n0_; have HO_6 := n1_; have HO499 := n2_; have HO502 := n3_; have HB := n4_; clear n0_ n1_ n2_ n3_ n4_; (try clear hb); (try clear ho0); (try clear ho1); obtain ⟨Ao27, co27, eo27⟩ := Kd.R_slice HO499.out; subst eo27; obtain ⟨Ao28, co28, eo28⟩ := Kd.R_slice HO502.out; subst eo28) | ((with_reducible refine gate_builtin (b := .append) (xs := #[.tmp 46, .tmp 54]) rfl ?_); at_builtin; refine Kd.S_append k46 (w0 := w) w.heap.size rfl (.tmp 46) (.tmp 54) 22 46 (.agg #[(.bool false), (.slice none 0 0), (.slice none 0 0)]) 56 rfl Try.underlying22 info46 rfl (by decide) (by omega) u6 x6_2 (⟨t496, t497, t500⟩ : S46) [.bool t496, .slice Ao27 t497.length co27, .slice Ao28 t500.length co28] (fun _ => True) (fun k_ => some k_ = (.slice Ao27 t497.length co27 : Value).ownBlock ∨ some k_ = (.slice Ao28 t500.length co28 : Value).ownBlock) rfl rfl ?aP (fun k_ hk_ => hk_.elim (fun h_ => ((Kd.R_mono (ok' := fun k_ => ((fun _ => True)) k_ ∧ some k_ ≠ (u6 : Value).ownBlock) (Kd.R_apart' (HO499.out) (Kd.S_typed HO_6.out) (by decide)) (fun k_ hk => ⟨trivial, hk.2⟩))).1 k_ h_.symm) (fun h_ => ((Kd.R_mono (ok' := fun k_ => ((fun _ => True)) k_ ∧ some k_ ≠ (u6 : Value).ownBlock) (Kd.R_apart' (HO502.out) (Kd.S_typed HO_6.out) (by decide)) (fun k_ hk => ⟨trivial, hk.2⟩))).1 k_ h_.symm)) ?aF ?aO ?aB ?aS ?aL ?_; (case aP => exact k46_mkM _ _ _ (⟨t496, t497, t500⟩ : S46) (Kd.R_mono (Kd.R_tight rfl (Kd.R_mono (ok' := fun k_ => ((fun _ => True)) k_ ∧ some k_ ≠ (u6 : Value).ownBlock) (Kd.R_apart' (HO499.out) (Kd.S_typed HO_6.out) (by decide)) (fun k_ hk => ⟨trivial, hk.2⟩))) (fun _ h_ => Or.inl h_)) (Kd.R_mono (Kd.R_tight rfl (Kd.R_mono (ok' := fun k_ => ((fun _ => True)) k_ ∧ some k_ ≠ (u6 : Value).ownBlock) (Kd.R_apart' (HO502.out) (Kd.S_typed HO_6.out) (by decide)) (fun k_ hk => ⟨trivial, hk.2⟩))) (fun _ h_ => Or.inr (h_)))); (case aB => exact (by repeat ((with_reducible exact HB.out)))); (case aF => exact (fun _ _ => trivial)); (case aO => exact (by (with_reducible repeat (fail)); exact Kd.S_mono HO_6.out (fun k_ hk => ⟨trivial, fun e_ => e_.elim (fun h_ => hk.1.2 h_) (fun h_ => hk.2 h_)⟩))); (case aS => exact (below_size (by repeat ((with_reducible exact HB.out))))); (case aL => have := LMc23.out; omega); intro v504 w26 ho hb hg hat; rw [← Ny503.out] at ho; have n0_ := Aside0.mk (Kd.R_over' (by (with_reducible repeat (fail)); exact HO_3.out) (Kd.S_typed (by (with_reducible repeat (fail)); exact HO_6.out)) (by decide) hg); have n1_ := Aside0.mk (hb); have n2_ := Aside0.mk (ho); clear HO_3; clear HB; clear HO_6; clear HO499; clear HO502; have HO_3 := n0_; have HB := n1_; have HO505 := n2_; clear n0_ n1_ n2_; clear ho hb hg hat))
                        go_roundg k2
                        case measure => have := HK1.out; have := HK2.out; omega
                        case rel => exact ⟨(y503), (wrap64 (x7_2 + 1)), (by rfl), H', ⟨by have := HK1.out; have := HK2.out; omega⟩, ⟨by (with_reducible repeat (fail)); exact HO_3.out⟩, ⟨by (with_reducible repeat (fail)); exact HO505.out⟩, ⟨by repeat ((with_reducible exact HB.out))⟩⟩
                      · rw [if_neg c23] at H
                        exact absurd H (by simp)
                    · rw [if_neg c21] at H
                      exact absurd H (by simp)
                  · rw [if_neg c20] at H
                    have c20b0 : decide (x7_2 < (x3_1.length : Int)) = false := decide_eq_false c20
                    clear c20
                    obtain rfl := Option.some.inj H
                    obtain ⟨Ao29, co29, eo29⟩ := Kd.R_slice HO_3.out
                    subst eo29
                    go_wp2
                    go_ret
                    exact ⟨_, by rfl, by (with_reducible repeat (fail)); exact HO_6.out, by repeat ((with_reducible exact HB.out))⟩
      · rw [if_neg c5] at H
        exact absurd H (by simp)
    · rw [if_neg c4] at H
      exact absurd H (by simp)
  · rw [if_neg c2] at H
    exact absurd H (by simp)
end Go.Proofs.Ythheakfgmombdaa.F
end
section
namespace Go.Proofs.Ythheakfgmombdaa.F
open Go.RowKit Go.Proofs.YthheakfgmombdaaX.PrintWords Go.Proofs.YthheakfgmombdaaX.PrintLast Go.Proofs.YthheakfgmombdaaX.PrintMore
attribute [local go_sem] max2_int min2_int max_two min_two max_three min_three max_four min_four   -- for this text's walks alone
set_option linter.unusedVariables false
set_option linter.unusedSimpArgs false
set_option maxHeartbeats 8000000 in
set_option maxRecDepth 100000 in
theorem codewrightlaw36_DelsarteDistances.calls (k : Nat) (a0 : Int) (A1 : Option Addr) (c1 : Nat) (l1 : List (List Int)) (r : Bool) (w : World) (hr1 : Kd.C (Kd.slice 3 (Kd.int .i64)) w A1 l1.length l1) (hc1 : l1.length ≤ c1) (h : codewrightlaw36_DelsarteDistances.f k a0 l1 = some r) :
    Calls Try.prog 5 #[.int .i64 a0, .slice A1 l1.length c1] w fun e w' => e = .returned (.bool r) ∧ Below w.heap.size w w' := by
  have HR1 := Aside0.mk hr1
  have HC1 := Aside0.mk hc1
  clear hr1 hc1
  have HB := Aside0.mk (Below.refl w.heap.size w)
  have H : (if (l1.length : Int) > 200 then (some true) else ((delsarte_Distances.f k a0 l1).bind fun bt506 => ((codewrightref34_Words.f k a0 l1).bind fun t510 => (if t510 = 0 then (if bt506.2 = 0 then ((codewrightref36_Distances.f k l1).bind fun t512 => ((codewrightref02_SameList.f k bt506.1 t512).bind fun t515 => (some t515))) else (some false)) else ((codewrightref34_Words.f k a0 l1).bind fun t511 => (if bt506.2 = t511 then (some ((bt506.1.length : Int) == 0)) else (some false))))))) = some r := h
  clear h
  by_cases c3 : (l1.length : Int) > 200
  · rw [if_pos c3] at H
    have c3b0 : decide (200 < (l1.length : Int)) = true := decide_eq_true c3
    have c3b1 : decide (200 < l1.length) = true := decide_eq_true (by omega)
    clear c3
    obtain rfl := Option.some.inj H
    go_enter Try.func5, Try.ntmps5
    go_wp2
    go_ret
    exact ⟨by rfl, by repeat ((with_reducible exact HB.out))⟩
  · rw [if_neg c3] at H
    have c3b0 : decide (200 < (l1.length : Int)) = false := decide_eq_false c3
    have c3b1 : decide (200 < l1.length) = false := decide_eq_false (by omega)
    clear c3
    replace H := Option.bind_eq_some_iff.mp H
    obtain ⟨⟨t506, t507⟩, A40, H⟩ := H
    replace H : ((codewrightref34_Words.f k a0 l1).bind fun t510 => (if t510 = 0 then (if t507 = 0 then ((codewrightref36_Distances.f k l1).bind fun t512 => ((codewrightref02_SameList.f k t506 t512).bind fun t515 => (some t515))) else (some false)) else ((codewrightref34_Words.f k a0 l1).bind fun t511 => (if t507 = t511 then (some ((t506.length : Int) == 0)) else (some false))))) = some r := H
    have A4 := Aside0.mk A40
    clear A40
    replace H := Option.bind_eq_some_iff.mp H
    obtain ⟨t510, A50, H⟩ := H
    replace H : (if t510 = 0 then (if t507 = 0 then ((codewrightref36_Distances.f k l1).bind fun t512 => ((codewrightref02_SameList.f k t506 t512).bind fun t515 => (some t515))) else (some false)) else ((codewrightref34_Words.f k a0 l1).bind fun t511 => (if t507 = t511 then (some ((t506.length : Int) == 0)) else (some false)))) = some r := H
    have A5 := Aside0.mk A50
    clear A50
    by_cases c6 : t510 = 0
    · rw [if_pos c6] at H
      have c6b0 : (t510 == 0) = true := beq_iff_eq.mpr c6
      have c6b1 : (t510 != 0) = false := bne_eq_false_iff_eq.mpr c6
      clear c6
      by_cases c7 : t507 = 0
      · rw [if_pos c7] at H
        have c7b0 : (t507 == 0) = true := beq_iff_eq.mpr c7
        have c7b1 : (t507 != 0) = false := bne_eq_false_iff_eq.mpr c7
        clear c7
        replace H := Option.bind_eq_some_iff.mp H
        obtain ⟨t512, A80, H⟩ := H
        replace H : ((codewrightref02_SameList.f k t506 t512).bind fun t515 => (some t515)) = some r := H
        have A8 := Aside0.mk A80
        clear A80
        replace H := Option.bind_eq_some_iff.mp H
        obtain ⟨t515, A90, H⟩ := H
        replace H : (some t515) = some r := H
        have A9 := Aside0.mk A90
        clear A90
        obtain rfl := Option.some.inj H
        go_enter Try.func5, Try.ntmps5
        go_wp2_with (first | ((with_reducible refine gate_callee (f := 25) rfl ?_); refine goesL_ (some 13) rfl rfl Try.func25 (by kernel_rfl) rfl #[.int .i64 a0, .slice A1 l1.length c1] rfl (by (try simp only [List.map_toArray, List.map_cons, List.map_nil]); rfl) ?_; (with_reducible refine (delsarte_Distances.calls k a0 _ _ l1 t506 t507 _ ?side1 ?side2 A4.out).mono ?_); (case side1 => exact HR1.out); (case side2 => exact HC1.out); rintro e w10 ⟨v508, rfl, ho0, hb⟩; refine ⟨_, rfl, ?_⟩; have n0_ := Aside0.mk (Kd.S_lower ho0 (below_size (by repeat ((with_reducible exact HB.out))))); have n1_ := Aside0.mk (below_step (by repeat ((with_reducible exact HB.out))) hb); clear HB; have HO509 := n0_; have HB := n1_; clear n0_ n1_; (try clear hb); (try clear ho0)) | ((with_reducible refine gate_callee (f := 26) rfl ?_); refine goesL_ (some 18) rfl rfl Try.func26 (by kernel_rfl) rfl #[.int .i64 a0, .slice A1 l1.length c1] rfl (by (try simp only [List.map_toArray, List.map_cons, List.map_nil]); rfl) ?_; (with_reducible refine (codewrightref34_Words.calls k a0 _ _ l1 t510 _ ?side1 ?side2 A5.out).mono ?_); (case side1 => repeat (exact (Kd.C_below HR1.out HB.out))); (case side2 => exact HC1.out); rintro e w' ⟨rfl, ⟨nd, rfl⟩⟩; refine ⟨_, rfl, ?_⟩) | (go_at_call 28; (with_reducible refine (codewrightref36_Distances.calls k _ _ l1 t512 _ ?side1 ?side2 A8.out).mono ?_); (case side1 => repeat (exact (Kd.C_below HR1.out (by repeat ((with_reducible first | exact HB.out | apply pw_below_drewN)))))); (case side2 => exact HC1.out); rintro e w11 ⟨v513, rfl, ho0, hb⟩; have n0_ := Aside0.mk (Kd.S_elder' (by (with_reducible repeat (apply Kd.S_drewN)); exact HO509.out) (Kd.S_base ho0) hb); have n1_ := Aside0.mk (Kd.S_lower (Kd.S_new' ho0 (Kd.S_lt (by (with_reducible repeat (apply Kd.S_drewN)); exact HO509.out))) (below_size (by repeat ((with_reducible first | exact HB.out | apply pw_below_drewN))))); have n2_ := Aside0.mk (below_step (by repeat ((with_reducible first | exact HB.out | apply pw_below_drewN))) hb); clear HO509; clear HB; have HO509 := n0_; have HO514 := n1_; have HB := n2_; clear n0_ n1_ n2_; (try clear hb); (try clear ho0); obtain ⟨Ao12, co12, eo12⟩ := Kd.S_slice HO509.out; subst eo12; obtain ⟨Ao13, co13, eo13⟩ := Kd.S_slice HO514.out; subst eo13) | (go_at_call 27; (with_reducible refine (codewrightref02_SameList.calls k _ _ t506 _ _ t512 t515 _ ?side1 ?side2 ?side3 ?side4 A9.out).mono ?_); (case side1 => exact (Kd.S_reads' HO509.out).2.2); (case side2 => exact (Kd.S_reads' HO509.out).2.1); (case side3 => exact (Kd.S_reads' HO514.out).2.2); (case side4 => exact (Kd.S_reads' HO514.out).2.1); rintro e w14 ⟨rfl, hb⟩; have n0_ := Aside0.mk (Kd.S_below (by (with_reducible repeat (fail)); exact HO509.out) hb); have n1_ := Aside0.mk (Kd.S_below (by (with_reducible repeat (fail)); exact HO514.out) hb); have n2_ := Aside0.mk (below_step (by repeat ((with_reducible exact HB.out))) hb); clear HO509; clear HO514; clear HB; have HO509 := n0_; have HO514 := n1_; have HB := n2_; clear n0_ n1_ n2_; (try clear hb)))
        go_ret
        exact ⟨by rfl, by repeat ((with_reducible exact HB.out))⟩
      · rw [if_neg c7] at H
        have c7b0 : (t507 == 0) = false := beq_eq_false_iff_ne.mpr c7
        have c7b1 : (t507 != 0) = true := bne_iff_ne.mpr c7
        obtain rfl := Option.some.inj H
        go_enter Try.func5, Try.ntmps5
        go_wp2_with (first | ((with_reducible refine gate_callee (f := 25) rfl ?_); refine goesL_ (some 13) rfl rfl Try.func25 (by kernel_rfl) rfl #[.int .i64 a0, .slice A1 l1.length c1] rfl (by (try simp only [List.map_toArray, List.map_cons, List.map_nil]); rfl) ?_; (with_reducible refine (delsarte_Distances.calls k a0 _ _ l1 t506 t507 _ ?side1 ?side2 A4.out).mono ?_); (case side1 => exact HR1.out); (case side2 => exact HC1.out); rintro e w15 ⟨v508, rfl, ho0, hb⟩; refine ⟨_, rfl, ?_⟩; have n0_ := Aside0.mk (Kd.S_lower ho0 (below_size (by repeat ((with_reducible exact HB.out))))); have n1_ := Aside0.mk (below_step (by repeat ((with_reducible exact HB.out))) hb); clear HB; have HO509 := n0_; have HB := n1_; clear n0_ n1_; (try clear hb); (try clear ho0)) | ((with_reducible refine gate_callee (f := 26) rfl ?_); refine goesL_ (some 18) rfl rfl Try.func26 (by kernel_rfl) rfl #[.int .i64 a0, .slice A1 l1.length c1] rfl (by (try simp only [List.map_toArray, List.map_cons, List.map_nil]); rfl) ?_; (with_reducible refine (codewrightref34_Words.calls k a0 _ _ l1 t510 _ ?side1 ?side2 A5.out).mono ?_); (case side1 => repeat (exact (Kd.C_below HR1.out HB.out))); (case side2 => exact HC1.out); rintro e w' ⟨rfl, ⟨nd, rfl⟩⟩; refine ⟨_, rfl, ?_⟩))
        go_ret
        exact ⟨by rfl, by repeat ((with_reducible first | exact HB.out | apply pw_below_drewN))⟩
    · rw [if_neg c6] at H
      have c6b0 : (t510 == 0) = false := beq_eq_false_iff_ne.mpr c6
      have c6b1 : (t510 != 0) = true := bne_iff_ne.mpr c6
      replace H := Option.bind_eq_some_iff.mp H
      obtain ⟨t511, A160, H⟩ := H
      replace H : (if t507 = t511 then (some ((t506.length : Int) == 0)) else (some false)) = some r := H
      have A16 := Aside0.mk A160
      clear A160
      by_cases c17 : t507 = t511
      · rw [if_pos c17] at H
        have c17b0 : (t507 == t511) = true := beq_iff_eq.mpr c17
        have c17b1 : (t507 != t511) = false := bne_eq_false_iff_eq.mpr c17
        clear c17
        obtain rfl := Option.some.inj H
        go_enter Try.func5, Try.ntmps5
        go_wp2_with (first | ((with_reducible refine gate_callee (f := 25) rfl ?_); refine goesL_ (some 13) rfl rfl Try.func25 (by kernel_rfl) rfl #[.int .i64 a0, .slice A1 l1.length c1] rfl (by (try simp only [List.map_toArray, List.map_cons, List.map_nil]); rfl) ?_; (with_reducible refine (delsarte_Distances.calls k a0 _ _ l1 t506 t507 _ ?side1 ?side2 A4.out).mono ?_); (case side1 => exact HR1.out); (case side2 => exact HC1.out); rintro e w18 ⟨v508, rfl, ho0, hb⟩; refine ⟨_, rfl, ?_⟩; have n0_ := Aside0.mk (Kd.S_lower ho0 (below_size (by repeat ((with_reducible exact HB.out))))); have n1_ := Aside0.mk (below_step (by repeat ((with_reducible exact HB.out))) hb); clear HB; have HO509 := n0_; have HB := n1_; clear n0_ n1_; (try clear hb); (try clear ho0)) | ((with_reducible refine gate_callee (f := 26) rfl ?_); refine goesL_ (some 18) rfl rfl Try.func26 (by kernel_rfl) rfl #[.int .i64 a0, .slice A1 l1.length c1] rfl (by (try simp only [List.map_toArray, List.map_cons, List.map_nil]); rfl) ?_; (with_reducible refine (codewrightref34_Words.calls k a0 _ _ l1 t510 _ ?side1 ?side2 A5.out).mono ?_); (case side1 => repeat (exact (Kd.C_below HR1.out HB.out))); (case side2 => exact HC1.out); rintro e w' ⟨rfl, ⟨nd, rfl⟩⟩; refine ⟨_, rfl, ?_⟩) | ((with_reducible refine gate_callee (f := 26) rfl ?_); refine goesL_ (some 23) rfl rfl Try.func26 (by kernel_rfl) rfl #[.int .i64 a0, .slice A1 l1.length c1] rfl (by (try simp only [List.map_toArray, List.map_cons, List.map_nil]); rfl) ?_; (with_reducible refine (codewrightref34_Words.calls k a0 _ _ l1 t511 _ ?side1 ?side2 A16.out).mono ?_); (case side1 => repeat (exact (Kd.C_below HR1.out (by repeat ((with_reducible first | exact HB.out | apply pw_below_drewN)))))); (case side2 => exact HC1.out); rintro e w' ⟨rfl, ⟨nd, rfl⟩⟩; refine ⟨_, rfl, ?_⟩; obtain ⟨Ao19, co19, eo19⟩ := Kd.S_slice HO509.out; subst eo19))
        go_ret
        exact ⟨by rfl, by repeat ((with_reducible first | exact HB.out | apply pw_below_drewN))⟩
      · rw [if_neg c17] at H
        have c17b0 : (t507 == t511) = false := beq_eq_false_iff_ne.mpr c17
        have c17b1 : (t507 != t511) = true := bne_iff_ne.mpr c17
        obtain rfl := Option.some.inj H
        go_enter Try.func5, Try.ntmps5
        go_wp2_with (first | ((with_reducible refine gate_callee (f := 25) rfl ?_); refine goesL_ (some 13) rfl rfl Try.func25 (by kernel_rfl) rfl #[.int .i64 a0, .slice A1 l1.length c1] rfl (by (try simp only [List.map_toArray, List.map_cons, List.map_nil]); rfl) ?_; (with_reducible refine (delsarte_Distances.calls k a0 _ _ l1 t506 t507 _ ?side1 ?side2 A4.out).mono ?_); (case side1 => exact HR1.out); (case side2 => exact HC1.out); rintro e w20 ⟨v508, rfl, ho0, hb⟩; refine ⟨_, rfl, ?_⟩; have n0_ := Aside0.mk (Kd.S_lower ho0 (below_size (by repeat ((with_reducible exact HB.out))))); have n1_ := Aside0.mk (below_step (by repeat ((with_reducible exact HB.out))) hb); clear HB; have HO509 := n0_; have HB := n1_; clear n0_ n1_; (try clear hb); (try clear ho0)) | ((with_reducible refine gate_callee (f := 26) rfl ?_); refine goesL_ (some 18) rfl rfl Try.func26 (by kernel_rfl) rfl #[.int .i64 a0, .slice A1 l1.length c1] rfl (by (try simp only [List.map_toArray, List.map_cons, List.map_nil]); rfl) ?_; (with_reducible refine (codewrightref34_Words.calls k a0 _ _ l1 t510 _ ?side1 ?side2 A5.out).mono ?_); (case side1 => repeat (exact (Kd.C_below HR1.out HB.out))); (case side2 => exact HC1.out); rintro e w' ⟨rfl, ⟨nd, rfl⟩⟩; refine ⟨_, rfl, ?_⟩) | ((with_reducible refine gate_callee (f := 26) rfl ?_); refine goesL_ (some 23) rfl rfl Try.func26 (by kernel_rfl) rfl #[.int .i64 a0, .slice A1 l1.length c1] rfl (by (try simp only [List.map_toArray, List.map_cons, List.map_nil]); rfl) ?_; (with_reducible refine (codewrightref34_Words.calls k a0 _ _ l1 t511 _ ?side1 ?side2 A16.out).mono ?_); (case side1 => repeat (exact (Kd.C_below HR1.out (by repeat ((with_reducible first | exact HB.out | apply pw_below_drewN)))))); (case side2 => exact HC1.out); rintro e w' ⟨rfl, ⟨nd, rfl⟩⟩; refine ⟨_, rfl, ?_⟩))
        go_ret
        exact ⟨by rfl, by repeat ((with_reducible first | exact HB.out | apply pw_below_drewN))⟩
end Go.Proofs.Ythheakfgmombdaa.F
end
