import Derived.Test.YthheakfgmombdaaCDelsarteInequalitiesG
/- Part H of the proof: FRef01Pow, FRef24Krawtchouk, FRef24Transform, FLaw36DelsarteInequalities. -/
section
namespace Go.Proofs.Ythheakfgmombdaa.F
open Go.RowKit Go.Proofs.YthheakfgmombdaaX.PrintWords Go.Proofs.YthheakfgmombdaaX.PrintLast Go.Proofs.YthheakfgmombdaaX.PrintMore
attribute [local go_sem] max2_int min2_int max_two min_two max_three min_three max_four min_four   -- for this text's walks alone
set_option linter.unusedVariables false
set_option linter.unusedSimpArgs false
set_option maxHeartbeats 8000000 in
set_option maxRecDepth 100000 in
theorem codewrightref01_Pow.calls (k : Nat) (A0 : Option Addr) (c0 : Nat) (l0 : List Int) (a1 : Int) (r1 : List Int) (r2 : Int) (w : World) (hr0 : Kd.C (Kd.int .u32) w A0 l0.length l0) (hc0 : l0.length ≤ c0) (h : codewrightref01_Pow.f k l0 a1 = some (r1, r2)) :
  Calls Try.prog 92 #[.slice A0 l0.length c0, .int .i64 a1] w fun e w' => ∃ v0_ : Value, e = .returned (.tuple #[v0_, .int .i64 r2]) ∧ Kd.R (Kd.int .u32) 100 w' w.heap.size (fun _ => True) v0_ r1 ∧ Below w.heap.size w w' := by
 have HR0 := Aside0.mk hr0
 have HC0 := Aside0.mk hc0
 clear hr0 hc0
 have HB := Aside0.mk (Below.refl w.heap.size w)
 have H : (if a1 < 0 then (some (([] : List Int), 6)) else ((codewrightref01_Trim.f k l0).bind fun t675 => (if a1 = 0 then (some ((([1] : List Int)), 0)) else ((codewrightref01_Bits.f k t675).bind fun t681 => (if t681 ≤ 1 then (some (t675, 0)) else (if a1 > 131072 then (some (([] : List Int), 8)) else (codewrightref01_Pow.l0 k t675 a1 (([1] : List Int)) 262144))))))) = some (r1, r2) := h
 clear h
 by_cases c3 : a1 < 0
 ·rw [if_pos c3] at H
  have c3b0 : decide (a1 < 0) = true := decide_eq_true c3
  clear c3
  simp only [Option.some.injEq, Prod.mk.injEq] at H
  obtain ⟨rfl, rfl⟩ := H
  go_enter Try.func92, Try.ntmps92
  go_wp2
  go_ret2
  exact ⟨_, by rfl, by exact Kd.R_nil _ _ _ _ _, by repeat ((with_reducible exact HB.out))⟩
 ·rw [if_neg c3] at H
  have c3b0 : decide (a1 < 0) = false := decide_eq_false c3
  clear c3
  replace H := Option.bind_eq_some_iff.mp H
  obtain ⟨t675, A40, H⟩ := H
  replace H : (if a1 = 0 then (some ((([1] : List Int)), 0)) else ((codewrightref01_Bits.f k t675).bind fun t681 => (if t681 ≤ 1 then (some (t675, 0)) else (if a1 > 131072 then (some (([] : List Int), 8)) else (codewrightref01_Pow.l0 k t675 a1 (([1] : List Int)) 262144))))) = some (r1, r2) := H
  have A4 := Aside0.mk A40
  clear A40
  by_cases c5 : a1 = 0
  ·rw [if_pos c5] at H
   have c5b0 : (a1 == 0) = true := beq_iff_eq.mpr c5
   have c5b1 : (a1 != 0) = false := bne_eq_false_iff_eq.mpr c5
   clear c5
   obtain ⟨y678, hy678⟩ : ∃ y_ : List Int, y_ = (([1] : List Int)) := ⟨_, rfl⟩
   replace H : (some (y678, 0)) = some (r1, r2) := by (rw [hy678]; with_reducible exact H)
   have Ny678 := Aside0.mk hy678
   clear hy678
   simp only [Option.some.injEq, Prod.mk.injEq] at H
   obtain ⟨rfl, rfl⟩ := H
   go_enter Try.func92, Try.ntmps92
   go_wp2_with (first | ((with_reducible refine gate_callee (f := 97) rfl ?_); refine goesL_ (some 11) rfl rfl Try.func97 (by kernel_rfl) rfl #[.slice A0 l0.length c0] rfl (by (try simp only [List.map_toArray, List.map_cons, List.map_nil]); rfl) ?_; (with_reducible refine (codewrightref01_Trim.calls k _ _ l0 t675 _ ?side1 ?side2 A4.out).mono ?_); (case side1 => exact HR0.out); (case side2 => exact HC0.out); rintro e w6 ⟨v676, rfl, ho0, hb⟩; refine ⟨_, rfl, ?_⟩; have n0_ := Aside0.mk (Kd.R_lower ho0 (below_size (by repeat ((with_reducible exact HB.out))))); have n1_ := Aside0.mk (below_step (by repeat ((with_reducible exact HB.out))) hb); clear HB; have HO677 := n0_; have HB := n1_; clear n0_ n1_; (try clear hb); (try clear ho0)) | ((with_reducible refine gate_dst (N := 14) rfl ?_); refine Kd.R_lit (Kd.int .u32) _ 100 ?hg (N := 14) ?hd (xs := ([1] : List Int)) (inner := [.int .u32 1]) (ok := fun _ => True) (okp := fun _ => True) ?hr ?hp (fun _ hk => hk) trivial (Below.refl _ _) (Nat.le_refl _) (by simp) ?_; (case hd => rfl); (case hg => rfl); (case hr => (go_simp; done)); (case hp => exact (Reps.one (show Kd.M (Kd.int .u32) _ _ _ 1 [.int .u32 1] from rfl) (Reps.none _ _))); intro v679 w7 ho8 hb hg_ hnew_; clear hg_ hnew_; (rw [← Ny678.out] at ho8); have n0_ := Aside0.mk (Kd.R_elder' (by (with_reducible repeat (fail)); exact HO677.out) (Kd.R_base ho8) hb); have n1_ := Aside0.mk (Kd.R_lower (Kd.R_new' ho8 (Kd.R_lt (by (with_reducible repeat (fail)); exact HO677.out))) (below_size (by repeat ((with_reducible exact HB.out))))); have n2_ := Aside0.mk (below_step (by repeat ((with_reducible exact HB.out))) hb); clear HO677; clear HB; have HO677 := n0_; have HO680 := n1_; have HB := n2_; clear n0_ n1_ n2_; clear hb ho8))
   go_ret2
   exact ⟨_, by rfl, by (with_reducible repeat (fail)); exact Kd.R_mono HO680.out (fun _ hk => trivial), by repeat ((with_reducible exact HB.out))⟩
  ·rw [if_neg c5] at H
   have c5b0 : (a1 == 0) = false := beq_eq_false_iff_ne.mpr c5
   have c5b1 : (a1 != 0) = true := bne_iff_ne.mpr c5
   replace H := Option.bind_eq_some_iff.mp H
   obtain ⟨t681, A90, H⟩ := H
   replace H : (if t681 ≤ 1 then (some (t675, 0)) else (if a1 > 131072 then (some (([] : List Int), 8)) else (codewrightref01_Pow.l0 k t675 a1 (([1] : List Int)) 262144))) = some (r1, r2) := H
   have A9 := Aside0.mk A90
   clear A90
   by_cases c10 : t681 ≤ 1
   ·rw [if_pos c10] at H
    have c10b0 : decide (t681 ≤ 1) = true := decide_eq_true c10
    clear c10
    simp only [Option.some.injEq, Prod.mk.injEq] at H
    obtain ⟨rfl, rfl⟩ := H
    go_enter Try.func92, Try.ntmps92
    go_wp2_with (first | ((with_reducible refine gate_callee (f := 97) rfl ?_); refine goesL_ (some 11) rfl rfl Try.func97 (by kernel_rfl) rfl #[.slice A0 l0.length c0] rfl (by (try simp only [List.map_toArray, List.map_cons, List.map_nil]); rfl) ?_; (with_reducible refine (codewrightref01_Trim.calls k _ _ l0 t675 _ ?side1 ?side2 A4.out).mono ?_); (case side1 => exact HR0.out); (case side2 => exact HC0.out); rintro e w11 ⟨v676, rfl, ho0, hb⟩; refine ⟨_, rfl, ?_⟩; have n0_ := Aside0.mk (Kd.R_lower ho0 (below_size (by repeat ((with_reducible exact HB.out))))); have n1_ := Aside0.mk (below_step (by repeat ((with_reducible exact HB.out))) hb); clear HB; have HO677 := n0_; have HB := n1_; clear n0_ n1_; (try clear hb); (try clear ho0); obtain ⟨Ao12, co12, eo12⟩ := Kd.R_slice HO677.out; subst eo12) | ((with_reducible refine gate_callee (f := 116) rfl ?_); refine goesL_ (some 16) rfl rfl Try.func116 (by kernel_rfl) rfl #[.slice Ao12 t675.length co12] rfl (by (try simp only [List.map_toArray, List.map_cons, List.map_nil]); rfl) ?_; (with_reducible refine (codewrightref01_Bits.calls k _ _ t675 t681 _ ?side1 ?side2 A9.out).mono ?_); (case side1 => exact (Kd.R_reads' HO677.out).2.2); (case side2 => exact (Kd.R_reads' HO677.out).2.1); rintro e w13 ⟨rfl, hb⟩; refine ⟨_, rfl, ?_⟩; have n0_ := Aside0.mk (Kd.R_below (by (with_reducible repeat (fail)); exact HO677.out) hb); have n1_ := Aside0.mk (below_step (by repeat ((with_reducible exact HB.out))) hb); clear HO677; clear HB; have HO677 := n0_; have HB := n1_; clear n0_ n1_; (try clear hb)))
    go_ret2
    exact ⟨_, by rfl, by (with_reducible repeat (fail)); exact HO677.out, by repeat ((with_reducible exact HB.out))⟩
   ·rw [if_neg c10] at H
    have c10b0 : decide (t681 ≤ 1) = false := decide_eq_false c10
    clear c10
    by_cases c14 : a1 > 131072
    ·rw [if_pos c14] at H
     have c14b0 : decide (131072 < a1) = true := decide_eq_true c14
     clear c14
     simp only [Option.some.injEq, Prod.mk.injEq] at H
     obtain ⟨rfl, rfl⟩ := H
     go_enter Try.func92, Try.ntmps92
     go_wp2_with (first | ((with_reducible refine gate_callee (f := 97) rfl ?_); refine goesL_ (some 11) rfl rfl Try.func97 (by kernel_rfl) rfl #[.slice A0 l0.length c0] rfl (by (try simp only [List.map_toArray, List.map_cons, List.map_nil]); rfl) ?_; (with_reducible refine (codewrightref01_Trim.calls k _ _ l0 t675 _ ?side1 ?side2 A4.out).mono ?_); (case side1 => exact HR0.out); (case side2 => exact HC0.out); rintro e w15 ⟨v676, rfl, ho0, hb⟩; refine ⟨_, rfl, ?_⟩; have n0_ := Aside0.mk (Kd.R_lower ho0 (below_size (by repeat ((with_reducible exact HB.out))))); have n1_ := Aside0.mk (below_step (by repeat ((with_reducible exact HB.out))) hb); clear HB; have HO677 := n0_; have HB := n1_; clear n0_ n1_; (try clear hb); (try clear ho0); obtain ⟨Ao16, co16, eo16⟩ := Kd.R_slice HO677.out; subst eo16) | ((with_reducible refine gate_callee (f := 116) rfl ?_); refine goesL_ (some 16) rfl rfl Try.func116 (by kernel_rfl) rfl #[.slice Ao16 t675.length co16] rfl (by (try simp only [List.map_toArray, List.map_cons, List.map_nil]); rfl) ?_; (with_reducible refine (codewrightref01_Bits.calls k _ _ t675 t681 _ ?side1 ?side2 A9.out).mono ?_); (case side1 => exact (Kd.R_reads' HO677.out).2.2); (case side2 => exact (Kd.R_reads' HO677.out).2.1); rintro e w17 ⟨rfl, hb⟩; refine ⟨_, rfl, ?_⟩; have n0_ := Aside0.mk (Kd.R_below (by (with_reducible repeat (fail)); exact HO677.out) hb); have n1_ := Aside0.mk (below_step (by repeat ((with_reducible exact HB.out))) hb); clear HO677; clear HB; have HO677 := n0_; have HB := n1_; clear n0_ n1_; (try clear hb)))
     go_ret2
     exact ⟨_, by rfl, by exact Kd.R_nil _ _ _ _ _, by repeat ((with_reducible exact HB.out))⟩
    ·rw [if_neg c14] at H
     have c14b0 : decide (131072 < a1) = false := decide_eq_false c14
     clear c14
     obtain ⟨y682, hy682⟩ : ∃ y_ : List Int, y_ = (([1] : List Int)) := ⟨_, rfl⟩
     replace H : (codewrightref01_Pow.l0 k t675 a1 y682 262144) = some (r1, r2) := by (rw [hy682]; with_reducible exact H)
     have Ny682 := Aside0.mk hy682
     clear hy682
     have H' := Aside0.mk H
     clear H
     go_enter Try.func92, Try.ntmps92
     go_wp2_with (first | ((with_reducible refine gate_callee (f := 97) rfl ?_); refine goesL_ (some 11) rfl rfl Try.func97 (by kernel_rfl) rfl #[.slice A0 l0.length c0] rfl (by (try simp only [List.map_toArray, List.map_cons, List.map_nil]); rfl) ?_; (with_reducible refine (codewrightref01_Trim.calls k _ _ l0 t675 _ ?side1 ?side2 A4.out).mono ?_); (case side1 => exact HR0.out); (case side2 => exact HC0.out); rintro e w18 ⟨v676, rfl, ho0, hb⟩; refine ⟨_, rfl, ?_⟩; have n0_ := Aside0.mk (Kd.R_lower ho0 (below_size (by repeat ((with_reducible exact HB.out))))); have n1_ := Aside0.mk (below_step (by repeat ((with_reducible exact HB.out))) hb); clear HB; have HO677 := n0_; have HB := n1_; clear n0_ n1_; (try clear hb); (try clear ho0); obtain ⟨Ao19, co19, eo19⟩ := Kd.R_slice HO677.out; subst eo19) | ((with_reducible refine gate_callee (f := 116) rfl ?_); refine goesL_ (some 16) rfl rfl Try.func116 (by kernel_rfl) rfl #[.slice Ao19 t675.length co19] rfl (by (try simp only [List.map_toArray, List.map_cons, List.map_nil]); rfl) ?_; (with_reducible refine (codewrightref01_Bits.calls k _ _ t675 t681 _ ?side1 ?side2 A9.out).mono ?_); (case side1 => exact (Kd.R_reads' HO677.out).2.2); (case side2 => exact (Kd.R_reads' HO677.out).2.1); rintro e w20 ⟨rfl, hb⟩; refine ⟨_, rfl, ?_⟩; have n0_ := Aside0.mk (Kd.R_below (by (with_reducible repeat (fail)); exact HO677.out) hb); have n1_ := Aside0.mk (below_step (by repeat ((with_reducible exact HB.out))) hb); clear HO677; clear HB; have HO677 := n0_; have HB := n1_; clear n0_ n1_; (try clear hb)) | ((with_reducible refine gate_dst (N := 21) rfl ?_); refine Kd.R_lit (Kd.int .u32) _ 100 ?hg (N := 21) ?hd (xs := ([1] : List Int)) (inner := [.int .u32 1]) (ok := fun _ => True) (okp := fun _ => True) ?hr ?hp (fun _ hk => hk) trivial (Below.refl _ _) (Nat.le_refl _) (by simp) ?_; (case hd => rfl); (case hg => rfl); (case hr => (go_simp; done)); (case hp => exact (Reps.one (show Kd.M (Kd.int .u32) _ _ _ 1 [.int .u32 1] from rfl) (Reps.none _ _))); intro v683 w21 ho22 hb hg_ hnew_; clear hg_ hnew_; (rw [← Ny682.out] at ho22); have n0_ := Aside0.mk (Kd.R_elder' (by (with_reducible repeat (fail)); exact HO677.out) (Kd.R_base ho22) hb); have n1_ := Aside0.mk (Kd.R_lower (Kd.R_new' ho22 (Kd.R_lt (by (with_reducible repeat (fail)); exact HO677.out))) (below_size (by repeat ((with_reducible exact HB.out))))); have n2_ := Aside0.mk (below_step (by repeat ((with_reducible exact HB.out))) hb); clear HO677; clear HB; have HO677 := n0_; have HO684 := n1_; have HB := n2_; clear n0_ n1_ n2_; clear hb ho22))
     go_loopg [6, 7] k (fun kq v6 v7 w' => ∃ (x6_1 : List Int) (x7_1 : Int), v7 = .int .i64 x7_1 ∧ Aside0 (codewrightref01_Pow.l0 kq t675 a1 x6_1 x7_1 = some (r1, r2)) ∧ Aside0 (kq ≤ k) ∧ Aside0 (Kd.R (Kd.int .u32) 100 w' w.heap.size (fun k_ => some k_ ≠ (v6 : Value).ownBlock) (.slice Ao19 t675.length co19) t675) ∧ Aside0 (Kd.R (Kd.int .u32) 100 w' w.heap.size (fun k_ => some k_ ≠ ((.slice Ao19 t675.length co19) : Value).ownBlock) v6 x6_1) ∧ Aside0 (Below w.heap.size w w'))
     case atStart => exact ⟨(y682), (262144), (by rfl), H', ⟨Nat.le_refl _⟩, ⟨by (with_reducible repeat (fail)); exact Kd.R_mono HO677.out (fun _ hk => hk.2)⟩, ⟨by (with_reducible repeat (fail)); exact Kd.R_mono HO684.out (fun _ hk => hk.2)⟩, ⟨by repeat ((with_reducible exact HB.out))⟩⟩
     case round =>
      clear H'
      try clear c3b0
      try clear c5
      try clear c5b0
      try clear c5b1
      try clear c10b0
      try clear c14b0
      obtain ⟨x6_1, x7_1, rfl, HA, HK1, HO_0, HO_6, HB⟩ := hrel
      cases gk with
      | zero => exact absurd HA.out (by simp [codewrightref01_Pow.l0])
      | succ k1 =>
       have H := HA.out
       clear HA
       simp only [codewrightref01_Pow.l0] at H
       by_cases c23 : x7_1 > 0
       ·rw [if_pos c23] at H
        have c23b0 : decide (0 < x7_1) = true := decide_eq_true c23
        clear c23
        replace H := Option.bind_eq_some_iff.mp H
        obtain ⟨t685, A240, H⟩ := H
        replace H : (if x7_1 = 0 then (none) else (if (Int.tmod (wrap64 (Int.tdiv a1 x7_1)) 2) = 1 then ((codewrightref01_Mul.f k1 t685 t675).bind fun t688 => (codewrightref01_Pow.j1 k1 t675 a1 t688 x7_1)) else (codewrightref01_Pow.j1 k1 t675 a1 t685 x7_1))) = some (r1, r2) := H
        have A24 := Aside0.mk A240
        clear A240
        by_cases c25 : x7_1 = 0
        ·rw [if_pos c25] at H
         exact absurd H (by simp)
        ·rw [if_neg c25] at H
         have c25b0 : (x7_1 == 0) = false := beq_eq_false_iff_ne.mpr c25
         have c25b1 : (x7_1 != 0) = true := bne_iff_ne.mpr c25
         have HC26 := Aside0.mk H
         clear H
         obtain ⟨Ao27, co27, eo27⟩ := Kd.R_slice HO_6.out
         subst eo27
         go_upto_if 33 with (((with_reducible refine gate_callee (f := 68) rfl ?_); refine goesL_ (some 28) rfl rfl Try.func68 (by kernel_rfl) rfl #[.slice Ao27 x6_1.length co27, .slice Ao27 x6_1.length co27] rfl (by (try simp only [List.map_toArray, List.map_cons, List.map_nil]); rfl) ?_; (with_reducible refine (codewrightref01_Mul.calls k1 _ _ x6_1 _ _ x6_1 t685 _ ?side1 ?side2 ?side3 ?side4 A24.out).mono ?_); (case side1 => exact (Kd.R_reads' HO_6.out).2.2); (case side2 => exact (Kd.R_reads' HO_6.out).2.1); (case side3 => exact (Kd.R_reads' HO_6.out).2.2); (case side4 => exact (Kd.R_reads' HO_6.out).2.1); rintro e w28 ⟨v686, rfl, ho0, hb⟩; refine ⟨_, rfl, ?_⟩; have n0_ := Aside0.mk (Kd.R_elder' (by (with_reducible repeat (fail)); exact HO_0.out) (Kd.R_base ho0) hb); have n1_ := Aside0.mk (Kd.R_elder' (by (with_reducible repeat (fail)); exact HO_6.out) (Kd.R_base ho0) hb); have n2_ := Aside0.mk (Kd.R_lower (Kd.R_new' (Kd.R_new' ho0 (Kd.R_lt (by (with_reducible repeat (fail)); exact HO_0.out))) (Kd.R_lt (by (with_reducible repeat (fail)); exact HO_6.out))) (below_size (by repeat ((with_reducible exact HB.out))))); have n3_ := Aside0.mk (below_step (by repeat ((with_reducible exact HB.out))) hb); clear HO_0; clear HO_6; clear HB; have HO_0 := n0_; have HO_6 := n1_; have HO687 := n2_; have HB := n3_; clear n0_ n1_ n2_ n3_; (try clear hb); (try clear ho0)))
         go_cut [6] (fun v6 wc => ∃ (kq : Nat) (x6_25 : List Int), Aside0 (codewrightref01_Pow.j1 kq t675 a1 x6_25 x7_1 = some (r1, r2)) ∧ Aside0 (kq ≤ k1) ∧ Aside0 (Kd.R (Kd.int .u32) 100 wc w.heap.size (fun k_ => some k_ ≠ (v6 : Value).ownBlock) (.slice Ao19 t675.length co19) t675) ∧ Aside0 (Kd.R (Kd.int .u32) 100 wc w.heap.size (fun k_ => some k_ ≠ ((.slice Ao19 t675.length co19) : Value).ownBlock) v6 x6_25) ∧ Aside0 (Below w.heap.size w wc))
         case first =>
          have H := HC26.out
          clear HC26
          by_cases c29 : (Int.tmod (wrap64 (Int.tdiv a1 x7_1)) 2) = 1
          ·rw [if_pos c29] at H
           have c29b0 : ((Int.tmod (wrap64 (Int.tdiv a1 x7_1)) 2) == 1) = true := beq_iff_eq.mpr c29
           have c29b1 : ((Int.tmod (wrap64 (Int.tdiv a1 x7_1)) 2) != 1) = false := bne_eq_false_iff_eq.mpr c29
           clear c29
           (rw [c29b0])
           replace H := Option.bind_eq_some_iff.mp H
           obtain ⟨t688, A300, H⟩ := H
           replace H : (codewrightref01_Pow.j1 k1 t675 a1 t688 x7_1) = some (r1, r2) := H
           have A30 := Aside0.mk A300
           clear A300
           have H' := Aside0.mk H
           clear H
           obtain ⟨Ao31, co31, eo31⟩ := Kd.R_slice HO687.out
           subst eo31
           go_wp2_with (((with_reducible refine gate_callee (f := 68) rfl ?_); refine goesL_ (some 36) rfl rfl Try.func68 (by kernel_rfl) rfl #[.slice Ao31 t685.length co31, .slice Ao19 t675.length co19] rfl (by (try simp only [List.map_toArray, List.map_cons, List.map_nil]); rfl) ?_; (with_reducible refine (codewrightref01_Mul.calls k1 _ _ t685 _ _ t675 t688 _ ?side1 ?side2 ?side3 ?side4 A30.out).mono ?_); (case side1 => exact (Kd.R_reads' HO687.out).2.2); (case side2 => exact (Kd.R_reads' HO687.out).2.1); (case side3 => exact (Kd.R_reads' HO_0.out).2.2); (case side4 => exact (Kd.R_reads' HO_0.out).2.1); rintro e w32 ⟨v689, rfl, ho0, hb⟩; refine ⟨_, rfl, ?_⟩; have n0_ := Aside0.mk (Kd.R_elder' (by (with_reducible repeat (fail)); exact HO_0.out) (Kd.R_base ho0) hb); have n1_ := Aside0.mk (Kd.R_elder' (by (with_reducible repeat (fail)); exact HO_6.out) (Kd.R_base ho0) hb); have n2_ := Aside0.mk (Kd.R_elder' (by (with_reducible repeat (fail)); exact HO687.out) (Kd.R_base ho0) hb); have n3_ := Aside0.mk (Kd.R_lower (Kd.R_new' (Kd.R_new' (Kd.R_new' ho0 (Kd.R_lt (by (with_reducible repeat (fail)); exact HO_0.out))) (Kd.R_lt (by (with_reducible repeat (fail)); exact HO_6.out))) (Kd.R_lt (by (with_reducible repeat (fail)); exact HO687.out))) (below_size (by repeat ((with_reducible exact HB.out))))); have n4_ := Aside0.mk (below_step (by repeat ((with_reducible exact HB.out))) hb); clear HO_0; clear HO_6; clear HO687; clear HB; have HO_0 := n0_; have HO_6 := n1_; have HO687 := n2_; have HO690 := n3_; have HB := n4_; clear n0_ n1_ n2_ n3_ n4_; (try clear hb); (try clear ho0)))
           go_meet
           case rel => exact ⟨_, (t688), H', ⟨by have := HK1.out; omega⟩, ⟨by (with_reducible repeat (fail)); exact Kd.R_mono HO_0.out (fun _ hk => hk.2)⟩, ⟨by (with_reducible repeat (fail)); exact Kd.R_mono HO690.out (fun _ hk => hk.1.1.2)⟩, ⟨by repeat ((with_reducible exact HB.out))⟩⟩
          ·rw [if_neg c29] at H
           have c29b0 : ((Int.tmod (wrap64 (Int.tdiv a1 x7_1)) 2) == 1) = false := beq_eq_false_iff_ne.mpr c29
           have c29b1 : ((Int.tmod (wrap64 (Int.tdiv a1 x7_1)) 2) != 1) = true := bne_iff_ne.mpr c29
           (rw [c29b0])
           have H' := Aside0.mk H
           clear H
           go_wp2
           go_meet
           case rel => exact ⟨_, (t685), H', ⟨by have := HK1.out; omega⟩, ⟨by (with_reducible repeat (fail)); exact Kd.R_mono HO_0.out (fun _ hk => hk.2)⟩, ⟨by (with_reducible repeat (fail)); exact Kd.R_mono HO687.out (fun _ hk => hk.1.2)⟩, ⟨by repeat ((with_reducible exact HB.out))⟩⟩
         case rest =>
          clear HC26
          try clear c23b0
          try clear c25
          try clear c25b0
          try clear c25b1
          obtain ⟨kq, x6_25, HA, HJ25, HO_0, HO_6, HB⟩ := hcut
          cases kq with
          | zero => exact absurd HA.out (by simp [codewrightref01_Pow.j1])
          | succ kj25 =>
           have H := HA.out
           clear HA
           simp only [codewrightref01_Pow.j1] at H
           by_cases c33 : (x6_25.length : Int) > 4096
           ·rw [if_pos c33] at H
            have c33b0 : decide (4096 < (x6_25.length : Int)) = true := decide_eq_true c33
            have c33b1 : decide (4096 < x6_25.length) = true := decide_eq_true (by omega)
            clear c33
            simp only [Option.some.injEq, Prod.mk.injEq] at H
            obtain ⟨rfl, rfl⟩ := H
            obtain ⟨Ao34, co34, eo34⟩ := Kd.R_slice HO_6.out
            subst eo34
            go_wp2
            go_ret2
            exact ⟨_, by rfl, by exact Kd.R_nil _ _ _ _ _, by repeat ((with_reducible exact HB.out))⟩
           ·rw [if_neg c33] at H
            have c33b0 : decide (4096 < (x6_25.length : Int)) = false := decide_eq_false c33
            have c33b1 : decide (4096 < x6_25.length) = false := decide_eq_false (by omega)
            clear c33
            have H' := Aside0.mk H
            clear H
            obtain ⟨Ao35, co35, eo35⟩ := Kd.R_slice HO_6.out
            subst eo35
            go_wp2
            go_roundg kj25
            case measure => have := HK1.out; have := HJ25.out; omega
            case rel => exact ⟨(x6_25), (wrap64 (Int.tdiv x7_1 2)), (by rfl), H', ⟨by have := HK1.out; have := HJ25.out; omega⟩, ⟨by (with_reducible repeat (fail)); exact HO_0.out⟩, ⟨by (with_reducible repeat (fail)); exact HO_6.out⟩, ⟨by repeat ((with_reducible exact HB.out))⟩⟩
       ·rw [if_neg c23] at H
        have c23b0 : decide (0 < x7_1) = false := decide_eq_false c23
        clear c23
        simp only [Option.some.injEq, Prod.mk.injEq] at H
        obtain ⟨rfl, rfl⟩ := H
        go_wp2
        go_ret2
        exact ⟨_, by rfl, by (with_reducible repeat (fail)); exact Kd.R_mono HO_6.out (fun _ hk => trivial), by repeat ((with_reducible exact HB.out))⟩
end Go.Proofs.Ythheakfgmombdaa.F
end
section
namespace Go.Proofs.Ythheakfgmombdaa.F
open Go.RowKit Go.Proofs.YthheakfgmombdaaX.PrintWords Go.Proofs.YthheakfgmombdaaX.PrintLast Go.Proofs.YthheakfgmombdaaX.PrintMore
attribute [local go_sem] max2_int min2_int max_two min_two max_three min_three max_four min_four   -- for this text's walks alone
set_option linter.unusedVariables false
set_option linter.unusedSimpArgs false
set_option maxHeartbeats 8000000 in
set_option maxRecDepth 100000 in
theorem codewrightref24_Krawtchouk.calls (k : Nat) (a0 : Int) (a1 : Int) (a2 : Int) (a3 : Int) (r1 : Bool) (r2 : List Int) (r3 : List Int) (w : World) (h : codewrightref24_Krawtchouk.f k a0 a1 a2 a3 = some (r1, r2, r3)) :
  Calls Try.prog 66 #[.int .i64 a0, .int .i64 a1, .int .i64 a2, .int .i64 a3] w fun e w' => ∃ v1_ v2_ : Value, e = .returned (.agg #[.bool r1, v1_, v2_]) ∧ Kd.R (Kd.int .u32) 100 w' w.heap.size (fun k_ => some k_ ≠ (v2_ : Value).ownBlock) v1_ r2 ∧ Kd.R (Kd.int .u32) 100 w' w.heap.size (fun k_ => some k_ ≠ (v1_ : Value).ownBlock) v2_ r3 ∧ Below w.heap.size w w' := by
 have hu46 := Try.underlying46
 have HB := Aside0.mk (Below.refl w.heap.size w)
 have H : ((codewrightref02_Int.f k 0).bind fun bt692 => (codewrightref24_Krawtchouk.l0 k a0 a1 a2 a3 0 bt692.1 bt692.2.1 bt692.2.2)) = some (r1, r2, r3) := h
 clear h
 replace H := Option.bind_eq_some_iff.mp H
 obtain ⟨⟨t692, t693, t696⟩, A50, H⟩ := H
 replace H : (codewrightref24_Krawtchouk.l0 k a0 a1 a2 a3 0 t692 t693 t696) = some (r1, r2, r3) := H
 have A5 := Aside0.mk A50
 clear A50
 have H' := Aside0.mk H
 clear H
 go_enter Try.func66, Try.ntmps66
 go_wp2_with (first | ((with_reducible refine gate_dst (N := 8) rfl ?_); refine box_event ?hg (N := 8) ?hd (cs := #[.bool false, .slice none 0 0, .slice none 0 0]) (t := 46) ?hr ?_; (case hd => rfl); (case hg => rfl); (case hr => (go_simp; done)); intro gb691 hg w6 hbox hb; have n0_ := Aside0.mk (below_step (by repeat ((with_reducible exact HB.out))) hb); have n1_ := Aside0.mk (hbox); have n2_ := Aside0.mk ((by rw [hg]; exact (below_size (by repeat ((with_reducible exact HB.out)))) : w.heap.size ≤ gb691)); have n3_ := Aside0.mk ((by rw [hg]; exact (below_size (by repeat ((with_reducible exact HB.out)))) : w.heap.size ≤ gb691)); clear HB; have HB := n0_; have BK691 := n1_; have GW691 := n2_; have GE691 := n3_; clear n0_ n1_ n2_ n3_; clear hb hbox hg) | ((with_reducible refine gate_callee (f := 30) rfl ?_); refine goesL_ (some 14) rfl rfl Try.func30 (by kernel_rfl) rfl #[.int .i64 0] rfl (by (try simp only [List.map_toArray, List.map_cons, List.map_nil]); rfl) ?_; (with_reducible refine (codewrightref02_Int.calls k 0 t692 t693 t696 _ A5.out).mono ?_); rintro e w7 ⟨v694, v697, rfl, ho0, ho1, hb⟩; refine ⟨_, rfl, ?_⟩; have n0_ := Aside0.mk (Kd.R_lower ho0 (below_size (by repeat ((with_reducible exact HB.out))))); have n1_ := Aside0.mk (Kd.R_lower ho1 (below_size (by repeat ((with_reducible exact HB.out))))); have n2_ := Aside0.mk (blk_below (g := gb691) (o := .cells #[.bool false, .slice none 0 0, .slice none 0 0] 46 (0, 0)) (by (with_reducible repeat (fail)); exact BK691.out) hb); have n3_ := Aside0.mk (below_step (by repeat ((with_reducible exact HB.out))) hb); clear BK691; clear HB; have HO695 := n0_; have HO698 := n1_; have BK691 := n2_; have HB := n3_; clear n0_ n1_ n2_ n3_; (try clear hb); (try clear ho0); (try clear ho1)) | ((with_reducible refine gate_dst (N := 9) rfl ?_); refine box_event ?hg (N := 9) ?hd (cs := #[.bool false, .slice none 0 0, .slice none 0 0]) (t := 46) ?hr ?_; (case hd => rfl); (case hg => rfl); (case hr => (go_simp; done)); intro gb699 hg w8 hbox hb; have n0_ := Aside0.mk (Kd.R_below (by (with_reducible repeat (fail)); exact HO695.out) hb); have n1_ := Aside0.mk (Kd.R_below (by (with_reducible repeat (fail)); exact HO698.out) hb); have n2_ := Aside0.mk (blk_below (g := gb691) (o := .cells #[.bool false, .slice none 0 0, .slice none 0 0] 46 (0, 0)) (by (with_reducible repeat (fail)); exact BK691.out) hb); have n3_ := Aside0.mk (below_step (by repeat ((with_reducible exact HB.out))) hb); have n4_ := Aside0.mk (hbox); have n5_ := Aside0.mk ((by rw [hg]; exact (below_size (by repeat ((with_reducible exact HB.out)))) : w.heap.size ≤ gb699)); have n6_ := Aside0.mk ((by rw [hg]; exact (below_size (by repeat ((with_reducible exact HB.out)))) : w.heap.size ≤ gb699)); have n7_ := Aside0.mk ((by rw [hg]; exact Nat.ne_of_lt (blk_lt (g := gb691) (o := .cells #[.bool false, .slice none 0 0, .slice none 0 0] 46 (0, 0)) (by (with_reducible repeat (fail)); exact BK691.out)) : gb691 ≠ gb699)); have n8_ := Aside0.mk ((by rw [hg]; exact Nat.ne_of_gt (blk_lt (g := gb691) (o := .cells #[.bool false, .slice none 0 0, .slice none 0 0] 46 (0, 0)) (by (with_reducible repeat (fail)); exact BK691.out)) : gb699 ≠ gb691)); clear HO695; clear HO698; clear BK691; clear HB; have HO695 := n0_; have HO698 := n1_; have BK691 := n2_; have HB := n3_; have BK699 := n4_; have GW699 := n5_; have GE699 := n6_; have NB691_699 := n7_; have NB699_691 := n8_; clear n0_ n1_ n2_ n3_ n4_ n5_ n6_ n7_ n8_; clear hb hbox hg; have hnb9 := NB699_691.out; have hnc9 := NB691_699.out; have hcz10_0 : w8.cell? ⟨gb699, 0, none⟩ = some (.bool false) := (blk_cell BK699.out 0).trans rfl; have hcz10_1 : w8.cell? ⟨gb699, 1, none⟩ = some (.slice none 0 0) := (blk_cell BK699.out 1).trans rfl; have hcz10_2 : w8.cell? ⟨gb699, 2, none⟩ = some (.slice none 0 0) := (blk_cell BK699.out 2).trans rfl; have hfz10_0 := blk_frozen BK699.out 0; have hfz10_1 := blk_frozen BK699.out 1; have hfz10_2 := blk_frozen BK699.out 2; obtain ⟨Ao11, co11, eo11⟩ := Kd.R_slice HO695.out; subst eo11; obtain ⟨Ao12, co12, eo12⟩ := Kd.R_slice HO698.out; subst eo12))
 go_loopg [10] k (fun kq v10 w' => ∃ (x10_1 : Int) (x700000_1 : Bool) (x700001_1 : List Int) (x700002_1 : List Int) (u700001 : Value) (u700002 : Value), v10 = .int .i64 x10_1 ∧ Aside0 (codewrightref24_Krawtchouk.l0 kq a0 a1 a2 a3 x10_1 x700000_1 x700001_1 x700002_1 = some (r1, r2, r3)) ∧ Aside0 (kq ≤ k) ∧ Aside0 (Kd.R (Kd.int .u32) 100 w' w.heap.size (fun k_ => some k_ ≠ (u700002 : Value).ownBlock) u700001 x700001_1) ∧ Aside0 (Kd.R (Kd.int .u32) 100 w' w.heap.size (fun k_ => some k_ ≠ (u700001 : Value).ownBlock) u700002 x700002_1) ∧ Aside0 (w'.heap[gb691]? = some (.cells #[.bool false, (.slice none 0 0), (.slice none 0 0)] 46 (0, 0))) ∧ Aside0 (w'.heap[gb699]? = some (.cells #[.bool x700000_1, u700001, u700002] 46 (0, 0))) ∧ Aside0 (Below w.heap.size w w'))
 case atStart => exact ⟨(0), (t692), (t693), (t696), (.slice Ao11 t693.length co11), (.slice Ao12 t696.length co12), (by rfl), H', ⟨Nat.le_refl _⟩, ⟨by (with_reducible repeat (fail)); exact Kd.R_mono (Kd.R_far (p := ⟨gb699, 2, none⟩) (Kd.R_far (p := ⟨gb699, 1, none⟩) (Kd.R_far (p := ⟨gb699, 0, none⟩) (Kd.R_types HO695.out BK699.out (by decide)) (fun _ hk => hk.2) (.bool t692)) (fun _ hk => hk.2) (.slice Ao11 t693.length co11)) (fun _ hk => hk.2) (.slice Ao12 t696.length co12)) (fun _ hk => hk.1)⟩, ⟨by (with_reducible repeat (fail)); exact Kd.R_mono (Kd.R_far (p := ⟨gb699, 2, none⟩) (Kd.R_far (p := ⟨gb699, 1, none⟩) (Kd.R_far (p := ⟨gb699, 0, none⟩) (Kd.R_types HO698.out BK699.out (by decide)) (fun _ hk => hk.2) (.bool t692)) (fun _ hk => hk.2) (.slice Ao11 t693.length co11)) (fun _ hk => hk.2) (.slice Ao12 t696.length co12)) (fun _ hk => hk.1)⟩, ⟨by (with_reducible repeat (fail)); refine blk_far ?_ NB691_699.out _; (with_reducible repeat (fail)); refine blk_far ?_ NB691_699.out _; (with_reducible repeat (fail)); refine blk_far ?_ NB691_699.out _; (with_reducible repeat (fail)); exact BK691.out⟩, ⟨by (with_reducible repeat (fail)); refine blk_put (cs := #[.bool t692, .slice Ao11 t693.length co11, .slice none 0 0]) ?_ 2 _ rfl; (with_reducible repeat (fail)); refine blk_put (cs := #[.bool t692, .slice none 0 0, .slice none 0 0]) ?_ 1 _ rfl; (with_reducible repeat (fail)); refine blk_put (cs := #[.bool false, .slice none 0 0, .slice none 0 0]) ?_ 0 _ rfl; (with_reducible repeat (fail)); exact BK699.out⟩, ⟨by repeat ((with_reducible first | exact HB.out | refine below_set ?_ GE699.out))⟩⟩
 case round =>
  clear H'
  try clear hcz10_0
  try clear hcz10_1
  try clear hcz10_2
  try clear hfz10_0
  try clear hfz10_1
  try clear hfz10_2
  obtain ⟨x10_1, x700000_1, x700001_1, x700002_1, u700001, u700002, rfl, HA, HK1, HO_700001, HO_700002, BK691, BK699, HB⟩ := hrel
  cases gk with
  | zero => exact absurd HA.out (by simp [codewrightref24_Krawtchouk.l0])
  | succ k1 =>
   have H := HA.out
   clear HA
   simp only [codewrightref24_Krawtchouk.l0] at H
   by_cases c13 : x10_1 ≤ a2
   ·rw [if_pos c13] at H
    have c13b0 : decide (x10_1 ≤ a2) = true := decide_eq_true c13
    clear c13
    replace H := Option.bind_eq_some_iff.mp H
    obtain ⟨t700, A140, H⟩ := H
    replace H : ((codewrightref01_Pow.f k1 t700 (wrap64 (a2 - x10_1))).bind fun bt703 => ((codewrightref01_Choose.f k1 a3 x10_1).bind fun t707 => ((codewrightref01_Choose.f k1 (wrap64 (a1 - a3)) (wrap64 (a2 - x10_1))).bind fun t710 => ((codewrightref01_Mul.f k1 t707 t710).bind fun t713 => ((codewrightref01_Mul.f k1 bt703.1 t713).bind fun t716 => ((codewrightref02_Nat.f k1 t716).bind fun bt719 => (if (Int.tmod x10_1 2) = 1 then ((codewrightref02_Neg.f k1 bt719.1 bt719.2.1 bt719.2.2).bind fun bt727 => ((codewrightref02_Add.f k1 x700000_1 x700001_1 x700002_1 bt727.1 bt727.2.1 bt727.2.2).bind fun bt734 => (codewrightref24_Krawtchouk.l0 k1 a0 a1 a2 a3 (wrap64 (x10_1 + 1)) bt734.1 bt734.2.1 bt734.2.2))) else ((codewrightref02_Add.f k1 x700000_1 x700001_1 x700002_1 bt719.1 bt719.2.1 bt719.2.2).bind fun bt741 => (codewrightref24_Krawtchouk.l0 k1 a0 a1 a2 a3 (wrap64 (x10_1 + 1)) bt741.1 bt741.2.1 bt741.2.2))))))))) = some (r1, r2, r3) := H
    have A14 := Aside0.mk A140
    clear A140
    replace H := Option.bind_eq_some_iff.mp H
    obtain ⟨⟨t703, t704⟩, A150, H⟩ := H
    replace H : ((codewrightref01_Choose.f k1 a3 x10_1).bind fun t707 => ((codewrightref01_Choose.f k1 (wrap64 (a1 - a3)) (wrap64 (a2 - x10_1))).bind fun t710 => ((codewrightref01_Mul.f k1 t707 t710).bind fun t713 => ((codewrightref01_Mul.f k1 t703 t713).bind fun t716 => ((codewrightref02_Nat.f k1 t716).bind fun bt719 => (if (Int.tmod x10_1 2) = 1 then ((codewrightref02_Neg.f k1 bt719.1 bt719.2.1 bt719.2.2).bind fun bt727 => ((codewrightref02_Add.f k1 x700000_1 x700001_1 x700002_1 bt727.1 bt727.2.1 bt727.2.2).bind fun bt734 => (codewrightref24_Krawtchouk.l0 k1 a0 a1 a2 a3 (wrap64 (x10_1 + 1)) bt734.1 bt734.2.1 bt734.2.2))) else ((codewrightref02_Add.f k1 x700000_1 x700001_1 x700002_1 bt719.1 bt719.2.1 bt719.2.2).bind fun bt741 => (codewrightref24_Krawtchouk.l0 k1 a0 a1 a2 a3 (wrap64 (x10_1 + 1)) bt741.1 bt741.2.1 bt741.2.2)))))))) = some (r1, r2, r3) := H
    have A15 := Aside0.mk A150
    clear A150
    replace H := Option.bind_eq_some_iff.mp H
    obtain ⟨t707, A160, H⟩ := H
    replace H : ((codewrightref01_Choose.f k1 (wrap64 (a1 - a3)) (wrap64 (a2 - x10_1))).bind fun t710 => ((codewrightref01_Mul.f k1 t707 t710).bind fun t713 => ((codewrightref01_Mul.f k1 t703 t713).bind fun t716 => ((codewrightref02_Nat.f k1 t716).bind fun bt719 => (if (Int.tmod x10_1 2) = 1 then ((codewrightref02_Neg.f k1 bt719.1 bt719.2.1 bt719.2.2).bind fun bt727 => ((codewrightref02_Add.f k1 x700000_1 x700001_1 x700002_1 bt727.1 bt727.2.1 bt727.2.2).bind fun bt734 => (codewrightref24_Krawtchouk.l0 k1 a0 a1 a2 a3 (wrap64 (x10_1 + 1)) bt734.1 bt734.2.1 bt734.2.2))) else ((codewrightref02_Add.f k1 x700000_1 x700001_1 x700002_1 bt719.1 bt719.2.1 bt719.2.2).bind fun bt741 => (codewrightref24_Krawtchouk.l0 k1 a0 a1 a2 a3 (wrap64 (x10_1 + 1)) bt741.1 bt741.2.1 bt741.2.2))))))) = some (r1, r2, r3) := H
    have A16 := Aside0.mk A160
    clear A160
    replace H := Option.bind_eq_some_iff.mp H
    obtain ⟨t710, A170, H⟩ := H
    replace H : ((codewrightref01_Mul.f k1 t707 t710).bind fun t713 => ((codewrightref01_Mul.f k1 t703 t713).bind fun t716 => ((codewrightref02_Nat.f k1 t716).bind fun bt719 => (if (Int.tmod x10_1 2) = 1 then ((codewrightref02_Neg.f k1 bt719.1 bt719.2.1 bt719.2.2).bind fun bt727 => ((codewrightref02_Add.f k1 x700000_1 x700001_1 x700002_1 bt727.1 bt727.2.1 bt727.2.2).bind fun bt734 => (codewrightref24_Krawtchouk.l0 k1 a0 a1 a2 a3 (wrap64 (x10_1 + 1)) bt734.1 bt734.2.1 bt734.2.2))) else ((codewrightref02_Add.f k1 x700000_1 x700001_1 x700002_1 bt719.1 bt719.2.1 bt719.2.2).bind fun bt741 => (codewrightref24_Krawtchouk.l0 k1 a0 a1 a2 a3 (wrap64 (x10_1 + 1)) bt741.1 bt741.2.1 bt741.2.2)))))) = some (r1, r2, r3) := H
    have A17 := Aside0.mk A170
    clear A170
    replace H := Option.bind_eq_some_iff.mp H
    obtain ⟨t713, A180, H⟩ := H
    replace H : ((codewrightref01_Mul.f k1 t703 t713).bind fun t716 => ((codewrightref02_Nat.f k1 t716).bind fun bt719 => (if (Int.tmod x10_1 2) = 1 then ((codewrightref02_Neg.f k1 bt719.1 bt719.2.1 bt719.2.2).bind fun bt727 => ((codewrightref02_Add.f k1 x700000_1 x700001_1 x700002_1 bt727.1 bt727.2.1 bt727.2.2).bind fun bt734 => (codewrightref24_Krawtchouk.l0 k1 a0 a1 a2 a3 (wrap64 (x10_1 + 1)) bt734.1 bt734.2.1 bt734.2.2))) else ((codewrightref02_Add.f k1 x700000_1 x700001_1 x700002_1 bt719.1 bt719.2.1 bt719.2.2).bind fun bt741 => (codewrightref24_Krawtchouk.l0 k1 a0 a1 a2 a3 (wrap64 (x10_1 + 1)) bt741.1 bt741.2.1 bt741.2.2))))) = some (r1, r2, r3) := H
    have A18 := Aside0.mk A180
    clear A180
    replace H := Option.bind_eq_some_iff.mp H
    obtain ⟨t716, A190, H⟩ := H
    replace H : ((codewrightref02_Nat.f k1 t716).bind fun bt719 => (if (Int.tmod x10_1 2) = 1 then ((codewrightref02_Neg.f k1 bt719.1 bt719.2.1 bt719.2.2).bind fun bt727 => ((codewrightref02_Add.f k1 x700000_1 x700001_1 x700002_1 bt727.1 bt727.2.1 bt727.2.2).bind fun bt734 => (codewrightref24_Krawtchouk.l0 k1 a0 a1 a2 a3 (wrap64 (x10_1 + 1)) bt734.1 bt734.2.1 bt734.2.2))) else ((codewrightref02_Add.f k1 x700000_1 x700001_1 x700002_1 bt719.1 bt719.2.1 bt719.2.2).bind fun bt741 => (codewrightref24_Krawtchouk.l0 k1 a0 a1 a2 a3 (wrap64 (x10_1 + 1)) bt741.1 bt741.2.1 bt741.2.2)))) = some (r1, r2, r3) := H
    have A19 := Aside0.mk A190
    clear A190
    replace H := Option.bind_eq_some_iff.mp H
    obtain ⟨⟨t719, t720, t723⟩, A200, H⟩ := H
    replace H : (if (Int.tmod x10_1 2) = 1 then ((codewrightref02_Neg.f k1 t719 t720 t723).bind fun bt727 => ((codewrightref02_Add.f k1 x700000_1 x700001_1 x700002_1 bt727.1 bt727.2.1 bt727.2.2).bind fun bt734 => (codewrightref24_Krawtchouk.l0 k1 a0 a1 a2 a3 (wrap64 (x10_1 + 1)) bt734.1 bt734.2.1 bt734.2.2))) else ((codewrightref02_Add.f k1 x700000_1 x700001_1 x700002_1 t719 t720 t723).bind fun bt741 => (codewrightref24_Krawtchouk.l0 k1 a0 a1 a2 a3 (wrap64 (x10_1 + 1)) bt741.1 bt741.2.1 bt741.2.2))) = some (r1, r2, r3) := H
    have A20 := Aside0.mk A200
    clear A200
    by_cases c21 : (Int.tmod x10_1 2) = 1
    ·rw [if_pos c21] at H
     have c21b0 : ((Int.tmod x10_1 2) == 1) = true := beq_iff_eq.mpr c21
     have c21b1 : ((Int.tmod x10_1 2) != 1) = false := bne_eq_false_iff_eq.mpr c21
     clear c21
     replace H := Option.bind_eq_some_iff.mp H
     obtain ⟨⟨t727, t728, t731⟩, A220, H⟩ := H
     replace H : ((codewrightref02_Add.f k1 x700000_1 x700001_1 x700002_1 t727 t728 t731).bind fun bt734 => (codewrightref24_Krawtchouk.l0 k1 a0 a1 a2 a3 (wrap64 (x10_1 + 1)) bt734.1 bt734.2.1 bt734.2.2)) = some (r1, r2, r3) := H
     have A22 := Aside0.mk A220
     clear A220
     replace H := Option.bind_eq_some_iff.mp H
     obtain ⟨⟨t734, t735, t738⟩, A230, H⟩ := H
     replace H : (codewrightref24_Krawtchouk.l0 k1 a0 a1 a2 a3 (wrap64 (x10_1 + 1)) t734 t735 t738) = some (r1, r2, r3) := H
     have A23 := Aside0.mk A230
     clear A230
     have H' := Aside0.mk H
     clear H
     go_wp2_with (first | ((with_reducible refine gate_callee (f := 80) rfl ?_); refine goesL_ (some 24) rfl rfl Try.func80 (by kernel_rfl) rfl #[.int .u64 (IntKind.u64.wrap (wrap64 (a0 - 1)))] rfl (by (try simp only [List.map_toArray, List.map_cons, List.map_nil]); rfl) ?_; (with_reducible refine (codewrightref01_Of.calls k1 (IntKind.u64.wrap (wrap64 (a0 - 1))) t700 _ A14.out).mono ?_); rintro e w24 ⟨v701, rfl, ho0, hb⟩; refine ⟨_, rfl, ?_⟩; have n0_ := Aside0.mk (Kd.R_elder' (by (with_reducible repeat (fail)); exact HO_700001.out) (Kd.R_base ho0) hb); have n1_ := Aside0.mk (Kd.R_elder' (by (with_reducible repeat (fail)); exact HO_700002.out) (Kd.R_base ho0) hb); have n2_ := Aside0.mk (Kd.R_lower (Kd.R_new' (Kd.R_new' ho0 (Kd.R_lt (by (with_reducible repeat (fail)); exact HO_700001.out))) (Kd.R_lt (by (with_reducible repeat (fail)); exact HO_700002.out))) (below_size (by repeat ((with_reducible exact HB.out))))); have n3_ := Aside0.mk (blk_below (g := gb691) (o := .cells #[.bool false, .slice none 0 0, .slice none 0 0] 46 (0, 0)) (by (with_reducible repeat (fail)); exact BK691.out) hb); have n4_ := Aside0.mk (blk_below (g := gb699) (o := .cells #[.bool x700000_1, u700001, u700002] 46 (0, 0)) (by (with_reducible repeat (fail)); exact BK699.out) hb); have n5_ := Aside0.mk (below_step (by repeat ((with_reducible exact HB.out))) hb); clear HO_700001; clear HO_700002; clear BK691; clear BK699; clear HB; have HO_700001 := n0_; have HO_700002 := n1_; have HO702 := n2_; have BK691 := n3_; have BK699 := n4_; have HB := n5_; clear n0_ n1_ n2_ n3_ n4_ n5_; (try clear hb); (try clear ho0); obtain ⟨Ao25, co25, eo25⟩ := Kd.R_slice HO702.out; subst eo25) | ((with_reducible refine gate_callee (f := 92) rfl ?_); refine goesL_ (some 28) rfl rfl Try.func92 (by kernel_rfl) rfl #[.slice Ao25 t700.length co25, .int .i64 (wrap64 (a2 - x10_1))] rfl (by (try simp only [List.map_toArray, List.map_cons, List.map_nil]); rfl) ?_; (with_reducible refine (codewrightref01_Pow.calls k1 _ _ t700 (wrap64 (a2 - x10_1)) t703 t704 _ ?side1 ?side2 A15.out).mono ?_); (case side1 => exact (Kd.R_reads' HO702.out).2.2); (case side2 => exact (Kd.R_reads' HO702.out).2.1); rintro e w26 ⟨v705, rfl, ho0, hb⟩; refine ⟨_, rfl, ?_⟩; have n0_ := Aside0.mk (Kd.R_elder' (by (with_reducible repeat (fail)); exact HO_700001.out) (Kd.R_base ho0) hb); have n1_ := Aside0.mk (Kd.R_elder' (by (with_reducible repeat (fail)); exact HO_700002.out) (Kd.R_base ho0) hb); have n2_ := Aside0.mk (Kd.R_elder' (by (with_reducible repeat (fail)); exact HO702.out) (Kd.R_base ho0) hb); have n3_ := Aside0.mk (Kd.R_lower (Kd.R_new' (Kd.R_new' (Kd.R_new' ho0 (Kd.R_lt (by (with_reducible repeat (fail)); exact HO_700001.out))) (Kd.R_lt (by (with_reducible repeat (fail)); exact HO_700002.out))) (Kd.R_lt (by (with_reducible repeat (fail)); exact HO702.out))) (below_size (by repeat ((with_reducible exact HB.out))))); have n4_ := Aside0.mk (blk_below (g := gb691) (o := .cells #[.bool false, .slice none 0 0, .slice none 0 0] 46 (0, 0)) (by (with_reducible repeat (fail)); exact BK691.out) hb); have n5_ := Aside0.mk (blk_below (g := gb699) (o := .cells #[.bool x700000_1, u700001, u700002] 46 (0, 0)) (by (with_reducible repeat (fail)); exact BK699.out) hb); have n6_ := Aside0.mk (below_step (by repeat ((with_reducible exact HB.out))) hb); clear HO_700001; clear HO_700002; clear HO702; clear BK691; clear BK699; clear HB; have HO_700001 := n0_; have HO_700002 := n1_; have HO702 := n2_; have HO706 := n3_; have BK691 := n4_; have BK699 := n5_; have HB := n6_; clear n0_ n1_ n2_ n3_ n4_ n5_ n6_; (try clear hb); (try clear ho0)) | ((with_reducible refine gate_callee (f := 91) rfl ?_); refine goesL_ (some 34) rfl rfl Try.func91 (by kernel_rfl) rfl #[.int .i64 a3, .int .i64 x10_1] rfl (by (try simp only [List.map_toArray, List.map_cons, List.map_nil]); rfl) ?_; (with_reducible refine (codewrightref01_Choose.calls k1 a3 x10_1 t707 _ A16.out).mono ?_); rintro e w27 ⟨v708, rfl, ho0, hb⟩; refine ⟨_, rfl, ?_⟩; have n0_ := Aside0.mk (Kd.R_elder' (by (with_reducible repeat (fail)); exact HO_700001.out) (Kd.R_base ho0) hb); have n1_ := Aside0.mk (Kd.R_elder' (by (with_reducible repeat (fail)); exact HO_700002.out) (Kd.R_base ho0) hb); have n2_ := Aside0.mk (Kd.R_elder' (by (with_reducible repeat (fail)); exact HO702.out) (Kd.R_base ho0) hb); have n3_ := Aside0.mk (Kd.R_elder' (by (with_reducible repeat (fail)); exact HO706.out) (Kd.R_base ho0) hb); have n4_ := Aside0.mk (Kd.R_lower (Kd.R_new' (Kd.R_new' (Kd.R_new' (Kd.R_new' ho0 (Kd.R_lt (by (with_reducible repeat (fail)); exact HO_700001.out))) (Kd.R_lt (by (with_reducible repeat (fail)); exact HO_700002.out))) (Kd.R_lt (by (with_reducible repeat (fail)); exact HO702.out))) (Kd.R_lt (by (with_reducible repeat (fail)); exact HO706.out))) (below_size (by repeat ((with_reducible exact HB.out))))); have n5_ := Aside0.mk (blk_below (g := gb691) (o := .cells #[.bool false, .slice none 0 0, .slice none 0 0] 46 (0, 0)) (by (with_reducible repeat (fail)); exact BK691.out) hb); have n6_ := Aside0.mk (blk_below (g := gb699) (o := .cells #[.bool x700000_1, u700001, u700002] 46 (0, 0)) (by (with_reducible repeat (fail)); exact BK699.out) hb); have n7_ := Aside0.mk (below_step (by repeat ((with_reducible exact HB.out))) hb); clear HO_700001; clear HO_700002; clear HO702; clear HO706; clear BK691; clear BK699; clear HB; have HO_700001 := n0_; have HO_700002 := n1_; have HO702 := n2_; have HO706 := n3_; have HO709 := n4_; have BK691 := n5_; have BK699 := n6_; have HB := n7_; clear n0_ n1_ n2_ n3_ n4_ n5_ n6_ n7_; (try clear hb); (try clear ho0)) | ((with_reducible refine gate_callee (f := 91) rfl ?_); refine goesL_ (some 41) rfl rfl Try.func91 (by kernel_rfl) rfl #[.int .i64 (wrap64 (a1 - a3)), .int .i64 (wrap64 (a2 - x10_1))] rfl (by (try simp only [List.map_toArray, List.map_cons, List.map_nil]); rfl) ?_; (with_reducible refine (codewrightref01_Choose.calls k1 (wrap64 (a1 - a3)) (wrap64 (a2 - x10_1)) t710 _ A17.out).mono ?_); rintro e w28 ⟨v711, rfl, ho0, hb⟩; refine ⟨_, rfl, ?_⟩; have n0_ := Aside0.mk (Kd.R_elder' (by (with_reducible repeat (fail)); exact HO_700001.out) (Kd.R_base ho0) hb); have n1_ := Aside0.mk (Kd.R_elder' (by (with_reducible repeat (fail)); exact HO_700002.out) (Kd.R_base ho0) hb); have n2_ := Aside0.mk (Kd.R_elder' (by (with_reducible repeat (fail)); exact HO702.out) (Kd.R_base ho0) hb); have n3_ := Aside0.mk (Kd.R_elder' (by (with_reducible repeat (fail)); exact HO706.out) (Kd.R_base ho0) hb); have n4_ := Aside0.mk (Kd.R_elder' (by (with_reducible repeat (fail)); exact HO709.out) (Kd.R_base ho0) hb); have n5_ := Aside0.mk (Kd.R_lower (Kd.R_new' (Kd.R_new' (Kd.R_new' (Kd.R_new' (Kd.R_new' ho0 (Kd.R_lt (by (with_reducible repeat (fail)); exact HO_700001.out))) (Kd.R_lt (by (with_reducible repeat (fail)); exact HO_700002.out))) (Kd.R_lt (by (with_reducible repeat (fail)); exact HO702.out))) (Kd.R_lt (by (with_reducible repeat (fail)); exact HO706.out))) (Kd.R_lt (by (with_reducible repeat (fail)); exact HO709.out))) (below_size (by repeat ((with_reducible exact HB.out))))); have n6_ := Aside0.mk (blk_below (g := gb691) (o := .cells #[.bool false, .slice none 0 0, .slice none 0 0] 46 (0, 0)) (by (with_reducible repeat (fail)); exact BK691.out) hb); have n7_ := Aside0.mk (blk_below (g := gb699) (o := .cells #[.bool x700000_1, u700001, u700002] 46 (0, 0)) (by (with_reducible repeat (fail)); exact BK699.out) hb); have n8_ := Aside0.mk (below_step (by repeat ((with_reducible exact HB.out))) hb); clear HO_700001; clear HO_700002; clear HO702; clear HO706; clear HO709; clear BK691; clear BK699; clear HB; have HO_700001 := n0_; have HO_700002 := n1_; have HO702 := n2_; have HO706 := n3_; have HO709 := n4_; have HO712 := n5_; have BK691 := n6_; have BK699 := n7_; have HB := n8_; clear n0_ n1_ n2_ n3_ n4_ n5_ n6_ n7_ n8_; (try clear hb); (try clear ho0); obtain ⟨Ao29, co29, eo29⟩ := Kd.R_slice HO709.out; subst eo29; obtain ⟨Ao30, co30, eo30⟩ := Kd.R_slice HO712.out; subst eo30) | ((with_reducible refine gate_callee (f := 68) rfl ?_); refine goesL_ (some 42) rfl rfl Try.func68 (by kernel_rfl) rfl #[.slice Ao29 t707.length co29, .slice Ao30 t710.length co30] rfl (by (try simp only [List.map_toArray, List.map_cons, List.map_nil]); rfl) ?_; (with_reducible refine (codewrightref01_Mul.calls k1 _ _ t707 _ _ t710 t713 _ ?side1 ?side2 ?side3 ?side4 A18.out).mono ?_); (case side1 => exact (Kd.R_reads' HO709.out).2.2); (case side2 => exact (Kd.R_reads' HO709.out).2.1); (case side3 => exact (Kd.R_reads' HO712.out).2.2); (case side4 => exact (Kd.R_reads' HO712.out).2.1); rintro e w31 ⟨v714, rfl, ho0, hb⟩; refine ⟨_, rfl, ?_⟩; have n0_ := Aside0.mk (Kd.R_elder' (by (with_reducible repeat (fail)); exact HO_700001.out) (Kd.R_base ho0) hb); have n1_ := Aside0.mk (Kd.R_elder' (by (with_reducible repeat (fail)); exact HO_700002.out) (Kd.R_base ho0) hb); have n2_ := Aside0.mk (Kd.R_elder' (by (with_reducible repeat (fail)); exact HO702.out) (Kd.R_base ho0) hb); have n3_ := Aside0.mk (Kd.R_elder' (by (with_reducible repeat (fail)); exact HO706.out) (Kd.R_base ho0) hb); have n4_ := Aside0.mk (Kd.R_elder' (by (with_reducible repeat (fail)); exact HO709.out) (Kd.R_base ho0) hb); have n5_ := Aside0.mk (Kd.R_elder' (by (with_reducible repeat (fail)); exact HO712.out) (Kd.R_base ho0) hb); have n6_ := Aside0.mk (Kd.R_lower (Kd.R_new' (Kd.R_new' (Kd.R_new' (Kd.R_new' (Kd.R_new' (Kd.R_new' ho0 (Kd.R_lt (by (with_reducible repeat (fail)); exact HO_700001.out))) (Kd.R_lt (by (with_reducible repeat (fail)); exact HO_700002.out))) (Kd.R_lt (by (with_reducible repeat (fail)); exact HO702.out))) (Kd.R_lt (by (with_reducible repeat (fail)); exact HO706.out))) (Kd.R_lt (by (with_reducible repeat (fail)); exact HO709.out))) (Kd.R_lt (by (with_reducible repeat (fail)); exact HO712.out))) (below_size (by repeat ((with_reducible exact HB.out))))); have n7_ := Aside0.mk (blk_below (g := gb691) (o := .cells #[.bool false, .slice none 0 0, .slice none 0 0] 46 (0, 0)) (by (with_reducible repeat (fail)); exact BK691.out) hb); have n8_ := Aside0.mk (blk_below (g := gb699) (o := .cells #[.bool x700000_1, u700001, u700002] 46 (0, 0)) (by (with_reducible repeat (fail)); exact BK699.out) hb); have n9_ := Aside0.mk (below_step (by repeat ((with_reducible exact HB.out))) hb); clear HO_700001; clear HO_700002; clear HO702; clear HO706; clear HO709; clear HO712; clear BK691; clear BK699; clear HB; have HO_700001 := n0_; have HO_700002 := n1_; have HO702 := n2_; have HO706 := n3_; have HO709 := n4_; have HO712 := n5_; have HO715 := n6_; have BK691 := n7_; have BK699 := n8_; have HB := n9_; clear n0_ n1_ n2_ n3_ n4_ n5_ n6_ n7_ n8_ n9_; (try clear hb); (try clear ho0); obtain ⟨Ao32, co32, eo32⟩ := Kd.R_slice HO706.out; subst eo32; obtain ⟨Ao33, co33, eo33⟩ := Kd.R_slice HO715.out; subst eo33) | ((with_reducible refine gate_callee (f := 68) rfl ?_); refine goesL_ (some 43) rfl rfl Try.func68 (by kernel_rfl) rfl #[.slice Ao32 t703.length co32, .slice Ao33 t713.length co33] rfl (by (try simp only [List.map_toArray, List.map_cons, List.map_nil]); rfl) ?_; (with_reducible refine (codewrightref01_Mul.calls k1 _ _ t703 _ _ t713 t716 _ ?side1 ?side2 ?side3 ?side4 A19.out).mono ?_); (case side1 => exact (Kd.R_reads' HO706.out).2.2); (case side2 => exact (Kd.R_reads' HO706.out).2.1); (case side3 => exact (Kd.R_reads' HO715.out).2.2); (case side4 => exact (Kd.R_reads' HO715.out).2.1); rintro e w34 ⟨v717, rfl, ho0, hb⟩; refine ⟨_, rfl, ?_⟩; have n0_ := Aside0.mk (Kd.R_elder' (by (with_reducible repeat (fail)); exact HO_700001.out) (Kd.R_base ho0) hb); have n1_ := Aside0.mk (Kd.R_elder' (by (with_reducible repeat (fail)); exact HO_700002.out) (Kd.R_base ho0) hb); have n2_ := Aside0.mk (Kd.R_elder' (by (with_reducible repeat (fail)); exact HO702.out) (Kd.R_base ho0) hb); have n3_ := Aside0.mk (Kd.R_elder' (by (with_reducible repeat (fail)); exact HO706.out) (Kd.R_base ho0) hb); have n4_ := Aside0.mk (Kd.R_elder' (by (with_reducible repeat (fail)); exact HO709.out) (Kd.R_base ho0) hb); have n5_ := Aside0.mk (Kd.R_elder' (by (with_reducible repeat (fail)); exact HO712.out) (Kd.R_base ho0) hb); have n6_ := Aside0.mk (Kd.R_elder' (by (with_reducible repeat (fail)); exact HO715.out) (Kd.R_base ho0) hb); have n7_ := Aside0.mk (Kd.R_lower (Kd.R_new' (Kd.R_new' (Kd.R_new' (Kd.R_new' (Kd.R_new' (Kd.R_new' (Kd.R_new' ho0 (Kd.R_lt (by (with_reducible repeat (fail)); exact HO_700001.out))) (Kd.R_lt (by (with_reducible repeat (fail)); exact HO_700002.out))) (Kd.R_lt (by (with_reducible repeat (fail)); exact HO702.out))) (Kd.R_lt (by (with_reducible repeat (fail)); exact HO706.out))) (Kd.R_lt (by (with_reducible repeat (fail)); exact HO709.out))) (Kd.R_lt (by (with_reducible repeat (fail)); exact HO712.out))) (Kd.R_lt (by (with_reducible repeat (fail)); exact HO715.out))) (below_size (by repeat ((with_reducible exact HB.out))))); have n8_ := Aside0.mk (blk_below (g := gb691) (o := .cells #[.bool false, .slice none 0 0, .slice none 0 0] 46 (0, 0)) (by (with_reducible repeat (fail)); exact BK691.out) hb); have n9_ := Aside0.mk (blk_below (g := gb699) (o := .cells #[.bool x700000_1, u700001, u700002] 46 (0, 0)) (by (with_reducible repeat (fail)); exact BK699.out) hb); have n10_ := Aside0.mk (below_step (by repeat ((with_reducible exact HB.out))) hb); clear HO_700001; clear HO_700002; clear HO702; clear HO706; clear HO709; clear HO712; clear HO715; clear BK691; clear BK699; clear HB; have HO_700001 := n0_; have HO_700002 := n1_; have HO702 := n2_; have HO706 := n3_; have HO709 := n4_; have HO712 := n5_; have HO715 := n6_; have HO718 := n7_; have BK691 := n8_; have BK699 := n9_; have HB := n10_; clear n0_ n1_ n2_ n3_ n4_ n5_ n6_ n7_ n8_ n9_ n10_; (try clear hb); (try clear ho0); obtain ⟨Ao35, co35, eo35⟩ := Kd.R_slice HO718.out; subst eo35) | ((with_reducible refine gate_callee (f := 39) rfl ?_); refine goesL_ (some 44) rfl rfl Try.func39 (by kernel_rfl) rfl #[.slice Ao35 t716.length co35] rfl (by (try simp only [List.map_toArray, List.map_cons, List.map_nil]); rfl) ?_; (with_reducible refine (codewrightref02_Nat.calls k1 _ _ t716 t719 t720 t723 _ ?side1 ?side2 A20.out).mono ?_); (case side1 => exact (Kd.R_reads' HO718.out).2.2); (case side2 => exact (Kd.R_reads' HO718.out).2.1); rintro e w36 ⟨v721, v724, rfl, ho0, ho1, hb⟩; refine ⟨_, rfl, ?_⟩; have n0_ := Aside0.mk (Kd.R_mono (Kd.R_told (Kd.R_told (Kd.R_old (by (with_reducible repeat (fail)); exact HO_700001.out) hb) (Kd.R_base ho0)) (Kd.R_base ho1)) (fun _ h_ => h_.1)); have n1_ := Aside0.mk (Kd.R_mono (Kd.R_told (Kd.R_told (Kd.R_old (by (with_reducible repeat (fail)); exact HO_700002.out) hb) (Kd.R_base ho0)) (Kd.R_base ho1)) (fun _ h_ => h_.1)); have n2_ := Aside0.mk (Kd.R_mono (Kd.R_told (Kd.R_told (Kd.R_old (by (with_reducible repeat (fail)); exact HO702.out) hb) (Kd.R_base ho0)) (Kd.R_base ho1)) (fun _ h_ => h_.1)); have n3_ := Aside0.mk (Kd.R_mono (Kd.R_told (Kd.R_told (Kd.R_old (by (with_reducible repeat (fail)); exact HO706.out) hb) (Kd.R_base ho0)) (Kd.R_base ho1)) (fun _ h_ => h_.1)); have n4_ := Aside0.mk (Kd.R_mono (Kd.R_told (Kd.R_told (Kd.R_old (by (with_reducible repeat (fail)); exact HO709.out) hb) (Kd.R_base ho0)) (Kd.R_base ho1)) (fun _ h_ => h_.1)); have n5_ := Aside0.mk (Kd.R_mono (Kd.R_told (Kd.R_told (Kd.R_old (by (with_reducible repeat (fail)); exact HO712.out) hb) (Kd.R_base ho0)) (Kd.R_base ho1)) (fun _ h_ => h_.1)); have n6_ := Aside0.mk (Kd.R_mono (Kd.R_told (Kd.R_told (Kd.R_old (by (with_reducible repeat (fail)); exact HO715.out) hb) (Kd.R_base ho0)) (Kd.R_base ho1)) (fun _ h_ => h_.1)); have n7_ := Aside0.mk (Kd.R_mono (Kd.R_told (Kd.R_told (Kd.R_old (by (with_reducible repeat (fail)); exact HO718.out) hb) (Kd.R_base ho0)) (Kd.R_base ho1)) (fun _ h_ => h_.1)); have n8_ := Aside0.mk (Kd.R_lower (Kd.R_new' (Kd.R_new' (Kd.R_new' (Kd.R_new' (Kd.R_new' (Kd.R_new' (Kd.R_new' (Kd.R_new' ho0 (Kd.R_lt (by (with_reducible repeat (fail)); exact HO_700001.out))) (Kd.R_lt (by (with_reducible repeat (fail)); exact HO_700002.out))) (Kd.R_lt (by (with_reducible repeat (fail)); exact HO702.out))) (Kd.R_lt (by (with_reducible repeat (fail)); exact HO706.out))) (Kd.R_lt (by (with_reducible repeat (fail)); exact HO709.out))) (Kd.R_lt (by (with_reducible repeat (fail)); exact HO712.out))) (Kd.R_lt (by (with_reducible repeat (fail)); exact HO715.out))) (Kd.R_lt (by (with_reducible repeat (fail)); exact HO718.out))) (below_size (by repeat ((with_reducible exact HB.out))))); have n9_ := Aside0.mk (Kd.R_lower (Kd.R_new' (Kd.R_new' (Kd.R_new' (Kd.R_new' (Kd.R_new' (Kd.R_new' (Kd.R_new' (Kd.R_new' ho1 (Kd.R_lt (by (with_reducible repeat (fail)); exact HO_700001.out))) (Kd.R_lt (by (with_reducible repeat (fail)); exact HO_700002.out))) (Kd.R_lt (by (with_reducible repeat (fail)); exact HO702.out))) (Kd.R_lt (by (with_reducible repeat (fail)); exact HO706.out))) (Kd.R_lt (by (with_reducible repeat (fail)); exact HO709.out))) (Kd.R_lt (by (with_reducible repeat (fail)); exact HO712.out))) (Kd.R_lt (by (with_reducible repeat (fail)); exact HO715.out))) (Kd.R_lt (by (with_reducible repeat (fail)); exact HO718.out))) (below_size (by repeat ((with_reducible exact HB.out))))); have n10_ := Aside0.mk (blk_below (g := gb691) (o := .cells #[.bool false, .slice none 0 0, .slice none 0 0] 46 (0, 0)) (by (with_reducible repeat (fail)); exact BK691.out) hb); have n11_ := Aside0.mk (blk_below (g := gb699) (o := .cells #[.bool x700000_1, u700001, u700002] 46 (0, 0)) (by (with_reducible repeat (fail)); exact BK699.out) hb); have n12_ := Aside0.mk (below_step (by repeat ((with_reducible exact HB.out))) hb); clear HO_700001; clear HO_700002; clear HO702; clear HO706; clear HO709; clear HO712; clear HO715; clear HO718; clear BK691; clear BK699; clear HB; have HO_700001 := n0_; have HO_700002 := n1_; have HO702 := n2_; have HO706 := n3_; have HO709 := n4_; have HO712 := n5_; have HO715 := n6_; have HO718 := n7_; have HO722 := n8_; have HO725 := n9_; have BK691 := n10_; have BK699 := n11_; have HB := n12_; clear n0_ n1_ n2_ n3_ n4_ n5_ n6_ n7_ n8_ n9_ n10_ n11_ n12_; (try clear hb); (try clear ho0); (try clear ho1)) | ((with_reducible refine gate_dst (N := 13) rfl ?_); refine box_event ?hg (N := 13) ?hd (cs := #[.bool false, .slice none 0 0, .slice none 0 0]) (t := 46) ?hr ?_; (case hd => rfl); (case hg => rfl); (case hr => (go_simp; done)); intro gb726 hg w37 hbox hb; have n0_ := Aside0.mk (Kd.R_below (by (with_reducible repeat (fail)); exact HO_700001.out) hb); have n1_ := Aside0.mk (Kd.R_below (by (with_reducible repeat (fail)); exact HO_700002.out) hb); have n2_ := Aside0.mk (Kd.R_below (by (with_reducible repeat (fail)); exact HO702.out) hb); have n3_ := Aside0.mk (Kd.R_below (by (with_reducible repeat (fail)); exact HO706.out) hb); have n4_ := Aside0.mk (Kd.R_below (by (with_reducible repeat (fail)); exact HO709.out) hb); have n5_ := Aside0.mk (Kd.R_below (by (with_reducible repeat (fail)); exact HO712.out) hb); have n6_ := Aside0.mk (Kd.R_below (by (with_reducible repeat (fail)); exact HO715.out) hb); have n7_ := Aside0.mk (Kd.R_below (by (with_reducible repeat (fail)); exact HO718.out) hb); have n8_ := Aside0.mk (Kd.R_below (by (with_reducible repeat (fail)); exact HO722.out) hb); have n9_ := Aside0.mk (Kd.R_below (by (with_reducible repeat (fail)); exact HO725.out) hb); have n10_ := Aside0.mk (blk_below (g := gb691) (o := .cells #[.bool false, .slice none 0 0, .slice none 0 0] 46 (0, 0)) (by (with_reducible repeat (fail)); exact BK691.out) hb); have n11_ := Aside0.mk (blk_below (g := gb699) (o := .cells #[.bool x700000_1, u700001, u700002] 46 (0, 0)) (by (with_reducible repeat (fail)); exact BK699.out) hb); have n12_ := Aside0.mk (below_step (by repeat ((with_reducible exact HB.out))) hb); have n13_ := Aside0.mk (hbox); have n14_ := Aside0.mk ((by rw [hg]; exact (below_size (by repeat ((with_reducible exact HB.out)))) : w.heap.size ≤ gb726)); have n15_ := Aside0.mk ((by rw [hg]; exact (below_size (by repeat ((with_reducible exact HB.out)))) : w.heap.size ≤ gb726)); have n16_ := Aside0.mk ((by rw [hg]; exact Nat.ne_of_lt (blk_lt (g := gb691) (o := .cells #[.bool false, .slice none 0 0, .slice none 0 0] 46 (0, 0)) (by (with_reducible repeat (fail)); exact BK691.out)) : gb691 ≠ gb726)); have n17_ := Aside0.mk ((by rw [hg]; exact Nat.ne_of_gt (blk_lt (g := gb691) (o := .cells #[.bool false, .slice none 0 0, .slice none 0 0] 46 (0, 0)) (by (with_reducible repeat (fail)); exact BK691.out)) : gb726 ≠ gb691)); have n18_ := Aside0.mk ((by rw [hg]; exact Nat.ne_of_lt (blk_lt (g := gb699) (o := .cells #[.bool x700000_1, u700001, u700002] 46 (0, 0)) (by (with_reducible repeat (fail)); exact BK699.out)) : gb699 ≠ gb726)); have n19_ := Aside0.mk ((by rw [hg]; exact Nat.ne_of_gt (blk_lt (g := gb699) (o := .cells #[.bool x700000_1, u700001, u700002] 46 (0, 0)) (by (with_reducible repeat (fail)); exact BK699.out)) : gb726 ≠ gb699)); clear HO_700001; clear HO_700002; clear HO702; clear HO706; clear HO709; clear HO712; clear HO715; clear HO718; clear HO722; clear HO725; clear BK691; clear BK699; clear HB; have HO_700001 := n0_; have HO_700002 := n1_; have HO702 := n2_; have HO706 := n3_; have HO709 := n4_; have HO712 := n5_; have HO715 := n6_; have HO718 := n7_; have HO722 := n8_; have HO725 := n9_; have BK691 := n10_; have BK699 := n11_; have HB := n12_; have BK726 := n13_; have GW726 := n14_; have GE726 := n15_; have NB691_726 := n16_; have NB726_691 := n17_; have NB699_726 := n18_; have NB726_699 := n19_; clear n0_ n1_ n2_ n3_ n4_ n5_ n6_ n7_ n8_ n9_ n10_ n11_ n12_ n13_ n14_ n15_ n16_ n17_ n18_ n19_; clear hb hbox hg; have hnb38 := NB726_691.out; have hnc38 := NB691_726.out; have hnb39 := NB726_699.out; have hnc39 := NB699_726.out; have hcz40_0 : w37.cell? ⟨gb726, 0, none⟩ = some (.bool false) := (blk_cell BK726.out 0).trans rfl; have hcz40_1 : w37.cell? ⟨gb726, 1, none⟩ = some (.slice none 0 0) := (blk_cell BK726.out 1).trans rfl; have hcz40_2 : w37.cell? ⟨gb726, 2, none⟩ = some (.slice none 0 0) := (blk_cell BK726.out 2).trans rfl; have hfz40_0 := blk_frozen BK726.out 0; have hfz40_1 := blk_frozen BK726.out 1; have hfz40_2 := blk_frozen BK726.out 2; obtain ⟨Ao41, co41, eo41⟩ := Kd.R_slice HO722.out; subst eo41; obtain ⟨Ao42, co42, eo42⟩ := Kd.R_slice HO725.out; subst eo42) | ((with_reducible refine gate_callee (f := 62) rfl ?_); refine goesL_ (some 49) rfl rfl Try.func62 (by kernel_rfl) rfl #[.agg #[.bool t719, .slice Ao41 t720.length co41, .slice Ao42 t723.length co42]] rfl (by (try simp only [List.map_toArray, List.map_cons, List.map_nil]); rfl) ?_; (with_reducible refine (codewrightref02_Neg.calls k1 t719 _ _ t720 _ _ t723 t727 t728 t731 _ ?side1 ?side2 ?side3 ?side4 A22.out).mono ?_); (case side1 => refine (Kd.R_reads' (e := 100) (base := w.heap.size) (ok := fun k_ => ((((((((some k_ ≠ (.slice Ao42 t723.length co42 : Value).ownBlock ∧ some k_ ≠ (u700001 : Value).ownBlock) ∧ some k_ ≠ (u700002 : Value).ownBlock) ∧ some k_ ≠ (.slice Ao25 t700.length co25 : Value).ownBlock) ∧ some k_ ≠ (.slice Ao32 t703.length co32 : Value).ownBlock) ∧ some k_ ≠ (.slice Ao29 t707.length co29 : Value).ownBlock) ∧ some k_ ≠ (.slice Ao30 t710.length co30 : Value).ownBlock) ∧ some k_ ≠ (.slice Ao33 t713.length co33 : Value).ownBlock) ∧ some k_ ≠ (.slice Ao35 t716.length co35 : Value).ownBlock)) (n := t720.length) (c := co41) ?_).2.2; exact (by (with_reducible repeat (fail)); exact (Kd.R_mono (Kd.R_far (p := ⟨gb726, 2, none⟩) (Kd.R_far (p := ⟨gb726, 1, none⟩) (Kd.R_far (p := ⟨gb726, 0, none⟩) (Kd.R_types HO722.out BK726.out (by decide)) (fun _ hk => hk.2) (.bool t719)) (fun _ hk => hk.2) (.slice Ao41 t720.length co41)) (fun _ hk => hk.2) (.slice Ao42 t723.length co42)) (fun _ h_ => h_.1)))); (case side2 => exact (Kd.R_reads' HO722.out).2.1); (case side3 => refine (Kd.R_reads' (e := 100) (base := w.heap.size) (ok := fun k_ => ((((((((some k_ ≠ (.slice Ao41 t720.length co41 : Value).ownBlock ∧ some k_ ≠ (u700001 : Value).ownBlock) ∧ some k_ ≠ (u700002 : Value).ownBlock) ∧ some k_ ≠ (.slice Ao25 t700.length co25 : Value).ownBlock) ∧ some k_ ≠ (.slice Ao32 t703.length co32 : Value).ownBlock) ∧ some k_ ≠ (.slice Ao29 t707.length co29 : Value).ownBlock) ∧ some k_ ≠ (.slice Ao30 t710.length co30 : Value).ownBlock) ∧ some k_ ≠ (.slice Ao33 t713.length co33 : Value).ownBlock) ∧ some k_ ≠ (.slice Ao35 t716.length co35 : Value).ownBlock)) (n := t723.length) (c := co42) ?_).2.2; exact (by (with_reducible repeat (fail)); exact (Kd.R_mono (Kd.R_far (p := ⟨gb726, 2, none⟩) (Kd.R_far (p := ⟨gb726, 1, none⟩) (Kd.R_far (p := ⟨gb726, 0, none⟩) (Kd.R_types HO725.out BK726.out (by decide)) (fun _ hk => hk.2) (.bool t719)) (fun _ hk => hk.2) (.slice Ao41 t720.length co41)) (fun _ hk => hk.2) (.slice Ao42 t723.length co42)) (fun _ h_ => h_.1)))); (case side4 => exact (Kd.R_reads' HO725.out).2.1); rintro e w43 ⟨v729, v732, rfl, ho0, ho1, hb⟩; refine ⟨_, rfl, ?_⟩; have n0_ := Aside0.mk (Kd.R_mono (Kd.R_told (Kd.R_told (Kd.R_old (by (with_reducible repeat (fail)); exact (Kd.R_mono (Kd.R_far (p := ⟨gb726, 2, none⟩) (Kd.R_far (p := ⟨gb726, 1, none⟩) (Kd.R_far (p := ⟨gb726, 0, none⟩) (Kd.R_types HO_700001.out BK726.out (by decide)) (fun _ hk => hk.2) (.bool t719)) (fun _ hk => hk.2) (.slice Ao41 t720.length co41)) (fun _ hk => hk.2) (.slice Ao42 t723.length co42)) (fun _ h_ => h_.1))) hb) (Kd.R_base ho0)) (Kd.R_base ho1)) (fun _ h_ => h_.1)); have n1_ := Aside0.mk (Kd.R_mono (Kd.R_told (Kd.R_told (Kd.R_old (by (with_reducible repeat (fail)); exact (Kd.R_mono (Kd.R_far (p := ⟨gb726, 2, none⟩) (Kd.R_far (p := ⟨gb726, 1, none⟩) (Kd.R_far (p := ⟨gb726, 0, none⟩) (Kd.R_types HO_700002.out BK726.out (by decide)) (fun _ hk => hk.2) (.bool t719)) (fun _ hk => hk.2) (.slice Ao41 t720.length co41)) (fun _ hk => hk.2) (.slice Ao42 t723.length co42)) (fun _ h_ => h_.1))) hb) (Kd.R_base ho0)) (Kd.R_base ho1)) (fun _ h_ => h_.1)); have n2_ := Aside0.mk (Kd.R_mono (Kd.R_told (Kd.R_told (Kd.R_old (by (with_reducible repeat (fail)); exact (Kd.R_mono (Kd.R_far (p := ⟨gb726, 2, none⟩) (Kd.R_far (p := ⟨gb726, 1, none⟩) (Kd.R_far (p := ⟨gb726, 0, none⟩) (Kd.R_types HO702.out BK726.out (by decide)) (fun _ hk => hk.2) (.bool t719)) (fun _ hk => hk.2) (.slice Ao41 t720.length co41)) (fun _ hk => hk.2) (.slice Ao42 t723.length co42)) (fun _ h_ => h_.1))) hb) (Kd.R_base ho0)) (Kd.R_base ho1)) (fun _ h_ => h_.1)); have n3_ := Aside0.mk (Kd.R_mono (Kd.R_told (Kd.R_told (Kd.R_old (by (with_reducible repeat (fail)); exact (Kd.R_mono (Kd.R_far (p := ⟨gb726, 2, none⟩) (Kd.R_far (p := ⟨gb726, 1, none⟩) (Kd.R_far (p := ⟨gb726, 0, none⟩) (Kd.R_types HO706.out BK726.out (by decide)) (fun _ hk => hk.2) (.bool t719)) (fun _ hk => hk.2) (.slice Ao41 t720.length co41)) (fun _ hk => hk.2) (.slice Ao42 t723.length co42)) (fun _ h_ => h_.1))) hb) (Kd.R_base ho0)) (Kd.R_base ho1)) (fun _ h_ => h_.1)); have n4_ := Aside0.mk (Kd.R_mono (Kd.R_told (Kd.R_told (Kd.R_old (by (with_reducible repeat (fail)); exact (Kd.R_mono (Kd.R_far (p := ⟨gb726, 2, none⟩) (Kd.R_far (p := ⟨gb726, 1, none⟩) (Kd.R_far (p := ⟨gb726, 0, none⟩) (Kd.R_types HO709.out BK726.out (by decide)) (fun _ hk => hk.2) (.bool t719)) (fun _ hk => hk.2) (.slice Ao41 t720.length co41)) (fun _ hk => hk.2) (.slice Ao42 t723.length co42)) (fun _ h_ => h_.1))) hb) (Kd.R_base ho0)) (Kd.R_base ho1)) (fun _ h_ => h_.1)); have n5_ := Aside0.mk (Kd.R_mono (Kd.R_told (Kd.R_told (Kd.R_old (by (with_reducible repeat (fail)); exact (Kd.R_mono (Kd.R_far (p := ⟨gb726, 2, none⟩) (Kd.R_far (p := ⟨gb726, 1, none⟩) (Kd.R_far (p := ⟨gb726, 0, none⟩) (Kd.R_types HO712.out BK726.out (by decide)) (fun _ hk => hk.2) (.bool t719)) (fun _ hk => hk.2) (.slice Ao41 t720.length co41)) (fun _ hk => hk.2) (.slice Ao42 t723.length co42)) (fun _ h_ => h_.1))) hb) (Kd.R_base ho0)) (Kd.R_base ho1)) (fun _ h_ => h_.1)); have n6_ := Aside0.mk (Kd.R_mono (Kd.R_told (Kd.R_told (Kd.R_old (by (with_reducible repeat (fail)); exact (Kd.R_mono (Kd.R_far (p := ⟨gb726, 2, none⟩) (Kd.R_far (p := ⟨gb726, 1, none⟩) (Kd.R_far (p := ⟨gb726, 0, none⟩) (Kd.R_types HO715.out BK726.out (by decide)) (fun _ hk => hk.2) (.bool t719)) (fun _ hk => hk.2) (.slice Ao41 t720.length co41)) (fun _ hk => hk.2) (.slice Ao42 t723.length co42)) (fun _ h_ => h_.1))) hb) (Kd.R_base ho0)) (Kd.R_base ho1)) (fun _ h_ => h_.1)); have n7_ := Aside0.mk (Kd.R_mono (Kd.R_told (Kd.R_told (Kd.R_old (by (with_reducible repeat (fail)); exact (Kd.R_mono (Kd.R_far (p := ⟨gb726, 2, none⟩) (Kd.R_far (p := ⟨gb726, 1, none⟩) (Kd.R_far (p := ⟨gb726, 0, none⟩) (Kd.R_types HO718.out BK726.out (by decide)) (fun _ hk => hk.2) (.bool t719)) (fun _ hk => hk.2) (.slice Ao41 t720.length co41)) (fun _ hk => hk.2) (.slice Ao42 t723.length co42)) (fun _ h_ => h_.1))) hb) (Kd.R_base ho0)) (Kd.R_base ho1)) (fun _ h_ => h_.1)); have n8_ := Aside0.mk (Kd.R_mono (Kd.R_told (Kd.R_told (Kd.R_old (by (with_reducible repeat (fail)); exact (Kd.R_mono (Kd.R_far (p := ⟨gb726, 2, none⟩) (Kd.R_far (p := ⟨gb726, 1, none⟩) (Kd.R_far (p := ⟨gb726, 0, none⟩) (Kd.R_types HO722.out BK726.out (by decide)) (fun _ hk => hk.2) (.bool t719)) (fun _ hk => hk.2) (.slice Ao41 t720.length co41)) (fun _ hk => hk.2) (.slice Ao42 t723.length co42)) (fun _ h_ => h_.1))) hb) (Kd.R_base ho0)) (Kd.R_base ho1)) (fun _ h_ => h_.1)); have n9_ := Aside0.mk (Kd.R_mono (Kd.R_told (Kd.R_told (Kd.R_old (by (with_reducible repeat (fail)); exact (Kd.R_mono (Kd.R_far (p := ⟨gb726, 2, none⟩) (Kd.R_far (p := ⟨gb726, 1, none⟩) (Kd.R_far (p := ⟨gb726, 0, none⟩) (Kd.R_types HO725.out BK726.out (by decide)) (fun _ hk => hk.2) (.bool t719)) (fun _ hk => hk.2) (.slice Ao41 t720.length co41)) (fun _ hk => hk.2) (.slice Ao42 t723.length co42)) (fun _ h_ => h_.1))) hb) (Kd.R_base ho0)) (Kd.R_base ho1)) (fun _ h_ => h_.1)); have n10_ := Aside0.mk (Kd.R_lower (Kd.R_new' (Kd.R_new' (Kd.R_new' (Kd.R_new' (Kd.R_new' (Kd.R_new' (Kd.R_new' (Kd.R_new' (Kd.R_new' (Kd.R_new' ho0 (Kd.R_lt (by (with_reducible repeat (fail)); exact (Kd.R_mono (Kd.R_far (p := ⟨gb726, 2, none⟩) (Kd.R_far (p := ⟨gb726, 1, none⟩) (Kd.R_far (p := ⟨gb726, 0, none⟩) (Kd.R_types HO_700001.out BK726.out (by decide)) (fun _ hk => hk.2) (.bool t719)) (fun _ hk => hk.2) (.slice Ao41 t720.length co41)) (fun _ hk => hk.2) (.slice Ao42 t723.length co42)) (fun _ h_ => h_.1))))) (Kd.R_lt (by (with_reducible repeat (fail)); exact (Kd.R_mono (Kd.R_far (p := ⟨gb726, 2, none⟩) (Kd.R_far (p := ⟨gb726, 1, none⟩) (Kd.R_far (p := ⟨gb726, 0, none⟩) (Kd.R_types HO_700002.out BK726.out (by decide)) (fun _ hk => hk.2) (.bool t719)) (fun _ hk => hk.2) (.slice Ao41 t720.length co41)) (fun _ hk => hk.2) (.slice Ao42 t723.length co42)) (fun _ h_ => h_.1))))) (Kd.R_lt (by (with_reducible repeat (fail)); exact (Kd.R_mono (Kd.R_far (p := ⟨gb726, 2, none⟩) (Kd.R_far (p := ⟨gb726, 1, none⟩) (Kd.R_far (p := ⟨gb726, 0, none⟩) (Kd.R_types HO702.out BK726.out (by decide)) (fun _ hk => hk.2) (.bool t719)) (fun _ hk => hk.2) (.slice Ao41 t720.length co41)) (fun _ hk => hk.2) (.slice Ao42 t723.length co42)) (fun _ h_ => h_.1))))) (Kd.R_lt (by (with_reducible repeat (fail)); exact (Kd.R_mono (Kd.R_far (p := ⟨gb726, 2, none⟩) (Kd.R_far (p := ⟨gb726, 1, none⟩) (Kd.R_far (p := ⟨gb726, 0, none⟩) (Kd.R_types HO706.out BK726.out (by decide)) (fun _ hk => hk.2) (.bool t719)) (fun _ hk => hk.2) (.slice Ao41 t720.length co41)) (fun _ hk => hk.2) (.slice Ao42 t723.length co42)) (fun _ h_ => h_.1))))) (Kd.R_lt (by (with_reducible repeat (fail)); exact (Kd.R_mono (Kd.R_far (p := ⟨gb726, 2, none⟩) (Kd.R_far (p := ⟨gb726, 1, none⟩) (Kd.R_far (p := ⟨gb726, 0, none⟩) (Kd.R_types HO709.out BK726.out (by decide)) (fun _ hk => hk.2) (.bool t719)) (fun _ hk => hk.2) (.slice Ao41 t720.length co41)) (fun _ hk => hk.2) (.slice Ao42 t723.length co42)) (fun _ h_ => h_.1))))) (Kd.R_lt (by (with_reducible repeat (fail)); exact (Kd.R_mono (Kd.R_far (p := ⟨gb726, 2, none⟩) (Kd.R_far (p := ⟨gb726, 1, none⟩) (Kd.R_far (p := ⟨gb726, 0, none⟩) (Kd.R_types HO712.out BK726.out (by decide)) (fun _ hk => hk.2) (.bool t719)) (fun _ hk => hk.2) (.slice Ao41 t720.length co41)) (fun _ hk => hk.2) (.slice Ao42 t723.length co42)) (fun _ h_ => h_.1))))) (Kd.R_lt (by (with_reducible repeat (fail)); exact (Kd.R_mono (Kd.R_far (p := ⟨gb726, 2, none⟩) (Kd.R_far (p := ⟨gb726, 1, none⟩) (Kd.R_far (p := ⟨gb726, 0, none⟩) (Kd.R_types HO715.out BK726.out (by decide)) (fun _ hk => hk.2) (.bool t719)) (fun _ hk => hk.2) (.slice Ao41 t720.length co41)) (fun _ hk => hk.2) (.slice Ao42 t723.length co42)) (fun _ h_ => h_.1))))) (Kd.R_lt (by (with_reducible repeat (fail)); exact (Kd.R_mono (Kd.R_far (p := ⟨gb726, 2, none⟩) (Kd.R_far (p := ⟨gb726, 1, none⟩) (Kd.R_far (p := ⟨gb726, 0, none⟩) (Kd.R_types HO718.out BK726.out (by decide)) (fun _ hk => hk.2) (.bool t719)) (fun _ hk => hk.2) (.slice Ao41 t720.length co41)) (fun _ hk => hk.2) (.slice Ao42 t723.length co42)) (fun _ h_ => h_.1))))) (Kd.R_lt (by (with_reducible repeat (fail)); exact (Kd.R_mono (Kd.R_far (p := ⟨gb726, 2, none⟩) (Kd.R_far (p := ⟨gb726, 1, none⟩) (Kd.R_far (p := ⟨gb726, 0, none⟩) (Kd.R_types HO722.out BK726.out (by decide)) (fun _ hk => hk.2) (.bool t719)) (fun _ hk => hk.2) (.slice Ao41 t720.length co41)) (fun _ hk => hk.2) (.slice Ao42 t723.length co42)) (fun _ h_ => h_.1))))) (Kd.R_lt (by (with_reducible repeat (fail)); exact (Kd.R_mono (Kd.R_far (p := ⟨gb726, 2, none⟩) (Kd.R_far (p := ⟨gb726, 1, none⟩) (Kd.R_far (p := ⟨gb726, 0, none⟩) (Kd.R_types HO725.out BK726.out (by decide)) (fun _ hk => hk.2) (.bool t719)) (fun _ hk => hk.2) (.slice Ao41 t720.length co41)) (fun _ hk => hk.2) (.slice Ao42 t723.length co42)) (fun _ h_ => h_.1))))) (below_size (by repeat ((with_reducible first | exact HB.out | refine below_set ?_ GE726.out))))); have n11_ := Aside0.mk (Kd.R_lower (Kd.R_new' (Kd.R_new' (Kd.R_new' (Kd.R_new' (Kd.R_new' (Kd.R_new' (Kd.R_new' (Kd.R_new' (Kd.R_new' (Kd.R_new' ho1 (Kd.R_lt (by (with_reducible repeat (fail)); exact (Kd.R_mono (Kd.R_far (p := ⟨gb726, 2, none⟩) (Kd.R_far (p := ⟨gb726, 1, none⟩) (Kd.R_far (p := ⟨gb726, 0, none⟩) (Kd.R_types HO_700001.out BK726.out (by decide)) (fun _ hk => hk.2) (.bool t719)) (fun _ hk => hk.2) (.slice Ao41 t720.length co41)) (fun _ hk => hk.2) (.slice Ao42 t723.length co42)) (fun _ h_ => h_.1))))) (Kd.R_lt (by (with_reducible repeat (fail)); exact (Kd.R_mono (Kd.R_far (p := ⟨gb726, 2, none⟩) (Kd.R_far (p := ⟨gb726, 1, none⟩) (Kd.R_far (p := ⟨gb726, 0, none⟩) (Kd.R_types HO_700002.out BK726.out (by decide)) (fun _ hk => hk.2) (.bool t719)) (fun _ hk => hk.2) (.slice Ao41 t720.length co41)) (fun _ hk => hk.2) (.slice Ao42 t723.length co42)) (fun _ h_ => h_.1))))) (Kd.R_lt (by (with_reducible repeat (fail)); exact (Kd.R_mono (Kd.R_far (p := ⟨gb726, 2, none⟩) (Kd.R_far (p := ⟨gb726, 1, none⟩) (Kd.R_far (p := ⟨gb726, 0, none⟩) (Kd.R_types HO702.out BK726.out (by decide)) (fun _ hk => hk.2) (.bool t719)) (fun _ hk => hk.2) (.slice Ao41 t720.length co41)) (fun _ hk => hk.2) (.slice Ao42 t723.length co42)) (fun _ h_ => h_.1))))) (Kd.R_lt (by (with_reducible repeat (fail)); exact (Kd.R_mono (Kd.R_far (p := ⟨gb726, 2, none⟩) (Kd.R_far (p := ⟨gb726, 1, none⟩) (Kd.R_far (p := ⟨gb726, 0, none⟩) (Kd.R_types HO706.out BK726.out (by decide)) (fun _ hk => hk.2) (.bool t719)) (fun _ hk => hk.2) (.slice Ao41 t720.length co41)) (fun _ hk => hk.2) (.slice Ao42 t723.length co42)) (fun _ h_ => h_.1))))) (Kd.R_lt (by (with_reducible repeat (fail)); exact (Kd.R_mono (Kd.R_far (p := ⟨gb726, 2, none⟩) (Kd.R_far (p := ⟨gb726, 1, none⟩) (Kd.R_far (p := ⟨gb726, 0, none⟩) (Kd.R_types HO709.out BK726.out (by decide)) (fun _ hk => hk.2) (.bool t719)) (fun _ hk => hk.2) (.slice Ao41 t720.length co41)) (fun _ hk => hk.2) (.slice Ao42 t723.length co42)) (fun _ h_ => h_.1))))) (Kd.R_lt (by (with_reducible repeat (fail)); exact (Kd.R_mono (Kd.R_far (p := ⟨gb726, 2, none⟩) (Kd.R_far (p := ⟨gb726, 1, none⟩) (Kd.R_far (p := ⟨gb726, 0, none⟩) (Kd.R_types HO712.out BK726.out (by decide)) (fun _ hk => hk.2) (.bool t719)) (fun _ hk => hk.2) (.slice Ao41 t720.length co41)) (fun _ hk => hk.2) (.slice Ao42 t723.length co42)) (fun _ h_ => h_.1))))) (Kd.R_lt (by (with_reducible repeat (fail)); exact (Kd.R_mono (Kd.R_far (p := ⟨gb726, 2, none⟩) (Kd.R_far (p := ⟨gb726, 1, none⟩) (Kd.R_far (p := ⟨gb726, 0, none⟩) (Kd.R_types HO715.out BK726.out (by decide)) (fun _ hk => hk.2) (.bool t719)) (fun _ hk => hk.2) (.slice Ao41 t720.length co41)) (fun _ hk => hk.2) (.slice Ao42 t723.length co42)) (fun _ h_ => h_.1))))) (Kd.R_lt (by (with_reducible repeat (fail)); exact (Kd.R_mono (Kd.R_far (p := ⟨gb726, 2, none⟩) (Kd.R_far (p := ⟨gb726, 1, none⟩) (Kd.R_far (p := ⟨gb726, 0, none⟩) (Kd.R_types HO718.out BK726.out (by decide)) (fun _ hk => hk.2) (.bool t719)) (fun _ hk => hk.2) (.slice Ao41 t720.length co41)) (fun _ hk => hk.2) (.slice Ao42 t723.length co42)) (fun _ h_ => h_.1))))) (Kd.R_lt (by (with_reducible repeat (fail)); exact (Kd.R_mono (Kd.R_far (p := ⟨gb726, 2, none⟩) (Kd.R_far (p := ⟨gb726, 1, none⟩) (Kd.R_far (p := ⟨gb726, 0, none⟩) (Kd.R_types HO722.out BK726.out (by decide)) (fun _ hk => hk.2) (.bool t719)) (fun _ hk => hk.2) (.slice Ao41 t720.length co41)) (fun _ hk => hk.2) (.slice Ao42 t723.length co42)) (fun _ h_ => h_.1))))) (Kd.R_lt (by (with_reducible repeat (fail)); exact (Kd.R_mono (Kd.R_far (p := ⟨gb726, 2, none⟩) (Kd.R_far (p := ⟨gb726, 1, none⟩) (Kd.R_far (p := ⟨gb726, 0, none⟩) (Kd.R_types HO725.out BK726.out (by decide)) (fun _ hk => hk.2) (.bool t719)) (fun _ hk => hk.2) (.slice Ao41 t720.length co41)) (fun _ hk => hk.2) (.slice Ao42 t723.length co42)) (fun _ h_ => h_.1))))) (below_size (by repeat ((with_reducible first | exact HB.out | refine below_set ?_ GE726.out))))); have n12_ := Aside0.mk (blk_below (g := gb691) (o := .cells #[.bool false, .slice none 0 0, .slice none 0 0] 46 (0, 0)) (by (with_reducible repeat (fail)); refine blk_far ?_ NB691_726.out _; (with_reducible repeat (fail)); refine blk_far ?_ NB691_726.out _; (with_reducible repeat (fail)); refine blk_far ?_ NB691_726.out _; (with_reducible repeat (fail)); exact BK691.out) hb); have n13_ := Aside0.mk (blk_below (g := gb699) (o := .cells #[.bool x700000_1, u700001, u700002] 46 (0, 0)) (by (with_reducible repeat (fail)); refine blk_far ?_ NB699_726.out _; (with_reducible repeat (fail)); refine blk_far ?_ NB699_726.out _; (with_reducible repeat (fail)); refine blk_far ?_ NB699_726.out _; (with_reducible repeat (fail)); exact BK699.out) hb); have n14_ := Aside0.mk (blk_below (g := gb726) (o := .cells #[.bool t719, .slice Ao41 t720.length co41, .slice Ao42 t723.length co42] 46 (0, 0)) (by (with_reducible repeat (fail)); refine blk_put (cs := #[.bool t719, .slice Ao41 t720.length co41, .slice none 0 0]) ?_ 2 _ rfl; (with_reducible repeat (fail)); refine blk_put (cs := #[.bool t719, .slice none 0 0, .slice none 0 0]) ?_ 1 _ rfl; (with_reducible repeat (fail)); refine blk_put (cs := #[.bool false, .slice none 0 0, .slice none 0 0]) ?_ 0 _ rfl; (with_reducible repeat (fail)); exact BK726.out) hb); have n15_ := Aside0.mk (below_step (by repeat ((with_reducible first | exact HB.out | refine below_set ?_ GE726.out))) hb); clear HO_700001; clear HO_700002; clear HO702; clear HO706; clear HO709; clear HO712; clear HO715; clear HO718; clear HO722; clear HO725; clear BK691; clear BK699; clear BK726; clear HB; have HO_700001 := n0_; have HO_700002 := n1_; have HO702 := n2_; have HO706 := n3_; have HO709 := n4_; have HO712 := n5_; have HO715 := n6_; have HO718 := n7_; have HO722 := n8_; have HO725 := n9_; have HO730 := n10_; have HO733 := n11_; have BK691 := n12_; have BK699 := n13_; have BK726 := n14_; have HB := n15_; clear n0_ n1_ n2_ n3_ n4_ n5_ n6_ n7_ n8_ n9_ n10_ n11_ n12_ n13_ n14_ n15_; (try clear hb); (try clear ho0); (try clear ho1); have hcz44_0 : w43.cell? ⟨gb726, 0, none⟩ = some (.bool t719) := (blk_cell BK726.out 0).trans rfl; have hcz44_1 : w43.cell? ⟨gb726, 1, none⟩ = some (.slice Ao41 t720.length co41) := (blk_cell BK726.out 1).trans rfl; have hcz44_2 : w43.cell? ⟨gb726, 2, none⟩ = some (.slice Ao42 t723.length co42) := (blk_cell BK726.out 2).trans rfl; have hfz44_0 := blk_frozen BK726.out 0; have hfz44_1 := blk_frozen BK726.out 1; have hfz44_2 := blk_frozen BK726.out 2; obtain ⟨Ao45, co45, eo45⟩ := Kd.R_slice HO730.out; subst eo45; obtain ⟨Ao46, co46, eo46⟩ := Kd.R_slice HO733.out; subst eo46; have hnb47 := NB699_691.out; have hnc47 := NB691_699.out; have hcz48_0 : w43.cell? ⟨gb699, 0, none⟩ = some (.bool x700000_1) := (blk_cell BK699.out 0).trans rfl; have hcz48_1 : w43.cell? ⟨gb699, 1, none⟩ = some (u700001) := (blk_cell BK699.out 1).trans rfl; have hcz48_2 : w43.cell? ⟨gb699, 2, none⟩ = some (u700002) := (blk_cell BK699.out 2).trans rfl; have hfz48_0 := blk_frozen BK699.out 0; have hfz48_1 := blk_frozen BK699.out 1; have hfz48_2 := blk_frozen BK699.out 2; obtain ⟨Ao49, co49, eo49⟩ := Kd.R_slice HO_700001.out; subst eo49; obtain ⟨Ao50, co50, eo50⟩ := Kd.R_slice HO_700002.out; subst eo50) | ((with_reducible refine gate_callee (f := 33) rfl ?_); refine goesL_ (some 52) rfl rfl Try.func33 (by kernel_rfl) rfl #[.agg #[.bool x700000_1, .slice Ao49 x700001_1.length co49, .slice Ao50 x700002_1.length co50], .agg #[.bool t727, .slice Ao45 t728.length co45, .slice Ao46 t731.length co46]] rfl (by (try simp only [List.map_toArray, List.map_cons, List.map_nil]); rfl) ?_; (with_reducible refine (codewrightref02_Add.calls k1 x700000_1 _ _ x700001_1 _ _ x700002_1 t727 _ _ t728 _ _ t731 t734 t735 t738 _ ?side1 ?side2 ?side3 ?side4 ?side5 ?side6 ?side7 ?side8 A23.out).mono ?_); (case side1 => refine (Kd.R_reads' (e := 100) (base := w.heap.size) (ok := fun k_ => ((((((((((some k_ ≠ (.slice Ao50 x700002_1.length co50 : Value).ownBlock ∧ some k_ ≠ (.slice Ao25 t700.length co25 : Value).ownBlock) ∧ some k_ ≠ (.slice Ao32 t703.length co32 : Value).ownBlock) ∧ some k_ ≠ (.slice Ao29 t707.length co29 : Value).ownBlock) ∧ some k_ ≠ (.slice Ao30 t710.length co30 : Value).ownBlock) ∧ some k_ ≠ (.slice Ao33 t713.length co33 : Value).ownBlock) ∧ some k_ ≠ (.slice Ao35 t716.length co35 : Value).ownBlock) ∧ some k_ ≠ (.slice Ao41 t720.length co41 : Value).ownBlock) ∧ some k_ ≠ (.slice Ao42 t723.length co42 : Value).ownBlock) ∧ some k_ ≠ (.slice Ao45 t728.length co45 : Value).ownBlock) ∧ some k_ ≠ (.slice Ao46 t731.length co46 : Value).ownBlock)) (n := x700001_1.length) (c := co49) ?_).2.2; exact (by (with_reducible repeat (fail)); exact (Kd.R_mono (Kd.R_far (p := ⟨gb726, 2, none⟩) (Kd.R_far (p := ⟨gb726, 1, none⟩) (Kd.R_far (p := ⟨gb726, 0, none⟩) (Kd.R_types HO_700001.out BK726.out (by decide)) (fun _ hk => hk.2) (.bool t727)) (fun _ hk => hk.2) (.slice Ao45 t728.length co45)) (fun _ hk => hk.2) (.slice Ao46 t731.length co46)) (fun _ h_ => h_.1)))); (case side2 => exact (Kd.R_reads' HO_700001.out).2.1); (case side3 => refine (Kd.R_reads' (e := 100) (base := w.heap.size) (ok := fun k_ => ((((((((((some k_ ≠ (.slice Ao49 x700001_1.length co49 : Value).ownBlock ∧ some k_ ≠ (.slice Ao25 t700.length co25 : Value).ownBlock) ∧ some k_ ≠ (.slice Ao32 t703.length co32 : Value).ownBlock) ∧ some k_ ≠ (.slice Ao29 t707.length co29 : Value).ownBlock) ∧ some k_ ≠ (.slice Ao30 t710.length co30 : Value).ownBlock) ∧ some k_ ≠ (.slice Ao33 t713.length co33 : Value).ownBlock) ∧ some k_ ≠ (.slice Ao35 t716.length co35 : Value).ownBlock) ∧ some k_ ≠ (.slice Ao41 t720.length co41 : Value).ownBlock) ∧ some k_ ≠ (.slice Ao42 t723.length co42 : Value).ownBlock) ∧ some k_ ≠ (.slice Ao45 t728.length co45 : Value).ownBlock) ∧ some k_ ≠ (.slice Ao46 t731.length co46 : Value).ownBlock)) (n := x700002_1.length) (c := co50) ?_).2.2; exact (by (with_reducible repeat (fail)); exact (Kd.R_mono (Kd.R_far (p := ⟨gb726, 2, none⟩) (Kd.R_far (p := ⟨gb726, 1, none⟩) (Kd.R_far (p := ⟨gb726, 0, none⟩) (Kd.R_types HO_700002.out BK726.out (by decide)) (fun _ hk => hk.2) (.bool t727)) (fun _ hk => hk.2) (.slice Ao45 t728.length co45)) (fun _ hk => hk.2) (.slice Ao46 t731.length co46)) (fun _ h_ => h_.1)))); (case side4 => exact (Kd.R_reads' HO_700002.out).2.1); (case side5 => refine (Kd.R_reads' (e := 100) (base := w.heap.size) (ok := fun k_ => ((((((((((some k_ ≠ (.slice Ao46 t731.length co46 : Value).ownBlock ∧ some k_ ≠ (.slice Ao49 x700001_1.length co49 : Value).ownBlock) ∧ some k_ ≠ (.slice Ao50 x700002_1.length co50 : Value).ownBlock) ∧ some k_ ≠ (.slice Ao25 t700.length co25 : Value).ownBlock) ∧ some k_ ≠ (.slice Ao32 t703.length co32 : Value).ownBlock) ∧ some k_ ≠ (.slice Ao29 t707.length co29 : Value).ownBlock) ∧ some k_ ≠ (.slice Ao30 t710.length co30 : Value).ownBlock) ∧ some k_ ≠ (.slice Ao33 t713.length co33 : Value).ownBlock) ∧ some k_ ≠ (.slice Ao35 t716.length co35 : Value).ownBlock) ∧ some k_ ≠ (.slice Ao41 t720.length co41 : Value).ownBlock) ∧ some k_ ≠ (.slice Ao42 t723.length co42 : Value).ownBlock)) (n := t728.length) (c := co45) ?_).2.2; exact (by (with_reducible repeat (fail)); exact (Kd.R_mono (Kd.R_far (p := ⟨gb726, 2, none⟩) (Kd.R_far (p := ⟨gb726, 1, none⟩) (Kd.R_far (p := ⟨gb726, 0, none⟩) (Kd.R_types HO730.out BK726.out (by decide)) (fun _ hk => hk.2) (.bool t727)) (fun _ hk => hk.2) (.slice Ao45 t728.length co45)) (fun _ hk => hk.2) (.slice Ao46 t731.length co46)) (fun _ h_ => h_.1)))); (case side6 => exact (Kd.R_reads' HO730.out).2.1); (case side7 => refine (Kd.R_reads' (e := 100) (base := w.heap.size) (ok := fun k_ => ((((((((((some k_ ≠ (.slice Ao45 t728.length co45 : Value).ownBlock ∧ some k_ ≠ (.slice Ao49 x700001_1.length co49 : Value).ownBlock) ∧ some k_ ≠ (.slice Ao50 x700002_1.length co50 : Value).ownBlock) ∧ some k_ ≠ (.slice Ao25 t700.length co25 : Value).ownBlock) ∧ some k_ ≠ (.slice Ao32 t703.length co32 : Value).ownBlock) ∧ some k_ ≠ (.slice Ao29 t707.length co29 : Value).ownBlock) ∧ some k_ ≠ (.slice Ao30 t710.length co30 : Value).ownBlock) ∧ some k_ ≠ (.slice Ao33 t713.length co33 : Value).ownBlock) ∧ some k_ ≠ (.slice Ao35 t716.length co35 : Value).ownBlock) ∧ some k_ ≠ (.slice Ao41 t720.length co41 : Value).ownBlock) ∧ some k_ ≠ (.slice Ao42 t723.length co42 : Value).ownBlock)) (n := t731.length) (c := co46) ?_).2.2; exact (by (with_reducible repeat (fail)); exact (Kd.R_mono (Kd.R_far (p := ⟨gb726, 2, none⟩) (Kd.R_far (p := ⟨gb726, 1, none⟩) (Kd.R_far (p := ⟨gb726, 0, none⟩) (Kd.R_types HO733.out BK726.out (by decide)) (fun _ hk => hk.2) (.bool t727)) (fun _ hk => hk.2) (.slice Ao45 t728.length co45)) (fun _ hk => hk.2) (.slice Ao46 t731.length co46)) (fun _ h_ => h_.1)))); (case side8 => exact (Kd.R_reads' HO733.out).2.1); rintro e w51 ⟨v736, v739, rfl, ho0, ho1, hb⟩; refine ⟨_, rfl, ?_⟩; have n0_ := Aside0.mk (Kd.R_mono (Kd.R_told (Kd.R_told (Kd.R_old (by (with_reducible repeat (fail)); exact (Kd.R_mono (Kd.R_far (p := ⟨gb726, 2, none⟩) (Kd.R_far (p := ⟨gb726, 1, none⟩) (Kd.R_far (p := ⟨gb726, 0, none⟩) (Kd.R_types HO_700001.out BK726.out (by decide)) (fun _ hk => hk.2) (.bool t727)) (fun _ hk => hk.2) (.slice Ao45 t728.length co45)) (fun _ hk => hk.2) (.slice Ao46 t731.length co46)) (fun _ h_ => h_.1))) hb) (Kd.R_base ho0)) (Kd.R_base ho1)) (fun _ h_ => h_.1)); have n1_ := Aside0.mk (Kd.R_mono (Kd.R_told (Kd.R_told (Kd.R_old (by (with_reducible repeat (fail)); exact (Kd.R_mono (Kd.R_far (p := ⟨gb726, 2, none⟩) (Kd.R_far (p := ⟨gb726, 1, none⟩) (Kd.R_far (p := ⟨gb726, 0, none⟩) (Kd.R_types HO_700002.out BK726.out (by decide)) (fun _ hk => hk.2) (.bool t727)) (fun _ hk => hk.2) (.slice Ao45 t728.length co45)) (fun _ hk => hk.2) (.slice Ao46 t731.length co46)) (fun _ h_ => h_.1))) hb) (Kd.R_base ho0)) (Kd.R_base ho1)) (fun _ h_ => h_.1)); have n2_ := Aside0.mk (Kd.R_mono (Kd.R_told (Kd.R_told (Kd.R_old (by (with_reducible repeat (fail)); exact (Kd.R_mono (Kd.R_far (p := ⟨gb726, 2, none⟩) (Kd.R_far (p := ⟨gb726, 1, none⟩) (Kd.R_far (p := ⟨gb726, 0, none⟩) (Kd.R_types HO702.out BK726.out (by decide)) (fun _ hk => hk.2) (.bool t727)) (fun _ hk => hk.2) (.slice Ao45 t728.length co45)) (fun _ hk => hk.2) (.slice Ao46 t731.length co46)) (fun _ h_ => h_.1))) hb) (Kd.R_base ho0)) (Kd.R_base ho1)) (fun _ h_ => h_.1)); have n3_ := Aside0.mk (Kd.R_mono (Kd.R_told (Kd.R_told (Kd.R_old (by (with_reducible repeat (fail)); exact (Kd.R_mono (Kd.R_far (p := ⟨gb726, 2, none⟩) (Kd.R_far (p := ⟨gb726, 1, none⟩) (Kd.R_far (p := ⟨gb726, 0, none⟩) (Kd.R_types HO706.out BK726.out (by decide)) (fun _ hk => hk.2) (.bool t727)) (fun _ hk => hk.2) (.slice Ao45 t728.length co45)) (fun _ hk => hk.2) (.slice Ao46 t731.length co46)) (fun _ h_ => h_.1))) hb) (Kd.R_base ho0)) (Kd.R_base ho1)) (fun _ h_ => h_.1)); have n4_ := Aside0.mk (Kd.R_mono (Kd.R_told (Kd.R_told (Kd.R_old (by (with_reducible repeat (fail)); exact (Kd.R_mono (Kd.R_far (p := ⟨gb726, 2, none⟩) (Kd.R_far (p := ⟨gb726, 1, none⟩) (Kd.R_far (p := ⟨gb726, 0, none⟩) (Kd.R_types HO709.out BK726.out (by decide)) (fun _ hk => hk.2) (.bool t727)) (fun _ hk => hk.2) (.slice Ao45 t728.length co45)) (fun _ hk => hk.2) (.slice Ao46 t731.length co46)) (fun _ h_ => h_.1))) hb) (Kd.R_base ho0)) (Kd.R_base ho1)) (fun _ h_ => h_.1)); have n5_ := Aside0.mk (Kd.R_mono (Kd.R_told (Kd.R_told (Kd.R_old (by (with_reducible repeat (fail)); exact (Kd.R_mono (Kd.R_far (p := ⟨gb726, 2, none⟩) (Kd.R_far (p := ⟨gb726, 1, none⟩) (Kd.R_far (p := ⟨gb726, 0, none⟩) (Kd.R_types HO712.out BK726.out (by decide)) (fun _ hk => hk.2) (.bool t727)) (fun _ hk => hk.2) (.slice Ao45 t728.length co45)) (fun _ hk => hk.2) (.slice Ao46 t731.length co46)) (fun _ h_ => h_.1))) hb) (Kd.R_base ho0)) (Kd.R_base ho1)) (fun _ h_ => h_.1)); have n6_ := Aside0.mk (Kd.R_mono (Kd.R_told (Kd.R_told (Kd.R_old (by (with_reducible repeat (fail)); exact (Kd.R_mono (Kd.R_far (p := ⟨gb726, 2, none⟩) (Kd.R_far (p := ⟨gb726, 1, none⟩) (Kd.R_far (p := ⟨gb726, 0, none⟩) (Kd.R_types HO715.out BK726.out (by decide)) (fun _ hk => hk.2) (.bool t727)) (fun _ hk => hk.2) (.slice Ao45 t728.length co45)) (fun _ hk => hk.2) (.slice Ao46 t731.length co46)) (fun _ h_ => h_.1))) hb) (Kd.R_base ho0)) (Kd.R_base ho1)) (fun _ h_ => h_.1)); have n7_ := Aside0.mk (Kd.R_mono (Kd.R_told (Kd.R_told (Kd.R_old (by (with_reducible repeat (fail)); exact (Kd.R_mono (Kd.R_far (p := ⟨gb726, 2, none⟩) (Kd.R_far (p := ⟨gb726, 1, none⟩) (Kd.R_far (p := ⟨gb726, 0, none⟩) (Kd.R_types HO718.out BK726.out (by decide)) (fun _ hk => hk.2) (.bool t727)) (fun _ hk => hk.2) (.slice Ao45 t728.length co45)) (fun _ hk => hk.2) (.slice Ao46 t731.length co46)) (fun _ h_ => h_.1))) hb) (Kd.R_base ho0)) (Kd.R_base ho1)) (fun _ h_ => h_.1)); have n8_ := Aside0.mk (Kd.R_mono (Kd.R_told (Kd.R_told (Kd.R_old (by (with_reducible repeat (fail)); exact (Kd.R_mono (Kd.R_far (p := ⟨gb726, 2, none⟩) (Kd.R_far (p := ⟨gb726, 1, none⟩) (Kd.R_far (p := ⟨gb726, 0, none⟩) (Kd.R_types HO722.out BK726.out (by decide)) (fun _ hk => hk.2) (.bool t727)) (fun _ hk => hk.2) (.slice Ao45 t728.length co45)) (fun _ hk => hk.2) (.slice Ao46 t731.length co46)) (fun _ h_ => h_.1))) hb) (Kd.R_base ho0)) (Kd.R_base ho1)) (fun _ h_ => h_.1)); have n9_ := Aside0.mk (Kd.R_mono (Kd.R_told (Kd.R_told (Kd.R_old (by (with_reducible repeat (fail)); exact (Kd.R_mono (Kd.R_far (p := ⟨gb726, 2, none⟩) (Kd.R_far (p := ⟨gb726, 1, none⟩) (Kd.R_far (p := ⟨gb726, 0, none⟩) (Kd.R_types HO725.out BK726.out (by decide)) (fun _ hk => hk.2) (.bool t727)) (fun _ hk => hk.2) (.slice Ao45 t728.length co45)) (fun _ hk => hk.2) (.slice Ao46 t731.length co46)) (fun _ h_ => h_.1))) hb) (Kd.R_base ho0)) (Kd.R_base ho1)) (fun _ h_ => h_.1)); have n10_ := Aside0.mk (Kd.R_mono (Kd.R_told (Kd.R_told (Kd.R_old (by (with_reducible repeat (fail)); exact (Kd.R_mono (Kd.R_far (p := ⟨gb726, 2, none⟩) (Kd.R_far (p := ⟨gb726, 1, none⟩) (Kd.R_far (p := ⟨gb726, 0, none⟩) (Kd.R_types HO730.out BK726.out (by decide)) (fun _ hk => hk.2) (.bool t727)) (fun _ hk => hk.2) (.slice Ao45 t728.length co45)) (fun _ hk => hk.2) (.slice Ao46 t731.length co46)) (fun _ h_ => h_.1))) hb) (Kd.R_base ho0)) (Kd.R_base ho1)) (fun _ h_ => h_.1)); have n11_ := Aside0.mk (Kd.R_mono (Kd.R_told (Kd.R_told (Kd.R_old (by (with_reducible repeat (fail)); exact (Kd.R_mono (Kd.R_far (p := ⟨gb726, 2, none⟩) (Kd.R_far (p := ⟨gb726, 1, none⟩) (Kd.R_far (p := ⟨gb726, 0, none⟩) (Kd.R_types HO733.out BK726.out (by decide)) (fun _ hk => hk.2) (.bool t727)) (fun _ hk => hk.2) (.slice Ao45 t728.length co45)) (fun _ hk => hk.2) (.slice Ao46 t731.length co46)) (fun _ h_ => h_.1))) hb) (Kd.R_base ho0)) (Kd.R_base ho1)) (fun _ h_ => h_.1)); have n12_ := Aside0.mk (Kd.R_lower (Kd.R_new' (Kd.R_new' (Kd.R_new' (Kd.R_new' (Kd.R_new' (Kd.R_new' (Kd.R_new' (Kd.R_new' (Kd.R_new' (Kd.R_new' (Kd.R_new' (Kd.R_new' ho0 (Kd.R_lt (by (with_reducible repeat (fail)); exact (Kd.R_mono (Kd.R_far (p := ⟨gb726, 2, none⟩) (Kd.R_far (p := ⟨gb726, 1, none⟩) (Kd.R_far (p := ⟨gb726, 0, none⟩) (Kd.R_types HO_700001.out BK726.out (by decide)) (fun _ hk => hk.2) (.bool t727)) (fun _ hk => hk.2) (.slice Ao45 t728.length co45)) (fun _ hk => hk.2) (.slice Ao46 t731.length co46)) (fun _ h_ => h_.1))))) (Kd.R_lt (by (with_reducible repeat (fail)); exact (Kd.R_mono (Kd.R_far (p := ⟨gb726, 2, none⟩) (Kd.R_far (p := ⟨gb726, 1, none⟩) (Kd.R_far (p := ⟨gb726, 0, none⟩) (Kd.R_types HO_700002.out BK726.out (by decide)) (fun _ hk => hk.2) (.bool t727)) (fun _ hk => hk.2) (.slice Ao45 t728.length co45)) (fun _ hk => hk.2) (.slice Ao46 t731.length co46)) (fun _ h_ => h_.1))))) (Kd.R_lt (by (with_reducible repeat (fail)); exact (Kd.R_mono (Kd.R_far (p := ⟨gb726, 2, none⟩) (Kd.R_far (p := ⟨gb726, 1, none⟩) (Kd.R_far (p := ⟨gb726, 0, none⟩) (Kd.R_types HO702.out BK726.out (by decide)) (fun _ hk => hk.2) (.bool t727)) (fun _ hk => hk.2) (.slice Ao45 t728.length co45)) (fun _ hk => hk.2) (.slice Ao46 t731.length co46)) (fun _ h_ => h_.1))))) (Kd.R_lt (by (with_reducible repeat (fail)); exact (Kd.R_mono (Kd.R_far (p := ⟨gb726, 2, none⟩) (Kd.R_far (p := ⟨gb726, 1, none⟩) (Kd.R_far (p := ⟨gb726, 0, none⟩) (Kd.R_types HO706.out BK726.out (by decide)) (fun _ hk => hk.2) (.bool t727)) (fun _ hk => hk.2) (.slice Ao45 t728.length co45)) (fun _ hk => hk.2) (.slice Ao46 t731.length co46)) (fun _ h_ => h_.1))))) (Kd.R_lt (by (with_reducible repeat (fail)); exact (Kd.R_mono (Kd.R_far (p := ⟨gb726, 2, none⟩) (Kd.R_far (p := ⟨gb726, 1, none⟩) (Kd.R_far (p := ⟨gb726, 0, none⟩) (Kd.R_types HO709.out BK726.out (by decide)) (fun _ hk => hk.2) (.bool t727)) (fun _ hk => hk.2) (.slice Ao45 t728.length co45)) (fun _ hk => hk.2) (.slice Ao46 t731.length co46)) (fun _ h_ => h_.1))))) (Kd.R_lt (by (with_reducible repeat (fail)); exact (Kd.R_mono (Kd.R_far (p := ⟨gb726, 2, none⟩) (Kd.R_far (p := ⟨gb726, 1, none⟩) (Kd.R_far (p := ⟨gb726, 0, none⟩) (Kd.R_types HO712.out BK726.out (by decide)) (fun _ hk => hk.2) (.bool t727)) (fun _ hk => hk.2) (.slice Ao45 t728.length co45)) (fun _ hk => hk.2) (.slice Ao46 t731.length co46)) (fun _ h_ => h_.1))))) (Kd.R_lt (by (with_reducible repeat (fail)); exact (Kd.R_mono (Kd.R_far (p := ⟨gb726, 2, none⟩) (Kd.R_far (p := ⟨gb726, 1, none⟩) (Kd.R_far (p := ⟨gb726, 0, none⟩) (Kd.R_types HO715.out BK726.out (by decide)) (fun _ hk => hk.2) (.bool t727)) (fun _ hk => hk.2) (.slice Ao45 t728.length co45)) (fun _ hk => hk.2) (.slice Ao46 t731.length co46)) (fun _ h_ => h_.1))))) (Kd.R_lt (by (with_reducible repeat (fail)); exact (Kd.R_mono (Kd.R_far (p := ⟨gb726, 2, none⟩) (Kd.R_far (p := ⟨gb726, 1, none⟩) (Kd.R_far (p := ⟨gb726, 0, none⟩) (Kd.R_types HO718.out BK726.out (by decide)) (fun _ hk => hk.2) (.bool t727)) (fun _ hk => hk.2) (.slice Ao45 t728.length co45)) (fun _ hk => hk.2) (.slice Ao46 t731.length co46)) (fun _ h_ => h_.1))))) (Kd.R_lt (by (with_reducible repeat (fail)); exact (Kd.R_mono (Kd.R_far (p := ⟨gb726, 2, none⟩) (Kd.R_far (p := ⟨gb726, 1, none⟩) (Kd.R_far (p := ⟨gb726, 0, none⟩) (Kd.R_types HO722.out BK726.out (by decide)) (fun _ hk => hk.2) (.bool t727)) (fun _ hk => hk.2) (.slice Ao45 t728.length co45)) (fun _ hk => hk.2) (.slice Ao46 t731.length co46)) (fun _ h_ => h_.1))))) (Kd.R_lt (by (with_reducible repeat (fail)); exact (Kd.R_mono (Kd.R_far (p := ⟨gb726, 2, none⟩) (Kd.R_far (p := ⟨gb726, 1, none⟩) (Kd.R_far (p := ⟨gb726, 0, none⟩) (Kd.R_types HO725.out BK726.out (by decide)) (fun _ hk => hk.2) (.bool t727)) (fun _ hk => hk.2) (.slice Ao45 t728.length co45)) (fun _ hk => hk.2) (.slice Ao46 t731.length co46)) (fun _ h_ => h_.1))))) (Kd.R_lt (by (with_reducible repeat (fail)); exact (Kd.R_mono (Kd.R_far (p := ⟨gb726, 2, none⟩) (Kd.R_far (p := ⟨gb726, 1, none⟩) (Kd.R_far (p := ⟨gb726, 0, none⟩) (Kd.R_types HO730.out BK726.out (by decide)) (fun _ hk => hk.2) (.bool t727)) (fun _ hk => hk.2) (.slice Ao45 t728.length co45)) (fun _ hk => hk.2) (.slice Ao46 t731.length co46)) (fun _ h_ => h_.1))))) (Kd.R_lt (by (with_reducible repeat (fail)); exact (Kd.R_mono (Kd.R_far (p := ⟨gb726, 2, none⟩) (Kd.R_far (p := ⟨gb726, 1, none⟩) (Kd.R_far (p := ⟨gb726, 0, none⟩) (Kd.R_types HO733.out BK726.out (by decide)) (fun _ hk => hk.2) (.bool t727)) (fun _ hk => hk.2) (.slice Ao45 t728.length co45)) (fun _ hk => hk.2) (.slice Ao46 t731.length co46)) (fun _ h_ => h_.1))))) (below_size (by repeat ((with_reducible first | exact HB.out | refine below_set ?_ GE726.out))))); have n13_ := Aside0.mk (Kd.R_lower (Kd.R_new' (Kd.R_new' (Kd.R_new' (Kd.R_new' (Kd.R_new' (Kd.R_new' (Kd.R_new' (Kd.R_new' (Kd.R_new' (Kd.R_new' (Kd.R_new' (Kd.R_new' ho1 (Kd.R_lt (by (with_reducible repeat (fail)); exact (Kd.R_mono (Kd.R_far (p := ⟨gb726, 2, none⟩) (Kd.R_far (p := ⟨gb726, 1, none⟩) (Kd.R_far (p := ⟨gb726, 0, none⟩) (Kd.R_types HO_700001.out BK726.out (by decide)) (fun _ hk => hk.2) (.bool t727)) (fun _ hk => hk.2) (.slice Ao45 t728.length co45)) (fun _ hk => hk.2) (.slice Ao46 t731.length co46)) (fun _ h_ => h_.1))))) (Kd.R_lt (by (with_reducible repeat (fail)); exact (Kd.R_mono (Kd.R_far (p := ⟨gb726, 2, none⟩) (Kd.R_far (p := ⟨gb726, 1, none⟩) (Kd.R_far (p := ⟨gb726, 0, none⟩) (Kd.R_types HO_700002.out BK726.out (by decide)) (fun _ hk => hk.2) (.bool t727)) (fun _ hk => hk.2) (.slice Ao45 t728.length co45)) (fun _ hk => hk.2) (.slice Ao46 t731.length co46)) (fun _ h_ => h_.1))))) (Kd.R_lt (by (with_reducible repeat (fail)); exact (Kd.R_mono (Kd.R_far (p := ⟨gb726, 2, none⟩) (Kd.R_far (p := ⟨gb726, 1, none⟩) (Kd.R_far (p := ⟨gb726, 0, none⟩) (Kd.R_types HO702.out BK726.out (by decide)) (fun _ hk => hk.2) (.bool t727)) (fun _ hk => hk.2) (.slice Ao45 t728.length co45)) (fun _ hk => hk.2) (.slice Ao46 t731.length co46)) (fun _ h_ => h_.1))))) (Kd.R_lt (by (with_reducible repeat (fail)); exact (Kd.R_mono (Kd.R_far (p := ⟨gb726, 2, none⟩) (Kd.R_far (p := ⟨gb726, 1, none⟩) (Kd.R_far (p := ⟨gb726, 0, none⟩) (Kd.R_types HO706.out BK726.out (by decide)) (fun _ hk => hk.2) (.bool t727)) (fun _ hk => hk.2) (.slice Ao45 t728.length co45)) (fun _ hk => hk.2) (.slice Ao46 t731.length co46)) (fun _ h_ => h_.1))))) (Kd.R_lt (by (with_reducible repeat (fail)); exact (Kd.R_mono (Kd.R_far (p := ⟨gb726, 2, none⟩) (Kd.R_far (p := ⟨gb726, 1, none⟩) (Kd.R_far (p := ⟨gb726, 0, none⟩) (Kd.R_types HO709.out BK726.out (by decide)) (fun _ hk => hk.2) (.bool t727)) (fun _ hk => hk.2) (.slice Ao45 t728.length co45)) (fun _ hk => hk.2) (.slice Ao46 t731.length co46)) (fun _ h_ => h_.1))))) (Kd.R_lt (by (with_reducible repeat (fail)); exact (Kd.R_mono (Kd.R_far (p := ⟨gb726, 2, none⟩) (Kd.R_far (p := ⟨gb726, 1, none⟩) (Kd.R_far (p := ⟨gb726, 0, none⟩) (Kd.R_types HO712.out BK726.out (by decide)) (fun _ hk => hk.2) (.bool t727)) (fun _ hk => hk.2) (.slice Ao45 t728.length co45)) (fun _ hk => hk.2) (.slice Ao46 t731.length co46)) (fun _ h_ => h_.1))))) (Kd.R_lt (by (with_reducible repeat (fail)); exact (Kd.R_mono (Kd.R_far (p := ⟨gb726, 2, none⟩) (Kd.R_far (p := ⟨gb726, 1, none⟩) (Kd.R_far (p := ⟨gb726, 0, none⟩) (Kd.R_types HO715.out BK726.out (by decide)) (fun _ hk => hk.2) (.bool t727)) (fun _ hk => hk.2) (.slice Ao45 t728.length co45)) (fun _ hk => hk.2) (.slice Ao46 t731.length co46)) (fun _ h_ => h_.1))))) (Kd.R_lt (by (with_reducible repeat (fail)); exact (Kd.R_mono (Kd.R_far (p := ⟨gb726, 2, none⟩) (Kd.R_far (p := ⟨gb726, 1, none⟩) (Kd.R_far (p := ⟨gb726, 0, none⟩) (Kd.R_types HO718.out BK726.out (by decide)) (fun _ hk => hk.2) (.bool t727)) (fun _ hk => hk.2) (.slice Ao45 t728.length co45)) (fun _ hk => hk.2) (.slice Ao46 t731.length co46)) (fun _ h_ => h_.1))))) (Kd.R_lt (by (with_reducible repeat (fail)); exact (Kd.R_mono (Kd.R_far (p := ⟨gb726, 2, none⟩) (Kd.R_far (p := ⟨gb726, 1, none⟩) (Kd.R_far (p := ⟨gb726, 0, none⟩) (Kd.R_types HO722.out BK726.out (by decide)) (fun _ hk => hk.2) (.bool t727)) (fun _ hk => hk.2) (.slice Ao45 t728.length co45)) (fun _ hk => hk.2) (.slice Ao46 t731.length co46)) (fun _ h_ => h_.1))))) (Kd.R_lt (by (with_reducible repeat (fail)); exact (Kd.R_mono (Kd.R_far (p := ⟨gb726, 2, none⟩) (Kd.R_far (p := ⟨gb726, 1, none⟩) (Kd.R_far (p := ⟨gb726, 0, none⟩) (Kd.R_types HO725.out BK726.out (by decide)) (fun _ hk => hk.2) (.bool t727)) (fun _ hk => hk.2) (.slice Ao45 t728.length co45)) (fun _ hk => hk.2) (.slice Ao46 t731.length co46)) (fun _ h_ => h_.1))))) (Kd.R_lt (by (with_reducible repeat (fail)); exact (Kd.R_mono (Kd.R_far (p := ⟨gb726, 2, none⟩) (Kd.R_far (p := ⟨gb726, 1, none⟩) (Kd.R_far (p := ⟨gb726, 0, none⟩) (Kd.R_types HO730.out BK726.out (by decide)) (fun _ hk => hk.2) (.bool t727)) (fun _ hk => hk.2) (.slice Ao45 t728.length co45)) (fun _ hk => hk.2) (.slice Ao46 t731.length co46)) (fun _ h_ => h_.1))))) (Kd.R_lt (by (with_reducible repeat (fail)); exact (Kd.R_mono (Kd.R_far (p := ⟨gb726, 2, none⟩) (Kd.R_far (p := ⟨gb726, 1, none⟩) (Kd.R_far (p := ⟨gb726, 0, none⟩) (Kd.R_types HO733.out BK726.out (by decide)) (fun _ hk => hk.2) (.bool t727)) (fun _ hk => hk.2) (.slice Ao45 t728.length co45)) (fun _ hk => hk.2) (.slice Ao46 t731.length co46)) (fun _ h_ => h_.1))))) (below_size (by repeat ((with_reducible first | exact HB.out | refine below_set ?_ GE726.out))))); have n14_ := Aside0.mk (blk_below (g := gb691) (o := .cells #[.bool false, .slice none 0 0, .slice none 0 0] 46 (0, 0)) (by (with_reducible repeat (fail)); refine blk_far ?_ NB691_726.out _; (with_reducible repeat (fail)); refine blk_far ?_ NB691_726.out _; (with_reducible repeat (fail)); refine blk_far ?_ NB691_726.out _; (with_reducible repeat (fail)); exact BK691.out) hb); have n15_ := Aside0.mk (blk_below (g := gb699) (o := .cells #[.bool x700000_1, .slice Ao49 x700001_1.length co49, .slice Ao50 x700002_1.length co50] 46 (0, 0)) (by (with_reducible repeat (fail)); refine blk_far ?_ NB699_726.out _; (with_reducible repeat (fail)); refine blk_far ?_ NB699_726.out _; (with_reducible repeat (fail)); refine blk_far ?_ NB699_726.out _; (with_reducible repeat (fail)); exact BK699.out) hb); have n16_ := Aside0.mk (blk_below (g := gb726) (o := .cells #[.bool t727, .slice Ao45 t728.length co45, .slice Ao46 t731.length co46] 46 (0, 0)) (by (with_reducible repeat (fail)); refine blk_put (cs := #[.bool t727, .slice Ao45 t728.length co45, .slice Ao42 t723.length co42]) ?_ 2 _ rfl; (with_reducible repeat (fail)); refine blk_put (cs := #[.bool t727, .slice Ao41 t720.length co41, .slice Ao42 t723.length co42]) ?_ 1 _ rfl; (with_reducible repeat (fail)); refine blk_put (cs := #[.bool t719, .slice Ao41 t720.length co41, .slice Ao42 t723.length co42]) ?_ 0 _ rfl; (with_reducible repeat (fail)); exact BK726.out) hb); have n17_ := Aside0.mk (below_step (by repeat ((with_reducible first | exact HB.out | refine below_set ?_ GE726.out))) hb); clear HO_700001; clear HO_700002; clear HO702; clear HO706; clear HO709; clear HO712; clear HO715; clear HO718; clear HO722; clear HO725; clear HO730; clear HO733; clear BK691; clear BK699; clear BK726; clear HB; have HO_700001 := n0_; have HO_700002 := n1_; have HO702 := n2_; have HO706 := n3_; have HO709 := n4_; have HO712 := n5_; have HO715 := n6_; have HO718 := n7_; have HO722 := n8_; have HO725 := n9_; have HO730 := n10_; have HO733 := n11_; have HO737 := n12_; have HO740 := n13_; have BK691 := n14_; have BK699 := n15_; have BK726 := n16_; have HB := n17_; clear n0_ n1_ n2_ n3_ n4_ n5_ n6_ n7_ n8_ n9_ n10_ n11_ n12_ n13_ n14_ n15_ n16_ n17_; (try clear hb); (try clear ho0); (try clear ho1); have hcz52_0 : w51.cell? ⟨gb699, 0, none⟩ = some (.bool x700000_1) := (blk_cell BK699.out 0).trans rfl; have hcz52_1 : w51.cell? ⟨gb699, 1, none⟩ = some (.slice Ao49 x700001_1.length co49) := (blk_cell BK699.out 1).trans rfl; have hcz52_2 : w51.cell? ⟨gb699, 2, none⟩ = some (.slice Ao50 x700002_1.length co50) := (blk_cell BK699.out 2).trans rfl; have hfz52_0 := blk_frozen BK699.out 0; have hfz52_1 := blk_frozen BK699.out 1; have hfz52_2 := blk_frozen BK699.out 2; obtain ⟨Ao53, co53, eo53⟩ := Kd.R_slice HO737.out; subst eo53; obtain ⟨Ao54, co54, eo54⟩ := Kd.R_slice HO740.out; subst eo54))
     go_roundg k1
     case measure => have := HK1.out; omega
     case rel => exact ⟨(wrap64 (x10_1 + 1)), (t734), (t735), (t738), (.slice Ao53 t735.length co53), (.slice Ao54 t738.length co54), (by rfl), H', ⟨by have := HK1.out; omega⟩, ⟨by (with_reducible repeat (fail)); exact Kd.R_mono (Kd.R_far (p := ⟨gb699, 2, none⟩) (Kd.R_far (p := ⟨gb699, 1, none⟩) (Kd.R_far (p := ⟨gb699, 0, none⟩) (Kd.R_types HO737.out BK699.out (by decide)) (fun _ hk => hk.2) (.bool t734)) (fun _ hk => hk.2) (.slice Ao53 t735.length co53)) (fun _ hk => hk.2) (.slice Ao54 t738.length co54)) (fun _ hk => hk.1.1.1.1.1.1.1.1.1.1.1.1.1)⟩, ⟨by (with_reducible repeat (fail)); exact Kd.R_mono (Kd.R_far (p := ⟨gb699, 2, none⟩) (Kd.R_far (p := ⟨gb699, 1, none⟩) (Kd.R_far (p := ⟨gb699, 0, none⟩) (Kd.R_types HO740.out BK699.out (by decide)) (fun _ hk => hk.2) (.bool t734)) (fun _ hk => hk.2) (.slice Ao53 t735.length co53)) (fun _ hk => hk.2) (.slice Ao54 t738.length co54)) (fun _ hk => hk.1.1.1.1.1.1.1.1.1.1.1.1.1)⟩, ⟨by (with_reducible repeat (fail)); refine blk_far ?_ NB691_699.out _; (with_reducible repeat (fail)); refine blk_far ?_ NB691_699.out _; (with_reducible repeat (fail)); refine blk_far ?_ NB691_699.out _; (with_reducible repeat (fail)); exact BK691.out⟩, ⟨by (with_reducible repeat (fail)); refine blk_put (cs := #[.bool t734, .slice Ao53 t735.length co53, .slice Ao50 x700002_1.length co50]) ?_ 2 _ rfl; (with_reducible repeat (fail)); refine blk_put (cs := #[.bool t734, .slice Ao49 x700001_1.length co49, .slice Ao50 x700002_1.length co50]) ?_ 1 _ rfl; (with_reducible repeat (fail)); refine blk_put (cs := #[.bool x700000_1, .slice Ao49 x700001_1.length co49, .slice Ao50 x700002_1.length co50]) ?_ 0 _ rfl; (with_reducible repeat (fail)); exact BK699.out⟩, ⟨by repeat ((with_reducible first | exact HB.out | refine below_set ?_ GE699.out))⟩⟩
    ·rw [if_neg c21] at H
     have c21b0 : ((Int.tmod x10_1 2) == 1) = false := beq_eq_false_iff_ne.mpr c21
     have c21b1 : ((Int.tmod x10_1 2) != 1) = true := bne_iff_ne.mpr c21
     replace H := Option.bind_eq_some_iff.mp H
     obtain ⟨⟨t741, t742, t745⟩, A550, H⟩ := H
     replace H : (codewrightref24_Krawtchouk.l0 k1 a0 a1 a2 a3 (wrap64 (x10_1 + 1)) t741 t742 t745) = some (r1, r2, r3) := H
     have A55 := Aside0.mk A550
     clear A550
     have H' := Aside0.mk H
     clear H
     go_wp2_with (first | ((with_reducible refine gate_callee (f := 80) rfl ?_); refine goesL_ (some 24) rfl rfl Try.func80 (by kernel_rfl) rfl #[.int .u64 (IntKind.u64.wrap (wrap64 (a0 - 1)))] rfl (by (try simp only [List.map_toArray, List.map_cons, List.map_nil]); rfl) ?_; (with_reducible refine (codewrightref01_Of.calls k1 (IntKind.u64.wrap (wrap64 (a0 - 1))) t700 _ A14.out).mono ?_); rintro e w56 ⟨v701, rfl, ho0, hb⟩; refine ⟨_, rfl, ?_⟩; have n0_ := Aside0.mk (Kd.R_elder' (by (with_reducible repeat (fail)); exact HO_700001.out) (Kd.R_base ho0) hb); have n1_ := Aside0.mk (Kd.R_elder' (by (with_reducible repeat (fail)); exact HO_700002.out) (Kd.R_base ho0) hb); have n2_ := Aside0.mk (Kd.R_lower (Kd.R_new' (Kd.R_new' ho0 (Kd.R_lt (by (with_reducible repeat (fail)); exact HO_700001.out))) (Kd.R_lt (by (with_reducible repeat (fail)); exact HO_700002.out))) (below_size (by repeat ((with_reducible exact HB.out))))); have n3_ := Aside0.mk (blk_below (g := gb691) (o := .cells #[.bool false, .slice none 0 0, .slice none 0 0] 46 (0, 0)) (by (with_reducible repeat (fail)); exact BK691.out) hb); have n4_ := Aside0.mk (blk_below (g := gb699) (o := .cells #[.bool x700000_1, u700001, u700002] 46 (0, 0)) (by (with_reducible repeat (fail)); exact BK699.out) hb); have n5_ := Aside0.mk (below_step (by repeat ((with_reducible exact HB.out))) hb); clear HO_700001; clear HO_700002; clear BK691; clear BK699; clear HB; have HO_700001 := n0_; have HO_700002 := n1_; have HO702 := n2_; have BK691 := n3_; have BK699 := n4_; have HB := n5_; clear n0_ n1_ n2_ n3_ n4_ n5_; (try clear hb); (try clear ho0); obtain ⟨Ao57, co57, eo57⟩ := Kd.R_slice HO702.out; subst eo57) | ((with_reducible refine gate_callee (f := 92) rfl ?_); refine goesL_ (some 28) rfl rfl Try.func92 (by kernel_rfl) rfl #[.slice Ao57 t700.length co57, .int .i64 (wrap64 (a2 - x10_1))] rfl (by (try simp only [List.map_toArray, List.map_cons, List.map_nil]); rfl) ?_; (with_reducible refine (codewrightref01_Pow.calls k1 _ _ t700 (wrap64 (a2 - x10_1)) t703 t704 _ ?side1 ?side2 A15.out).mono ?_); (case side1 => exact (Kd.R_reads' HO702.out).2.2); (case side2 => exact (Kd.R_reads' HO702.out).2.1); rintro e w58 ⟨v705, rfl, ho0, hb⟩; refine ⟨_, rfl, ?_⟩; have n0_ := Aside0.mk (Kd.R_elder' (by (with_reducible repeat (fail)); exact HO_700001.out) (Kd.R_base ho0) hb); have n1_ := Aside0.mk (Kd.R_elder' (by (with_reducible repeat (fail)); exact HO_700002.out) (Kd.R_base ho0) hb); have n2_ := Aside0.mk (Kd.R_elder' (by (with_reducible repeat (fail)); exact HO702.out) (Kd.R_base ho0) hb); have n3_ := Aside0.mk (Kd.R_lower (Kd.R_new' (Kd.R_new' (Kd.R_new' ho0 (Kd.R_lt (by (with_reducible repeat (fail)); exact HO_700001.out))) (Kd.R_lt (by (with_reducible repeat (fail)); exact HO_700002.out))) (Kd.R_lt (by (with_reducible repeat (fail)); exact HO702.out))) (below_size (by repeat ((with_reducible exact HB.out))))); have n4_ := Aside0.mk (blk_below (g := gb691) (o := .cells #[.bool false, .slice none 0 0, .slice none 0 0] 46 (0, 0)) (by (with_reducible repeat (fail)); exact BK691.out) hb); have n5_ := Aside0.mk (blk_below (g := gb699) (o := .cells #[.bool x700000_1, u700001, u700002] 46 (0, 0)) (by (with_reducible repeat (fail)); exact BK699.out) hb); have n6_ := Aside0.mk (below_step (by repeat ((with_reducible exact HB.out))) hb); clear HO_700001; clear HO_700002; clear HO702; clear BK691; clear BK699; clear HB; have HO_700001 := n0_; have HO_700002 := n1_; have HO702 := n2_; have HO706 := n3_; have BK691 := n4_; have BK699 := n5_; have HB := n6_; clear n0_ n1_ n2_ n3_ n4_ n5_ n6_; (try clear hb); (try clear ho0)) | ((with_reducible refine gate_callee (f := 91) rfl ?_); refine goesL_ (some 34) rfl rfl Try.func91 (by kernel_rfl) rfl #[.int .i64 a3, .int .i64 x10_1] rfl (by (try simp only [List.map_toArray, List.map_cons, List.map_nil]); rfl) ?_; (with_reducible refine (codewrightref01_Choose.calls k1 a3 x10_1 t707 _ A16.out).mono ?_); rintro e w59 ⟨v708, rfl, ho0, hb⟩; refine ⟨_, rfl, ?_⟩; have n0_ := Aside0.mk (Kd.R_elder' (by (with_reducible repeat (fail)); exact HO_700001.out) (Kd.R_base ho0) hb); have n1_ := Aside0.mk (Kd.R_elder' (by (with_reducible repeat (fail)); exact HO_700002.out) (Kd.R_base ho0) hb); have n2_ := Aside0.mk (Kd.R_elder' (by (with_reducible repeat (fail)); exact HO702.out) (Kd.R_base ho0) hb); have n3_ := Aside0.mk (Kd.R_elder' (by (with_reducible repeat (fail)); exact HO706.out) (Kd.R_base ho0) hb); have n4_ := Aside0.mk (Kd.R_lower (Kd.R_new' (Kd.R_new' (Kd.R_new' (Kd.R_new' ho0 (Kd.R_lt (by (with_reducible repeat (fail)); exact HO_700001.out))) (Kd.R_lt (by (with_reducible repeat (fail)); exact HO_700002.out))) (Kd.R_lt (by (with_reducible repeat (fail)); exact HO702.out))) (Kd.R_lt (by (with_reducible repeat (fail)); exact HO706.out))) (below_size (by repeat ((with_reducible exact HB.out))))); have n5_ := Aside0.mk (blk_below (g := gb691) (o := .cells #[.bool false, .slice none 0 0, .slice none 0 0] 46 (0, 0)) (by (with_reducible repeat (fail)); exact BK691.out) hb); have n6_ := Aside0.mk (blk_below (g := gb699) (o := .cells #[.bool x700000_1, u700001, u700002] 46 (0, 0)) (by (with_reducible repeat (fail)); exact BK699.out) hb); have n7_ := Aside0.mk (below_step (by repeat ((with_reducible exact HB.out))) hb); clear HO_700001; clear HO_700002; clear HO702; clear HO706; clear BK691; clear BK699; clear HB; have HO_700001 := n0_; have HO_700002 := n1_; have HO702 := n2_; have HO706 := n3_; have HO709 := n4_; have BK691 := n5_; have BK699 := n6_; have HB := n7_; clear n0_ n1_ n2_ n3_ n4_ n5_ n6_ n7_; (try clear hb); (try clear ho0)) | ((with_reducible refine gate_callee (f := 91) rfl ?_); refine goesL_ (some 41) rfl rfl Try.func91 (by kernel_rfl) rfl #[.int .i64 (wrap64 (a1 - a3)), .int .i64 (wrap64 (a2 - x10_1))] rfl (by (try simp only [List.map_toArray, List.map_cons, List.map_nil]); rfl) ?_; (with_reducible refine (codewrightref01_Choose.calls k1 (wrap64 (a1 - a3)) (wrap64 (a2 - x10_1)) t710 _ A17.out).mono ?_); rintro e w60 ⟨v711, rfl, ho0, hb⟩; refine ⟨_, rfl, ?_⟩; have n0_ := Aside0.mk (Kd.R_elder' (by (with_reducible repeat (fail)); exact HO_700001.out) (Kd.R_base ho0) hb); have n1_ := Aside0.mk (Kd.R_elder' (by (with_reducible repeat (fail)); exact HO_700002.out) (Kd.R_base ho0) hb); have n2_ := Aside0.mk (Kd.R_elder' (by (with_reducible repeat (fail)); exact HO702.out) (Kd.R_base ho0) hb); have n3_ := Aside0.mk (Kd.R_elder' (by (with_reducible repeat (fail)); exact HO706.out) (Kd.R_base ho0) hb); have n4_ := Aside0.mk (Kd.R_elder' (by (with_reducible repeat (fail)); exact HO709.out) (Kd.R_base ho0) hb); have n5_ := Aside0.mk (Kd.R_lower (Kd.R_new' (Kd.R_new' (Kd.R_new' (Kd.R_new' (Kd.R_new' ho0 (Kd.R_lt (by (with_reducible repeat (fail)); exact HO_700001.out))) (Kd.R_lt (by (with_reducible repeat (fail)); exact HO_700002.out))) (Kd.R_lt (by (with_reducible repeat (fail)); exact HO702.out))) (Kd.R_lt (by (with_reducible repeat (fail)); exact HO706.out))) (Kd.R_lt (by (with_reducible repeat (fail)); exact HO709.out))) (below_size (by repeat ((with_reducible exact HB.out))))); have n6_ := Aside0.mk (blk_below (g := gb691) (o := .cells #[.bool false, .slice none 0 0, .slice none 0 0] 46 (0, 0)) (by (with_reducible repeat (fail)); exact BK691.out) hb); have n7_ := Aside0.mk (blk_below (g := gb699) (o := .cells #[.bool x700000_1, u700001, u700002] 46 (0, 0)) (by (with_reducible repeat (fail)); exact BK699.out) hb); have n8_ := Aside0.mk (below_step (by repeat ((with_reducible exact HB.out))) hb); clear HO_700001; clear HO_700002; clear HO702; clear HO706; clear HO709; clear BK691; clear BK699; clear HB; have HO_700001 := n0_; have HO_700002 := n1_; have HO702 := n2_; have HO706 := n3_; have HO709 := n4_; have HO712 := n5_; have BK691 := n6_; have BK699 := n7_; have HB := n8_; clear n0_ n1_ n2_ n3_ n4_ n5_ n6_ n7_ n8_; (try clear hb); (try clear ho0); obtain ⟨Ao61, co61, eo61⟩ := Kd.R_slice HO709.out; subst eo61; obtain ⟨Ao62, co62, eo62⟩ := Kd.R_slice HO712.out; subst eo62) | ((with_reducible refine gate_callee (f := 68) rfl ?_); refine goesL_ (some 42) rfl rfl Try.func68 (by kernel_rfl) rfl #[.slice Ao61 t707.length co61, .slice Ao62 t710.length co62] rfl (by (try simp only [List.map_toArray, List.map_cons, List.map_nil]); rfl) ?_; (with_reducible refine (codewrightref01_Mul.calls k1 _ _ t707 _ _ t710 t713 _ ?side1 ?side2 ?side3 ?side4 A18.out).mono ?_); (case side1 => exact (Kd.R_reads' HO709.out).2.2); (case side2 => exact (Kd.R_reads' HO709.out).2.1); (case side3 => exact (Kd.R_reads' HO712.out).2.2); (case side4 => exact (Kd.R_reads' HO712.out).2.1); rintro e w63 ⟨v714, rfl, ho0, hb⟩; refine ⟨_, rfl, ?_⟩; have n0_ := Aside0.mk (Kd.R_elder' (by (with_reducible repeat (fail)); exact HO_700001.out) (Kd.R_base ho0) hb); have n1_ := Aside0.mk (Kd.R_elder' (by (with_reducible repeat (fail)); exact HO_700002.out) (Kd.R_base ho0) hb); have n2_ := Aside0.mk (Kd.R_elder' (by (with_reducible repeat (fail)); exact HO702.out) (Kd.R_base ho0) hb); have n3_ := Aside0.mk (Kd.R_elder' (by (with_reducible repeat (fail)); exact HO706.out) (Kd.R_base ho0) hb); have n4_ := Aside0.mk (Kd.R_elder' (by (with_reducible repeat (fail)); exact HO709.out) (Kd.R_base ho0) hb); have n5_ := Aside0.mk (Kd.R_elder' (by (with_reducible repeat (fail)); exact HO712.out) (Kd.R_base ho0) hb); have n6_ := Aside0.mk (Kd.R_lower (Kd.R_new' (Kd.R_new' (Kd.R_new' (Kd.R_new' (Kd.R_new' (Kd.R_new' ho0 (Kd.R_lt (by (with_reducible repeat (fail)); exact HO_700001.out))) (Kd.R_lt (by (with_reducible repeat (fail)); exact HO_700002.out))) (Kd.R_lt (by (with_reducible repeat (fail)); exact HO702.out))) (Kd.R_lt (by (with_reducible repeat (fail)); exact HO706.out))) (Kd.R_lt (by (with_reducible repeat (fail)); exact HO709.out))) (Kd.R_lt (by (with_reducible repeat (fail)); exact HO712.out))) (below_size (by repeat ((with_reducible exact HB.out))))); have n7_ := Aside0.mk (blk_below (g := gb691) (o := .cells #[.bool false, .slice none 0 0, .slice none 0 0] 46 (0, 0)) (by (with_reducible repeat (fail)); exact BK691.out) hb); have n8_ := Aside0.mk (blk_below (g := gb699) (o := .cells #[.bool x700000_1, u700001, u700002] 46 (0, 0)) (by (with_reducible repeat (fail)); exact BK699.out) hb); have n9_ := Aside0.mk (below_step (by repeat ((with_reducible exact HB.out))) hb); clear HO_700001; clear HO_700002; clear HO702; clear HO706; clear HO709; clear HO712; clear BK691; clear BK699; clear HB; have HO_700001 := n0_; have HO_700002 := n1_; have HO702 := n2_; have HO706 := n3_; have HO709 := n4_; have HO712 := n5_; have HO715 := n6_; have BK691 := n7_; have BK699 := n8_; have HB := n9_; clear n0_ n1_ n2_ n3_ n4_ n5_ n6_ n7_ n8_ n9_; (try clear hb); (try clear ho0); obtain ⟨Ao64, co64, eo64⟩ := Kd.R_slice HO706.out; subst eo64; obtain ⟨Ao65, co65, eo65⟩ := Kd.R_slice HO715.out; subst eo65) | ((with_reducible refine gate_callee (f := 68) rfl ?_); refine goesL_ (some 43) rfl rfl Try.func68 (by kernel_rfl) rfl #[.slice Ao64 t703.length co64, .slice Ao65 t713.length co65] rfl (by (try simp only [List.map_toArray, List.map_cons, List.map_nil]); rfl) ?_; (with_reducible refine (codewrightref01_Mul.calls k1 _ _ t703 _ _ t713 t716 _ ?side1 ?side2 ?side3 ?side4 A19.out).mono ?_); (case side1 => exact (Kd.R_reads' HO706.out).2.2); (case side2 => exact (Kd.R_reads' HO706.out).2.1); (case side3 => exact (Kd.R_reads' HO715.out).2.2); (case side4 => exact (Kd.R_reads' HO715.out).2.1); rintro e w66 ⟨v717, rfl, ho0, hb⟩; refine ⟨_, rfl, ?_⟩; have n0_ := Aside0.mk (Kd.R_elder' (by (with_reducible repeat (fail)); exact HO_700001.out) (Kd.R_base ho0) hb); have n1_ := Aside0.mk (Kd.R_elder' (by (with_reducible repeat (fail)); exact HO_700002.out) (Kd.R_base ho0) hb); have n2_ := Aside0.mk (Kd.R_elder' (by (with_reducible repeat (fail)); exact HO702.out) (Kd.R_base ho0) hb); have n3_ := Aside0.mk (Kd.R_elder' (by (with_reducible repeat (fail)); exact HO706.out) (Kd.R_base ho0) hb); have n4_ := Aside0.mk (Kd.R_elder' (by (with_reducible repeat (fail)); exact HO709.out) (Kd.R_base ho0) hb); have n5_ := Aside0.mk (Kd.R_elder' (by (with_reducible repeat (fail)); exact HO712.out) (Kd.R_base ho0) hb); have n6_ := Aside0.mk (Kd.R_elder' (by (with_reducible repeat (fail)); exact HO715.out) (Kd.R_base ho0) hb); have n7_ := Aside0.mk (Kd.R_lower (Kd.R_new' (Kd.R_new' (Kd.R_new' (Kd.R_new' (Kd.R_new' (Kd.R_new' (Kd.R_new' ho0 (Kd.R_lt (by (with_reducible repeat (fail)); exact HO_700001.out))) (Kd.R_lt (by (with_reducible repeat (fail)); exact HO_700002.out))) (Kd.R_lt (by (with_reducible repeat (fail)); exact HO702.out))) (Kd.R_lt (by (with_reducible repeat (fail)); exact HO706.out))) (Kd.R_lt (by (with_reducible repeat (fail)); exact HO709.out))) (Kd.R_lt (by (with_reducible repeat (fail)); exact HO712.out))) (Kd.R_lt (by (with_reducible repeat (fail)); exact HO715.out))) (below_size (by repeat ((with_reducible exact HB.out))))); have n8_ := Aside0.mk (blk_below (g := gb691) (o := .cells #[.bool false, .slice none 0 0, .slice none 0 0] 46 (0, 0)) (by (with_reducible repeat (fail)); exact BK691.out) hb); have n9_ := Aside0.mk (blk_below (g := gb699) (o := .cells #[.bool x700000_1, u700001, u700002] 46 (0, 0)) (by (with_reducible repeat (fail)); exact BK699.out) hb); have n10_ := Aside0.mk (below_step (by repeat ((with_reducible exact HB.out))) hb); clear HO_700001; clear HO_700002; clear HO702; clear HO706; clear HO709; clear HO712; clear HO715; clear BK691; clear BK699; clear HB; have HO_700001 := n0_; have HO_700002 := n1_; have HO702 := n2_; have HO706 := n3_; have HO709 := n4_; have HO712 := n5_; have HO715 := n6_; have HO718 := n7_; have BK691 := n8_; have BK699 := n9_; have HB := n10_; clear n0_ n1_ n2_ n3_ n4_ n5_ n6_ n7_ n8_ n9_ n10_; (try clear hb); (try clear ho0); obtain ⟨Ao67, co67, eo67⟩ := Kd.R_slice HO718.out; subst eo67) | ((with_reducible refine gate_callee (f := 39) rfl ?_); refine goesL_ (some 44) rfl rfl Try.func39 (by kernel_rfl) rfl #[.slice Ao67 t716.length co67] rfl (by (try simp only [List.map_toArray, List.map_cons, List.map_nil]); rfl) ?_; (with_reducible refine (codewrightref02_Nat.calls k1 _ _ t716 t719 t720 t723 _ ?side1 ?side2 A20.out).mono ?_); (case side1 => exact (Kd.R_reads' HO718.out).2.2); (case side2 => exact (Kd.R_reads' HO718.out).2.1); rintro e w68 ⟨v721, v724, rfl, ho0, ho1, hb⟩; refine ⟨_, rfl, ?_⟩; have n0_ := Aside0.mk (Kd.R_mono (Kd.R_told (Kd.R_told (Kd.R_old (by (with_reducible repeat (fail)); exact HO_700001.out) hb) (Kd.R_base ho0)) (Kd.R_base ho1)) (fun _ h_ => h_.1)); have n1_ := Aside0.mk (Kd.R_mono (Kd.R_told (Kd.R_told (Kd.R_old (by (with_reducible repeat (fail)); exact HO_700002.out) hb) (Kd.R_base ho0)) (Kd.R_base ho1)) (fun _ h_ => h_.1)); have n2_ := Aside0.mk (Kd.R_mono (Kd.R_told (Kd.R_told (Kd.R_old (by (with_reducible repeat (fail)); exact HO702.out) hb) (Kd.R_base ho0)) (Kd.R_base ho1)) (fun _ h_ => h_.1)); have n3_ := Aside0.mk (Kd.R_mono (Kd.R_told (Kd.R_told (Kd.R_old (by (with_reducible repeat (fail)); exact HO706.out) hb) (Kd.R_base ho0)) (Kd.R_base ho1)) (fun _ h_ => h_.1)); have n4_ := Aside0.mk (Kd.R_mono (Kd.R_told (Kd.R_told (Kd.R_old (by (with_reducible repeat (fail)); exact HO709.out) hb) (Kd.R_base ho0)) (Kd.R_base ho1)) (fun _ h_ => h_.1)); have n5_ := Aside0.mk (Kd.R_mono (Kd.R_told (Kd.R_told (Kd.R_old (by (with_reducible repeat (fail)); exact HO712.out) hb) (Kd.R_base ho0)) (Kd.R_base ho1)) (fun _ h_ => h_.1)); have n6_ := Aside0.mk (Kd.R_mono (Kd.R_told (Kd.R_told (Kd.R_old (by (with_reducible repeat (fail)); exact HO715.out) hb) (Kd.R_base ho0)) (Kd.R_base ho1)) (fun _ h_ => h_.1)); have n7_ := Aside0.mk (Kd.R_mono (Kd.R_told (Kd.R_told (Kd.R_old (by (with_reducible repeat (fail)); exact HO718.out) hb) (Kd.R_base ho0)) (Kd.R_base ho1)) (fun _ h_ => h_.1)); have n8_ := Aside0.mk (Kd.R_lower (Kd.R_new' (Kd.R_new' (Kd.R_new' (Kd.R_new' (Kd.R_new' (Kd.R_new' (Kd.R_new' (Kd.R_new' ho0 (Kd.R_lt (by (with_reducible repeat (fail)); exact HO_700001.out))) (Kd.R_lt (by (with_reducible repeat (fail)); exact HO_700002.out))) (Kd.R_lt (by (with_reducible repeat (fail)); exact HO702.out))) (Kd.R_lt (by (with_reducible repeat (fail)); exact HO706.out))) (Kd.R_lt (by (with_reducible repeat (fail)); exact HO709.out))) (Kd.R_lt (by (with_reducible repeat (fail)); exact HO712.out))) (Kd.R_lt (by (with_reducible repeat (fail)); exact HO715.out))) (Kd.R_lt (by (with_reducible repeat (fail)); exact HO718.out))) (below_size (by repeat ((with_reducible exact HB.out))))); have n9_ := Aside0.mk (Kd.R_lower (Kd.R_new' (Kd.R_new' (Kd.R_new' (Kd.R_new' (Kd.R_new' (Kd.R_new' (Kd.R_new' (Kd.R_new' ho1 (Kd.R_lt (by (with_reducible repeat (fail)); exact HO_700001.out))) (Kd.R_lt (by (with_reducible repeat (fail)); exact HO_700002.out))) (Kd.R_lt (by (with_reducible repeat (fail)); exact HO702.out))) (Kd.R_lt (by (with_reducible repeat (fail)); exact HO706.out))) (Kd.R_lt (by (with_reducible repeat (fail)); exact HO709.out))) (Kd.R_lt (by (with_reducible repeat (fail)); exact HO712.out))) (Kd.R_lt (by (with_reducible repeat (fail)); exact HO715.out))) (Kd.R_lt (by (with_reducible repeat (fail)); exact HO718.out))) (below_size (by repeat ((with_reducible exact HB.out))))); have n10_ := Aside0.mk (blk_below (g := gb691) (o := .cells #[.bool false, .slice none 0 0, .slice none 0 0] 46 (0, 0)) (by (with_reducible repeat (fail)); exact BK691.out) hb); have n11_ := Aside0.mk (blk_below (g := gb699) (o := .cells #[.bool x700000_1, u700001, u700002] 46 (0, 0)) (by (with_reducible repeat (fail)); exact BK699.out) hb); have n12_ := Aside0.mk (below_step (by repeat ((with_reducible exact HB.out))) hb); clear HO_700001; clear HO_700002; clear HO702; clear HO706; clear HO709; clear HO712; clear HO715; clear HO718; clear BK691; clear BK699; clear HB; have HO_700001 := n0_; have HO_700002 := n1_; have HO702 := n2_; have HO706 := n3_; have HO709 := n4_; have HO712 := n5_; have HO715 := n6_; have HO718 := n7_; have HO722 := n8_; have HO725 := n9_; have BK691 := n10_; have BK699 := n11_; have HB := n12_; clear n0_ n1_ n2_ n3_ n4_ n5_ n6_ n7_ n8_ n9_ n10_ n11_ n12_; (try clear hb); (try clear ho0); (try clear ho1)) | ((with_reducible refine gate_dst (N := 13) rfl ?_); refine box_event ?hg (N := 13) ?hd (cs := #[.bool false, .slice none 0 0, .slice none 0 0]) (t := 46) ?hr ?_; (case hd => rfl); (case hg => rfl); (case hr => (go_simp; done)); intro gb726 hg w69 hbox hb; have n0_ := Aside0.mk (Kd.R_below (by (with_reducible repeat (fail)); exact HO_700001.out) hb); have n1_ := Aside0.mk (Kd.R_below (by (with_reducible repeat (fail)); exact HO_700002.out) hb); have n2_ := Aside0.mk (Kd.R_below (by (with_reducible repeat (fail)); exact HO702.out) hb); have n3_ := Aside0.mk (Kd.R_below (by (with_reducible repeat (fail)); exact HO706.out) hb); have n4_ := Aside0.mk (Kd.R_below (by (with_reducible repeat (fail)); exact HO709.out) hb); have n5_ := Aside0.mk (Kd.R_below (by (with_reducible repeat (fail)); exact HO712.out) hb); have n6_ := Aside0.mk (Kd.R_below (by (with_reducible repeat (fail)); exact HO715.out) hb); have n7_ := Aside0.mk (Kd.R_below (by (with_reducible repeat (fail)); exact HO718.out) hb); have n8_ := Aside0.mk (Kd.R_below (by (with_reducible repeat (fail)); exact HO722.out) hb); have n9_ := Aside0.mk (Kd.R_below (by (with_reducible repeat (fail)); exact HO725.out) hb); have n10_ := Aside0.mk (blk_below (g := gb691) (o := .cells #[.bool false, .slice none 0 0, .slice none 0 0] 46 (0, 0)) (by (with_reducible repeat (fail)); exact BK691.out) hb); have n11_ := Aside0.mk (blk_below (g := gb699) (o := .cells #[.bool x700000_1, u700001, u700002] 46 (0, 0)) (by (with_reducible repeat (fail)); exact BK699.out) hb); have n12_ := Aside0.mk (below_step (by repeat ((with_reducible exact HB.out))) hb); have n13_ := Aside0.mk (hbox); have n14_ := Aside0.mk ((by rw [hg]; exact (below_size (by repeat ((with_reducible exact HB.out)))) : w.heap.size ≤ gb726)); have n15_ := Aside0.mk ((by rw [hg]; exact (below_size (by repeat ((with_reducible exact HB.out)))) : w.heap.size ≤ gb726)); have n16_ := Aside0.mk ((by rw [hg]; exact Nat.ne_of_lt (blk_lt (g := gb691) (o := .cells #[.bool false, .slice none 0 0, .slice none 0 0] 46 (0, 0)) (by (with_reducible repeat (fail)); exact BK691.out)) : gb691 ≠ gb726)); have n17_ := Aside0.mk ((by rw [hg]; exact Nat.ne_of_gt (blk_lt (g := gb691) (o := .cells #[.bool false, .slice none 0 0, .slice none 0 0] 46 (0, 0)) (by (with_reducible repeat (fail)); exact BK691.out)) : gb726 ≠ gb691)); have n18_ := Aside0.mk ((by rw [hg]; exact Nat.ne_of_lt (blk_lt (g := gb699) (o := .cells #[.bool x700000_1, u700001, u700002] 46 (0, 0)) (by (with_reducible repeat (fail)); exact BK699.out)) : gb699 ≠ gb726)); have n19_ := Aside0.mk ((by rw [hg]; exact Nat.ne_of_gt (blk_lt (g := gb699) (o := .cells #[.bool x700000_1, u700001, u700002] 46 (0, 0)) (by (with_reducible repeat (fail)); exact BK699.out)) : gb726 ≠ gb699)); clear HO_700001; clear HO_700002; clear HO702; clear HO706; clear HO709; clear HO712; clear HO715; clear HO718; clear HO722; clear HO725; clear BK691; clear BK699; clear HB; have HO_700001 := n0_; have HO_700002 := n1_; have HO702 := n2_; have HO706 := n3_; have HO709 := n4_; have HO712 := n5_; have HO715 := n6_; have HO718 := n7_; have HO722 := n8_; have HO725 := n9_; have BK691 := n10_; have BK699 := n11_; have HB := n12_; have BK726 := n13_; have GW726 := n14_; have GE726 := n15_; have NB691_726 := n16_; have NB726_691 := n17_; have NB699_726 := n18_; have NB726_699 := n19_; clear n0_ n1_ n2_ n3_ n4_ n5_ n6_ n7_ n8_ n9_ n10_ n11_ n12_ n13_ n14_ n15_ n16_ n17_ n18_ n19_; clear hb hbox hg; have hnb70 := NB726_691.out; have hnc70 := NB691_726.out; have hnb71 := NB726_699.out; have hnc71 := NB699_726.out; have hcz72_0 : w69.cell? ⟨gb726, 0, none⟩ = some (.bool false) := (blk_cell BK726.out 0).trans rfl; have hcz72_1 : w69.cell? ⟨gb726, 1, none⟩ = some (.slice none 0 0) := (blk_cell BK726.out 1).trans rfl; have hcz72_2 : w69.cell? ⟨gb726, 2, none⟩ = some (.slice none 0 0) := (blk_cell BK726.out 2).trans rfl; have hfz72_0 := blk_frozen BK726.out 0; have hfz72_1 := blk_frozen BK726.out 1; have hfz72_2 := blk_frozen BK726.out 2; obtain ⟨Ao73, co73, eo73⟩ := Kd.R_slice HO722.out; subst eo73; obtain ⟨Ao74, co74, eo74⟩ := Kd.R_slice HO725.out; subst eo74; have hnb75 := NB699_691.out; have hnc75 := NB691_699.out; have hcz76_0 : w69.cell? ⟨gb699, 0, none⟩ = some (.bool x700000_1) := (blk_cell BK699.out 0).trans rfl; have hcz76_1 : w69.cell? ⟨gb699, 1, none⟩ = some (u700001) := (blk_cell BK699.out 1).trans rfl; have hcz76_2 : w69.cell? ⟨gb699, 2, none⟩ = some (u700002) := (blk_cell BK699.out 2).trans rfl; have hfz76_0 := blk_frozen BK699.out 0; have hfz76_1 := blk_frozen BK699.out 1; have hfz76_2 := blk_frozen BK699.out 2; obtain ⟨Ao77, co77, eo77⟩ := Kd.R_slice HO_700001.out; subst eo77; obtain ⟨Ao78, co78, eo78⟩ := Kd.R_slice HO_700002.out; subst eo78) | ((with_reducible refine gate_callee (f := 33) rfl ?_); refine goesL_ (some 52) rfl rfl Try.func33 (by kernel_rfl) rfl #[.agg #[.bool x700000_1, .slice Ao77 x700001_1.length co77, .slice Ao78 x700002_1.length co78], .agg #[.bool t719, .slice Ao73 t720.length co73, .slice Ao74 t723.length co74]] rfl (by (try simp only [List.map_toArray, List.map_cons, List.map_nil]); rfl) ?_; (with_reducible refine (codewrightref02_Add.calls k1 x700000_1 _ _ x700001_1 _ _ x700002_1 t719 _ _ t720 _ _ t723 t741 t742 t745 _ ?side1 ?side2 ?side3 ?side4 ?side5 ?side6 ?side7 ?side8 A55.out).mono ?_); (case side1 => refine (Kd.R_reads' (e := 100) (base := w.heap.size) (ok := fun k_ => ((((((((some k_ ≠ (.slice Ao78 x700002_1.length co78 : Value).ownBlock ∧ some k_ ≠ (.slice Ao57 t700.length co57 : Value).ownBlock) ∧ some k_ ≠ (.slice Ao64 t703.length co64 : Value).ownBlock) ∧ some k_ ≠ (.slice Ao61 t707.length co61 : Value).ownBlock) ∧ some k_ ≠ (.slice Ao62 t710.length co62 : Value).ownBlock) ∧ some k_ ≠ (.slice Ao65 t713.length co65 : Value).ownBlock) ∧ some k_ ≠ (.slice Ao67 t716.length co67 : Value).ownBlock) ∧ some k_ ≠ (.slice Ao73 t720.length co73 : Value).ownBlock) ∧ some k_ ≠ (.slice Ao74 t723.length co74 : Value).ownBlock)) (n := x700001_1.length) (c := co77) ?_).2.2; exact (by (with_reducible repeat (fail)); exact (Kd.R_mono (Kd.R_far (p := ⟨gb726, 2, none⟩) (Kd.R_far (p := ⟨gb726, 1, none⟩) (Kd.R_far (p := ⟨gb726, 0, none⟩) (Kd.R_types HO_700001.out BK726.out (by decide)) (fun _ hk => hk.2) (.bool t719)) (fun _ hk => hk.2) (.slice Ao73 t720.length co73)) (fun _ hk => hk.2) (.slice Ao74 t723.length co74)) (fun _ h_ => h_.1)))); (case side2 => exact (Kd.R_reads' HO_700001.out).2.1); (case side3 => refine (Kd.R_reads' (e := 100) (base := w.heap.size) (ok := fun k_ => ((((((((some k_ ≠ (.slice Ao77 x700001_1.length co77 : Value).ownBlock ∧ some k_ ≠ (.slice Ao57 t700.length co57 : Value).ownBlock) ∧ some k_ ≠ (.slice Ao64 t703.length co64 : Value).ownBlock) ∧ some k_ ≠ (.slice Ao61 t707.length co61 : Value).ownBlock) ∧ some k_ ≠ (.slice Ao62 t710.length co62 : Value).ownBlock) ∧ some k_ ≠ (.slice Ao65 t713.length co65 : Value).ownBlock) ∧ some k_ ≠ (.slice Ao67 t716.length co67 : Value).ownBlock) ∧ some k_ ≠ (.slice Ao73 t720.length co73 : Value).ownBlock) ∧ some k_ ≠ (.slice Ao74 t723.length co74 : Value).ownBlock)) (n := x700002_1.length) (c := co78) ?_).2.2; exact (by (with_reducible repeat (fail)); exact (Kd.R_mono (Kd.R_far (p := ⟨gb726, 2, none⟩) (Kd.R_far (p := ⟨gb726, 1, none⟩) (Kd.R_far (p := ⟨gb726, 0, none⟩) (Kd.R_types HO_700002.out BK726.out (by decide)) (fun _ hk => hk.2) (.bool t719)) (fun _ hk => hk.2) (.slice Ao73 t720.length co73)) (fun _ hk => hk.2) (.slice Ao74 t723.length co74)) (fun _ h_ => h_.1)))); (case side4 => exact (Kd.R_reads' HO_700002.out).2.1); (case side5 => refine (Kd.R_reads' (e := 100) (base := w.heap.size) (ok := fun k_ => ((((((((some k_ ≠ (.slice Ao74 t723.length co74 : Value).ownBlock ∧ some k_ ≠ (.slice Ao77 x700001_1.length co77 : Value).ownBlock) ∧ some k_ ≠ (.slice Ao78 x700002_1.length co78 : Value).ownBlock) ∧ some k_ ≠ (.slice Ao57 t700.length co57 : Value).ownBlock) ∧ some k_ ≠ (.slice Ao64 t703.length co64 : Value).ownBlock) ∧ some k_ ≠ (.slice Ao61 t707.length co61 : Value).ownBlock) ∧ some k_ ≠ (.slice Ao62 t710.length co62 : Value).ownBlock) ∧ some k_ ≠ (.slice Ao65 t713.length co65 : Value).ownBlock) ∧ some k_ ≠ (.slice Ao67 t716.length co67 : Value).ownBlock)) (n := t720.length) (c := co73) ?_).2.2; exact (by (with_reducible repeat (fail)); exact (Kd.R_mono (Kd.R_far (p := ⟨gb726, 2, none⟩) (Kd.R_far (p := ⟨gb726, 1, none⟩) (Kd.R_far (p := ⟨gb726, 0, none⟩) (Kd.R_types HO722.out BK726.out (by decide)) (fun _ hk => hk.2) (.bool t719)) (fun _ hk => hk.2) (.slice Ao73 t720.length co73)) (fun _ hk => hk.2) (.slice Ao74 t723.length co74)) (fun _ h_ => h_.1)))); (case side6 => exact (Kd.R_reads' HO722.out).2.1); (case side7 => refine (Kd.R_reads' (e := 100) (base := w.heap.size) (ok := fun k_ => ((((((((some k_ ≠ (.slice Ao73 t720.length co73 : Value).ownBlock ∧ some k_ ≠ (.slice Ao77 x700001_1.length co77 : Value).ownBlock) ∧ some k_ ≠ (.slice Ao78 x700002_1.length co78 : Value).ownBlock) ∧ some k_ ≠ (.slice Ao57 t700.length co57 : Value).ownBlock) ∧ some k_ ≠ (.slice Ao64 t703.length co64 : Value).ownBlock) ∧ some k_ ≠ (.slice Ao61 t707.length co61 : Value).ownBlock) ∧ some k_ ≠ (.slice Ao62 t710.length co62 : Value).ownBlock) ∧ some k_ ≠ (.slice Ao65 t713.length co65 : Value).ownBlock) ∧ some k_ ≠ (.slice Ao67 t716.length co67 : Value).ownBlock)) (n := t723.length) (c := co74) ?_).2.2; exact (by (with_reducible repeat (fail)); exact (Kd.R_mono (Kd.R_far (p := ⟨gb726, 2, none⟩) (Kd.R_far (p := ⟨gb726, 1, none⟩) (Kd.R_far (p := ⟨gb726, 0, none⟩) (Kd.R_types HO725.out BK726.out (by decide)) (fun _ hk => hk.2) (.bool t719)) (fun _ hk => hk.2) (.slice Ao73 t720.length co73)) (fun _ hk => hk.2) (.slice Ao74 t723.length co74)) (fun _ h_ => h_.1)))); (case side8 => exact (Kd.R_reads' HO725.out).2.1); rintro e w79 ⟨v743, v746, rfl, ho0, ho1, hb⟩; refine ⟨_, rfl, ?_⟩; have n0_ := Aside0.mk (Kd.R_mono (Kd.R_told (Kd.R_told (Kd.R_old (by (with_reducible repeat (fail)); exact (Kd.R_mono (Kd.R_far (p := ⟨gb726, 2, none⟩) (Kd.R_far (p := ⟨gb726, 1, none⟩) (Kd.R_far (p := ⟨gb726, 0, none⟩) (Kd.R_types HO_700001.out BK726.out (by decide)) (fun _ hk => hk.2) (.bool t719)) (fun _ hk => hk.2) (.slice Ao73 t720.length co73)) (fun _ hk => hk.2) (.slice Ao74 t723.length co74)) (fun _ h_ => h_.1))) hb) (Kd.R_base ho0)) (Kd.R_base ho1)) (fun _ h_ => h_.1)); have n1_ := Aside0.mk (Kd.R_mono (Kd.R_told (Kd.R_told (Kd.R_old (by (with_reducible repeat (fail)); exact (Kd.R_mono (Kd.R_far (p := ⟨gb726, 2, none⟩) (Kd.R_far (p := ⟨gb726, 1, none⟩) (Kd.R_far (p := ⟨gb726, 0, none⟩) (Kd.R_types HO_700002.out BK726.out (by decide)) (fun _ hk => hk.2) (.bool t719)) (fun _ hk => hk.2) (.slice Ao73 t720.length co73)) (fun _ hk => hk.2) (.slice Ao74 t723.length co74)) (fun _ h_ => h_.1))) hb) (Kd.R_base ho0)) (Kd.R_base ho1)) (fun _ h_ => h_.1)); have n2_ := Aside0.mk (Kd.R_mono (Kd.R_told (Kd.R_told (Kd.R_old (by (with_reducible repeat (fail)); exact (Kd.R_mono (Kd.R_far (p := ⟨gb726, 2, none⟩) (Kd.R_far (p := ⟨gb726, 1, none⟩) (Kd.R_far (p := ⟨gb726, 0, none⟩) (Kd.R_types HO702.out BK726.out (by decide)) (fun _ hk => hk.2) (.bool t719)) (fun _ hk => hk.2) (.slice Ao73 t720.length co73)) (fun _ hk => hk.2) (.slice Ao74 t723.length co74)) (fun _ h_ => h_.1))) hb) (Kd.R_base ho0)) (Kd.R_base ho1)) (fun _ h_ => h_.1)); have n3_ := Aside0.mk (Kd.R_mono (Kd.R_told (Kd.R_told (Kd.R_old (by (with_reducible repeat (fail)); exact (Kd.R_mono (Kd.R_far (p := ⟨gb726, 2, none⟩) (Kd.R_far (p := ⟨gb726, 1, none⟩) (Kd.R_far (p := ⟨gb726, 0, none⟩) (Kd.R_types HO706.out BK726.out (by decide)) (fun _ hk => hk.2) (.bool t719)) (fun _ hk => hk.2) (.slice Ao73 t720.length co73)) (fun _ hk => hk.2) (.slice Ao74 t723.length co74)) (fun _ h_ => h_.1))) hb) (Kd.R_base ho0)) (Kd.R_base ho1)) (fun _ h_ => h_.1)); have n4_ := Aside0.mk (Kd.R_mono (Kd.R_told (Kd.R_told (Kd.R_old (by (with_reducible repeat (fail)); exact (Kd.R_mono (Kd.R_far (p := ⟨gb726, 2, none⟩) (Kd.R_far (p := ⟨gb726, 1, none⟩) (Kd.R_far (p := ⟨gb726, 0, none⟩) (Kd.R_types HO709.out BK726.out (by decide)) (fun _ hk => hk.2) (.bool t719)) (fun _ hk => hk.2) (.slice Ao73 t720.length co73)) (fun _ hk => hk.2) (.slice Ao74 t723.length co74)) (fun _ h_ => h_.1))) hb) (Kd.R_base ho0)) (Kd.R_base ho1)) (fun _ h_ => h_.1)); have n5_ := Aside0.mk (Kd.R_mono (Kd.R_told (Kd.R_told (Kd.R_old (by (with_reducible repeat (fail)); exact (Kd.R_mono (Kd.R_far (p := ⟨gb726, 2, none⟩) (Kd.R_far (p := ⟨gb726, 1, none⟩) (Kd.R_far (p := ⟨gb726, 0, none⟩) (Kd.R_types HO712.out BK726.out (by decide)) (fun _ hk => hk.2) (.bool t719)) (fun _ hk => hk.2) (.slice Ao73 t720.length co73)) (fun _ hk => hk.2) (.slice Ao74 t723.length co74)) (fun _ h_ => h_.1))) hb) (Kd.R_base ho0)) (Kd.R_base ho1)) (fun _ h_ => h_.1)); have n6_ := Aside0.mk (Kd.R_mono (Kd.R_told (Kd.R_told (Kd.R_old (by (with_reducible repeat (fail)); exact (Kd.R_mono (Kd.R_far (p := ⟨gb726, 2, none⟩) (Kd.R_far (p := ⟨gb726, 1, none⟩) (Kd.R_far (p := ⟨gb726, 0, none⟩) (Kd.R_types HO715.out BK726.out (by decide)) (fun _ hk => hk.2) (.bool t719)) (fun _ hk => hk.2) (.slice Ao73 t720.length co73)) (fun _ hk => hk.2) (.slice Ao74 t723.length co74)) (fun _ h_ => h_.1))) hb) (Kd.R_base ho0)) (Kd.R_base ho1)) (fun _ h_ => h_.1)); have n7_ := Aside0.mk (Kd.R_mono (Kd.R_told (Kd.R_told (Kd.R_old (by (with_reducible repeat (fail)); exact (Kd.R_mono (Kd.R_far (p := ⟨gb726, 2, none⟩) (Kd.R_far (p := ⟨gb726, 1, none⟩) (Kd.R_far (p := ⟨gb726, 0, none⟩) (Kd.R_types HO718.out BK726.out (by decide)) (fun _ hk => hk.2) (.bool t719)) (fun _ hk => hk.2) (.slice Ao73 t720.length co73)) (fun _ hk => hk.2) (.slice Ao74 t723.length co74)) (fun _ h_ => h_.1))) hb) (Kd.R_base ho0)) (Kd.R_base ho1)) (fun _ h_ => h_.1)); have n8_ := Aside0.mk (Kd.R_mono (Kd.R_told (Kd.R_told (Kd.R_old (by (with_reducible repeat (fail)); exact (Kd.R_mono (Kd.R_far (p := ⟨gb726, 2, none⟩) (Kd.R_far (p := ⟨gb726, 1, none⟩) (Kd.R_far (p := ⟨gb726, 0, none⟩) (Kd.R_types HO722.out BK726.out (by decide)) (fun _ hk => hk.2) (.bool t719)) (fun _ hk => hk.2) (.slice Ao73 t720.length co73)) (fun _ hk => hk.2) (.slice Ao74 t723.length co74)) (fun _ h_ => h_.1))) hb) (Kd.R_base ho0)) (Kd.R_base ho1)) (fun _ h_ => h_.1)); have n9_ := Aside0.mk (Kd.R_mono (Kd.R_told (Kd.R_told (Kd.R_old (by (with_reducible repeat (fail)); exact (Kd.R_mono (Kd.R_far (p := ⟨gb726, 2, none⟩) (Kd.R_far (p := ⟨gb726, 1, none⟩) (Kd.R_far (p := ⟨gb726, 0, none⟩) (Kd.R_types HO725.out BK726.out (by decide)) (fun _ hk => hk.2) (.bool t719)) (fun _ hk => hk.2) (.slice Ao73 t720.length co73)) (fun _ hk => hk.2) (.slice Ao74 t723.length co74)) (fun _ h_ => h_.1))) hb) (Kd.R_base ho0)) (Kd.R_base ho1)) (fun _ h_ => h_.1)); have n10_ := Aside0.mk (Kd.R_lower (Kd.R_new' (Kd.R_new' (Kd.R_new' (Kd.R_new' (Kd.R_new' (Kd.R_new' (Kd.R_new' (Kd.R_new' (Kd.R_new' (Kd.R_new' ho0 (Kd.R_lt (by (with_reducible repeat (fail)); exact (Kd.R_mono (Kd.R_far (p := ⟨gb726, 2, none⟩) (Kd.R_far (p := ⟨gb726, 1, none⟩) (Kd.R_far (p := ⟨gb726, 0, none⟩) (Kd.R_types HO_700001.out BK726.out (by decide)) (fun _ hk => hk.2) (.bool t719)) (fun _ hk => hk.2) (.slice Ao73 t720.length co73)) (fun _ hk => hk.2) (.slice Ao74 t723.length co74)) (fun _ h_ => h_.1))))) (Kd.R_lt (by (with_reducible repeat (fail)); exact (Kd.R_mono (Kd.R_far (p := ⟨gb726, 2, none⟩) (Kd.R_far (p := ⟨gb726, 1, none⟩) (Kd.R_far (p := ⟨gb726, 0, none⟩) (Kd.R_types HO_700002.out BK726.out (by decide)) (fun _ hk => hk.2) (.bool t719)) (fun _ hk => hk.2) (.slice Ao73 t720.length co73)) (fun _ hk => hk.2) (.slice Ao74 t723.length co74)) (fun _ h_ => h_.1))))) (Kd.R_lt (by (with_reducible repeat (fail)); exact (Kd.R_mono (Kd.R_far (p := ⟨gb726, 2, none⟩) (Kd.R_far (p := ⟨gb726, 1, none⟩) (Kd.R_far (p := ⟨gb726, 0, none⟩) (Kd.R_types HO702.out BK726.out (by decide)) (fun _ hk => hk.2) (.bool t719)) (fun _ hk => hk.2) (.slice Ao73 t720.length co73)) (fun _ hk => hk.2) (.slice Ao74 t723.length co74)) (fun _ h_ => h_.1))))) (Kd.R_lt (by (with_reducible repeat (fail)); exact (Kd.R_mono (Kd.R_far (p := ⟨gb726, 2, none⟩) (Kd.R_far (p := ⟨gb726, 1, none⟩) (Kd.R_far (p := ⟨gb726, 0, none⟩) (Kd.R_types HO706.out BK726.out (by decide)) (fun _ hk => hk.2) (.bool t719)) (fun _ hk => hk.2) (.slice Ao73 t720.length co73)) (fun _ hk => hk.2) (.slice Ao74 t723.length co74)) (fun _ h_ => h_.1))))) (Kd.R_lt (by (with_reducible repeat (fail)); exact (Kd.R_mono (Kd.R_far (p := ⟨gb726, 2, none⟩) (Kd.R_far (p := ⟨gb726, 1, none⟩) (Kd.R_far (p := ⟨gb726, 0, none⟩) (Kd.R_types HO709.out BK726.out (by decide)) (fun _ hk => hk.2) (.bool t719)) (fun _ hk => hk.2) (.slice Ao73 t720.length co73)) (fun _ hk => hk.2) (.slice Ao74 t723.length co74)) (fun _ h_ => h_.1))))) (Kd.R_lt (by (with_reducible repeat (fail)); exact (Kd.R_mono (Kd.R_far (p := ⟨gb726, 2, none⟩) (Kd.R_far (p := ⟨gb726, 1, none⟩) (Kd.R_far (p := ⟨gb726, 0, none⟩) (Kd.R_types HO712.out BK726.out (by decide)) (fun _ hk => hk.2) (.bool t719)) (fun _ hk => hk.2) (.slice Ao73 t720.length co73)) (fun _ hk => hk.2) (.slice Ao74 t723.length co74)) (fun _ h_ => h_.1))))) (Kd.R_lt (by (with_reducible repeat (fail)); exact (Kd.R_mono (Kd.R_far (p := ⟨gb726, 2, none⟩) (Kd.R_far (p := ⟨gb726, 1, none⟩) (Kd.R_far (p := ⟨gb726, 0, none⟩) (Kd.R_types HO715.out BK726.out (by decide)) (fun _ hk => hk.2) (.bool t719)) (fun _ hk => hk.2) (.slice Ao73 t720.length co73)) (fun _ hk => hk.2) (.slice Ao74 t723.length co74)) (fun _ h_ => h_.1))))) (Kd.R_lt (by (with_reducible repeat (fail)); exact (Kd.R_mono (Kd.R_far (p := ⟨gb726, 2, none⟩) (Kd.R_far (p := ⟨gb726, 1, none⟩) (Kd.R_far (p := ⟨gb726, 0, none⟩) (Kd.R_types HO718.out BK726.out (by decide)) (fun _ hk => hk.2) (.bool t719)) (fun _ hk => hk.2) (.slice Ao73 t720.length co73)) (fun _ hk => hk.2) (.slice Ao74 t723.length co74)) (fun _ h_ => h_.1))))) (Kd.R_lt (by (with_reducible repeat (fail)); exact (Kd.R_mono (Kd.R_far (p := ⟨gb726, 2, none⟩) (Kd.R_far (p := ⟨gb726, 1, none⟩) (Kd.R_far (p := ⟨gb726, 0, none⟩) (Kd.R_types HO722.out BK726.out (by decide)) (fun _ hk => hk.2) (.bool t719)) (fun _ hk => hk.2) (.slice Ao73 t720.length co73)) (fun _ hk => hk.2) (.slice Ao74 t723.length co74)) (fun _ h_ => h_.1))))) (Kd.R_lt (by (with_reducible repeat (fail)); exact (Kd.R_mono (Kd.R_far (p := ⟨gb726, 2, none⟩) (Kd.R_far (p := ⟨gb726, 1, none⟩) (Kd.R_far (p := ⟨gb726, 0, none⟩) (Kd.R_types HO725.out BK726.out (by decide)) (fun _ hk => hk.2) (.bool t719)) (fun _ hk => hk.2) (.slice Ao73 t720.length co73)) (fun _ hk => hk.2) (.slice Ao74 t723.length co74)) (fun _ h_ => h_.1))))) (below_size (by repeat ((with_reducible first | exact HB.out | refine below_set ?_ GE726.out))))); have n11_ := Aside0.mk (Kd.R_lower (Kd.R_new' (Kd.R_new' (Kd.R_new' (Kd.R_new' (Kd.R_new' (Kd.R_new' (Kd.R_new' (Kd.R_new' (Kd.R_new' (Kd.R_new' ho1 (Kd.R_lt (by (with_reducible repeat (fail)); exact (Kd.R_mono (Kd.R_far (p := ⟨gb726, 2, none⟩) (Kd.R_far (p := ⟨gb726, 1, none⟩) (Kd.R_far (p := ⟨gb726, 0, none⟩) (Kd.R_types HO_700001.out BK726.out (by decide)) (fun _ hk => hk.2) (.bool t719)) (fun _ hk => hk.2) (.slice Ao73 t720.length co73)) (fun _ hk => hk.2) (.slice Ao74 t723.length co74)) (fun _ h_ => h_.1))))) (Kd.R_lt (by (with_reducible repeat (fail)); exact (Kd.R_mono (Kd.R_far (p := ⟨gb726, 2, none⟩) (Kd.R_far (p := ⟨gb726, 1, none⟩) (Kd.R_far (p := ⟨gb726, 0, none⟩) (Kd.R_types HO_700002.out BK726.out (by decide)) (fun _ hk => hk.2) (.bool t719)) (fun _ hk => hk.2) (.slice Ao73 t720.length co73)) (fun _ hk => hk.2) (.slice Ao74 t723.length co74)) (fun _ h_ => h_.1))))) (Kd.R_lt (by (with_reducible repeat (fail)); exact (Kd.R_mono (Kd.R_far (p := ⟨gb726, 2, none⟩) (Kd.R_far (p := ⟨gb726, 1, none⟩) (Kd.R_far (p := ⟨gb726, 0, none⟩) (Kd.R_types HO702.out BK726.out (by decide)) (fun _ hk => hk.2) (.bool t719)) (fun _ hk => hk.2) (.slice Ao73 t720.length co73)) (fun _ hk => hk.2) (.slice Ao74 t723.length co74)) (fun _ h_ => h_.1))))) (Kd.R_lt (by (with_reducible repeat (fail)); exact (Kd.R_mono (Kd.R_far (p := ⟨gb726, 2, none⟩) (Kd.R_far (p := ⟨gb726, 1, none⟩) (Kd.R_far (p := ⟨gb726, 0, none⟩) (Kd.R_types HO706.out BK726.out (by decide)) (fun _ hk => hk.2) (.bool t719)) (fun _ hk => hk.2) (.slice Ao73 t720.length co73)) (fun _ hk => hk.2) (.slice Ao74 t723.length co74)) (fun _ h_ => h_.1))))) (Kd.R_lt (by (with_reducible repeat (fail)); exact (Kd.R_mono (Kd.R_far (p := ⟨gb726, 2, none⟩) (Kd.R_far (p := ⟨gb726, 1, none⟩) (Kd.R_far (p := ⟨gb726, 0, none⟩) (Kd.R_types HO709.out BK726.out (by decide)) (fun _ hk => hk.2) (.bool t719)) (fun _ hk => hk.2) (.slice Ao73 t720.length co73)) (fun _ hk => hk.2) (.slice Ao74 t723.length co74)) (fun _ h_ => h_.1))))) (Kd.R_lt (by (with_reducible repeat (fail)); exact (Kd.R_mono (Kd.R_far (p := ⟨gb726, 2, none⟩) (Kd.R_far (p := ⟨gb726, 1, none⟩) (Kd.R_far (p := ⟨gb726, 0, none⟩) (Kd.R_types HO712.out BK726.out (by decide)) (fun _ hk => hk.2) (.bool t719)) (fun _ hk => hk.2) (.slice Ao73 t720.length co73)) (fun _ hk => hk.2) (.slice Ao74 t723.length co74)) (fun _ h_ => h_.1))))) (Kd.R_lt (by (with_reducible repeat (fail)); exact (Kd.R_mono (Kd.R_far (p := ⟨gb726, 2, none⟩) (Kd.R_far (p := ⟨gb726, 1, none⟩) (Kd.R_far (p := ⟨gb726, 0, none⟩) (Kd.R_types HO715.out BK726.out (by decide)) (fun _ hk => hk.2) (.bool t719)) (fun _ hk => hk.2) (.slice Ao73 t720.length co73)) (fun _ hk => hk.2) (.slice Ao74 t723.length co74)) (fun _ h_ => h_.1))))) (Kd.R_lt (by (with_reducible repeat (fail)); exact (Kd.R_mono (Kd.R_far (p := ⟨gb726, 2, none⟩) (Kd.R_far (p := ⟨gb726, 1, none⟩) (Kd.R_far (p := ⟨gb726, 0, none⟩) (Kd.R_types HO718.out BK726.out (by decide)) (fun _ hk => hk.2) (.bool t719)) (fun _ hk => hk.2) (.slice Ao73 t720.length co73)) (fun _ hk => hk.2) (.slice Ao74 t723.length co74)) (fun _ h_ => h_.1))))) (Kd.R_lt (by (with_reducible repeat (fail)); exact (Kd.R_mono (Kd.R_far (p := ⟨gb726, 2, none⟩) (Kd.R_far (p := ⟨gb726, 1, none⟩) (Kd.R_far (p := ⟨gb726, 0, none⟩) (Kd.R_types HO722.out BK726.out (by decide)) (fun _ hk => hk.2) (.bool t719)) (fun _ hk => hk.2) (.slice Ao73 t720.length co73)) (fun _ hk => hk.2) (.slice Ao74 t723.length co74)) (fun _ h_ => h_.1))))) (Kd.R_lt (by (with_reducible repeat (fail)); exact (Kd.R_mono (Kd.R_far (p := ⟨gb726, 2, none⟩) (Kd.R_far (p := ⟨gb726, 1, none⟩) (Kd.R_far (p := ⟨gb726, 0, none⟩) (Kd.R_types HO725.out BK726.out (by decide)) (fun _ hk => hk.2) (.bool t719)) (fun _ hk => hk.2) (.slice Ao73 t720.length co73)) (fun _ hk => hk.2) (.slice Ao74 t723.length co74)) (fun _ h_ => h_.1))))) (below_size (by repeat ((with_reducible first | exact HB.out | refine below_set ?_ GE726.out))))); have n12_ := Aside0.mk (blk_below (g := gb691) (o := .cells #[.bool false, .slice none 0 0, .slice none 0 0] 46 (0, 0)) (by (with_reducible repeat (fail)); refine blk_far ?_ NB691_726.out _; (with_reducible repeat (fail)); refine blk_far ?_ NB691_726.out _; (with_reducible repeat (fail)); refine blk_far ?_ NB691_726.out _; (with_reducible repeat (fail)); exact BK691.out) hb); have n13_ := Aside0.mk (blk_below (g := gb699) (o := .cells #[.bool x700000_1, .slice Ao77 x700001_1.length co77, .slice Ao78 x700002_1.length co78] 46 (0, 0)) (by (with_reducible repeat (fail)); refine blk_far ?_ NB699_726.out _; (with_reducible repeat (fail)); refine blk_far ?_ NB699_726.out _; (with_reducible repeat (fail)); refine blk_far ?_ NB699_726.out _; (with_reducible repeat (fail)); exact BK699.out) hb); have n14_ := Aside0.mk (blk_below (g := gb726) (o := .cells #[.bool t719, .slice Ao73 t720.length co73, .slice Ao74 t723.length co74] 46 (0, 0)) (by (with_reducible repeat (fail)); refine blk_put (cs := #[.bool t719, .slice Ao73 t720.length co73, .slice none 0 0]) ?_ 2 _ rfl; (with_reducible repeat (fail)); refine blk_put (cs := #[.bool t719, .slice none 0 0, .slice none 0 0]) ?_ 1 _ rfl; (with_reducible repeat (fail)); refine blk_put (cs := #[.bool false, .slice none 0 0, .slice none 0 0]) ?_ 0 _ rfl; (with_reducible repeat (fail)); exact BK726.out) hb); have n15_ := Aside0.mk (below_step (by repeat ((with_reducible first | exact HB.out | refine below_set ?_ GE726.out))) hb); clear HO_700001; clear HO_700002; clear HO702; clear HO706; clear HO709; clear HO712; clear HO715; clear HO718; clear HO722; clear HO725; clear BK691; clear BK699; clear BK726; clear HB; have HO_700001 := n0_; have HO_700002 := n1_; have HO702 := n2_; have HO706 := n3_; have HO709 := n4_; have HO712 := n5_; have HO715 := n6_; have HO718 := n7_; have HO722 := n8_; have HO725 := n9_; have HO744 := n10_; have HO747 := n11_; have BK691 := n12_; have BK699 := n13_; have BK726 := n14_; have HB := n15_; clear n0_ n1_ n2_ n3_ n4_ n5_ n6_ n7_ n8_ n9_ n10_ n11_ n12_ n13_ n14_ n15_; (try clear hb); (try clear ho0); (try clear ho1); have hcz80_0 : w79.cell? ⟨gb699, 0, none⟩ = some (.bool x700000_1) := (blk_cell BK699.out 0).trans rfl; have hcz80_1 : w79.cell? ⟨gb699, 1, none⟩ = some (.slice Ao77 x700001_1.length co77) := (blk_cell BK699.out 1).trans rfl; have hcz80_2 : w79.cell? ⟨gb699, 2, none⟩ = some (.slice Ao78 x700002_1.length co78) := (blk_cell BK699.out 2).trans rfl; have hfz80_0 := blk_frozen BK699.out 0; have hfz80_1 := blk_frozen BK699.out 1; have hfz80_2 := blk_frozen BK699.out 2; obtain ⟨Ao81, co81, eo81⟩ := Kd.R_slice HO744.out; subst eo81; obtain ⟨Ao82, co82, eo82⟩ := Kd.R_slice HO747.out; subst eo82))
     go_roundg k1
     case measure => have := HK1.out; omega
     case rel => exact ⟨(wrap64 (x10_1 + 1)), (t741), (t742), (t745), (.slice Ao81 t742.length co81), (.slice Ao82 t745.length co82), (by rfl), H', ⟨by have := HK1.out; omega⟩, ⟨by (with_reducible repeat (fail)); exact Kd.R_mono (Kd.R_far (p := ⟨gb699, 2, none⟩) (Kd.R_far (p := ⟨gb699, 1, none⟩) (Kd.R_far (p := ⟨gb699, 0, none⟩) (Kd.R_types HO744.out BK699.out (by decide)) (fun _ hk => hk.2) (.bool t741)) (fun _ hk => hk.2) (.slice Ao81 t742.length co81)) (fun _ hk => hk.2) (.slice Ao82 t745.length co82)) (fun _ hk => hk.1.1.1.1.1.1.1.1.1.1.1)⟩, ⟨by (with_reducible repeat (fail)); exact Kd.R_mono (Kd.R_far (p := ⟨gb699, 2, none⟩) (Kd.R_far (p := ⟨gb699, 1, none⟩) (Kd.R_far (p := ⟨gb699, 0, none⟩) (Kd.R_types HO747.out BK699.out (by decide)) (fun _ hk => hk.2) (.bool t741)) (fun _ hk => hk.2) (.slice Ao81 t742.length co81)) (fun _ hk => hk.2) (.slice Ao82 t745.length co82)) (fun _ hk => hk.1.1.1.1.1.1.1.1.1.1.1)⟩, ⟨by (with_reducible repeat (fail)); refine blk_far ?_ NB691_699.out _; (with_reducible repeat (fail)); refine blk_far ?_ NB691_699.out _; (with_reducible repeat (fail)); refine blk_far ?_ NB691_699.out _; (with_reducible repeat (fail)); exact BK691.out⟩, ⟨by (with_reducible repeat (fail)); refine blk_put (cs := #[.bool t741, .slice Ao81 t742.length co81, .slice Ao78 x700002_1.length co78]) ?_ 2 _ rfl; (with_reducible repeat (fail)); refine blk_put (cs := #[.bool t741, .slice Ao77 x700001_1.length co77, .slice Ao78 x700002_1.length co78]) ?_ 1 _ rfl; (with_reducible repeat (fail)); refine blk_put (cs := #[.bool x700000_1, .slice Ao77 x700001_1.length co77, .slice Ao78 x700002_1.length co78]) ?_ 0 _ rfl; (with_reducible repeat (fail)); exact BK699.out⟩, ⟨by repeat ((with_reducible first | exact HB.out | refine below_set ?_ GE699.out))⟩⟩
   ·rw [if_neg c13] at H
    have c13b0 : decide (x10_1 ≤ a2) = false := decide_eq_false c13
    clear c13
    simp only [Option.some.injEq, Prod.mk.injEq] at H
    obtain ⟨rfl, rfl, rfl⟩ := H
    have hnb83 := NB699_691.out
    have hnc83 := NB691_699.out
    have hcz84_0 : wr.cell? ⟨gb699, 0, none⟩ = some (.bool x700000_1) := (blk_cell BK699.out 0).trans rfl
    have hcz84_1 : wr.cell? ⟨gb699, 1, none⟩ = some (u700001) := (blk_cell BK699.out 1).trans rfl
    have hcz84_2 : wr.cell? ⟨gb699, 2, none⟩ = some (u700002) := (blk_cell BK699.out 2).trans rfl
    have hfz84_0 := blk_frozen BK699.out 0
    have hfz84_1 := blk_frozen BK699.out 1
    have hfz84_2 := blk_frozen BK699.out 2
    have hcz85_0 : wr.cell? ⟨gb691, 0, none⟩ = some (.bool false) := (blk_cell BK691.out 0).trans rfl
    have hcz85_1 : wr.cell? ⟨gb691, 1, none⟩ = some (.slice none 0 0) := (blk_cell BK691.out 1).trans rfl
    have hcz85_2 : wr.cell? ⟨gb691, 2, none⟩ = some (.slice none 0 0) := (blk_cell BK691.out 2).trans rfl
    have hfz85_0 := blk_frozen BK691.out 0
    have hfz85_1 := blk_frozen BK691.out 1
    have hfz85_2 := blk_frozen BK691.out 2
    obtain ⟨Ao86, co86, eo86⟩ := Kd.R_slice HO_700001.out
    subst eo86
    obtain ⟨Ao87, co87, eo87⟩ := Kd.R_slice HO_700002.out
    subst eo87
    go_wp2
    refine bodyPost_ret (results_cell_row rfl _ _ gb691 46 #[.bool x700000_1, .slice Ao86 x700001_1.length co86, .slice Ao87 x700002_1.length co87] (0, 0) _ rfl (by (with_reducible repeat (fail)); refine blk_put (cs := #[.bool x700000_1, .slice Ao86 x700001_1.length co86, .slice none 0 0]) ?_ 2 _ rfl; (with_reducible repeat (fail)); refine blk_put (cs := #[.bool x700000_1, .slice none 0 0, .slice none 0 0]) ?_ 1 _ rfl; (with_reducible repeat (fail)); refine blk_put (cs := #[.bool false, .slice none 0 0, .slice none 0 0]) ?_ 0 _ rfl; (with_reducible repeat (fail)); exact BK691.out) Try.underlying46 rfl (by kernel_rfl)) rfl ?_
    exact ⟨_, _, by rfl, by (with_reducible repeat (fail)); exact Kd.R_mono (Kd.R_far (p := ⟨gb691, 2, none⟩) (Kd.R_far (p := ⟨gb691, 1, none⟩) (Kd.R_far (p := ⟨gb691, 0, none⟩) (Kd.R_types HO_700001.out BK691.out (by decide)) (fun _ hk => hk.2) (.bool x700000_1)) (fun _ hk => hk.2) (.slice Ao86 x700001_1.length co86)) (fun _ hk => hk.2) (.slice Ao87 x700002_1.length co87)) (fun _ hk => hk.1), by (with_reducible repeat (fail)); exact Kd.R_mono (Kd.R_far (p := ⟨gb691, 2, none⟩) (Kd.R_far (p := ⟨gb691, 1, none⟩) (Kd.R_far (p := ⟨gb691, 0, none⟩) (Kd.R_types HO_700002.out BK691.out (by decide)) (fun _ hk => hk.2) (.bool x700000_1)) (fun _ hk => hk.2) (.slice Ao86 x700001_1.length co86)) (fun _ hk => hk.2) (.slice Ao87 x700002_1.length co87)) (fun _ hk => hk.1), by repeat ((with_reducible first | exact HB.out | refine below_set ?_ GE691.out))⟩
end Go.Proofs.Ythheakfgmombdaa.F
end
section
namespace Go.Proofs.Ythheakfgmombdaa.F
open Go.RowKit Go.Proofs.YthheakfgmombdaaX.PrintWords Go.Proofs.YthheakfgmombdaaX.PrintLast Go.Proofs.YthheakfgmombdaaX.PrintMore
attribute [local go_sem] max2_int min2_int max_two min_two max_three min_three max_four min_four   -- for this text's walks alone
set_option linter.unusedVariables false
set_option linter.unusedSimpArgs false
def codewrightref24_Transform.T9 : Bool × List (List Nat × List Nat) := (true, [([], []), ([], []), ([], []), ([1, 2], [1, 2]), ([3], [3]), ([], []), ([], []), ([6], [6]), ([7], [7]), ([], []), ([], []), ([5, 8, 9, 10], [5, 8, 9, 10]), ([4, 11, 11], [4, 11]), ([0, 12, 12], [0, 12]), ([13, 13, 0, 1, 2, 3, 4, 5, 6, 7, 8, 9, 10, 11, 12, 13], [13])])
def codewrightref24_Transform.B9 : List Nat := [0, 0, 0, 6, 14, 0, 0, 64, 192, 0, 0, 2016, 4094, 8191, 16383]
theorem codewrightref24_Transform.tab9 : rtab .any (opsOf Try.f31 9) = codewrightref24_Transform.T9 := by kernel_rfl
theorem codewrightref24_Transform.bits9 : waitsOk codewrightref24_Transform.T9.2 codewrightref24_Transform.B9 = true := by kernel_rfl
set_option maxHeartbeats 8000000 in
set_option maxRecDepth 100000 in
theorem codewrightref24_Transform.calls (k : Nat) (a0 : Int) (A1 : Option Addr) (c1 : Nat) (l1 : List (S46)) (r : List (S46)) (w : World) (hr1 : Kd.C k46 w A1 l1.length l1) (hc1 : l1.length ≤ c1) (h : codewrightref24_Transform.f k a0 l1 = some r) :
  Calls Try.prog 31 #[.int .i64 a0, .slice A1 l1.length c1] w fun e w' => ∃ v0_ : Value, e = .returned (v0_) ∧ Kd.S k46 46 w' w.heap.size (fun _ => True) v0_ r ∧ Below w.heap.size w w' := by
 have hu46 := Try.underlying46
 have HR1 := Aside0.mk hr1
 have HC1 := Aside0.mk hc1
 clear hr1 hc1
 have HB := Aside0.mk (Below.refl w.heap.size w)
 have H : (codewrightref24_Transform.l0 k a0 l1 ([] : List (S46)) 0) = some r := h
 clear h
 have H' := Aside0.mk H
 clear H
 go_enter Try.func31, Try.ntmps31
 go_wp2
 go_loopg [5, 6] k (fun kq v5 v6 w' => ∃ (x5_1 : List (S46)) (x6_1 : Int), v6 = .int .i64 x6_1 ∧ Aside0 (codewrightref24_Transform.l0 kq a0 l1 x5_1 x6_1 = some r) ∧ Aside0 (kq ≤ k) ∧ Aside0 (Kd.S k46 46 w' w.heap.size (fun _ => True) v5 x5_1) ∧ Aside0 (Below w.heap.size w w'))
 case atStart => exact ⟨(([] : List (S46))), (0), (by rfl), H', ⟨Nat.le_refl _⟩, ⟨by exact Kd.S_nil _ _ _ _ _⟩, ⟨by repeat ((with_reducible exact HB.out))⟩⟩
 case round =>
  clear H'
  obtain ⟨x5_1, x6_1, rfl, HA, HK1, HO_5, HB⟩ := hrel
  cases gk with
  | zero => exact absurd HA.out (by simp [codewrightref24_Transform.l0])
  | succ k1 =>
   have H := HA.out
   clear HA
   simp only [codewrightref24_Transform.l0] at H
   by_cases c3 : x6_1 < (l1.length : Int)
   ·rw [if_pos c3] at H
    have c3b0 : decide (x6_1 < (l1.length : Int)) = true := decide_eq_true c3
    clear c3
    replace H := Option.bind_eq_some_iff.mp H
    obtain ⟨⟨t748, t749, t752⟩, A40, H⟩ := H
    replace H : (codewrightref24_Transform.l1 k1 a0 l1 x5_1 x6_1 0 t748 t749 t752) = some r := H
    have A4 := Aside0.mk A40
    clear A40
    have H' := Aside0.mk H
    clear H
    go_wp2_with (first | ((with_reducible refine gate_callee (f := 30) rfl ?_); refine goesL_ (some 15) rfl rfl Try.func30 (by kernel_rfl) rfl #[.int .i64 0] rfl (by (try simp only [List.map_toArray, List.map_cons, List.map_nil]); rfl) ?_; (with_reducible refine (codewrightref02_Int.calls k1 0 t748 t749 t752 _ A4.out).mono ?_); rintro e w5 ⟨v750, v753, rfl, ho0, ho1, hb⟩; refine ⟨_, rfl, ?_⟩; have n0_ := Aside0.mk (Kd.S_mono (Kd.S_told (Kd.S_told (Kd.S_old (by (with_reducible repeat (fail)); exact HO_5.out) hb) (Kd.R_base ho0)) (Kd.R_base ho1)) (fun _ h_ => h_.1)); have n1_ := Aside0.mk (Kd.R_lower ho0 (below_size (by repeat ((with_reducible exact HB.out))))); have n2_ := Aside0.mk (Kd.R_lower ho1 (below_size (by repeat ((with_reducible exact HB.out))))); have n3_ := Aside0.mk (below_step (by repeat ((with_reducible exact HB.out))) hb); clear HO_5; clear HB; have HO_5 := n0_; have HO751 := n1_; have HO754 := n2_; have HB := n3_; clear n0_ n1_ n2_ n3_; (try clear hb); (try clear ho0); (try clear ho1)) | ((with_reducible refine gate_dst (N := 7) rfl ?_); refine box_event ?hg (N := 7) ?hd (cs := #[.bool false, .slice none 0 0, .slice none 0 0]) (t := 46) ?hr ?_; (case hd => rfl); (case hg => rfl); (case hr => (go_simp; done)); intro gb755 hg w6 hbox hb; have n0_ := Aside0.mk (Kd.S_below (Kd.S_elderB (by (with_reducible repeat (fail)); exact HO_5.out) gb755 (Nat.le_of_eq hg.symm)) hb); have n1_ := Aside0.mk (Kd.R_below (by (with_reducible repeat (fail)); exact HO751.out) hb); have n2_ := Aside0.mk (Kd.R_below (by (with_reducible repeat (fail)); exact HO754.out) hb); have n3_ := Aside0.mk (below_step (by repeat ((with_reducible exact HB.out))) hb); have n4_ := Aside0.mk (hbox); have n5_ := Aside0.mk ((by rw [hg]; exact (below_size (by repeat ((with_reducible exact HB.out)))) : w.heap.size ≤ gb755)); have n6_ := Aside0.mk ((by rw [hg]; exact (below_size (by repeat ((with_reducible exact HB.out)))) : w.heap.size ≤ gb755)); clear HO_5; clear HO751; clear HO754; clear HB; have HO_5 := n0_; have HO751 := n1_; have HO754 := n2_; have HB := n3_; have BK755 := n4_; have GW755 := n5_; have GE755 := n6_; clear n0_ n1_ n2_ n3_ n4_ n5_ n6_; clear hb hbox hg; have hcz7_0 : w6.cell? ⟨gb755, 0, none⟩ = some (.bool false) := (blk_cell BK755.out 0).trans rfl; have hcz7_1 : w6.cell? ⟨gb755, 1, none⟩ = some (.slice none 0 0) := (blk_cell BK755.out 1).trans rfl; have hcz7_2 : w6.cell? ⟨gb755, 2, none⟩ = some (.slice none 0 0) := (blk_cell BK755.out 2).trans rfl; have hfz7_0 := blk_frozen BK755.out 0; have hfz7_1 := blk_frozen BK755.out 1; have hfz7_2 := blk_frozen BK755.out 2; obtain ⟨Ao8, co8, eo8⟩ := Kd.R_slice HO751.out; subst eo8; obtain ⟨Ao9, co9, eo9⟩ := Kd.R_slice HO754.out; subst eo9))
    go_loopg [8] k1 (fun kq v8 w' => ∃ (x8_2 : Int) (x756000_2 : Bool) (x756001_2 : List Int) (x756002_2 : List Int) (u756001 : Value) (u756002 : Value), v8 = .int .i64 x8_2 ∧ Aside0 (codewrightref24_Transform.l1 kq a0 l1 x5_1 x6_1 x8_2 x756000_2 x756001_2 x756002_2 = some r) ∧ Aside0 (kq ≤ k1) ∧ Aside0 (Kd.S k46 46 w' w.heap.size (fun k_ => some k_ ≠ (u756001 : Value).ownBlock ∧ some k_ ≠ (u756002 : Value).ownBlock ∧ k_ ≠ gb755) u5 x5_1) ∧ Aside0 (Kd.R (Kd.int .u32) 100 w' w.heap.size (fun k_ => some k_ ≠ (u756002 : Value).ownBlock) u756001 x756001_2) ∧ Aside0 (Kd.R (Kd.int .u32) 100 w' w.heap.size (fun k_ => some k_ ≠ (u756001 : Value).ownBlock) u756002 x756002_2) ∧ Aside0 (w'.heap[gb755]? = some (.cells #[.bool x756000_2, u756001, u756002] 46 (0, 0))) ∧ Aside0 (Below w.heap.size w w'))
    case atStart => exact ⟨(0), (t748), (t749), (t752), (.slice Ao8 t749.length co8), (.slice Ao9 t752.length co9), (by rfl), H', ⟨Nat.le_refl _⟩, ⟨by (with_reducible repeat (fail)); exact Kd.S_mono (Kd.S_far (p := ⟨gb755, 2, none⟩) (Kd.S_far (p := ⟨gb755, 1, none⟩) (Kd.S_far (p := ⟨gb755, 0, none⟩) (Kd.S_mono HO_5.out (fun k_ hk => (⟨hk, hk.2⟩ : _ ∧ k_ ≠ gb755))) (fun _ hk => hk.2) (.bool t748)) (fun _ hk => hk.2) (.slice Ao8 t749.length co8)) (fun _ hk => hk.2) (.slice Ao9 t752.length co9)) (fun _ hk => ⟨hk.1.1.1.2, ⟨hk.1.1.2, hk.1.2⟩⟩)⟩, ⟨by (with_reducible repeat (fail)); exact Kd.R_mono (Kd.R_far (p := ⟨gb755, 2, none⟩) (Kd.R_far (p := ⟨gb755, 1, none⟩) (Kd.R_far (p := ⟨gb755, 0, none⟩) (Kd.R_types HO751.out BK755.out (by decide)) (fun _ hk => hk.2) (.bool t748)) (fun _ hk => hk.2) (.slice Ao8 t749.length co8)) (fun _ hk => hk.2) (.slice Ao9 t752.length co9)) (fun _ hk => hk.1)⟩, ⟨by (with_reducible repeat (fail)); exact Kd.R_mono (Kd.R_far (p := ⟨gb755, 2, none⟩) (Kd.R_far (p := ⟨gb755, 1, none⟩) (Kd.R_far (p := ⟨gb755, 0, none⟩) (Kd.R_types HO754.out BK755.out (by decide)) (fun _ hk => hk.2) (.bool t748)) (fun _ hk => hk.2) (.slice Ao8 t749.length co8)) (fun _ hk => hk.2) (.slice Ao9 t752.length co9)) (fun _ hk => hk.1)⟩, ⟨by (with_reducible repeat (fail)); refine blk_put (cs := #[.bool t748, .slice Ao8 t749.length co8, .slice none 0 0]) ?_ 2 _ rfl; (with_reducible repeat (fail)); refine blk_put (cs := #[.bool t748, .slice none 0 0, .slice none 0 0]) ?_ 1 _ rfl; (with_reducible repeat (fail)); refine blk_put (cs := #[.bool false, .slice none 0 0, .slice none 0 0]) ?_ 0 _ rfl; (with_reducible repeat (fail)); exact BK755.out⟩, ⟨by repeat ((with_reducible first | exact HB.out | refine below_set ?_ GE755.out))⟩⟩
    case round =>
     clear H'
     try clear c3b0
     try clear hcz7_0
     try clear hcz7_1
     try clear hcz7_2
     try clear hfz7_0
     try clear hfz7_1
     try clear hfz7_2
     obtain ⟨x8_2, x756000_2, x756001_2, x756002_2, u756001, u756002, rfl, HA, HK2, HO_5, HO_756001, HO_756002, BK755, HB⟩ := hrel
     cases gk with
     | zero => exact absurd HA.out (by simp [codewrightref24_Transform.l1])
     | succ k2 =>
      have H := HA.out
      clear HA
      simp only [codewrightref24_Transform.l1] at H
      by_cases c10 : x8_2 < (l1.length : Int)
      ·rw [if_pos c10] at H
       have c10b0 : decide (x8_2 < (l1.length : Int)) = true := decide_eq_true c10
       clear c10
       by_cases c11 : 0 ≤ x8_2
       ·rw [if_pos c11] at H
        have c11b0 : decide (0 ≤ x8_2) = true := decide_eq_true c11
        clear c11
        replace H := Option.bind_eq_some_iff.mp H
        obtain ⟨⟨t760, t761, t764⟩, A120, H⟩ := H
        replace H : ((codewrightref02_Mul.f k2 ((rd_T46 l1 x8_2).f0) ((rd_T46 l1 x8_2).f1) ((rd_T46 l1 x8_2).f2) t760 t761 t764).bind fun bt767 => ((codewrightref02_Add.f k2 x756000_2 x756001_2 x756002_2 bt767.1 bt767.2.1 bt767.2.2).bind fun bt774 => (codewrightref24_Transform.l1 k2 a0 l1 x5_1 x6_1 (wrap64 (x8_2 + 1)) bt774.1 bt774.2.1 bt774.2.2))) = some r := H
        have A12 := Aside0.mk A120
        clear A120
        replace H := Option.bind_eq_some_iff.mp H
        obtain ⟨⟨t767, t768, t771⟩, A130, H⟩ := H
        replace H : ((codewrightref02_Add.f k2 x756000_2 x756001_2 x756002_2 t767 t768 t771).bind fun bt774 => (codewrightref24_Transform.l1 k2 a0 l1 x5_1 x6_1 (wrap64 (x8_2 + 1)) bt774.1 bt774.2.1 bt774.2.2)) = some r := H
        have A13 := Aside0.mk A130
        clear A130
        replace H := Option.bind_eq_some_iff.mp H
        obtain ⟨⟨t774, t775, t778⟩, A140, H⟩ := H
        replace H : (codewrightref24_Transform.l1 k2 a0 l1 x5_1 x6_1 (wrap64 (x8_2 + 1)) t774 t775 t778) = some r := H
        have A14 := Aside0.mk A140
        clear A140
        have H' := Aside0.mk H
        clear H
        try go_wp2
        have n0_ := Aside0.mk (Kd.S_drew HO_5.out)
        have n1_ := Aside0.mk (Kd.R_drew HO_756001.out)
        have n2_ := Aside0.mk (Kd.R_drew HO_756002.out)
        have n3_ := Aside0.mk (blk_drew BK755.out)
        have n4_ := Aside0.mk (below_drew1 HB.out)
        clear HO_5
        clear HO_756001
        clear HO_756002
        clear BK755
        clear HB
        have HO_5 := n0_
        have HO_756001 := n1_
        have HO_756002 := n2_
        have BK755 := n3_
        have HB := n4_
        clear n0_ n1_ n2_ n3_ n4_
        have p759 : 0 ≤ (x8_2 : Int) := of_decide_eq_true (by (with_reducible assumption))
        have q759 : x8_2 < (l1.length : Int) := of_decide_eq_true (by (with_reducible assumption))
        obtain ⟨ad759, A759_1, c759_1, A759_2, c759_2, e759, hx759_0, hx759_1, hx759_2, hl759_1, hi759_1, hl759_2, hi759_2⟩ := at_T46 HR1.out x8_2 p759 q759
        have hw759_2 := hx759_2
        have hw759_1 := hx759_1
        have hw759_0 := hx759_0
        cases e759
        replace hx759_0 := (HB.out.cell (World.block_lt_of_cell? w _ hx759_0)).trans hx759_0
        replace hx759_1 := (HB.out.cell (World.block_lt_of_cell? w _ hx759_1)).trans hx759_1
        replace hx759_2 := (HB.out.cell (World.block_lt_of_cell? w _ hx759_2)).trans hx759_2
        have HR759_1 := Aside0.mk hi759_1
        have HC759_1 := Aside0.mk hl759_1
        clear hi759_1 hl759_1
        have HR759_2 := Aside0.mk hi759_2
        have HC759_2 := Aside0.mk hl759_2
        clear hi759_2 hl759_2
        replace p759 := eq_true p759
        replace q759 := eq_true q759
        refine start_ (n := 15) (S := fun w' => w'.cell? ⟨gb755, 0, none⟩ = some (.bool x756000_2) ∧ w'.cell? ⟨gb755, 1, none⟩ = some (u756001) ∧ w'.cell? ⟨gb755, 2, none⟩ = some (u756002) ∧ w'.cell? (ad759.add ((x8_2).toNat * 3)) = some (.bool ((rd_T46 l1 x8_2).f0)) ∧ w'.cell? ⟨(ad759.add ((x8_2).toNat * 3)).block, (ad759.add ((x8_2).toNat * 3)).off + 1, none⟩ = some (.slice A759_1 ((rd_T46 l1 x8_2).f1).length c759_1) ∧ w'.cell? ⟨(ad759.add ((x8_2).toNat * 3)).block, (ad759.add ((x8_2).toNat * 3)).off + 2, none⟩ = some (.slice A759_2 ((rd_T46 l1 x8_2).f2).length c759_2)) (ds := [14]) #[false, false, false, false, false, false, false, false, false, false, false, false, false, false, false] (by kernel_rfl) rfl rfl ⟨(blk_cell BK755.out 0).trans rfl, (blk_cell BK755.out 1).trans rfl, (blk_cell BK755.out 2).trans rfl, ((HB.out.cell (World.block_lt_of_cell? w _ hw759_0)).trans hw759_0), ((HB.out.cell (World.block_lt_of_cell? w _ hw759_1)).trans hw759_1), ((HB.out.cell (World.block_lt_of_cell? w _ hw759_2)).trans hw759_2)⟩ (fun hHeld => ?_); refine with_tabW codewrightref24_Transform.tab9 codewrightref24_Transform.bits9 (fun HT_ HW_ => ?_)
        generalize wr.drew = w15 at HO_5 HO_756001 HO_756002 BK755 HB HR759_1 HR759_2 hx759_0 hx759_1 hx759_2 hHeld ⊢
        refine pure_ (i := 1) (N := some 23) (v := ?_) (a' := ?_) #[false, true, false, false, false, false, false, false, false, false, false, false, false, false, false] rfl rfl (any_of HT_.out (by kernel_rfl)) (fun _ _ _ h => h) (Or.inl ⟨by rfl, ?_⟩) ?_ ?_
        rotate_left
        ·intro w'
         go_simp
         with_reducible rfl
        rotate_left
        ·simp only [Act.put, List.setIfInBounds_toArray, List.set_cons_zero, List.set_cons_succ, i64_w, i32_w]
         rfl
        refine pure_ (i := 2) (N := some 24) (v := ?_) (a' := ?_) #[false, true, true, false, false, false, false, false, false, false, false, false, false, false, false] rfl rfl (any_of HT_.out (by kernel_rfl)) (fun _ _ _ h => h) (Or.inl ⟨by rfl, ?_⟩) ?_ ?_
        rotate_left
        ·intro w'
         go_simp
         with_reducible rfl
        rotate_left
        ·simp only [Act.put, List.setIfInBounds_toArray, List.set_cons_zero, List.set_cons_succ, i64_w, i32_w]
         rfl
        refine pure_ (i := 3) (N := some 25) (v := ?_) (a' := ?_) #[false, true, true, true, false, false, false, false, false, false, false, false, false, false, false] rfl rfl (any_of HT_.out (by kernel_rfl)) (fun _ _ _ h => h) (Or.inl ⟨by rfl, ?_⟩) ?_ ?_
        rotate_left
        ·intro w'
         go_simp
         with_reducible rfl
        rotate_left
        ·simp only [Act.put, List.setIfInBounds_toArray, List.set_cons_zero, List.set_cons_succ, i64_w, i32_w]
         rfl
        refine pure_ (i := 5) (N := some 27) (v := ?_) (a' := ?_) #[false, true, true, true, false, true, false, false, false, false, false, false, false, false, false] rfl rfl (any_of HT_.out (by kernel_rfl)) (fun _ _ _ h => h) (Or.inl ⟨by rfl, ?_⟩) ?_ ?_
        rotate_left
        ·intro w'
         go_simp
         with_reducible rfl
        rotate_left
        ·simp only [Act.put, List.setIfInBounds_toArray, List.set_cons_zero, List.set_cons_succ, i64_w, i32_w]
         rfl
        refine pure_ (i := 6) (N := some 28) (v := ?_) (a' := ?_) #[false, true, true, true, false, true, true, false, false, false, false, false, false, false, false] rfl rfl (any_of HT_.out (by kernel_rfl)) (fun _ _ _ h => h) (Or.inl ⟨by rfl, ?_⟩) ?_ ?_
        rotate_left
        ·intro w'
         go_simp
         with_reducible rfl
        rotate_left
        ·simp only [Act.put, List.setIfInBounds_toArray, List.set_cons_zero, List.set_cons_succ, i64_w, i32_w]
         rfl
        refine pure_ (i := 7) (N := some 29) (v := ?_) (a' := ?_) #[false, true, true, true, false, true, true, true, false, false, false, false, false, false, false] rfl rfl (any_of HT_.out (by kernel_rfl)) (fun _ _ _ h => h) (Or.inl ⟨by rfl, ?_⟩) ?_ ?_
        rotate_left
        ·intro w'
         go_simp
         with_reducible rfl
        rotate_left
        ·simp only [Act.put, List.setIfInBounds_toArray, List.set_cons_zero, List.set_cons_succ, i64_w, i32_w]
         rfl
        refine pure_ (i := 8) (N := some 30) (v := ?_) (a' := ?_) #[false, true, true, true, false, true, true, true, true, false, false, false, false, false, false] rfl rfl (any_of HT_.out (by kernel_rfl)) (fun _ _ _ h => h) (Or.inl ⟨by rfl, ?_⟩) ?_ ?_
        rotate_left
        ·intro w'
         go_simp
         with_reducible rfl
        rotate_left
        ·simp only [Act.put, List.setIfInBounds_toArray, List.set_cons_zero, List.set_cons_succ, i64_w, i32_w]
         rfl
        refine pure_ (i := 9) (N := some 31) (v := ?_) (a' := ?_) #[false, true, true, true, false, true, true, true, true, true, false, false, false, false, false] rfl rfl (any_of HT_.out (by kernel_rfl)) (fun _ _ _ h => h) (Or.inl ⟨by rfl, ?_⟩) ?_ ?_
        rotate_left
        ·intro w'
         go_simp
         with_reducible rfl
        rotate_left
        ·simp only [Act.put, List.setIfInBounds_toArray, List.set_cons_zero, List.set_cons_succ, i64_w, i32_w]
         rfl
        refine pure_ (i := 10) (N := some 32) (v := ?_) (a' := ?_) #[false, true, true, true, false, true, true, true, true, true, true, false, false, false, false] rfl rfl (any_of HT_.out (by kernel_rfl)) (fun _ _ _ h => h) (Or.inl ⟨by rfl, ?_⟩) ?_ ?_
        rotate_left
        ·intro w'
         go_simp
         with_reducible rfl
        rotate_left
        ·simp only [Act.put, List.setIfInBounds_toArray, List.set_cons_zero, List.set_cons_succ, i64_w, i32_w]
         rfl
        refine take_ (i := 0) (N := some 22) (v := ?_) (a' := ?_) #[true, true, true, true, false, true, true, true, true, true, true, false, false, false, false] rfl rfl (take_ofW HT_.out HW_.out (by kernel_rfl)) (fun _ _ _ h => h) (Or.inl ⟨by rfl, ?_⟩) hHeld ?_ ?_
        rotate_left
        ·rintro w' ⟨s0, s1, s2, s3, s4, s5⟩
         go_simp
         with_reducible rfl
        rotate_left
        ·simp only [Act.put, List.setIfInBounds_toArray, List.set_cons_zero, List.set_cons_succ, i64_w, i32_w]
         rfl
        refine take_ (i := 4) (N := some 26) (v := ?_) (a' := ?_) #[true, true, true, true, true, true, true, true, true, true, true, false, false, false, false] rfl rfl (take_ofW HT_.out HW_.out (by kernel_rfl)) (fun _ _ _ h => h) (Or.inl ⟨by rfl, ?_⟩) hHeld ?_ ?_
        rotate_left
        ·rintro w' ⟨s0, s1, s2, s3, s4, s5⟩
         go_simp
         with_reducible rfl
        rotate_left
        ·simp only [Act.put, List.setIfInBounds_toArray, List.set_cons_zero, List.set_cons_succ, i64_w, i32_w]
         rfl
        refine one_ (i := 11) (N := some 33) #[true, true, true, true, true, true, true, true, true, true, true, true, false, false, false] rfl rfl (one_of HT_.out (by kernel_rfl)) (by decide) (fun K hK => ?_)
        refine goes_ Try.func66 (by kernel_rfl) rfl #[.int .i64 a0, .int .i64 (wrap64 ((l1.length : Int) - 1)), .int .i64 x6_1, .int .i64 x8_2] (by rfl) rfl rfl (by (try simp only [List.map_toArray, List.map_cons, List.map_nil]); rfl) ?_
        with_reducible refine (codewrightref24_Krawtchouk.calls k2 a0 (wrap64 ((l1.length : Int) - 1)) x6_1 x8_2 t760 t761 t764 _ A12.out).mono ?_
        rintro e w16 ⟨v762, v765, rfl, ho0, ho1, hb⟩
        refine ⟨_, rfl, ?_⟩
        have n0_ := Aside0.mk (Kd.S_mono (Kd.S_told (Kd.S_told (Kd.S_old (by (with_reducible repeat (fail)); exact HO_5.out) hb) (Kd.R_base ho0)) (Kd.R_base ho1)) (fun _ h_ => h_.1))
        have n1_ := Aside0.mk (Kd.R_mono (Kd.R_told (Kd.R_told (Kd.R_old (by (with_reducible repeat (fail)); exact HO_756001.out) hb) (Kd.R_base ho0)) (Kd.R_base ho1)) (fun _ h_ => h_.1))
        have n2_ := Aside0.mk (Kd.R_mono (Kd.R_told (Kd.R_told (Kd.R_old (by (with_reducible repeat (fail)); exact HO_756002.out) hb) (Kd.R_base ho0)) (Kd.R_base ho1)) (fun _ h_ => h_.1))
        have n3_ := Aside0.mk (Kd.R_lower (Kd.R_new' (Kd.R_new' ho0 (Kd.R_lt (by (with_reducible repeat (fail)); exact HO_756001.out))) (Kd.R_lt (by (with_reducible repeat (fail)); exact HO_756002.out))) (below_size (by repeat ((with_reducible exact HB.out)))))
        have n4_ := Aside0.mk (Kd.R_lower (Kd.R_new' (Kd.R_new' ho1 (Kd.R_lt (by (with_reducible repeat (fail)); exact HO_756001.out))) (Kd.R_lt (by (with_reducible repeat (fail)); exact HO_756002.out))) (below_size (by repeat ((with_reducible exact HB.out)))))
        have n5_ := Aside0.mk (blk_below (g := gb755) (o := .cells #[.bool x756000_2, u756001, u756002] 46 (0, 0)) (by (with_reducible repeat (fail)); exact BK755.out) hb)
        have n6_ := Aside0.mk (below_step (by repeat ((with_reducible exact HB.out))) hb)
        clear HO_5
        clear HO_756001
        clear HO_756002
        clear BK755
        clear HB
        have HO_5 := n0_
        have HO_756001 := n1_
        have HO_756002 := n2_
        have HO763 := n3_
        have HO766 := n4_
        have BK755 := n5_
        have HB := n6_
        clear n0_ n1_ n2_ n3_ n4_ n5_ n6_
        (try clear hb)
        (try clear ho0)
        (try clear ho1)
        obtain ⟨Ao17, co17, eo17⟩ := Kd.R_slice HO763.out
        (subst eo17)
        obtain ⟨Ao18, co18, eo18⟩ := Kd.R_slice HO766.out
        (subst eo18)
        refine hK.out _ _ ⟨(blk_cell BK755.out 0).trans rfl, (blk_cell BK755.out 1).trans rfl, (blk_cell BK755.out 2).trans rfl, ((HB.out.cell (World.block_lt_of_cell? w _ hw759_0)).trans hw759_0), ((HB.out.cell (World.block_lt_of_cell? w _ hw759_1)).trans hw759_1), ((HB.out.cell (World.block_lt_of_cell? w _ hw759_2)).trans hw759_2)⟩ (fun hHeld => ?_)
        clear hK K
        refine norm_ (a' := ?_) ?_ ?_
        rotate_left
        ·show Act.put _ (some 33) _ = _
         simp only [Act.put, List.setIfInBounds_toArray, List.set_cons_zero, List.set_cons_succ, i64_w, i32_w]
         rfl
        refine one_ (i := 12) (N := some 34) #[true, true, true, true, true, true, true, true, true, true, true, true, true, false, false] rfl rfl (one_of HT_.out (by kernel_rfl)) (by decide) (fun K hK => ?_)
        refine goes_ Try.func44 (by kernel_rfl) rfl #[.agg #[.bool ((rd_T46 l1 x8_2).f0), .slice A759_1 ((rd_T46 l1 x8_2).f1).length c759_1, .slice A759_2 ((rd_T46 l1 x8_2).f2).length c759_2], .agg #[.bool t760, .slice Ao17 t761.length co17, .slice Ao18 t764.length co18]] (by rfl) rfl rfl (by (try simp only [List.map_toArray, List.map_cons, List.map_nil]); rfl) ?_
        with_reducible refine (codewrightref02_Mul.calls k2 ((rd_T46 l1 x8_2).f0) _ _ ((rd_T46 l1 x8_2).f1) _ _ ((rd_T46 l1 x8_2).f2) t760 _ _ t761 _ _ t764 t767 t768 t771 _ ?side1 ?side2 ?side3 ?side4 ?side5 ?side6 ?side7 ?side8 A13.out).mono ?_
        (case side1 => repeat (exact (Kd.C_below HR759_1.out HB.out)))
        (case side2 => exact HC759_1.out)
        (case side3 => repeat (exact (Kd.C_below HR759_2.out HB.out)))
        (case side4 => exact HC759_2.out)
        (case side5 => exact (Kd.R_reads' HO763.out).2.2)
        (case side6 => exact (Kd.R_reads' HO763.out).2.1)
        (case side7 => exact (Kd.R_reads' HO766.out).2.2)
        (case side8 => exact (Kd.R_reads' HO766.out).2.1)
        rintro e w19 ⟨v769, v772, rfl, ho0, ho1, hb⟩
        refine ⟨_, rfl, ?_⟩
        have n0_ := Aside0.mk (Kd.S_mono (Kd.S_told (Kd.S_told (Kd.S_old (by (with_reducible repeat (fail)); exact HO_5.out) hb) (Kd.R_base ho0)) (Kd.R_base ho1)) (fun _ h_ => h_.1))
        have n1_ := Aside0.mk (Kd.R_mono (Kd.R_told (Kd.R_told (Kd.R_old (by (with_reducible repeat (fail)); exact HO_756001.out) hb) (Kd.R_base ho0)) (Kd.R_base ho1)) (fun _ h_ => h_.1))
        have n2_ := Aside0.mk (Kd.R_mono (Kd.R_told (Kd.R_told (Kd.R_old (by (with_reducible repeat (fail)); exact HO_756002.out) hb) (Kd.R_base ho0)) (Kd.R_base ho1)) (fun _ h_ => h_.1))
        have n3_ := Aside0.mk (Kd.R_mono (Kd.R_told (Kd.R_told (Kd.R_old (by (with_reducible repeat (fail)); exact HO763.out) hb) (Kd.R_base ho0)) (Kd.R_base ho1)) (fun _ h_ => h_.1))
        have n4_ := Aside0.mk (Kd.R_mono (Kd.R_told (Kd.R_told (Kd.R_old (by (with_reducible repeat (fail)); exact HO766.out) hb) (Kd.R_base ho0)) (Kd.R_base ho1)) (fun _ h_ => h_.1))
        have n5_ := Aside0.mk (Kd.R_lower (Kd.R_new' (Kd.R_new' (Kd.R_new' (Kd.R_new' ho0 (Kd.R_lt (by (with_reducible repeat (fail)); exact HO_756001.out))) (Kd.R_lt (by (with_reducible repeat (fail)); exact HO_756002.out))) (Kd.R_lt (by (with_reducible repeat (fail)); exact HO763.out))) (Kd.R_lt (by (with_reducible repeat (fail)); exact HO766.out))) (below_size (by repeat ((with_reducible exact HB.out)))))
        have n6_ := Aside0.mk (Kd.R_lower (Kd.R_new' (Kd.R_new' (Kd.R_new' (Kd.R_new' ho1 (Kd.R_lt (by (with_reducible repeat (fail)); exact HO_756001.out))) (Kd.R_lt (by (with_reducible repeat (fail)); exact HO_756002.out))) (Kd.R_lt (by (with_reducible repeat (fail)); exact HO763.out))) (Kd.R_lt (by (with_reducible repeat (fail)); exact HO766.out))) (below_size (by repeat ((with_reducible exact HB.out)))))
        have n7_ := Aside0.mk (blk_below (g := gb755) (o := .cells #[.bool x756000_2, u756001, u756002] 46 (0, 0)) (by (with_reducible repeat (fail)); exact BK755.out) hb)
        have n8_ := Aside0.mk (below_step (by repeat ((with_reducible exact HB.out))) hb)
        clear HO_5
        clear HO_756001
        clear HO_756002
        clear HO763
        clear HO766
        clear BK755
        clear HB
        have HO_5 := n0_
        have HO_756001 := n1_
        have HO_756002 := n2_
        have HO763 := n3_
        have HO766 := n4_
        have HO770 := n5_
        have HO773 := n6_
        have BK755 := n7_
        have HB := n8_
        clear n0_ n1_ n2_ n3_ n4_ n5_ n6_ n7_ n8_
        (try clear hb)
        (try clear ho0)
        (try clear ho1)
        obtain ⟨Ao20, co20, eo20⟩ := Kd.R_slice HO_756001.out
        (subst eo20)
        obtain ⟨Ao21, co21, eo21⟩ := Kd.R_slice HO_756002.out
        (subst eo21)
        obtain ⟨Ao22, co22, eo22⟩ := Kd.R_slice HO770.out
        (subst eo22)
        obtain ⟨Ao23, co23, eo23⟩ := Kd.R_slice HO773.out
        (subst eo23)
        refine hK.out _ _ ⟨(blk_cell BK755.out 0).trans rfl, (blk_cell BK755.out 1).trans rfl, (blk_cell BK755.out 2).trans rfl, ((HB.out.cell (World.block_lt_of_cell? w _ hw759_0)).trans hw759_0), ((HB.out.cell (World.block_lt_of_cell? w _ hw759_1)).trans hw759_1), ((HB.out.cell (World.block_lt_of_cell? w _ hw759_2)).trans hw759_2)⟩ (fun hHeld => ?_)
        clear hK K
        refine norm_ (a' := ?_) ?_ ?_
        rotate_left
        ·show Act.put _ (some 34) _ = _
         simp only [Act.put, List.setIfInBounds_toArray, List.set_cons_zero, List.set_cons_succ, i64_w, i32_w]
         rfl
        refine one_ (i := 13) (N := some 35) #[true, true, true, true, true, true, true, true, true, true, true, true, true, true, false] rfl rfl (one_of HT_.out (by kernel_rfl)) (by decide) (fun K hK => ?_)
        refine goes_ Try.func33 (by kernel_rfl) rfl #[.agg #[.bool x756000_2, .slice Ao20 x756001_2.length co20, .slice Ao21 x756002_2.length co21], .agg #[.bool t767, .slice Ao22 t768.length co22, .slice Ao23 t771.length co23]] (by rfl) rfl rfl (by (try simp only [List.map_toArray, List.map_cons, List.map_nil]); rfl) ?_
        with_reducible refine (codewrightref02_Add.calls k2 x756000_2 _ _ x756001_2 _ _ x756002_2 t767 _ _ t768 _ _ t771 t774 t775 t778 _ ?side1 ?side2 ?side3 ?side4 ?side5 ?side6 ?side7 ?side8 A14.out).mono ?_
        (case side1 => exact (Kd.R_reads' HO_756001.out).2.2)
        (case side2 => exact (Kd.R_reads' HO_756001.out).2.1)
        (case side3 => exact (Kd.R_reads' HO_756002.out).2.2)
        (case side4 => exact (Kd.R_reads' HO_756002.out).2.1)
        (case side5 => exact (Kd.R_reads' HO770.out).2.2)
        (case side6 => exact (Kd.R_reads' HO770.out).2.1)
        (case side7 => exact (Kd.R_reads' HO773.out).2.2)
        (case side8 => exact (Kd.R_reads' HO773.out).2.1)
        rintro e w24 ⟨v776, v779, rfl, ho0, ho1, hb⟩
        refine ⟨_, rfl, ?_⟩
        have n0_ := Aside0.mk (Kd.S_mono (Kd.S_told (Kd.S_told (Kd.S_old (by (with_reducible repeat (fail)); exact HO_5.out) hb) (Kd.R_base ho0)) (Kd.R_base ho1)) (fun _ h_ => h_.1))
        have n1_ := Aside0.mk (Kd.R_mono (Kd.R_told (Kd.R_told (Kd.R_old (by (with_reducible repeat (fail)); exact HO_756001.out) hb) (Kd.R_base ho0)) (Kd.R_base ho1)) (fun _ h_ => h_.1))
        have n2_ := Aside0.mk (Kd.R_mono (Kd.R_told (Kd.R_told (Kd.R_old (by (with_reducible repeat (fail)); exact HO_756002.out) hb) (Kd.R_base ho0)) (Kd.R_base ho1)) (fun _ h_ => h_.1))
        have n3_ := Aside0.mk (Kd.R_mono (Kd.R_told (Kd.R_told (Kd.R_old (by (with_reducible repeat (fail)); exact HO763.out) hb) (Kd.R_base ho0)) (Kd.R_base ho1)) (fun _ h_ => h_.1))
        have n4_ := Aside0.mk (Kd.R_mono (Kd.R_told (Kd.R_told (Kd.R_old (by (with_reducible repeat (fail)); exact HO766.out) hb) (Kd.R_base ho0)) (Kd.R_base ho1)) (fun _ h_ => h_.1))
        have n5_ := Aside0.mk (Kd.R_mono (Kd.R_told (Kd.R_told (Kd.R_old (by (with_reducible repeat (fail)); exact HO770.out) hb) (Kd.R_base ho0)) (Kd.R_base ho1)) (fun _ h_ => h_.1))
        have n6_ := Aside0.mk (Kd.R_mono (Kd.R_told (Kd.R_told (Kd.R_old (by (with_reducible repeat (fail)); exact HO773.out) hb) (Kd.R_base ho0)) (Kd.R_base ho1)) (fun _ h_ => h_.1))
        have n7_ := Aside0.mk (Kd.R_lower (Kd.R_new' (Kd.R_new' (Kd.R_new' (Kd.R_new' (Kd.R_new' (Kd.R_new' ho0 (Kd.R_lt (by (with_reducible repeat (fail)); exact HO_756001.out))) (Kd.R_lt (by (with_reducible repeat (fail)); exact HO_756002.out))) (Kd.R_lt (by (with_reducible repeat (fail)); exact HO763.out))) (Kd.R_lt (by (with_reducible repeat (fail)); exact HO766.out))) (Kd.R_lt (by (with_reducible repeat (fail)); exact HO770.out))) (Kd.R_lt (by (with_reducible repeat (fail)); exact HO773.out))) (below_size (by repeat ((with_reducible exact HB.out)))))
        have n8_ := Aside0.mk (Kd.R_lower (Kd.R_new' (Kd.R_new' (Kd.R_new' (Kd.R_new' (Kd.R_new' (Kd.R_new' ho1 (Kd.R_lt (by (with_reducible repeat (fail)); exact HO_756001.out))) (Kd.R_lt (by (with_reducible repeat (fail)); exact HO_756002.out))) (Kd.R_lt (by (with_reducible repeat (fail)); exact HO763.out))) (Kd.R_lt (by (with_reducible repeat (fail)); exact HO766.out))) (Kd.R_lt (by (with_reducible repeat (fail)); exact HO770.out))) (Kd.R_lt (by (with_reducible repeat (fail)); exact HO773.out))) (below_size (by repeat ((with_reducible exact HB.out)))))
        have n9_ := Aside0.mk (blk_below (g := gb755) (o := .cells #[.bool x756000_2, .slice Ao20 x756001_2.length co20, .slice Ao21 x756002_2.length co21] 46 (0, 0)) (by (with_reducible repeat (fail)); exact BK755.out) hb)
        have n10_ := Aside0.mk (below_step (by repeat ((with_reducible exact HB.out))) hb)
        clear HO_5
        clear HO_756001
        clear HO_756002
        clear HO763
        clear HO766
        clear HO770
        clear HO773
        clear BK755
        clear HB
        have HO_5 := n0_
        have HO_756001 := n1_
        have HO_756002 := n2_
        have HO763 := n3_
        have HO766 := n4_
        have HO770 := n5_
        have HO773 := n6_
        have HO777 := n7_
        have HO780 := n8_
        have BK755 := n9_
        have HB := n10_
        clear n0_ n1_ n2_ n3_ n4_ n5_ n6_ n7_ n8_ n9_ n10_
        (try clear hb)
        (try clear ho0)
        (try clear ho1)
        obtain ⟨Ao26, co26, eo26⟩ := Kd.R_slice HO777.out
        (subst eo26)
        obtain ⟨Ao28, co28, eo28⟩ := Kd.R_slice HO780.out
        (subst eo28)
        refine hK.out _ _ ⟨(blk_cell BK755.out 0).trans rfl, (blk_cell BK755.out 1).trans rfl, (blk_cell BK755.out 2).trans rfl, ((HB.out.cell (World.block_lt_of_cell? w _ hw759_0)).trans hw759_0), ((HB.out.cell (World.block_lt_of_cell? w _ hw759_1)).trans hw759_1), ((HB.out.cell (World.block_lt_of_cell? w _ hw759_2)).trans hw759_2)⟩ (fun hHeld => ?_)
        clear hK K
        refine norm_ (a' := ?_) ?_ ?_
        rotate_left
        ·show Act.put _ (some 35) _ = _
         simp only [Act.put, List.setIfInBounds_toArray, List.set_cons_zero, List.set_cons_succ, i64_w, i32_w]
         rfl
        refine last_ (i := 14) (N := none) #[true, true, true, true, true, true, true, true, true, true, true, true, true, true, true] rfl rfl (one_of HT_.out (by kernel_rfl)) (by decide) (fun K hK => ?_)
        have hs25 : w24.cell? ⟨gb755, 0, none⟩ = some (.bool x756000_2) := (blk_cell BK755.out 0).trans rfl
        have hfs25 := blk_frozen BK755.out 0
        have hs27 : w24.cell? ⟨gb755, 1, none⟩ = some (.slice Ao20 x756001_2.length co20) := (blk_cell BK755.out 1).trans rfl
        have hfs27 := blk_frozen BK755.out 1
        have hs29 : w24.cell? ⟨gb755, 2, none⟩ = some (.slice Ao21 x756002_2.length co21) := (blk_cell BK755.out 2).trans rfl
        have hfs29 := blk_frozen BK755.out 2
        refine skip_ (w1 := ?_) (by rfl) rfl ?_ ?_
        rotate_left
        ·go_simp
         rfl
        refine hK.out _ _ ?_
        clear hK K
        refine done_ (done_of HT_.out (by kernel_rfl)) ?_
        try go_wp2
        go_roundg k2
        case measure => have := HK1.out; have := HK2.out; omega
        case rel => exact ⟨(wrap64 (x8_2 + 1)), (t774), (t775), (t778), (.slice Ao26 t775.length co26), (.slice Ao28 t778.length co28), (by rfl), H', ⟨by have := HK1.out; have := HK2.out; omega⟩, ⟨by (with_reducible repeat (fail)); exact Kd.S_mono (Kd.S_far (p := ⟨gb755, 2, none⟩) (Kd.S_far (p := ⟨gb755, 1, none⟩) (Kd.S_far (p := ⟨gb755, 0, none⟩) (Kd.S_mono HO_5.out (fun k_ hk => (⟨hk, hk.1.1.1.1.1.1.2.2⟩ : _ ∧ k_ ≠ gb755))) (fun _ hk => hk.2) (.bool t774)) (fun _ hk => hk.2) (.slice Ao26 t775.length co26)) (fun _ hk => hk.2) (.slice Ao28 t778.length co28)) (fun _ hk => ⟨hk.1.1.2, ⟨hk.1.2, hk.1.1.1.1.1.1.1.2.2⟩⟩)⟩, ⟨by (with_reducible repeat (fail)); exact Kd.R_mono (Kd.R_far (p := ⟨gb755, 2, none⟩) (Kd.R_far (p := ⟨gb755, 1, none⟩) (Kd.R_far (p := ⟨gb755, 0, none⟩) (Kd.R_types HO777.out BK755.out (by decide)) (fun _ hk => hk.2) (.bool t774)) (fun _ hk => hk.2) (.slice Ao26 t775.length co26)) (fun _ hk => hk.2) (.slice Ao28 t778.length co28)) (fun _ hk => hk.1.1.1.1.1.1.1)⟩, ⟨by (with_reducible repeat (fail)); exact Kd.R_mono (Kd.R_far (p := ⟨gb755, 2, none⟩) (Kd.R_far (p := ⟨gb755, 1, none⟩) (Kd.R_far (p := ⟨gb755, 0, none⟩) (Kd.R_types HO780.out BK755.out (by decide)) (fun _ hk => hk.2) (.bool t774)) (fun _ hk => hk.2) (.slice Ao26 t775.length co26)) (fun _ hk => hk.2) (.slice Ao28 t778.length co28)) (fun _ hk => hk.1.1.1.1.1.1.1)⟩, ⟨by (with_reducible repeat (fail)); refine blk_put (cs := #[.bool t774, .slice Ao26 t775.length co26, .slice Ao21 x756002_2.length co21]) ?_ 2 _ rfl; (with_reducible repeat (fail)); refine blk_put (cs := #[.bool t774, .slice Ao20 x756001_2.length co20, .slice Ao21 x756002_2.length co21]) ?_ 1 _ rfl; (with_reducible repeat (fail)); refine blk_put (cs := #[.bool x756000_2, .slice Ao20 x756001_2.length co20, .slice Ao21 x756002_2.length co21]) ?_ 0 _ rfl; (with_reducible repeat (fail)); exact BK755.out⟩, ⟨by repeat ((with_reducible first | exact HB.out | refine below_set ?_ GE755.out))⟩⟩
       ·rw [if_neg c11] at H
        exact absurd H (by simp)
      ·rw [if_neg c10] at H
       have c10b0 : decide (x8_2 < (l1.length : Int)) = false := decide_eq_false c10
       clear c10
       by_cases c30 : x5_1.length < 2513169434916
       ·rw [if_pos c30] at H
        have LMc30 := Aside0.mk c30
        clear c30
        obtain ⟨y756, hy756⟩ : ∃ y_ : List (S46), y_ = (x5_1 ++ [(⟨x756000_2, x756001_2, x756002_2⟩ : S46)]) := ⟨_, rfl⟩
        replace H : (codewrightref24_Transform.l0 k2 a0 l1 y756 (wrap64 (x6_1 + 1))) = some r := by (rw [hy756]; with_reducible exact H)
        have Ny756 := Aside0.mk hy756
        clear hy756
        have H' := Aside0.mk H
        clear H
        have hcz31_0 : wr.cell? ⟨gb755, 0, none⟩ = some (.bool x756000_2) := (blk_cell BK755.out 0).trans rfl
        have hcz31_1 : wr.cell? ⟨gb755, 1, none⟩ = some (u756001) := (blk_cell BK755.out 1).trans rfl
        have hcz31_2 : wr.cell? ⟨gb755, 2, none⟩ = some (u756002) := (blk_cell BK755.out 2).trans rfl
        have hfz31_0 := blk_frozen BK755.out 0
        have hfz31_1 := blk_frozen BK755.out 1
        have hfz31_2 := blk_frozen BK755.out 2
        obtain ⟨Ao33, co33, eo33⟩ := Kd.R_slice HO_756001.out
        subst eo33
        obtain ⟨Ao34, co34, eo34⟩ := Kd.R_slice HO_756002.out
        subst eo34
        go_wp2_with (((with_reducible refine gate_builtin (b := .append) (xs := #[.tmp 36, .tmp 38]) rfl ?_); at_builtin; refine Kd.S_append k46 (w0 := w) w.heap.size rfl (.tmp 36) (.tmp 38) 22 46 (.agg #[(.bool false), (.slice none 0 0), (.slice none 0 0)]) 56 rfl Try.underlying22 info46 rfl (by decide) (by omega) u5 x5_1 (⟨x756000_2, x756001_2, x756002_2⟩ : S46) [.bool x756000_2, .slice Ao33 x756001_2.length co33, .slice Ao34 x756002_2.length co34] (fun k_ => k_ ≠ gb755) (fun k_ => some k_ = (.slice Ao33 x756001_2.length co33 : Value).ownBlock ∨ some k_ = (.slice Ao34 x756002_2.length co34 : Value).ownBlock) rfl rfl ?aP (fun k_ hk_ => hk_.elim (fun h_ => ((Kd.R_mono (ok' := fun k_ => ((fun k_ => k_ ≠ gb755)) k_ ∧ some k_ ≠ (u5 : Value).ownBlock) (Kd.R_types (Kd.R_apart' (HO_756001.out) (Kd.S_typed HO_5.out) (by decide)) BK755.out (by decide)) (fun k_ hk => ⟨hk.2, hk.1.2⟩))).1 k_ h_.symm) (fun h_ => ((Kd.R_mono (ok' := fun k_ => ((fun k_ => k_ ≠ gb755)) k_ ∧ some k_ ≠ (u5 : Value).ownBlock) (Kd.R_types (Kd.R_apart' (HO_756002.out) (Kd.S_typed HO_5.out) (by decide)) BK755.out (by decide)) (fun k_ hk => ⟨hk.2, hk.1.2⟩))).1 k_ h_.symm)) ?aF ?aO ?aB ?aS ?aL ?_; (case aP => exact k46_mkM _ _ _ (⟨x756000_2, x756001_2, x756002_2⟩ : S46) (Kd.R_mono (Kd.R_tight rfl (Kd.R_mono (ok' := fun k_ => ((fun k_ => k_ ≠ gb755)) k_ ∧ some k_ ≠ (u5 : Value).ownBlock) (Kd.R_types (Kd.R_apart' (HO_756001.out) (Kd.S_typed HO_5.out) (by decide)) BK755.out (by decide)) (fun k_ hk => ⟨hk.2, hk.1.2⟩))) (fun _ h_ => Or.inl h_)) (Kd.R_mono (Kd.R_tight rfl (Kd.R_mono (ok' := fun k_ => ((fun k_ => k_ ≠ gb755)) k_ ∧ some k_ ≠ (u5 : Value).ownBlock) (Kd.R_types (Kd.R_apart' (HO_756002.out) (Kd.S_typed HO_5.out) (by decide)) BK755.out (by decide)) (fun k_ hk => ⟨hk.2, hk.1.2⟩))) (fun _ h_ => Or.inr (h_)))); (case aB => exact (by repeat ((with_reducible exact HB.out)))); (case aF => exact (fun k_ hk => Kd.freshB (g := gb755) (o := .cells #[.bool x756000_2, .slice Ao33 x756001_2.length co33, .slice Ao34 x756002_2.length co34] 46 (0, 0)) (by (with_reducible repeat (fail)); exact BK755.out) k_ hk)); (case aO => exact (by (with_reducible repeat (fail)); exact Kd.S_mono HO_5.out (fun k_ hk => ⟨hk.2.2, fun e_ => e_.elim (fun h_ => hk.1 h_) (fun h_ => hk.2.1 h_)⟩))); (case aS => exact (below_size (by repeat ((with_reducible exact HB.out))))); (case aL => have := LMc30.out; omega); intro v757 w32 ho hb hg hat; rw [← Ny756.out] at ho; have n0_ := Aside0.mk (blk_grown (g := gb755) (o := .cells #[.bool x756000_2, .slice Ao33 x756001_2.length co33, .slice Ao34 x756002_2.length co34] 46 (0, 0)) (by (with_reducible repeat (fail)); exact BK755.out) hg (Kd.S_away HO_5.out (fun _ hk => hk.2.2))); have n1_ := Aside0.mk (hb); have n2_ := Aside0.mk (ho); clear BK755; clear HB; clear HO_5; clear HO_756001; clear HO_756002; have BK755 := n0_; have HB := n1_; have HO758 := n2_; clear n0_ n1_ n2_; clear ho hb hg hat))
        go_roundg k2
        case measure => have := HK1.out; have := HK2.out; omega
        case rel => exact ⟨(y756), (wrap64 (x6_1 + 1)), (by rfl), H', ⟨by have := HK1.out; have := HK2.out; omega⟩, ⟨by (with_reducible repeat (fail)); exact Kd.S_mono HO758.out (fun _ hk => trivial)⟩, ⟨by repeat ((with_reducible exact HB.out))⟩⟩
       ·rw [if_neg c30] at H
        exact absurd H (by simp)
   ·rw [if_neg c3] at H
    have c3b0 : decide (x6_1 < (l1.length : Int)) = false := decide_eq_false c3
    clear c3
    obtain rfl := Option.some.inj H
    go_wp2
    go_ret
    exact ⟨_, by rfl, by (with_reducible repeat (fail)); exact HO_5.out, by repeat ((with_reducible exact HB.out))⟩
end Go.Proofs.Ythheakfgmombdaa.F
end
section
namespace Go.Proofs.Ythheakfgmombdaa.F
open Go.RowKit Go.Proofs.YthheakfgmombdaaX.PrintWords Go.Proofs.YthheakfgmombdaaX.PrintLast Go.Proofs.YthheakfgmombdaaX.PrintMore
attribute [local go_sem] max2_int min2_int max_two min_two max_three min_three max_four min_four   -- for this text's walks alone
set_option linter.unusedVariables false
set_option linter.unusedSimpArgs false
def codewrightlaw36_DelsarteInequalities.T4 : Bool × List (List Nat × List Nat) := (true, [([], []), ([0], [0]), ([1], [1]), ([2], [2]), ([3, 2], [2, 3]), ([2], [2]), ([5, 2], [2, 5]), ([6, 2], [2, 6]), ([7, 2], [2, 7]), ([8, 2], [2, 8]), ([4, 9, 2], [2, 4, 9]), ([2, 10], [2, 10]), ([11, 2], [11]), ([12], [12]), ([13, 12], [12, 13]), ([14, 12], [12, 14]), ([12, 12], [12]), ([15, 16, 16, 12], [12, 15, 16]), ([17, 12], [12, 17]), ([12, 18], [12, 18])])
def codewrightlaw36_DelsarteInequalities.B4 : List Nat := [0, 1, 3, 7, 15, 7, 39, 103, 231, 487, 1023, 2047, 4095, 8191, 16383, 32767, 8191, 131071, 262143, 524287]
theorem codewrightlaw36_DelsarteInequalities.tab4 : rtab .any (opsOf Try.f6 4) = codewrightlaw36_DelsarteInequalities.T4 := by kernel_rfl
theorem codewrightlaw36_DelsarteInequalities.bits4 : waitsOk codewrightlaw36_DelsarteInequalities.T4.2 codewrightlaw36_DelsarteInequalities.B4 = true := by kernel_rfl
set_option maxHeartbeats 8000000 in
set_option maxRecDepth 100000 in
theorem codewrightlaw36_DelsarteInequalities.calls (k : Nat) (a0 : Int) (A1 : Option Addr) (c1 : Nat) (l1 : List (List Int)) (r : Bool) (w : World) (hr1 : Kd.C (Kd.slice 3 (Kd.int .i64)) w A1 l1.length l1) (hc1 : l1.length ≤ c1) (h : codewrightlaw36_DelsarteInequalities.f k a0 l1 = some r) :
  Calls Try.prog 6 #[.int .i64 a0, .slice A1 l1.length c1] w fun e w' => e = .returned (.bool r) ∧ Below w.heap.size w w' := by
 have hu46 := Try.underlying46
 have HR1 := Aside0.mk hr1
 have HC1 := Aside0.mk hc1
 clear hr1 hc1
 have HB := Aside0.mk (Below.refl w.heap.size w)
 have H : (if (l1.length : Int) > 200 then (codewrightlaw36_DelsarteInequalities.j0 k a0 l1 true) else ((codewrightref34_Words.f k a0 l1).bind fun t781 => (if t781 = 0 then (if 0 < (l1.length : Int) then (codewrightlaw36_DelsarteInequalities.j0 k a0 l1 (decide (((rd_LI l1 0).length : Int) > 12))) else (none)) else (codewrightlaw36_DelsarteInequalities.j0 k a0 l1 true)))) = some r := h
 clear h
 have HC3 := Aside0.mk H
 clear H
 go_enter Try.func6, Try.ntmps6
 go_upto_region 1 with (fail)
 go_cut [24] (fun v24 wc => ∃ (kq : Nat) (x24_2 : Bool), v24 = .bool x24_2 ∧ Aside0 (codewrightlaw36_DelsarteInequalities.j0 kq a0 l1 x24_2 = some r) ∧ Aside0 (kq ≤ k) ∧ Aside0 (Below w.heap.size w wc))
 case first =>
  have H := HC3.out
  clear HC3
  by_cases c4 : (l1.length : Int) > 200
  ·rw [if_pos c4] at H
   have c4b0 : decide (200 < (l1.length : Int)) = true := decide_eq_true c4
   have c4b1 : decide (200 < l1.length) = true := decide_eq_true (by omega)
   clear c4
   (skip)
   have H' := Aside0.mk H
   clear H
   go_wp2
   go_meet
   case rel => exact ⟨_, (true), (by rfl), H', ⟨by omega⟩, ⟨by repeat ((with_reducible exact HB.out))⟩⟩
  ·rw [if_neg c4] at H
   have c4b0 : decide (200 < (l1.length : Int)) = false := decide_eq_false c4
   have c4b1 : decide (200 < l1.length) = false := decide_eq_false (by omega)
   clear c4
   (skip)
   replace H := Option.bind_eq_some_iff.mp H
   obtain ⟨t781, A50, H⟩ := H
   replace H : (if t781 = 0 then (if 0 < (l1.length : Int) then (codewrightlaw36_DelsarteInequalities.j0 k a0 l1 (decide (((rd_LI l1 0).length : Int) > 12))) else (none)) else (codewrightlaw36_DelsarteInequalities.j0 k a0 l1 true)) = some r := H
   have A5 := Aside0.mk A50
   clear A50
   by_cases c6 : t781 = 0
   ·rw [if_pos c6] at H
    have c6b0 : (t781 == 0) = true := beq_iff_eq.mpr c6
    have c6b1 : (t781 != 0) = false := bne_eq_false_iff_eq.mpr c6
    clear c6
    by_cases c7 : 0 < (l1.length : Int)
    ·rw [if_pos c7] at H
     have c7b0 : decide (0 < (l1.length : Int)) = true := decide_eq_true c7
     have c7b1 : decide (0 < l1.length) = true := decide_eq_true (by omega)
     clear c7
     have H' := Aside0.mk H
     clear H
     go_wp2_with ((go_at_call 26; (with_reducible refine (codewrightref34_Words.calls k a0 _ _ l1 t781 _ ?side1 ?side2 A5.out).mono ?_); (case side1 => repeat (exact (Kd.C_below HR1.out HB.out))); (case side2 => exact HC1.out); rintro e w' ⟨rfl, ⟨nd, rfl⟩⟩; have p782 : 0 ≤ (0 : Int) := (by omega); have q782 : 0 < (l1.length : Int) := of_decide_eq_true (by (with_reducible assumption)); obtain ⟨ad782, A782_0, c782_0, e782, hx782_0, hl782_0, hi782_0⟩ := at_LI HR1.out 0 p782 q782; cases e782; have qi782 : (0 < l1.length) = True := eq_true (by omega); (try rw [show ((0 : Int)).toNat = 0 from rfl] at hx782_0); (try rw [Addr.add_zero'] at hx782_0); replace hx782_0 := (HB.out.cell (World.block_lt_of_cell? w _ hx782_0)).trans hx782_0; have HR782_0 := Aside0.mk hi782_0; have HC782_0 := Aside0.mk hl782_0; clear hi782_0 hl782_0; replace p782 := eq_true p782; replace q782 := eq_true q782))
     go_meet
     case rel => exact ⟨_, (decide (((rd_LI l1 0).length : Int) > 12)), (by rfl), H', ⟨by omega⟩, ⟨by repeat ((with_reducible first | exact HB.out | apply pw_below_drewN))⟩⟩
    ·rw [if_neg c7] at H
     exact absurd H (by simp)
   ·rw [if_neg c6] at H
    have c6b0 : (t781 == 0) = false := beq_eq_false_iff_ne.mpr c6
    have c6b1 : (t781 != 0) = true := bne_iff_ne.mpr c6
    have H' := Aside0.mk H
    clear H
    go_wp2_with ((go_at_call 26; (with_reducible refine (codewrightref34_Words.calls k a0 _ _ l1 t781 _ ?side1 ?side2 A5.out).mono ?_); (case side1 => repeat (exact (Kd.C_below HR1.out HB.out))); (case side2 => exact HC1.out); rintro e w' ⟨rfl, ⟨nd, rfl⟩⟩))
    go_meet
    case rel => exact ⟨_, (true), (by rfl), H', ⟨by omega⟩, ⟨by repeat ((with_reducible first | exact HB.out | apply pw_below_drewN))⟩⟩
 case rest =>
  clear HC3
  obtain ⟨kq, x24_2, rfl, HA, HJ2, HB⟩ := hcut
  cases kq with
  | zero => exact absurd HA.out (by simp [codewrightlaw36_DelsarteInequalities.j0])
  | succ kj2 =>
   have H := HA.out
   clear HA
   simp only [codewrightlaw36_DelsarteInequalities.j0] at H
   by_cases c8 : x24_2 = true
   ·subst c8
    have H1 : (some true) = some r := by rw [if_pos rfl] at H; exact H
    clear H
    have H := H1
    clear H1
    obtain rfl := Option.some.inj H
    go_wp2
    go_ret
    exact ⟨by rfl, by repeat ((with_reducible exact HB.out))⟩
   ·replace c8 := Bool.eq_false_iff.mpr c8
    subst c8
    have H1 : ((delsarte_Distances.f kj2 a0 l1).bind fun bt783 => (if bt783.2 = 0 then (if 0 < (l1.length : Int) then (if (bt783.1.length : Int) = (wrap64 (((rd_LI l1 0).length : Int) + 1)) then (if 0 < (bt783.1.length : Int) then ((codewrightref02_Int.f kj2 1).bind fun bt789 => ((codewrightref02_Cmp.f kj2 ((rd_T46 bt783.1 0).f0) ((rd_T46 bt783.1 0).f1) ((rd_T46 bt783.1 0).f2) bt789.1 bt789.2.1 bt789.2.2).bind fun t796 => (codewrightlaw36_DelsarteInequalities.j1 kj2 a0 bt783.1 (decide (t796 < 0))))) else (none)) else (codewrightlaw36_DelsarteInequalities.j1 kj2 a0 bt783.1 true)) else (none)) else (codewrightlaw36_DelsarteInequalities.j1 kj2 a0 bt783.1 true))) = some r := by rw [if_neg (show ¬ (false = true) by decide)] at H; exact H
    clear H
    have H := H1
    clear H1
    replace H := Option.bind_eq_some_iff.mp H
    obtain ⟨⟨t783, t784⟩, A90, H⟩ := H
    replace H : (if t784 = 0 then (if 0 < (l1.length : Int) then (if (t783.length : Int) = (wrap64 (((rd_LI l1 0).length : Int) + 1)) then (if 0 < (t783.length : Int) then ((codewrightref02_Int.f kj2 1).bind fun bt789 => ((codewrightref02_Cmp.f kj2 ((rd_T46 t783 0).f0) ((rd_T46 t783 0).f1) ((rd_T46 t783 0).f2) bt789.1 bt789.2.1 bt789.2.2).bind fun t796 => (codewrightlaw36_DelsarteInequalities.j1 kj2 a0 t783 (decide (t796 < 0))))) else (none)) else (codewrightlaw36_DelsarteInequalities.j1 kj2 a0 t783 true)) else (none)) else (codewrightlaw36_DelsarteInequalities.j1 kj2 a0 t783 true)) = some r := H
    have A9 := Aside0.mk A90
    clear A90
    have HC10 := Aside0.mk H
    clear H
    go_upto_region 4 with (((with_reducible refine gate_callee (f := 25) rfl ?_); refine goesL_ (some 28) rfl rfl Try.func25 (by kernel_rfl) rfl #[.int .i64 a0, .slice A1 l1.length c1] rfl (by (try simp only [List.map_toArray, List.map_cons, List.map_nil]); rfl) ?_; (with_reducible refine (delsarte_Distances.calls kj2 a0 _ _ l1 t783 t784 _ ?side1 ?side2 A9.out).mono ?_); (case side1 => repeat (exact (Kd.C_below HR1.out HB.out))); (case side2 => exact HC1.out); rintro e w11 ⟨v785, rfl, ho0, hb⟩; refine ⟨_, rfl, ?_⟩; have n0_ := Aside0.mk (Kd.S_lower ho0 (below_size (by repeat ((with_reducible exact HB.out))))); have n1_ := Aside0.mk (below_step (by repeat ((with_reducible exact HB.out))) hb); clear HB; have HO786 := n0_; have HB := n1_; clear n0_ n1_; (try clear hb); (try clear ho0)))
    go_cut [50] (fun v50 wc => ∃ (kq : Nat) (x50_9 : Bool), v50 = .bool x50_9 ∧ Aside0 (codewrightlaw36_DelsarteInequalities.j1 kq a0 t783 x50_9 = some r) ∧ Aside0 (kq ≤ kj2) ∧ Aside0 (Kd.S k46 46 wc w.heap.size (fun _ => True) v785 t783) ∧ Aside0 (Below w.heap.size w wc))
    case first =>
     have H := HC10.out
     clear HC10
     by_cases c12 : t784 = 0
     ·rw [if_pos c12] at H
      have c12b0 : (t784 == 0) = true := beq_iff_eq.mpr c12
      have c12b1 : (t784 != 0) = false := bne_eq_false_iff_eq.mpr c12
      clear c12
      (skip)
      by_cases c13 : 0 < (l1.length : Int)
      ·rw [if_pos c13] at H
       have c13b0 : decide (0 < (l1.length : Int)) = true := decide_eq_true c13
       have c13b1 : decide (0 < l1.length) = true := decide_eq_true (by omega)
       clear c13
       by_cases c14 : (t783.length : Int) = (wrap64 (((rd_LI l1 0).length : Int) + 1))
       ·rw [if_pos c14] at H
        have c14b0 : ((t783.length : Int) == (wrap64 (((rd_LI l1 0).length : Int) + 1))) = true := beq_iff_eq.mpr c14
        have c14b1 : ((t783.length : Int) != (wrap64 (((rd_LI l1 0).length : Int) + 1))) = false := bne_eq_false_iff_eq.mpr c14
        clear c14
        by_cases c15 : 0 < (t783.length : Int)
        ·rw [if_pos c15] at H
         have c15b0 : decide (0 < (t783.length : Int)) = true := decide_eq_true c15
         have c15b1 : decide (0 < t783.length) = true := decide_eq_true (by omega)
         clear c15
         replace H := Option.bind_eq_some_iff.mp H
         obtain ⟨⟨t789, t790, t793⟩, A160, H⟩ := H
         replace H : ((codewrightref02_Cmp.f kj2 ((rd_T46 t783 0).f0) ((rd_T46 t783 0).f1) ((rd_T46 t783 0).f2) t789 t790 t793).bind fun t796 => (codewrightlaw36_DelsarteInequalities.j1 kj2 a0 t783 (decide (t796 < 0)))) = some r := H
         have A16 := Aside0.mk A160
         clear A160
         replace H := Option.bind_eq_some_iff.mp H
         obtain ⟨t796, A170, H⟩ := H
         replace H : (codewrightlaw36_DelsarteInequalities.j1 kj2 a0 t783 (decide (t796 < 0))) = some r := H
         have A17 := Aside0.mk A170
         clear A170
         have H' := Aside0.mk H
         clear H
         try go_wp2
         have n0_ := Aside0.mk (Kd.S_drew HO786.out)
         have n1_ := Aside0.mk (below_drew1 HB.out)
         clear HO786
         clear HB
         have HO786 := n0_
         have HB := n1_
         clear n0_ n1_
         obtain ⟨Ao19, co19, eo19⟩ := Kd.S_slice HO786.out
         (subst eo19)
         have p787 : 0 ≤ (0 : Int) := (by omega)
         have q787 : 0 < (l1.length : Int) := of_decide_eq_true (by (with_reducible assumption))
         obtain ⟨ad787, A787_0, c787_0, e787, hx787_0, hl787_0, hi787_0⟩ := at_LI HR1.out 0 p787 q787
         have hw787_0 := hx787_0
         (try rw [show ((0 : Int)).toNat = 0 from rfl] at hw787_0)
         (try rw [Addr.add_zero'] at hw787_0)
         cases e787
         have qi787 : (0 < l1.length) = True := eq_true (by omega)
         (try rw [show ((0 : Int)).toNat = 0 from rfl] at hx787_0)
         (try rw [Addr.add_zero'] at hx787_0)
         replace hx787_0 := (HB.out.cell (World.block_lt_of_cell? w _ hx787_0)).trans hx787_0
         have HR787_0 := Aside0.mk hi787_0
         have HC787_0 := Aside0.mk hl787_0
         clear hi787_0 hl787_0
         replace p787 := eq_true p787
         replace q787 := eq_true q787
         have p788 : 0 ≤ (0 : Int) := (by omega)
         have q788 : 0 < (t783.length : Int) := of_decide_eq_true (by (with_reducible assumption))
         obtain ⟨ad788, A788_1, c788_1, A788_2, c788_2, e788, hx788_0, hx788_1, hx788_2, hl788_1, hi788_1, hl788_2, hi788_2⟩ := at_T46 (Kd.S_reads' HO786.out).2.2 0 p788 q788
         cases e788
         obtain ⟨ce788, hce788, hMe788, hcc788⟩ := Kd.S_get HO786.out z46 0 p788 (by exact q788)
         obtain ⟨ve788_1, ve788_2, rfl, ge788_1, ge788_2⟩ := k46_openM hMe788
         have hv788_1 := hcc788 1 _ rfl
         rw [add_field _ _ 1 (by omega)] at hv788_1
         replace hv788_1 := Option.some.inj (hv788_1.symm.trans hx788_1)
         rw [hv788_1] at ge788_1
         have HL788_1 := Aside0.mk (show Kd.R (Kd.int .u32) 100 _ _ _ _ ((rd_T46 t783 0).f1) from ge788_1)
         clear hv788_1 ge788_1
         have hv788_2 := hcc788 2 _ rfl
         rw [add_field _ _ 2 (by omega)] at hv788_2
         replace hv788_2 := Option.some.inj (hv788_2.symm.trans hx788_2)
         rw [hv788_2] at ge788_2
         have HL788_2 := Aside0.mk (show Kd.R (Kd.int .u32) 100 _ _ _ _ ((rd_T46 t783 0).f2) from ge788_2)
         clear hv788_2 ge788_2
         clear hcc788 hce788
         have qi788 : (0 < t783.length) = True := eq_true (by omega)
         (try rw [show ((0 : Int)).toNat = 0 from rfl] at hx788_0)
         (try rw [show 0 * 3 = 0 from rfl] at hx788_0)
         (try rw [Addr.add_zero'] at hx788_0)
         (try rw [show ((0 : Int)).toNat = 0 from rfl] at hx788_1)
         (try rw [show 0 * 3 = 0 from rfl] at hx788_1)
         (try rw [Addr.add_zero'] at hx788_1)
         (try rw [show ((0 : Int)).toNat = 0 from rfl] at hx788_2)
         (try rw [show 0 * 3 = 0 from rfl] at hx788_2)
         (try rw [Addr.add_zero'] at hx788_2)
         have HR788_1 := Aside0.mk hi788_1
         have HC788_1 := Aside0.mk hl788_1
         clear hi788_1 hl788_1
         have HR788_2 := Aside0.mk hi788_2
         have HC788_2 := Aside0.mk hl788_2
         clear hi788_2 hl788_2
         replace p788 := eq_true p788
         replace q788 := eq_true q788
         refine start_ (n := 20) (S := fun w' => w'.cell? ad787 = some (.slice A787_0 (rd_LI l1 0).length c787_0) ∧ w'.cell? ad788 = some (.bool ((rd_T46 t783 0).f0)) ∧ w'.cell? ⟨ad788.block, ad788.off + 1, none⟩ = some (.slice A788_1 ((rd_T46 t783 0).f1).length c788_1) ∧ w'.cell? ⟨ad788.block, ad788.off + 2, none⟩ = some (.slice A788_2 ((rd_T46 t783 0).f2).length c788_2)) (ds := []) #[false, false, false, false, false, false, false, false, false, false, false, false, false, false, false, false, false, false, false, false] (by kernel_rfl) rfl rfl ⟨((HB.out.cell (World.block_lt_of_cell? w _ hw787_0)).trans hw787_0), hx788_0, hx788_1, hx788_2⟩ (fun hHeld => ?_); refine with_tabW codewrightlaw36_DelsarteInequalities.tab4 codewrightlaw36_DelsarteInequalities.bits4 (fun HT_ HW_ => ?_)
         generalize w11.drew = w18 at HO786 HB HL788_1 HL788_2 HR787_0 HR788_1 HR788_2 hx787_0 hx788_0 hx788_1 hx788_2 hHeld ⊢
         refine pure_ (i := 0) (N := some 31) (v := ?_) (a' := ?_) #[true, false, false, false, false, false, false, false, false, false, false, false, false, false, false, false, false, false, false, false] rfl rfl (any_of HT_.out (by kernel_rfl)) (fun _ _ _ h => h) (Or.inl ⟨by rfl, ?_⟩) ?_ ?_
         rotate_left
         ·intro w'
          go_simp
          with_reducible rfl
         rotate_left
         ·simp only [Act.put, List.setIfInBounds_toArray, List.set_cons_zero, List.set_cons_succ, i64_w, i32_w]
          rfl
         refine pure_ (i := 1) (N := some 32) (v := ?_) (a' := ?_) #[true, true, false, false, false, false, false, false, false, false, false, false, false, false, false, false, false, false, false, false] rfl rfl (any_of HT_.out (by kernel_rfl)) (fun _ _ _ h => h) (Or.inl ⟨by rfl, ?_⟩) ?_ ?_
         rotate_left
         ·intro w'
          go_simp
          with_reducible rfl
         rotate_left
         ·simp only [Act.put, List.setIfInBounds_toArray, List.set_cons_zero, List.set_cons_succ, i64_w, i32_w]
          rfl
         refine pure_ (i := 2) (N := some 33) (v := ?_) (a' := ?_) #[true, true, true, false, false, false, false, false, false, false, false, false, false, false, false, false, false, false, false, false] rfl rfl (any_of HT_.out (by kernel_rfl)) (fun _ _ _ h => h) (Or.inl ⟨by rfl, ?_⟩) ?_ ?_
         rotate_left
         ·intro w'
          go_simp
          with_reducible rfl
         rotate_left
         ·simp only [Act.put, List.setIfInBounds_toArray, List.set_cons_zero, List.set_cons_succ, i64_w, i32_w]
          rfl
         refine pure_ (i := 3) (N := some 34) (v := ?_) (a' := ?_) #[true, true, true, true, false, false, false, false, false, false, false, false, false, false, false, false, false, false, false, false] rfl rfl (any_of HT_.out (by kernel_rfl)) (fun _ _ _ h => h) (Or.inl ⟨by rfl, ?_⟩) ?_ ?_
         rotate_left
         ·intro w'
          go_simp
          with_reducible rfl
         rotate_left
         ·simp only [Act.put, List.setIfInBounds_toArray, List.set_cons_zero, List.set_cons_succ, i64_w, i32_w]
          rfl
         refine pure_ (i := 4) (N := some 35) (v := ?_) (a' := ?_) #[true, true, true, true, true, false, false, false, false, false, false, false, false, false, false, false, false, false, false, false] rfl rfl (any_of HT_.out (by kernel_rfl)) (fun _ _ _ h => h) (Or.inl ⟨by rfl, ?_⟩) ?_ ?_
         rotate_left
         ·intro w'
          go_simp
          with_reducible rfl
         rotate_left
         ·simp only [Act.put, List.setIfInBounds_toArray, List.set_cons_zero, List.set_cons_succ, i64_w, i32_w]
          rfl
         refine pure_ (i := 5) (N := some 36) (v := ?_) (a' := ?_) #[true, true, true, true, true, true, false, false, false, false, false, false, false, false, false, false, false, false, false, false] rfl rfl (any_of HT_.out (by kernel_rfl)) (fun _ _ _ h => h) (Or.inl ⟨by rfl, ?_⟩) ?_ ?_
         rotate_left
         ·intro w'
          go_simp
          with_reducible rfl
         rotate_left
         ·simp only [Act.put, List.setIfInBounds_toArray, List.set_cons_zero, List.set_cons_succ, i64_w, i32_w]
          rfl
         refine pure_ (i := 6) (N := some 37) (v := ?_) (a' := ?_) #[true, true, true, true, true, true, true, false, false, false, false, false, false, false, false, false, false, false, false, false] rfl rfl (any_of HT_.out (by kernel_rfl)) (fun _ _ _ h => h) (Or.inl ⟨by rfl, ?_⟩) ?_ ?_
         rotate_left
         ·intro w'
          go_simp
          with_reducible rfl
         rotate_left
         ·simp only [Act.put, List.setIfInBounds_toArray, List.set_cons_zero, List.set_cons_succ, i64_w, i32_w]
          rfl
         refine take_ (i := 7) (N := some 38) (v := ?_) (a' := ?_) #[true, true, true, true, true, true, true, true, false, false, false, false, false, false, false, false, false, false, false, false] rfl rfl (take_ofW HT_.out HW_.out (by kernel_rfl)) (fun _ _ _ h => h) (Or.inl ⟨by rfl, ?_⟩) hHeld ?_ ?_
         rotate_left
         ·rintro w' ⟨s0, s1, s2, s3⟩
          go_simp
          with_reducible rfl
         rotate_left
         ·simp only [Act.put, List.setIfInBounds_toArray, List.set_cons_zero, List.set_cons_succ, i64_w, i32_w]
          rfl
         refine pure_ (i := 8) (N := some 39) (v := ?_) (a' := ?_) #[true, true, true, true, true, true, true, true, true, false, false, false, false, false, false, false, false, false, false, false] rfl rfl (any_of HT_.out (by kernel_rfl)) (fun _ _ _ h => h) (Or.inl ⟨by rfl, ?_⟩) ?_ ?_
         rotate_left
         ·intro w'
          go_simp
          with_reducible rfl
         rotate_left
         ·simp only [Act.put, List.setIfInBounds_toArray, List.set_cons_zero, List.set_cons_succ, i64_w, i32_w]
          rfl
         refine pure_ (i := 9) (N := some 40) (v := ?_) (a' := ?_) #[true, true, true, true, true, true, true, true, true, true, false, false, false, false, false, false, false, false, false, false] rfl rfl (any_of HT_.out (by kernel_rfl)) (fun _ _ _ h => h) (Or.inl ⟨by rfl, ?_⟩) ?_ ?_
         rotate_left
         ·intro w'
          go_simp
          with_reducible rfl
         rotate_left
         ·simp only [Act.put, List.setIfInBounds_toArray, List.set_cons_zero, List.set_cons_succ, i64_w, i32_w]
          rfl
         refine pure_ (i := 10) (N := some 41) (v := ?_) (a' := ?_) #[true, true, true, true, true, true, true, true, true, true, true, false, false, false, false, false, false, false, false, false] rfl rfl (any_of HT_.out (by kernel_rfl)) (fun _ _ _ h => h) (Or.inl ⟨by rfl, ?_⟩) ?_ ?_
         rotate_left
         ·intro w'
          go_simp
          with_reducible rfl
         rotate_left
         ·simp only [Act.put, List.setIfInBounds_toArray, List.set_cons_zero, List.set_cons_succ, i64_w, i32_w]
          rfl
         refine pure_ (i := 11) (N := some 42) (v := ?_) (a' := ?_) #[true, true, true, true, true, true, true, true, true, true, true, true, false, false, false, false, false, false, false, false] rfl rfl (any_of HT_.out (by kernel_rfl)) (fun _ _ _ h => h) (Or.inl ⟨by rfl, ?_⟩) ?_ ?_
         rotate_left
         ·intro w'
          go_simp
          with_reducible rfl
         rotate_left
         ·simp only [Act.put, List.setIfInBounds_toArray, List.set_cons_zero, List.set_cons_succ, i64_w, i32_w]
          rfl
         refine pure_ (i := 12) (N := some 43) (v := ?_) (a' := ?_) #[true, true, true, true, true, true, true, true, true, true, true, true, true, false, false, false, false, false, false, false] rfl rfl (any_of HT_.out (by kernel_rfl)) (fun _ _ _ h => h) (Or.inl ⟨by rfl, ?_⟩) ?_ ?_
         rotate_left
         ·intro w'
          go_simp
          with_reducible rfl
         rotate_left
         ·simp only [Act.put, List.setIfInBounds_toArray, List.set_cons_zero, List.set_cons_succ, i64_w, i32_w]
          rfl
         refine pure_ (i := 13) (N := some 44) (v := ?_) (a' := ?_) #[true, true, true, true, true, true, true, true, true, true, true, true, true, true, false, false, false, false, false, false] rfl rfl (any_of HT_.out (by kernel_rfl)) (fun _ _ _ h => h) (Or.inl ⟨by rfl, ?_⟩) ?_ ?_
         rotate_left
         ·intro w'
          go_simp
          with_reducible rfl
         rotate_left
         ·simp only [Act.put, List.setIfInBounds_toArray, List.set_cons_zero, List.set_cons_succ, i64_w, i32_w]
          rfl
         refine pure_ (i := 14) (N := some 45) (v := ?_) (a' := ?_) #[true, true, true, true, true, true, true, true, true, true, true, true, true, true, true, false, false, false, false, false] rfl rfl (any_of HT_.out (by kernel_rfl)) (fun _ _ _ h => h) (Or.inl ⟨by rfl, ?_⟩) ?_ ?_
         rotate_left
         ·intro w'
          go_simp
          with_reducible rfl
         rotate_left
         ·simp only [Act.put, List.setIfInBounds_toArray, List.set_cons_zero, List.set_cons_succ, i64_w, i32_w]
          rfl
         refine take_ (i := 15) (N := some 46) (v := ?_) (a' := ?_) #[true, true, true, true, true, true, true, true, true, true, true, true, true, true, true, true, false, false, false, false] rfl rfl (take_ofW HT_.out HW_.out (by kernel_rfl)) (fun _ _ _ h => h) (Or.inl ⟨by rfl, ?_⟩) hHeld ?_ ?_
         rotate_left
         ·rintro w' ⟨s0, s1, s2, s3⟩
          go_simp
          with_reducible rfl
         rotate_left
         ·simp only [Act.put, List.setIfInBounds_toArray, List.set_cons_zero, List.set_cons_succ, i64_w, i32_w]
          rfl
         refine one_ (i := 16) (N := some 47) #[true, true, true, true, true, true, true, true, true, true, true, true, true, true, true, true, true, false, false, false] rfl rfl (one_of HT_.out (by kernel_rfl)) (by decide) (fun K hK => ?_)
         refine goes_ Try.func30 (by kernel_rfl) rfl #[.int .i64 1] (by rfl) rfl rfl (by (try simp only [List.map_toArray, List.map_cons, List.map_nil]); rfl) ?_
         with_reducible refine (codewrightref02_Int.calls kj2 1 t789 t790 t793 _ A16.out).mono ?_
         rintro e w20 ⟨v791, v794, rfl, ho0, ho1, hb⟩
         have HS1_ := (hb.cell (World.block_lt_of_cell? _ _ (hHeld.2.1))).trans (hHeld.2.1)
         have HS2_ := (hb.cell (World.block_lt_of_cell? _ _ (hHeld.2.2.1))).trans (hHeld.2.2.1)
         have HS3_ := (hb.cell (World.block_lt_of_cell? _ _ (hHeld.2.2.2))).trans (hHeld.2.2.2)
         refine ⟨_, rfl, ?_⟩
         have n0_ := Aside0.mk (Kd.S_mono (Kd.S_told (Kd.S_told (Kd.S_old (by (with_reducible repeat (fail)); exact HO786.out) hb) (Kd.R_base ho0)) (Kd.R_base ho1)) (fun _ h_ => h_.1))
         have n1_ := Aside0.mk (Kd.R_mono (Kd.R_told (Kd.R_told (Kd.R_old (by (with_reducible repeat (fail)); exact HL788_1.out) hb) (Kd.R_base ho0)) (Kd.R_base ho1)) (fun _ h_ => h_.1))
         have n2_ := Aside0.mk (Kd.R_mono (Kd.R_told (Kd.R_told (Kd.R_old (by (with_reducible repeat (fail)); exact HL788_2.out) hb) (Kd.R_base ho0)) (Kd.R_base ho1)) (fun _ h_ => h_.1))
         have n3_ := Aside0.mk (Kd.R_lower (Kd.R_new' (Kd.R_new' ho0 (Kd.R_lt (by (with_reducible repeat (fail)); exact HL788_1.out))) (Kd.R_lt (by (with_reducible repeat (fail)); exact HL788_2.out))) (below_size (by repeat ((with_reducible exact HB.out)))))
         have n4_ := Aside0.mk (Kd.R_lower (Kd.R_new' (Kd.R_new' ho1 (Kd.R_lt (by (with_reducible repeat (fail)); exact HL788_1.out))) (Kd.R_lt (by (with_reducible repeat (fail)); exact HL788_2.out))) (below_size (by repeat ((with_reducible exact HB.out)))))
         have n5_ := Aside0.mk (Kd.C_below (by repeat ((with_reducible exact HR788_1.out))) hb)
         have n6_ := Aside0.mk (Kd.C_below (by repeat ((with_reducible exact HR788_2.out))) hb)
         have n7_ := Aside0.mk (below_step (by repeat ((with_reducible exact HB.out))) hb)
         clear HO786
         clear HL788_1
         clear HL788_2
         clear HR788_1
         clear HR788_2
         clear HB
         have HO786 := n0_
         have HL788_1 := n1_
         have HL788_2 := n2_
         have HO792 := n3_
         have HO795 := n4_
         have HR788_1 := n5_
         have HR788_2 := n6_
         have HB := n7_
         clear n0_ n1_ n2_ n3_ n4_ n5_ n6_ n7_
         (try clear hb)
         (try clear ho0)
         (try clear ho1)
         obtain ⟨Ao21, co21, eo21⟩ := Kd.R_slice HO792.out
         (subst eo21)
         obtain ⟨Ao22, co22, eo22⟩ := Kd.R_slice HO795.out
         (subst eo22)
         refine hK.out _ _ ⟨((HB.out.cell (World.block_lt_of_cell? w _ hw787_0)).trans hw787_0), HS1_, HS2_, HS3_⟩ (fun hHeld => ?_)
         clear hK K
         refine norm_ (a' := ?_) ?_ ?_
         rotate_left
         ·show Act.put _ (some 47) _ = _
          simp only [Act.put, List.setIfInBounds_toArray, List.set_cons_zero, List.set_cons_succ, i64_w, i32_w]
          rfl
         refine one_ (i := 17) (N := some 48) #[true, true, true, true, true, true, true, true, true, true, true, true, true, true, true, true, true, true, false, false] rfl rfl (one_of HT_.out (by kernel_rfl)) (by decide) (fun K hK => ?_)
         refine goes_ Try.func29 (by kernel_rfl) rfl #[.agg #[.bool ((rd_T46 t783 0).f0), .slice A788_1 ((rd_T46 t783 0).f1).length c788_1, .slice A788_2 ((rd_T46 t783 0).f2).length c788_2], .agg #[.bool t789, .slice Ao21 t790.length co21, .slice Ao22 t793.length co22]] (by rfl) rfl rfl (by (try simp only [List.map_toArray, List.map_cons, List.map_nil]); rfl) ?_
         with_reducible refine (codewrightref02_Cmp.calls kj2 ((rd_T46 t783 0).f0) _ _ ((rd_T46 t783 0).f1) _ _ ((rd_T46 t783 0).f2) t789 _ _ t790 _ _ t793 t796 _ ?side1 ?side2 ?side3 ?side4 ?side5 ?side6 ?side7 ?side8 A17.out).mono ?_
         (case side1 => repeat (exact (by repeat ((with_reducible exact HR788_1.out)))))
         (case side2 => exact HC788_1.out)
         (case side3 => repeat (exact (by repeat ((with_reducible exact HR788_2.out)))))
         (case side4 => exact HC788_2.out)
         (case side5 => exact (Kd.R_reads' HO792.out).2.2)
         (case side6 => exact (Kd.R_reads' HO792.out).2.1)
         (case side7 => exact (Kd.R_reads' HO795.out).2.2)
         (case side8 => exact (Kd.R_reads' HO795.out).2.1)
         rintro e w23 ⟨rfl, hb⟩
         have HS1_ := (hb.cell (World.block_lt_of_cell? _ _ (hHeld.2.1))).trans (hHeld.2.1)
         have HS2_ := (hb.cell (World.block_lt_of_cell? _ _ (hHeld.2.2.1))).trans (hHeld.2.2.1)
         have HS3_ := (hb.cell (World.block_lt_of_cell? _ _ (hHeld.2.2.2))).trans (hHeld.2.2.2)
         refine ⟨_, rfl, ?_⟩
         have n0_ := Aside0.mk (Kd.S_below (by (with_reducible repeat (fail)); exact HO786.out) hb)
         have n1_ := Aside0.mk (Kd.R_below (by (with_reducible repeat (fail)); exact HL788_1.out) hb)
         have n2_ := Aside0.mk (Kd.R_below (by (with_reducible repeat (fail)); exact HL788_2.out) hb)
         have n3_ := Aside0.mk (Kd.R_below (by (with_reducible repeat (fail)); exact HO792.out) hb)
         have n4_ := Aside0.mk (Kd.R_below (by (with_reducible repeat (fail)); exact HO795.out) hb)
         have n5_ := Aside0.mk (Kd.C_below (by repeat ((with_reducible exact HR788_1.out))) hb)
         have n6_ := Aside0.mk (Kd.C_below (by repeat ((with_reducible exact HR788_2.out))) hb)
         have n7_ := Aside0.mk (below_step (by repeat ((with_reducible exact HB.out))) hb)
         clear HO786
         clear HL788_1
         clear HL788_2
         clear HO792
         clear HO795
         clear HR788_1
         clear HR788_2
         clear HB
         have HO786 := n0_
         have HL788_1 := n1_
         have HL788_2 := n2_
         have HO792 := n3_
         have HO795 := n4_
         have HR788_1 := n5_
         have HR788_2 := n6_
         have HB := n7_
         clear n0_ n1_ n2_ n3_ n4_ n5_ n6_ n7_
         (try clear hb)
         refine hK.out _ _ ⟨((HB.out.cell (World.block_lt_of_cell? w _ hw787_0)).trans hw787_0), HS1_, HS2_, HS3_⟩ (fun hHeld => ?_)
         clear hK K
         refine norm_ (a' := ?_) ?_ ?_
         rotate_left
         ·show Act.put _ (some 48) _ = _
          simp only [Act.put, List.setIfInBounds_toArray, List.set_cons_zero, List.set_cons_succ, i64_w, i32_w]
          rfl
         refine pure_ (i := 18) (N := some 49) (v := ?_) (a' := ?_) #[true, true, true, true, true, true, true, true, true, true, true, true, true, true, true, true, true, true, true, false] rfl rfl (any_of HT_.out (by kernel_rfl)) (fun _ _ _ h => h) (Or.inl ⟨by rfl, ?_⟩) ?_ ?_
         rotate_left
         ·intro w'
          go_simp
          with_reducible rfl
         rotate_left
         ·simp only [Act.put, List.setIfInBounds_toArray, List.set_cons_zero, List.set_cons_succ, i64_w, i32_w]
          rfl
         refine pure_ (i := 19) (N := some 50) (v := ?_) (a' := ?_) #[true, true, true, true, true, true, true, true, true, true, true, true, true, true, true, true, true, true, true, true] rfl rfl (any_of HT_.out (by kernel_rfl)) (fun _ _ _ h => h) (Or.inl ⟨by rfl, ?_⟩) ?_ ?_
         rotate_left
         ·intro w'
          go_simp
          with_reducible rfl
         rotate_left
         ·simp only [Act.put, List.setIfInBounds_toArray, List.set_cons_zero, List.set_cons_succ, i64_w, i32_w]
          rfl
         refine done_ (done_of HT_.out (by kernel_rfl)) ?_
         try go_wp2
         go_meet
         case rel => exact ⟨_, (decide (t796 < 0)), (by rfl), H', ⟨by have := HJ2.out; omega⟩, ⟨by (with_reducible repeat (fail)); exact Kd.S_mono HO786.out (fun _ hk => trivial)⟩, ⟨by repeat ((with_reducible exact HB.out))⟩⟩
        ·rw [if_neg c15] at H
         exact absurd H (by simp)
       ·rw [if_neg c14] at H
        have c14b0 : ((t783.length : Int) == (wrap64 (((rd_LI l1 0).length : Int) + 1))) = false := beq_eq_false_iff_ne.mpr c14
        have c14b1 : ((t783.length : Int) != (wrap64 (((rd_LI l1 0).length : Int) + 1))) = true := bne_iff_ne.mpr c14
        have H' := Aside0.mk H
        clear H
        try go_wp2
        have n0_ := Aside0.mk (Kd.S_drew HO786.out)
        have n1_ := Aside0.mk (below_drew1 HB.out)
        clear HO786
        clear HB
        have HO786 := n0_
        have HB := n1_
        clear n0_ n1_
        obtain ⟨Ao25, co25, eo25⟩ := Kd.S_slice HO786.out
        (subst eo25)
        have p787 : 0 ≤ (0 : Int) := (by omega)
        have q787 : 0 < (l1.length : Int) := of_decide_eq_true (by (with_reducible assumption))
        obtain ⟨ad787, A787_0, c787_0, e787, hx787_0, hl787_0, hi787_0⟩ := at_LI HR1.out 0 p787 q787
        have hw787_0 := hx787_0
        (try rw [show ((0 : Int)).toNat = 0 from rfl] at hw787_0)
        (try rw [Addr.add_zero'] at hw787_0)
        cases e787
        have qi787 : (0 < l1.length) = True := eq_true (by omega)
        (try rw [show ((0 : Int)).toNat = 0 from rfl] at hx787_0)
        (try rw [Addr.add_zero'] at hx787_0)
        replace hx787_0 := (HB.out.cell (World.block_lt_of_cell? w _ hx787_0)).trans hx787_0
        have HR787_0 := Aside0.mk hi787_0
        have HC787_0 := Aside0.mk hl787_0
        clear hi787_0 hl787_0
        replace p787 := eq_true p787
        replace q787 := eq_true q787
        refine start_ (n := 20) (S := fun w' => w'.cell? ad787 = some (.slice A787_0 (rd_LI l1 0).length c787_0)) (ds := []) #[false, false, false, false, false, false, false, false, false, false, false, false, false, false, false, false, false, false, false, false] (by kernel_rfl) rfl rfl (((HB.out.cell (World.block_lt_of_cell? w _ hw787_0)).trans hw787_0)) (fun hHeld => ?_); refine with_tabW codewrightlaw36_DelsarteInequalities.tab4 codewrightlaw36_DelsarteInequalities.bits4 (fun HT_ HW_ => ?_)
        generalize w11.drew = w24 at HO786 HB HR787_0 hx787_0 hHeld ⊢
        refine pure_ (i := 0) (N := some 31) (v := ?_) (a' := ?_) #[true, false, false, false, false, false, false, false, false, false, false, false, false, false, false, false, false, false, false, false] rfl rfl (any_of HT_.out (by kernel_rfl)) (fun _ _ _ h => h) (Or.inl ⟨by rfl, ?_⟩) ?_ ?_
        rotate_left
        ·intro w'
         go_simp
         with_reducible rfl
        rotate_left
        ·simp only [Act.put, List.setIfInBounds_toArray, List.set_cons_zero, List.set_cons_succ, i64_w, i32_w]
         rfl
        refine pure_ (i := 1) (N := some 32) (v := ?_) (a' := ?_) #[true, true, false, false, false, false, false, false, false, false, false, false, false, false, false, false, false, false, false, false] rfl rfl (any_of HT_.out (by kernel_rfl)) (fun _ _ _ h => h) (Or.inl ⟨by rfl, ?_⟩) ?_ ?_
        rotate_left
        ·intro w'
         go_simp
         with_reducible rfl
        rotate_left
        ·simp only [Act.put, List.setIfInBounds_toArray, List.set_cons_zero, List.set_cons_succ, i64_w, i32_w]
         rfl
        refine pure_ (i := 2) (N := some 33) (v := ?_) (a' := ?_) #[true, true, true, false, false, false, false, false, false, false, false, false, false, false, false, false, false, false, false, false] rfl rfl (any_of HT_.out (by kernel_rfl)) (fun _ _ _ h => h) (Or.inl ⟨by rfl, ?_⟩) ?_ ?_
        rotate_left
        ·intro w'
         go_simp
         with_reducible rfl
        rotate_left
        ·simp only [Act.put, List.setIfInBounds_toArray, List.set_cons_zero, List.set_cons_succ, i64_w, i32_w]
         rfl
        refine pure_ (i := 3) (N := some 34) (v := ?_) (a' := ?_) #[true, true, true, true, false, false, false, false, false, false, false, false, false, false, false, false, false, false, false, false] rfl rfl (any_of HT_.out (by kernel_rfl)) (fun _ _ _ h => h) (Or.inl ⟨by rfl, ?_⟩) ?_ ?_
        rotate_left
        ·intro w'
         go_simp
         with_reducible rfl
        rotate_left
        ·simp only [Act.put, List.setIfInBounds_toArray, List.set_cons_zero, List.set_cons_succ, i64_w, i32_w]
         rfl
        refine pure_ (i := 4) (N := some 35) (v := ?_) (a' := ?_) #[true, true, true, true, true, false, false, false, false, false, false, false, false, false, false, false, false, false, false, false] rfl rfl (any_of HT_.out (by kernel_rfl)) (fun _ _ _ h => h) (Or.inl ⟨by rfl, ?_⟩) ?_ ?_
        rotate_left
        ·intro w'
         go_simp
         with_reducible rfl
        rotate_left
        ·simp only [Act.put, List.setIfInBounds_toArray, List.set_cons_zero, List.set_cons_succ, i64_w, i32_w]
         rfl
        refine pure_ (i := 5) (N := some 36) (v := ?_) (a' := ?_) #[true, true, true, true, true, true, false, false, false, false, false, false, false, false, false, false, false, false, false, false] rfl rfl (any_of HT_.out (by kernel_rfl)) (fun _ _ _ h => h) (Or.inl ⟨by rfl, ?_⟩) ?_ ?_
        rotate_left
        ·intro w'
         go_simp
         with_reducible rfl
        rotate_left
        ·simp only [Act.put, List.setIfInBounds_toArray, List.set_cons_zero, List.set_cons_succ, i64_w, i32_w]
         rfl
        refine pure_ (i := 6) (N := some 37) (v := ?_) (a' := ?_) #[true, true, true, true, true, true, true, false, false, false, false, false, false, false, false, false, false, false, false, false] rfl rfl (any_of HT_.out (by kernel_rfl)) (fun _ _ _ h => h) (Or.inl ⟨by rfl, ?_⟩) ?_ ?_
        rotate_left
        ·intro w'
         go_simp
         with_reducible rfl
        rotate_left
        ·simp only [Act.put, List.setIfInBounds_toArray, List.set_cons_zero, List.set_cons_succ, i64_w, i32_w]
         rfl
        refine take_ (i := 7) (N := some 38) (v := ?_) (a' := ?_) #[true, true, true, true, true, true, true, true, false, false, false, false, false, false, false, false, false, false, false, false] rfl rfl (take_ofW HT_.out HW_.out (by kernel_rfl)) (fun _ _ _ h => h) (Or.inl ⟨by rfl, ?_⟩) hHeld ?_ ?_
        rotate_left
        ·intro w' s0
         go_simp
         with_reducible rfl
        rotate_left
        ·simp only [Act.put, List.setIfInBounds_toArray, List.set_cons_zero, List.set_cons_succ, i64_w, i32_w]
         rfl
        refine pure_ (i := 8) (N := some 39) (v := ?_) (a' := ?_) #[true, true, true, true, true, true, true, true, true, false, false, false, false, false, false, false, false, false, false, false] rfl rfl (any_of HT_.out (by kernel_rfl)) (fun _ _ _ h => h) (Or.inl ⟨by rfl, ?_⟩) ?_ ?_
        rotate_left
        ·intro w'
         go_simp
         with_reducible rfl
        rotate_left
        ·simp only [Act.put, List.setIfInBounds_toArray, List.set_cons_zero, List.set_cons_succ, i64_w, i32_w]
         rfl
        refine pure_ (i := 9) (N := some 40) (v := ?_) (a' := ?_) #[true, true, true, true, true, true, true, true, true, true, false, false, false, false, false, false, false, false, false, false] rfl rfl (any_of HT_.out (by kernel_rfl)) (fun _ _ _ h => h) (Or.inl ⟨by rfl, ?_⟩) ?_ ?_
        rotate_left
        ·intro w'
         go_simp
         with_reducible rfl
        rotate_left
        ·simp only [Act.put, List.setIfInBounds_toArray, List.set_cons_zero, List.set_cons_succ, i64_w, i32_w]
         rfl
        refine pure_ (i := 10) (N := some 41) (v := ?_) (a' := ?_) #[true, true, true, true, true, true, true, true, true, true, true, false, false, false, false, false, false, false, false, false] rfl rfl (any_of HT_.out (by kernel_rfl)) (fun _ _ _ h => h) (Or.inl ⟨by rfl, ?_⟩) ?_ ?_
        rotate_left
        ·intro w'
         go_simp
         with_reducible rfl
        rotate_left
        ·simp only [Act.put, List.setIfInBounds_toArray, List.set_cons_zero, List.set_cons_succ, i64_w, i32_w]
         rfl
        refine pure_ (i := 11) (N := some 42) (v := ?_) (a' := ?_) #[true, true, true, true, true, true, true, true, true, true, true, true, false, false, false, false, false, false, false, false] rfl rfl (any_of HT_.out (by kernel_rfl)) (fun _ _ _ h => h) (Or.inl ⟨by rfl, ?_⟩) ?_ ?_
        rotate_left
        ·intro w'
         go_simp
         with_reducible rfl
        rotate_left
        ·simp only [Act.put, List.setIfInBounds_toArray, List.set_cons_zero, List.set_cons_succ, i64_w, i32_w]
         rfl
        refine pure_ (i := 12) (N := some 43) (v := ?_) (a' := ?_) #[true, true, true, true, true, true, true, true, true, true, true, true, true, false, false, false, false, false, false, false] rfl rfl (any_of HT_.out (by kernel_rfl)) (fun _ _ _ h => h) (Or.inl ⟨by rfl, ?_⟩) ?_ ?_
        rotate_left
        ·intro w'
         go_simp
         with_reducible rfl
        rotate_left
        ·simp only [Act.put, List.setIfInBounds_toArray, List.set_cons_zero, List.set_cons_succ, i64_w, i32_w]
         rfl
        refine pure_ (i := 13) (N := some 44) (v := undef) (a' := ?_) #[true, true, true, true, true, true, true, true, true, true, true, true, true, true, false, false, false, false, false, false] rfl rfl (any_of HT_.out (by kernel_rfl)) (fun _ _ _ h => h) (Or.inr ⟨by rfl, rfl⟩) ?_ ?_
        rotate_left
        ·simp only [Act.put, List.setIfInBounds_toArray, List.set_cons_zero, List.set_cons_succ, i64_w, i32_w]
         rfl
        refine pure_ (i := 14) (N := some 45) (v := undef) (a' := ?_) #[true, true, true, true, true, true, true, true, true, true, true, true, true, true, true, false, false, false, false, false] rfl rfl (any_of HT_.out (by kernel_rfl)) (fun _ _ _ h => h) (Or.inr ⟨by rfl, rfl⟩) ?_ ?_
        rotate_left
        ·simp only [Act.put, List.setIfInBounds_toArray, List.set_cons_zero, List.set_cons_succ, i64_w, i32_w]
         rfl
        refine pure_ (i := 15) (N := some 46) (v := undef) (a' := ?_) #[true, true, true, true, true, true, true, true, true, true, true, true, true, true, true, true, false, false, false, false] rfl rfl (any_of HT_.out (by kernel_rfl)) (fun _ _ _ h => h) (Or.inr ⟨by rfl, rfl⟩) ?_ ?_
        rotate_left
        ·simp only [Act.put, List.setIfInBounds_toArray, List.set_cons_zero, List.set_cons_succ, i64_w, i32_w]
         rfl
        refine pure_ (i := 16) (N := some 47) (v := undef) (a' := ?_) #[true, true, true, true, true, true, true, true, true, true, true, true, true, true, true, true, true, false, false, false] rfl rfl (any_of HT_.out (by kernel_rfl)) (fun _ _ _ h => h) (Or.inr ⟨by rfl, rfl⟩) ?_ ?_
        rotate_left
        ·simp only [Act.put, List.setIfInBounds_toArray, List.set_cons_zero, List.set_cons_succ, i64_w, i32_w]
         rfl
        refine pure_ (i := 17) (N := some 48) (v := undef) (a' := ?_) #[true, true, true, true, true, true, true, true, true, true, true, true, true, true, true, true, true, true, false, false] rfl rfl (any_of HT_.out (by kernel_rfl)) (fun _ _ _ h => h) (Or.inr ⟨by rfl, rfl⟩) ?_ ?_
        rotate_left
        ·simp only [Act.put, List.setIfInBounds_toArray, List.set_cons_zero, List.set_cons_succ, i64_w, i32_w]
         rfl
        refine pure_ (i := 18) (N := some 49) (v := undef) (a' := ?_) #[true, true, true, true, true, true, true, true, true, true, true, true, true, true, true, true, true, true, true, false] rfl rfl (any_of HT_.out (by kernel_rfl)) (fun _ _ _ h => h) (Or.inr ⟨by rfl, rfl⟩) ?_ ?_
        rotate_left
        ·simp only [Act.put, List.setIfInBounds_toArray, List.set_cons_zero, List.set_cons_succ, i64_w, i32_w]
         rfl
        refine pure_ (i := 19) (N := some 50) (v := ?_) (a' := ?_) #[true, true, true, true, true, true, true, true, true, true, true, true, true, true, true, true, true, true, true, true] rfl rfl (any_of HT_.out (by kernel_rfl)) (fun _ _ _ h => h) (Or.inl ⟨by rfl, ?_⟩) ?_ ?_
        rotate_left
        ·intro w'
         go_simp
         with_reducible rfl
        rotate_left
        ·simp only [Act.put, List.setIfInBounds_toArray, List.set_cons_zero, List.set_cons_succ, i64_w, i32_w]
         rfl
        refine done_ (done_of HT_.out (by kernel_rfl)) ?_
        try go_wp2
        go_meet
        case rel => exact ⟨_, (true), (by rfl), H', ⟨by have := HJ2.out; omega⟩, ⟨by (with_reducible repeat (fail)); exact HO786.out⟩, ⟨by repeat ((with_reducible exact HB.out))⟩⟩
      ·rw [if_neg c13] at H
       exact absurd H (by simp)
     ·rw [if_neg c12] at H
      have c12b0 : (t784 == 0) = false := beq_eq_false_iff_ne.mpr c12
      have c12b1 : (t784 != 0) = true := bne_iff_ne.mpr c12
      (skip)
      have H' := Aside0.mk H
      clear H
      try go_wp2
      have n0_ := Aside0.mk (Kd.S_drew HO786.out)
      have n1_ := Aside0.mk (below_drew1 HB.out)
      clear HO786
      clear HB
      have HO786 := n0_
      have HB := n1_
      clear n0_ n1_
      refine start_ (n := 20) (S := fun w' => True) (ds := []) #[false, false, false, false, false, false, false, false, false, false, false, false, false, false, false, false, false, false, false, false] (by kernel_rfl) rfl rfl trivial (fun hHeld => ?_); refine with_tabW codewrightlaw36_DelsarteInequalities.tab4 codewrightlaw36_DelsarteInequalities.bits4 (fun HT_ HW_ => ?_)
      generalize w11.drew = w26 at HO786 HB hHeld ⊢
      refine pure_ (i := 0) (N := some 31) (v := ?_) (a' := ?_) #[true, false, false, false, false, false, false, false, false, false, false, false, false, false, false, false, false, false, false, false] rfl rfl (any_of HT_.out (by kernel_rfl)) (fun _ _ _ h => h) (Or.inl ⟨by rfl, ?_⟩) ?_ ?_
      rotate_left
      ·intro w'
       go_simp
       with_reducible rfl
      rotate_left
      ·simp only [Act.put, List.setIfInBounds_toArray, List.set_cons_zero, List.set_cons_succ, i64_w, i32_w]
       rfl
      refine pure_ (i := 1) (N := some 32) (v := ?_) (a' := ?_) #[true, true, false, false, false, false, false, false, false, false, false, false, false, false, false, false, false, false, false, false] rfl rfl (any_of HT_.out (by kernel_rfl)) (fun _ _ _ h => h) (Or.inl ⟨by rfl, ?_⟩) ?_ ?_
      rotate_left
      ·intro w'
       go_simp
       with_reducible rfl
      rotate_left
      ·simp only [Act.put, List.setIfInBounds_toArray, List.set_cons_zero, List.set_cons_succ, i64_w, i32_w]
       rfl
      refine pure_ (i := 2) (N := some 33) (v := ?_) (a' := ?_) #[true, true, true, false, false, false, false, false, false, false, false, false, false, false, false, false, false, false, false, false] rfl rfl (any_of HT_.out (by kernel_rfl)) (fun _ _ _ h => h) (Or.inl ⟨by rfl, ?_⟩) ?_ ?_
      rotate_left
      ·intro w'
       go_simp
       with_reducible rfl
      rotate_left
      ·simp only [Act.put, List.setIfInBounds_toArray, List.set_cons_zero, List.set_cons_succ, i64_w, i32_w]
       rfl
      refine pure_ (i := 3) (N := some 34) (v := undef) (a' := ?_) #[true, true, true, true, false, false, false, false, false, false, false, false, false, false, false, false, false, false, false, false] rfl rfl (any_of HT_.out (by kernel_rfl)) (fun _ _ _ h => h) (Or.inr ⟨by rfl, rfl⟩) ?_ ?_
      rotate_left
      ·simp only [Act.put, List.setIfInBounds_toArray, List.set_cons_zero, List.set_cons_succ, i64_w, i32_w]
       rfl
      refine pure_ (i := 4) (N := some 35) (v := undef) (a' := ?_) #[true, true, true, true, true, false, false, false, false, false, false, false, false, false, false, false, false, false, false, false] rfl rfl (any_of HT_.out (by kernel_rfl)) (fun _ _ _ h => h) (Or.inr ⟨by rfl, rfl⟩) ?_ ?_
      rotate_left
      ·simp only [Act.put, List.setIfInBounds_toArray, List.set_cons_zero, List.set_cons_succ, i64_w, i32_w]
       rfl
      refine pure_ (i := 5) (N := some 36) (v := undef) (a' := ?_) #[true, true, true, true, true, true, false, false, false, false, false, false, false, false, false, false, false, false, false, false] rfl rfl (any_of HT_.out (by kernel_rfl)) (fun _ _ _ h => h) (Or.inr ⟨by rfl, rfl⟩) ?_ ?_
      rotate_left
      ·simp only [Act.put, List.setIfInBounds_toArray, List.set_cons_zero, List.set_cons_succ, i64_w, i32_w]
       rfl
      refine pure_ (i := 6) (N := some 37) (v := undef) (a' := ?_) #[true, true, true, true, true, true, true, false, false, false, false, false, false, false, false, false, false, false, false, false] rfl rfl (any_of HT_.out (by kernel_rfl)) (fun _ _ _ h => h) (Or.inr ⟨by rfl, rfl⟩) ?_ ?_
      rotate_left
      ·simp only [Act.put, List.setIfInBounds_toArray, List.set_cons_zero, List.set_cons_succ, i64_w, i32_w]
       rfl
      refine pure_ (i := 7) (N := some 38) (v := undef) (a' := ?_) #[true, true, true, true, true, true, true, true, false, false, false, false, false, false, false, false, false, false, false, false] rfl rfl (any_of HT_.out (by kernel_rfl)) (fun _ _ _ h => h) (Or.inr ⟨by rfl, rfl⟩) ?_ ?_
      rotate_left
      ·simp only [Act.put, List.setIfInBounds_toArray, List.set_cons_zero, List.set_cons_succ, i64_w, i32_w]
       rfl
      refine pure_ (i := 8) (N := some 39) (v := undef) (a' := ?_) #[true, true, true, true, true, true, true, true, true, false, false, false, false, false, false, false, false, false, false, false] rfl rfl (any_of HT_.out (by kernel_rfl)) (fun _ _ _ h => h) (Or.inr ⟨by rfl, rfl⟩) ?_ ?_
      rotate_left
      ·simp only [Act.put, List.setIfInBounds_toArray, List.set_cons_zero, List.set_cons_succ, i64_w, i32_w]
       rfl
      refine pure_ (i := 9) (N := some 40) (v := undef) (a' := ?_) #[true, true, true, true, true, true, true, true, true, true, false, false, false, false, false, false, false, false, false, false] rfl rfl (any_of HT_.out (by kernel_rfl)) (fun _ _ _ h => h) (Or.inr ⟨by rfl, rfl⟩) ?_ ?_
      rotate_left
      ·simp only [Act.put, List.setIfInBounds_toArray, List.set_cons_zero, List.set_cons_succ, i64_w, i32_w]
       rfl
      refine pure_ (i := 10) (N := some 41) (v := undef) (a' := ?_) #[true, true, true, true, true, true, true, true, true, true, true, false, false, false, false, false, false, false, false, false] rfl rfl (any_of HT_.out (by kernel_rfl)) (fun _ _ _ h => h) (Or.inr ⟨by rfl, rfl⟩) ?_ ?_
      rotate_left
      ·simp only [Act.put, List.setIfInBounds_toArray, List.set_cons_zero, List.set_cons_succ, i64_w, i32_w]
       rfl
      refine pure_ (i := 11) (N := some 42) (v := ?_) (a' := ?_) #[true, true, true, true, true, true, true, true, true, true, true, true, false, false, false, false, false, false, false, false] rfl rfl (any_of HT_.out (by kernel_rfl)) (fun _ _ _ h => h) (Or.inl ⟨by rfl, ?_⟩) ?_ ?_
      rotate_left
      ·intro w'
       go_simp
       with_reducible rfl
      rotate_left
      ·simp only [Act.put, List.setIfInBounds_toArray, List.set_cons_zero, List.set_cons_succ, i64_w, i32_w]
       rfl
      refine pure_ (i := 12) (N := some 43) (v := ?_) (a' := ?_) #[true, true, true, true, true, true, true, true, true, true, true, true, true, false, false, false, false, false, false, false] rfl rfl (any_of HT_.out (by kernel_rfl)) (fun _ _ _ h => h) (Or.inl ⟨by rfl, ?_⟩) ?_ ?_
      rotate_left
      ·intro w'
       go_simp
       with_reducible rfl
      rotate_left
      ·simp only [Act.put, List.setIfInBounds_toArray, List.set_cons_zero, List.set_cons_succ, i64_w, i32_w]
       rfl
      refine pure_ (i := 13) (N := some 44) (v := undef) (a' := ?_) #[true, true, true, true, true, true, true, true, true, true, true, true, true, true, false, false, false, false, false, false] rfl rfl (any_of HT_.out (by kernel_rfl)) (fun _ _ _ h => h) (Or.inr ⟨by rfl, rfl⟩) ?_ ?_
      rotate_left
      ·simp only [Act.put, List.setIfInBounds_toArray, List.set_cons_zero, List.set_cons_succ, i64_w, i32_w]
       rfl
      refine pure_ (i := 14) (N := some 45) (v := undef) (a' := ?_) #[true, true, true, true, true, true, true, true, true, true, true, true, true, true, true, false, false, false, false, false] rfl rfl (any_of HT_.out (by kernel_rfl)) (fun _ _ _ h => h) (Or.inr ⟨by rfl, rfl⟩) ?_ ?_
      rotate_left
      ·simp only [Act.put, List.setIfInBounds_toArray, List.set_cons_zero, List.set_cons_succ, i64_w, i32_w]
       rfl
      refine pure_ (i := 15) (N := some 46) (v := undef) (a' := ?_) #[true, true, true, true, true, true, true, true, true, true, true, true, true, true, true, true, false, false, false, false] rfl rfl (any_of HT_.out (by kernel_rfl)) (fun _ _ _ h => h) (Or.inr ⟨by rfl, rfl⟩) ?_ ?_
      rotate_left
      ·simp only [Act.put, List.setIfInBounds_toArray, List.set_cons_zero, List.set_cons_succ, i64_w, i32_w]
       rfl
      refine pure_ (i := 16) (N := some 47) (v := undef) (a' := ?_) #[true, true, true, true, true, true, true, true, true, true, true, true, true, true, true, true, true, false, false, false] rfl rfl (any_of HT_.out (by kernel_rfl)) (fun _ _ _ h => h) (Or.inr ⟨by rfl, rfl⟩) ?_ ?_
      rotate_left
      ·simp only [Act.put, List.setIfInBounds_toArray, List.set_cons_zero, List.set_cons_succ, i64_w, i32_w]
       rfl
      refine pure_ (i := 17) (N := some 48) (v := undef) (a' := ?_) #[true, true, true, true, true, true, true, true, true, true, true, true, true, true, true, true, true, true, false, false] rfl rfl (any_of HT_.out (by kernel_rfl)) (fun _ _ _ h => h) (Or.inr ⟨by rfl, rfl⟩) ?_ ?_
      rotate_left
      ·simp only [Act.put, List.setIfInBounds_toArray, List.set_cons_zero, List.set_cons_succ, i64_w, i32_w]
       rfl
      refine pure_ (i := 18) (N := some 49) (v := undef) (a' := ?_) #[true, true, true, true, true, true, true, true, true, true, true, true, true, true, true, true, true, true, true, false] rfl rfl (any_of HT_.out (by kernel_rfl)) (fun _ _ _ h => h) (Or.inr ⟨by rfl, rfl⟩) ?_ ?_
      rotate_left
      ·simp only [Act.put, List.setIfInBounds_toArray, List.set_cons_zero, List.set_cons_succ, i64_w, i32_w]
       rfl
      refine pure_ (i := 19) (N := some 50) (v := ?_) (a' := ?_) #[true, true, true, true, true, true, true, true, true, true, true, true, true, true, true, true, true, true, true, true] rfl rfl (any_of HT_.out (by kernel_rfl)) (fun _ _ _ h => h) (Or.inl ⟨by rfl, ?_⟩) ?_ ?_
      rotate_left
      ·intro w'
       go_simp
       with_reducible rfl
      rotate_left
      ·simp only [Act.put, List.setIfInBounds_toArray, List.set_cons_zero, List.set_cons_succ, i64_w, i32_w]
       rfl
      refine done_ (done_of HT_.out (by kernel_rfl)) ?_
      try go_wp2
      go_meet
      case rel => exact ⟨_, (true), (by rfl), H', ⟨by have := HJ2.out; omega⟩, ⟨by (with_reducible repeat (fail)); exact HO786.out⟩, ⟨by repeat ((with_reducible exact HB.out))⟩⟩
    case rest =>
     clear HC10
     obtain ⟨kq, x50_9, rfl, HA, HJ9, HO_5, HB⟩ := hcut
     cases kq with
     | zero => exact absurd HA.out (by simp [codewrightlaw36_DelsarteInequalities.j1])
     | succ kj9 =>
      have H := HA.out
      clear HA
      simp only [codewrightlaw36_DelsarteInequalities.j1] at H
      by_cases c27 : x50_9 = true
      ·subst c27
       have H1 : (some false) = some r := by rw [if_pos rfl] at H; exact H
       clear H
       have H := H1
       clear H1
       obtain rfl := Option.some.inj H
       go_wp2
       go_ret
       exact ⟨by rfl, by repeat ((with_reducible exact HB.out))⟩
      ·replace c27 := Bool.eq_false_iff.mpr c27
       subst c27
       have H1 : ((codewrightref24_Transform.f kj9 a0 t783).bind fun t797 => (codewrightlaw36_DelsarteInequalities.l0 kj9 t797 0)) = some r := by rw [if_neg (show ¬ (false = true) by decide)] at H; exact H
       clear H
       have H := H1
       clear H1
       replace H := Option.bind_eq_some_iff.mp H
       obtain ⟨t797, A280, H⟩ := H
       replace H : (codewrightlaw36_DelsarteInequalities.l0 kj9 t797 0) = some r := H
       have A28 := Aside0.mk A280
       clear A280
       have H' := Aside0.mk H
       clear H
       obtain ⟨Ao29, co29, eo29⟩ := Kd.S_slice HO_5.out
       subst eo29
       go_wp2_with (((with_reducible refine gate_callee (f := 31) rfl ?_); refine goesL_ (some 53) rfl rfl Try.func31 (by kernel_rfl) rfl #[.int .i64 a0, .slice Ao29 t783.length co29] rfl (by (try simp only [List.map_toArray, List.map_cons, List.map_nil]); rfl) ?_; (with_reducible refine (codewrightref24_Transform.calls kj9 a0 _ _ t783 t797 _ ?side1 ?side2 A28.out).mono ?_); (case side1 => exact (Kd.S_reads' HO_5.out).2.2); (case side2 => exact (Kd.S_reads' HO_5.out).2.1); rintro e w30 ⟨v798, rfl, ho0, hb⟩; refine ⟨_, rfl, ?_⟩; have n0_ := Aside0.mk (Kd.S_elder' (by (with_reducible repeat (fail)); exact HO_5.out) (Kd.S_base ho0) hb); have n1_ := Aside0.mk (Kd.S_lower (Kd.S_new' ho0 (Kd.S_lt (by (with_reducible repeat (fail)); exact HO_5.out))) (below_size (by repeat ((with_reducible exact HB.out))))); have n2_ := Aside0.mk (below_step (by repeat ((with_reducible exact HB.out))) hb); clear HO_5; clear HB; have HO_5 := n0_; have HO799 := n1_; have HB := n2_; clear n0_ n1_ n2_; (try clear hb); (try clear ho0)))
       go_loopg [8] kj9 (fun kq v8 w' => ∃ (x8_3 : Int), v8 = .int .i64 x8_3 ∧ Aside0 (codewrightlaw36_DelsarteInequalities.l0 kq t797 x8_3 = some r) ∧ Aside0 (kq ≤ kj9) ∧ Aside0 (Kd.S k46 46 w' w.heap.size (fun _ => True) v798 t797) ∧ Aside0 (Below w.heap.size w w'))
       case atStart => exact ⟨(0), (by rfl), H', ⟨Nat.le_refl _⟩, ⟨by (with_reducible repeat (fail)); exact Kd.S_mono HO799.out (fun _ hk => trivial)⟩, ⟨by repeat ((with_reducible exact HB.out))⟩⟩
       case round =>
        clear H'
        obtain ⟨x8_3, rfl, HA, HK3, HO_7, HB⟩ := hrel
        cases gk with
        | zero => exact absurd HA.out (by simp [codewrightlaw36_DelsarteInequalities.l0])
        | succ k3 =>
         have H := HA.out
         clear HA
         simp only [codewrightlaw36_DelsarteInequalities.l0] at H
         by_cases c31 : x8_3 < (t797.length : Int)
         ·rw [if_pos c31] at H
          have c31b0 : decide (x8_3 < (t797.length : Int)) = true := decide_eq_true c31
          clear c31
          by_cases c32 : 0 ≤ x8_3
          ·rw [if_pos c32] at H
           have c32b0 : decide (0 ≤ x8_3) = true := decide_eq_true c32
           clear c32
           replace H := Option.bind_eq_some_iff.mp H
           obtain ⟨t801, A330, H⟩ := H
           replace H : (if t801 < 0 then (some false) else (codewrightlaw36_DelsarteInequalities.l0 k3 t797 (wrap64 (x8_3 + 1)))) = some r := H
           have A33 := Aside0.mk A330
           clear A330
           by_cases c34 : t801 < 0
           ·rw [if_pos c34] at H
            have c34b0 : decide (t801 < 0) = true := decide_eq_true c34
            clear c34
            obtain rfl := Option.some.inj H
            obtain ⟨Ao35, co35, eo35⟩ := Kd.S_slice HO_7.out
            subst eo35
            have p800 : 0 ≤ (x8_3 : Int) := of_decide_eq_true (by (with_reducible assumption))
            have q800 : x8_3 < (t797.length : Int) := of_decide_eq_true (by (with_reducible assumption))
            obtain ⟨ad800, A800_1, c800_1, A800_2, c800_2, e800, hx800_0, hx800_1, hx800_2, hl800_1, hi800_1, hl800_2, hi800_2⟩ := at_T46 (Kd.S_reads' HO_7.out).2.2 x8_3 p800 q800
            cases e800
            obtain ⟨ce800, hce800, hMe800, hcc800⟩ := Kd.S_get HO_7.out z46 x8_3 p800 (by exact q800)
            obtain ⟨ve800_1, ve800_2, rfl, ge800_1, ge800_2⟩ := k46_openM hMe800
            have hv800_1 := hcc800 1 _ rfl
            rw [add_field _ _ 1 (by omega)] at hv800_1
            replace hv800_1 := Option.some.inj (hv800_1.symm.trans hx800_1)
            rw [hv800_1] at ge800_1
            have HL800_1 := Aside0.mk (show Kd.R (Kd.int .u32) 100 _ _ _ _ ((rd_T46 t797 x8_3).f1) from ge800_1)
            clear hv800_1 ge800_1
            have hv800_2 := hcc800 2 _ rfl
            rw [add_field _ _ 2 (by omega)] at hv800_2
            replace hv800_2 := Option.some.inj (hv800_2.symm.trans hx800_2)
            rw [hv800_2] at ge800_2
            have HL800_2 := Aside0.mk (show Kd.R (Kd.int .u32) 100 _ _ _ _ ((rd_T46 t797 x8_3).f2) from ge800_2)
            clear hv800_2 ge800_2
            clear hcc800 hce800
            have HR800_1 := Aside0.mk hi800_1
            have HC800_1 := Aside0.mk hl800_1
            clear hi800_1 hl800_1
            have HR800_2 := Aside0.mk hi800_2
            have HC800_2 := Aside0.mk hl800_2
            clear hi800_2 hl800_2
            replace p800 := eq_true p800
            replace q800 := eq_true q800
            go_wp2_with (((with_reducible refine gate_callee (f := 32) rfl ?_); refine goesL_ (some 64) rfl rfl Try.func32 (by kernel_rfl) rfl #[.agg #[.bool ((rd_T46 t797 x8_3).f0), .slice A800_1 ((rd_T46 t797 x8_3).f1).length c800_1, .slice A800_2 ((rd_T46 t797 x8_3).f2).length c800_2]] rfl (by (try simp only [List.map_toArray, List.map_cons, List.map_nil]); rfl) ?_; (with_reducible refine (codewrightref02_Sign.calls k3 ((rd_T46 t797 x8_3).f0) _ _ ((rd_T46 t797 x8_3).f1) _ _ ((rd_T46 t797 x8_3).f2) t801 _ ?side1 ?side2 ?side3 ?side4 A33.out).mono ?_); (case side1 => repeat (exact (by repeat ((with_reducible exact HR800_1.out))))); (case side2 => exact HC800_1.out); (case side3 => repeat (exact (by repeat ((with_reducible exact HR800_2.out))))); (case side4 => exact HC800_2.out); rintro e w36 ⟨rfl, hb⟩; refine ⟨_, rfl, ?_⟩; have n0_ := Aside0.mk (Kd.S_below (by (with_reducible repeat (fail)); exact HO_7.out) hb); have n1_ := Aside0.mk (Kd.R_below (by (with_reducible repeat (fail)); exact HL800_1.out) hb); have n2_ := Aside0.mk (Kd.R_below (by (with_reducible repeat (fail)); exact HL800_2.out) hb); have n3_ := Aside0.mk (Kd.C_below (by repeat ((with_reducible exact HR800_1.out))) hb); have n4_ := Aside0.mk (Kd.C_below (by repeat ((with_reducible exact HR800_2.out))) hb); have n5_ := Aside0.mk (below_step (by repeat ((with_reducible exact HB.out))) hb); clear HO_7; clear HL800_1; clear HL800_2; clear HR800_1; clear HR800_2; clear HB; have HO_7 := n0_; have HL800_1 := n1_; have HL800_2 := n2_; have HR800_1 := n3_; have HR800_2 := n4_; have HB := n5_; clear n0_ n1_ n2_ n3_ n4_ n5_; (try clear hb)))
            go_ret
            exact ⟨by rfl, by repeat ((with_reducible exact HB.out))⟩
           ·rw [if_neg c34] at H
            have c34b0 : decide (t801 < 0) = false := decide_eq_false c34
            clear c34
            have H' := Aside0.mk H
            clear H
            obtain ⟨Ao37, co37, eo37⟩ := Kd.S_slice HO_7.out
            subst eo37
            have p800 : 0 ≤ (x8_3 : Int) := of_decide_eq_true (by (with_reducible assumption))
            have q800 : x8_3 < (t797.length : Int) := of_decide_eq_true (by (with_reducible assumption))
            obtain ⟨ad800, A800_1, c800_1, A800_2, c800_2, e800, hx800_0, hx800_1, hx800_2, hl800_1, hi800_1, hl800_2, hi800_2⟩ := at_T46 (Kd.S_reads' HO_7.out).2.2 x8_3 p800 q800
            cases e800
            obtain ⟨ce800, hce800, hMe800, hcc800⟩ := Kd.S_get HO_7.out z46 x8_3 p800 (by exact q800)
            obtain ⟨ve800_1, ve800_2, rfl, ge800_1, ge800_2⟩ := k46_openM hMe800
            have hv800_1 := hcc800 1 _ rfl
            rw [add_field _ _ 1 (by omega)] at hv800_1
            replace hv800_1 := Option.some.inj (hv800_1.symm.trans hx800_1)
            rw [hv800_1] at ge800_1
            have HL800_1 := Aside0.mk (show Kd.R (Kd.int .u32) 100 _ _ _ _ ((rd_T46 t797 x8_3).f1) from ge800_1)
            clear hv800_1 ge800_1
            have hv800_2 := hcc800 2 _ rfl
            rw [add_field _ _ 2 (by omega)] at hv800_2
            replace hv800_2 := Option.some.inj (hv800_2.symm.trans hx800_2)
            rw [hv800_2] at ge800_2
            have HL800_2 := Aside0.mk (show Kd.R (Kd.int .u32) 100 _ _ _ _ ((rd_T46 t797 x8_3).f2) from ge800_2)
            clear hv800_2 ge800_2
            clear hcc800 hce800
            have HR800_1 := Aside0.mk hi800_1
            have HC800_1 := Aside0.mk hl800_1
            clear hi800_1 hl800_1
            have HR800_2 := Aside0.mk hi800_2
            have HC800_2 := Aside0.mk hl800_2
            clear hi800_2 hl800_2
            replace p800 := eq_true p800
            replace q800 := eq_true q800
            go_wp2_with (((with_reducible refine gate_callee (f := 32) rfl ?_); refine goesL_ (some 64) rfl rfl Try.func32 (by kernel_rfl) rfl #[.agg #[.bool ((rd_T46 t797 x8_3).f0), .slice A800_1 ((rd_T46 t797 x8_3).f1).length c800_1, .slice A800_2 ((rd_T46 t797 x8_3).f2).length c800_2]] rfl (by (try simp only [List.map_toArray, List.map_cons, List.map_nil]); rfl) ?_; (with_reducible refine (codewrightref02_Sign.calls k3 ((rd_T46 t797 x8_3).f0) _ _ ((rd_T46 t797 x8_3).f1) _ _ ((rd_T46 t797 x8_3).f2) t801 _ ?side1 ?side2 ?side3 ?side4 A33.out).mono ?_); (case side1 => repeat (exact (by repeat ((with_reducible exact HR800_1.out))))); (case side2 => exact HC800_1.out); (case side3 => repeat (exact (by repeat ((with_reducible exact HR800_2.out))))); (case side4 => exact HC800_2.out); rintro e w38 ⟨rfl, hb⟩; refine ⟨_, rfl, ?_⟩; have n0_ := Aside0.mk (Kd.S_below (by (with_reducible repeat (fail)); exact HO_7.out) hb); have n1_ := Aside0.mk (Kd.R_below (by (with_reducible repeat (fail)); exact HL800_1.out) hb); have n2_ := Aside0.mk (Kd.R_below (by (with_reducible repeat (fail)); exact HL800_2.out) hb); have n3_ := Aside0.mk (Kd.C_below (by repeat ((with_reducible exact HR800_1.out))) hb); have n4_ := Aside0.mk (Kd.C_below (by repeat ((with_reducible exact HR800_2.out))) hb); have n5_ := Aside0.mk (below_step (by repeat ((with_reducible exact HB.out))) hb); clear HO_7; clear HL800_1; clear HL800_2; clear HR800_1; clear HR800_2; clear HB; have HO_7 := n0_; have HL800_1 := n1_; have HL800_2 := n2_; have HR800_1 := n3_; have HR800_2 := n4_; have HB := n5_; clear n0_ n1_ n2_ n3_ n4_ n5_; (try clear hb)))
            go_roundg k3
            case measure => have := HJ2.out; have := HJ9.out; have := HK3.out; omega
            case rel => exact ⟨(wrap64 (x8_3 + 1)), (by rfl), H', ⟨by have := HJ2.out; have := HJ9.out; have := HK3.out; omega⟩, ⟨by (with_reducible repeat (fail)); exact HO_7.out⟩, ⟨by repeat ((with_reducible exact HB.out))⟩⟩
          ·rw [if_neg c32] at H
           exact absurd H (by simp)
         ·rw [if_neg c31] at H
          have c31b0 : decide (x8_3 < (t797.length : Int)) = false := decide_eq_false c31
          clear c31
          obtain rfl := Option.some.inj H
          obtain ⟨Ao39, co39, eo39⟩ := Kd.S_slice HO_7.out
          subst eo39
          go_wp2
          go_ret
          exact ⟨by rfl, by repeat ((with_reducible exact HB.out))⟩
end Go.Proofs.Ythheakfgmombdaa.F
end
