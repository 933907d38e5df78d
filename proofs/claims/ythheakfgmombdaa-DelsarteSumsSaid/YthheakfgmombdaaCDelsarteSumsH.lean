import Derived.Test.YthheakfgmombdaaCDelsarteSumsG
/- Part H of the proof: FLaw36DelsarteSums. -/
section
namespace Go.Proofs.Ythheakfgmombdaa.F
open Go.RowKit Go.Proofs.YthheakfgmombdaaX.PrintWords Go.Proofs.YthheakfgmombdaaX.PrintLast Go.Proofs.YthheakfgmombdaaX.PrintMore
attribute [local go_sem] max2_int min2_int max_two min_two max_three min_three max_four min_four   -- for this text's walks alone
set_option linter.unusedVariables false
set_option linter.unusedSimpArgs false
def codewrightlaw36_DelsarteSums.T17 : Bool × List (List Nat × List Nat) := (true, [([], []), ([0], [0]), ([1], [1]), ([2], [2]), ([3, 2], [2, 3]), ([2, 4], [2, 4]), ([5, 2], [5]), ([6], [6]), ([6], [6]), ([7, 8, 6, 6], [6, 7, 8]), ([6, 9], [6, 9]), ([10, 9], [10]), ([11], [11]), ([11], [11]), ([13, 11], [11, 13]), ([14, 11, 11], [11, 14]), ([12, 15, 15, 11], [11, 12, 15]), ([11, 16], [11, 16]), ([17, 16, 0, 1, 2, 3, 4, 5, 6, 7, 8, 9, 10, 11, 12, 13, 14, 15, 16, 17], [17])])
def codewrightlaw36_DelsarteSums.B17 : List Nat := [0, 1, 3, 7, 15, 31, 63, 127, 127, 511, 1023, 2047, 4095, 4095, 12287, 28671, 65535, 131071, 262143]
theorem codewrightlaw36_DelsarteSums.tab17 : rtab .any (opsOf Try.f7 17) = codewrightlaw36_DelsarteSums.T17 := by kernel_rfl
theorem codewrightlaw36_DelsarteSums.bits17 : waitsOk codewrightlaw36_DelsarteSums.T17.2 codewrightlaw36_DelsarteSums.B17 = true := by kernel_rfl
set_option maxHeartbeats 8000000 in
set_option maxRecDepth 100000 in
theorem codewrightlaw36_DelsarteSums.calls (k : Nat) (a0 : Int) (P1_ : Nat → Prop) (A1 : Option Addr) (c1 : Nat) (l1 : List (List Int)) (r : Bool) (w : World) (hs1 : Kd.V (Kd.slice 3 (Kd.int .i64)) 41 w w.heap.size (fun k_ => P1_ k_) (.slice A1 l1.length c1) l1) (h : codewrightlaw36_DelsarteSums.f k a0 l1 = some r) :
  Calls Try.prog 7 #[.int .i64 a0, .slice A1 l1.length c1] w fun e w' => e = .returned (.bool r) ∧ Below w.heap.size w w' := by
 have hu46 := Try.underlying46
 have HO1 := Aside0.mk (show Kd.V (Kd.slice 3 (Kd.int .i64)) 41 w w.heap.size (fun k_ => (P1_ k_ ∨ w.heap.size ≤ k_)) (.slice A1 l1.length c1) l1 from Kd.V_mono hs1 (fun k_ hk => .inl hk))
 have HB := Aside0.mk (Below.refl w.heap.size w)
 have H : (if (l1.length : Int) > 200 then (codewrightlaw36_DelsarteSums.j0 k a0 l1 true) else ((codewrightref34_Words.f k a0 l1).bind fun t577 => (codewrightlaw36_DelsarteSums.j0 k a0 l1 (t577 != 0)))) = some r := h
 clear h
 have HC3 := Aside0.mk H
 clear H
 go_enter Try.func7, Try.ntmps7
 go_upto_region 1 with (fail)
 go_cut [21] (fun v21 wc => ∃ (kq : Nat) (x21_2 : Bool), v21 = .bool x21_2 ∧ Aside0 (codewrightlaw36_DelsarteSums.j0 kq a0 l1 x21_2 = some r) ∧ Aside0 (kq ≤ k) ∧ Aside0 (Kd.V (Kd.slice 3 (Kd.int .i64)) 41 wc w.heap.size (fun k_ => (P1_ k_ ∨ w.heap.size ≤ k_)) (.slice A1 l1.length c1) l1) ∧ Aside0 (Below w.heap.size w wc))
 case first =>
  have H := HC3.out
  clear HC3
  by_cases c4 : (l1.length : Int) > 200
  ·rw [if_pos c4] at H
   have c4b0 : decide (200 < (l1.length : Int)) = true := decide_eq_true c4
   have c4b1 : decide (200 < l1.length) = true := decide_eq_true (by omega)
   clear c4
   (skip)
   have H' := Aside0.mk H
   clear H
   go_wp2
   go_meet
   case rel => exact ⟨_, (true), (by rfl), H', ⟨by omega⟩, ⟨by (with_reducible repeat (fail)); exact HO1.out⟩, ⟨by repeat ((with_reducible exact HB.out))⟩⟩
  ·rw [if_neg c4] at H
   have c4b0 : decide (200 < (l1.length : Int)) = false := decide_eq_false c4
   have c4b1 : decide (200 < l1.length) = false := decide_eq_false (by omega)
   clear c4
   (skip)
   replace H := Option.bind_eq_some_iff.mp H
   obtain ⟨t577, A50, H⟩ := H
   replace H : (codewrightlaw36_DelsarteSums.j0 k a0 l1 (t577 != 0)) = some r := H
   have A5 := Aside0.mk A50
   clear A50
   have H' := Aside0.mk H
   clear H
   go_wp2_with ((go_at_call 26; (with_reducible refine (codewrightref34_Words.calls k a0 _ _ l1 t577 _ ?side1 ?side2 A5.out).mono ?_); (case side1 => exact (Kd.V_reads' HO1.out).2.2); (case side2 => exact (Kd.V_reads' HO1.out).2.1); rintro e w' ⟨rfl, ⟨nd, rfl⟩⟩))
   go_meet
   case rel => exact ⟨_, ((t577 != 0)), (by rfl), H', ⟨by omega⟩, ⟨by (with_reducible repeat (apply Kd.V_drewN)); exact HO1.out⟩, ⟨by repeat ((with_reducible first | exact HB.out | apply pw_below_drewN))⟩⟩
 case rest =>
  clear HC3
  obtain ⟨kq, x21_2, rfl, HA, HJ2, HO_1, HB⟩ := hcut
  cases kq with
  | zero => exact absurd HA.out (by simp [codewrightlaw36_DelsarteSums.j0])
  | succ kj2 =>
   have H := HA.out
   clear HA
   simp only [codewrightlaw36_DelsarteSums.j0] at H
   by_cases c6 : x21_2 = true
   ·subst c6
    have H1 : (some true) = some r := by rw [if_pos rfl] at H; exact H
    clear H
    have H := H1
    clear H1
    obtain rfl := Option.some.inj H
    go_wp2
    go_ret
    exact ⟨by rfl, by repeat ((with_reducible exact HB.out))⟩
   ·replace c6 := Bool.eq_false_iff.mpr c6
    subst c6
    have H1 : (codewrightlaw36_DelsarteSums.l0 kj2 a0 l1 ([] : List (List Int)) (wrap64 ((l1.length : Int) - 1))) = some r := by rw [if_neg (show ¬ (false = true) by decide)] at H; exact H
    clear H
    have H := H1
    clear H1
    have H' := Aside0.mk H
    clear H
    go_wp2
    go_loopg [5, 6] kj2 (fun kq v5 v6 w' => ∃ (x5_2 : List (List Int)) (x6_2 : Int), v6 = .int .i64 x6_2 ∧ Aside0 (codewrightlaw36_DelsarteSums.l0 kq a0 l1 x5_2 x6_2 = some r) ∧ Aside0 (kq ≤ kj2) ∧ Aside0 (Kd.V (Kd.slice 3 (Kd.int .i64)) 41 w' w.heap.size (fun k_ => (P1_ k_ ∨ w.heap.size ≤ k_) ∧ some k_ ≠ (v5 : Value).ownBlock) (.slice A1 l1.length c1) l1) ∧ Aside0 (Kd.N (Kd.slice 3 (Kd.int .i64)) 41 w' w.heap.size (fun k_ => (P1_ k_ ∨ w.heap.size ≤ k_)) v5 x5_2) ∧ Aside0 (Below w.heap.size w w'))
    case atStart => exact ⟨(([] : List (List Int))), (wrap64 ((l1.length : Int) - 1)), (by rfl), H', ⟨Nat.le_refl _⟩, ⟨by (with_reducible repeat (fail)); exact Kd.V_mono HO_1.out (fun _ hk => ⟨hk, (by simp [Value.ownBlock])⟩)⟩, ⟨by exact Kd.N_nil _ _ _ _ _⟩, ⟨by repeat ((with_reducible exact HB.out))⟩⟩
    case round =>
     clear H'
     obtain ⟨x5_2, x6_2, rfl, HA, HK2, HO_1, HO_5, HB⟩ := hrel
     cases gk with
     | zero => exact absurd HA.out (by simp [codewrightlaw36_DelsarteSums.l0])
     | succ k2 =>
      have H := HA.out
      clear HA
      simp only [codewrightlaw36_DelsarteSums.l0] at H
      by_cases c7 : x6_2 ≥ 0
      ·rw [if_pos c7] at H
       have c7b0 : decide (0 ≤ x6_2) = true := decide_eq_true c7
       clear c7
       by_cases c8 : 0 ≤ x6_2
       ·rw [if_pos c8] at H
        have c8b0 : decide (0 ≤ x6_2) = true := decide_eq_true c8
        clear c8
        by_cases c9 : x6_2 < (l1.length : Int)
        ·rw [if_pos c9] at H
         have c9b0 : decide (x6_2 < (l1.length : Int)) = true := decide_eq_true c9
         clear c9
         by_cases c10 : x5_2.length < 5864062014805
         ·rw [if_pos c10] at H
          have LMc10 := Aside0.mk c10
          clear c10
          obtain ⟨y579, hy579⟩ : ∃ y_ : List (List Int), y_ = (x5_2 ++ [rd_LI l1 x6_2]) := ⟨_, rfl⟩
          replace H : (codewrightlaw36_DelsarteSums.l0 k2 a0 l1 y579 (wrap64 (x6_2 - 1))) = some r := by (rw [hy579]; with_reducible exact H)
          have Ny579 := Aside0.mk hy579
          clear hy579
          have H' := Aside0.mk H
          clear H
          have p578 : 0 ≤ (x6_2 : Int) := of_decide_eq_true (by (with_reducible assumption))
          have q578 : x6_2 < (l1.length : Int) := of_decide_eq_true (by (with_reducible assumption))
          obtain ⟨ad578, A578_0, c578_0, e578, hx578_0, hl578_0, hi578_0⟩ := at_LI (Kd.V_reads' HO_1.out).2.2 x6_2 p578 q578
          cases e578
          obtain ⟨ce578, hce578, hMe578, hcc578⟩ := Kd.V_get HO_1.out [] x6_2 p578 (by exact q578)
          obtain ⟨ua578_0, uc578_0, rfl, ul578_0, ge578_0⟩ := Kd.FK_slice_open hMe578
          have hv578_0 := hcc578 0 _ rfl
          rw [Nat.add_zero, show ((Kd.slice 3 (Kd.int .i64))).sz = 1 from rfl, Nat.mul_one] at hv578_0
          replace hv578_0 := Option.some.inj (hv578_0.symm.trans hx578_0)
          injection hv578_0 with hva_ hvn_ hvc_
          rw [hva_] at ge578_0
          rw [hvc_] at ul578_0
          have HL578_0 := Aside0.mk (show Kd.V (Kd.int .i64) 3 _ w.heap.size _ _ (rd_LI l1 x6_2) from Kd.V_mk ul578_0 ge578_0)
          clear hva_ hvn_ hvc_ ge578_0 ul578_0
          clear hcc578 hce578
          have HR578_0 := Aside0.mk hi578_0
          have HC578_0 := Aside0.mk hl578_0
          clear hi578_0 hl578_0
          replace p578 := eq_true p578
          replace q578 := eq_true q578
          go_wp2_with (((with_reducible refine gate_builtin (b := .append) (xs := #[.tmp 29, .tmp 34]) rfl ?_); (try (refine gate_guard (by rfl) ?_; dsimp only)); at_builtin; refine Kd.N_append (Kd.slice 3 (Kd.int .i64)) (w0 := w) w.heap.size rfl (.tmp 29) (.tmp 34) 34 41 (.slice none 0 0) 24 rfl Try.underlying34 info41 rfl (by decide) (by omega) u5 x5_2 (rd_LI l1 x6_2) [.slice A578_0 (rd_LI l1 x6_2).length c578_0] (fun k_ => (P1_ k_ ∨ w.heap.size ≤ k_)) (fun k_ => ((fun k_ => (P1_ k_ ∨ w.heap.size ≤ k_))) k_ ∧ some k_ ≠ (u5 : Value).ownBlock) rfl rfl ?aP (fun _ hk => hk) ?aF ?aO ?aB ?aS ?aL ?_; (case aP => exact (Kd.FK_slice_mk (Kd.V_reads' (Kd.V_mono (ok' := (fun k_ => ((fun k_ => (P1_ k_ ∨ w.heap.size ≤ k_))) k_ ∧ some k_ ≠ (u5 : Value).ownBlock)) (HL578_0.out) (fun k_ hk => ⟨hk.1, hk.2⟩))).2.1 (Kd.V_F (Kd.V_mono (ok' := (fun k_ => ((fun k_ => (P1_ k_ ∨ w.heap.size ≤ k_))) k_ ∧ some k_ ≠ (u5 : Value).ownBlock)) (HL578_0.out) (fun k_ hk => ⟨hk.1, hk.2⟩))))); (case aB => exact (by repeat ((with_reducible exact HB.out)))); (case aF => exact (fun k_ hk => (.inr (Nat.le_trans (below_size (by repeat ((with_reducible exact HB.out)))) hk)))); (case aO => exact (by (with_reducible repeat (fail)); exact HO_5.out)); (case aS => exact (below_size (by repeat ((with_reducible exact HB.out))))); (case aL => have := LMc10.out; omega); intro v580 w11 ho hb hg hat; rw [← Ny579.out] at ho; have n0_ := Aside0.mk (Kd.V_afterv (ok := (fun k_ => (P1_ k_ ∨ w.heap.size ≤ k_))) (by (with_reducible repeat (fail)); exact HO_1.out) hg hat); have n1_ := Aside0.mk (Kd.V_afterv (ok := (fun k_ => (P1_ k_ ∨ w.heap.size ≤ k_))) (by (with_reducible repeat (fail)); exact HL578_0.out) hg hat); have n2_ := Aside0.mk (hb); have n3_ := Aside0.mk (ho); clear HO_1; clear HL578_0; clear HB; clear HO_5; have HO_1 := n0_; have HL578_0 := n1_; have HB := n2_; have HO581 := n3_; clear n0_ n1_ n2_ n3_; clear ho hb hg hat))
          go_roundg k2
          case measure => have := HJ2.out; have := HK2.out; omega
          case rel => exact ⟨(y579), (wrap64 (x6_2 - 1)), (by rfl), H', ⟨by have := HJ2.out; have := HK2.out; omega⟩, ⟨by (with_reducible repeat (fail)); exact HO_1.out⟩, ⟨by (with_reducible repeat (fail)); exact HO581.out⟩, ⟨by repeat ((with_reducible exact HB.out))⟩⟩
         ·rw [if_neg c10] at H
          exact absurd H (by simp)
        ·rw [if_neg c9] at H
         exact absurd H (by simp)
       ·rw [if_neg c8] at H
        exact absurd H (by simp)
      ·rw [if_neg c7] at H
       have c7b0 : decide (0 ≤ x6_2) = false := decide_eq_false c7
       clear c7
       replace H := Option.bind_eq_some_iff.mp H
       obtain ⟨⟨t582, t583⟩, A120, H⟩ := H
       replace H : ((delsarte_Distances.f k2 a0 x5_2).bind fun bt586 => ((codewrightref02_Int.f k2 0).bind fun bt590 => (codewrightlaw36_DelsarteSums.l1 k2 l1 t582 t583 bt586.1 bt586.2 0 bt590.1 bt590.2.1 bt590.2.2))) = some r := H
       have A12 := Aside0.mk A120
       clear A120
       replace H := Option.bind_eq_some_iff.mp H
       obtain ⟨⟨t586, t587⟩, A130, H⟩ := H
       replace H : ((codewrightref02_Int.f k2 0).bind fun bt590 => (codewrightlaw36_DelsarteSums.l1 k2 l1 t582 t583 t586 t587 0 bt590.1 bt590.2.1 bt590.2.2)) = some r := H
       have A13 := Aside0.mk A130
       clear A130
       replace H := Option.bind_eq_some_iff.mp H
       obtain ⟨⟨t590, t591, t594⟩, A140, H⟩ := H
       replace H : (codewrightlaw36_DelsarteSums.l1 k2 l1 t582 t583 t586 t587 0 t590 t591 t594) = some r := H
       have A14 := Aside0.mk A140
       clear A140
       have H' := Aside0.mk H
       clear H
       go_wp2_with (first | ((with_reducible refine gate_callee (f := 25) rfl ?_); refine goesL_ (some 39) rfl rfl Try.func25 (by kernel_rfl) rfl #[.int .i64 a0, .slice A1 l1.length c1] rfl (by (try simp only [List.map_toArray, List.map_cons, List.map_nil]); rfl) ?_; (with_reducible refine (delsarte_Distances.calls k2 a0 _ _ l1 t582 t583 _ ?side1 ?side2 A12.out).mono ?_); (case side1 => exact (Kd.V_reads' HO_1.out).2.2); (case side2 => exact (Kd.V_reads' HO_1.out).2.1); rintro e w15 ⟨v584, rfl, ho0, hb⟩; refine ⟨_, rfl, ?_⟩; have n0_ := Aside0.mk (Kd.V_elder' (by (with_reducible repeat (fail)); exact HO_1.out) (by exact Kd.S_base ho0) hb); have n1_ := Aside0.mk (Kd.N_elder' (by (with_reducible repeat (fail)); exact HO_5.out) (by exact Kd.S_base ho0) hb); have n2_ := Aside0.mk (Kd.N_lower (Kd.N_mono (ok' := fun k_ => (P1_ k_ ∨ w.heap.size ≤ k_) ∧ some k_ ≠ (u5 : Value).ownBlock) (Kd.S_N (Kd.S_bound ho0)) (fun k_ hk_ => ⟨(.inr (Nat.le_trans (below_size (by repeat ((with_reducible exact HB.out)))) hk_.2.1)), (Kd.fresh' (Kd.N_lt (by (with_reducible repeat (fail)); exact HO_5.out)) k_ hk_.2.1)⟩)) (below_size (by repeat ((with_reducible exact HB.out))))); have n3_ := Aside0.mk (below_step (by repeat ((with_reducible exact HB.out))) hb); clear HO_1; clear HO_5; clear HB; have HO_1 := n0_; have HO_5 := n1_; have HO585 := n2_; have HB := n3_; clear n0_ n1_ n2_ n3_; (try clear hb); (try clear ho0); obtain ⟨Ao16, co16, eo16⟩ := Kd.N_slice HO_5.out; subst eo16) | ((with_reducible refine gate_callee (f := 25) rfl ?_); refine goesL_ (some 45) rfl rfl Try.func25 (by kernel_rfl) rfl #[.int .i64 a0, .slice Ao16 x5_2.length co16] rfl (by (try simp only [List.map_toArray, List.map_cons, List.map_nil]); rfl) ?_; (with_reducible refine (delsarte_Distances.calls k2 a0 _ _ x5_2 t586 t587 _ ?side1 ?side2 A13.out).mono ?_); (case side1 => exact (Kd.N_reads' HO_5.out).2.2); (case side2 => exact (Kd.N_reads' HO_5.out).2.1); rintro e w17 ⟨v588, rfl, ho0, hb⟩; refine ⟨_, rfl, ?_⟩; have n0_ := Aside0.mk (Kd.V_elder' (by (with_reducible repeat (fail)); exact HO_1.out) (by exact Kd.S_base ho0) hb); have n1_ := Aside0.mk (Kd.N_elder' (by (with_reducible repeat (fail)); exact HO_5.out) (by exact Kd.S_base ho0) hb); have n2_ := Aside0.mk (Kd.N_elder' (by (with_reducible repeat (fail)); exact HO585.out) (by exact Kd.S_base ho0) hb); have n3_ := Aside0.mk (Kd.N_lower (Kd.N_mono (ok' := fun k_ => (P1_ k_ ∨ w.heap.size ≤ k_) ∧ some k_ ≠ (.slice Ao16 x5_2.length co16 : Value).ownBlock ∧ some k_ ≠ (v584 : Value).ownBlock) (Kd.S_N (Kd.S_bound ho0)) (fun k_ hk_ => ⟨(.inr (Nat.le_trans (below_size (by repeat ((with_reducible exact HB.out)))) hk_.2.1)), (Kd.fresh' (Kd.N_lt (by (with_reducible repeat (fail)); exact HO_5.out)) k_ hk_.2.1), (Kd.fresh' (Kd.N_lt (by (with_reducible repeat (fail)); exact HO585.out)) k_ hk_.2.1)⟩)) (below_size (by repeat ((with_reducible exact HB.out))))); have n4_ := Aside0.mk (below_step (by repeat ((with_reducible exact HB.out))) hb); clear HO_1; clear HO_5; clear HO585; clear HB; have HO_1 := n0_; have HO_5 := n1_; have HO585 := n2_; have HO589 := n3_; have HB := n4_; clear n0_ n1_ n2_ n3_ n4_; (try clear hb); (try clear ho0)) | ((with_reducible refine gate_callee (f := 30) rfl ?_); refine goesL_ (some 48) rfl rfl Try.func30 (by kernel_rfl) rfl #[.int .i64 0] rfl (by (try simp only [List.map_toArray, List.map_cons, List.map_nil]); rfl) ?_; (with_reducible refine (codewrightref02_Int.calls k2 0 t590 t591 t594 _ A14.out).mono ?_); rintro e w18 ⟨v592, v595, rfl, ho0, ho1, hb⟩; refine ⟨_, rfl, ?_⟩; have n0_ := Aside0.mk (Kd.V_mono (Kd.V_told (Kd.V_told (Kd.V_old (by (with_reducible repeat (fail)); exact HO_1.out) hb) (Kd.R_base ho0)) (Kd.R_base ho1)) (fun _ h_ => h_.1)); have n1_ := Aside0.mk (Kd.N_mono (Kd.N_told (Kd.N_told (Kd.N_old (by (with_reducible repeat (fail)); exact HO_5.out) hb) (Kd.R_base ho0)) (Kd.R_base ho1)) (fun _ h_ => h_.1)); have n2_ := Aside0.mk (Kd.N_mono (Kd.N_told (Kd.N_told (Kd.N_old (by (with_reducible repeat (fail)); exact HO585.out) hb) (Kd.R_base ho0)) (Kd.R_base ho1)) (fun _ h_ => h_.1)); have n3_ := Aside0.mk (Kd.N_mono (Kd.N_told (Kd.N_told (Kd.N_old (by (with_reducible repeat (fail)); exact HO589.out) hb) (Kd.R_base ho0)) (Kd.R_base ho1)) (fun _ h_ => h_.1)); have n4_ := Aside0.mk (Kd.R_lower (Kd.R_newM (M := fun k_ => (w.heap.size ≤ k_)) ho0 (below_size (by repeat ((with_reducible exact HB.out)))) (fun k_ h_ => h_)) (below_size (by repeat ((with_reducible exact HB.out))))); have n5_ := Aside0.mk (Kd.R_lower (Kd.R_newM (M := fun k_ => (w.heap.size ≤ k_)) ho1 (below_size (by repeat ((with_reducible exact HB.out)))) (fun k_ h_ => h_)) (below_size (by repeat ((with_reducible exact HB.out))))); have n6_ := Aside0.mk (below_step (by repeat ((with_reducible exact HB.out))) hb); clear HO_1; clear HO_5; clear HO585; clear HO589; clear HB; have HO_1 := n0_; have HO_5 := n1_; have HO585 := n2_; have HO589 := n3_; have HO593 := n4_; have HO596 := n5_; have HB := n6_; clear n0_ n1_ n2_ n3_ n4_ n5_ n6_; (try clear hb); (try clear ho0); (try clear ho1)) | ((with_reducible refine gate_dst (N := 11) rfl ?_); (try (refine gate_guard (by rfl) ?_; dsimp only)); refine box_event ?hg (N := 11) ?hd (cs := #[.bool false, .slice none 0 0, .slice none 0 0]) (t := 46) ?hr ?_; (case hd => rfl); (case hg => rfl); (case hr => (go_simp; done)); intro gb597 hg w19 hbox hb; have n0_ := Aside0.mk (Kd.V_below (Kd.V_elderB (by (with_reducible repeat (fail)); exact HO_1.out) gb597 (Nat.le_of_eq hg.symm)) hb); have n1_ := Aside0.mk (Kd.N_below (Kd.N_elderB (by (with_reducible repeat (fail)); exact HO_5.out) gb597 (Nat.le_of_eq hg.symm)) hb); have n2_ := Aside0.mk (Kd.N_below (Kd.N_elderB (by (with_reducible repeat (fail)); exact HO585.out) gb597 (Nat.le_of_eq hg.symm)) hb); have n3_ := Aside0.mk (Kd.N_below (Kd.N_elderB (by (with_reducible repeat (fail)); exact HO589.out) gb597 (Nat.le_of_eq hg.symm)) hb); have n4_ := Aside0.mk (Kd.R_below (by (with_reducible repeat (fail)); exact HO593.out) hb); have n5_ := Aside0.mk (Kd.R_below (by (with_reducible repeat (fail)); exact HO596.out) hb); have n6_ := Aside0.mk (below_step (by repeat ((with_reducible exact HB.out))) hb); have n7_ := Aside0.mk (hbox); have n8_ := Aside0.mk ((by rw [hg]; exact (below_size (by repeat ((with_reducible exact HB.out)))) : w.heap.size ≤ gb597)); have n9_ := Aside0.mk ((by rw [hg]; exact (below_size (by repeat ((with_reducible exact HB.out)))) : w.heap.size ≤ gb597)); clear HO_1; clear HO_5; clear HO585; clear HO589; clear HO593; clear HO596; clear HB; have HO_1 := n0_; have HO_5 := n1_; have HO585 := n2_; have HO589 := n3_; have HO593 := n4_; have HO596 := n5_; have HB := n6_; have BK597 := n7_; have GW597 := n8_; have GE597 := n9_; clear n0_ n1_ n2_ n3_ n4_ n5_ n6_ n7_ n8_ n9_; clear hb hbox hg; have hcz20_0 : w19.cell? ⟨gb597, 0, none⟩ = some (.bool false) := (blk_cell BK597.out 0).trans rfl; have hcz20_1 : w19.cell? ⟨gb597, 1, none⟩ = some (.slice none 0 0) := (blk_cell BK597.out 1).trans rfl; have hcz20_2 : w19.cell? ⟨gb597, 2, none⟩ = some (.slice none 0 0) := (blk_cell BK597.out 2).trans rfl; have hfz20_0 := blk_frozen BK597.out 0; have hfz20_1 := blk_frozen BK597.out 1; have hfz20_2 := blk_frozen BK597.out 2; obtain ⟨Ao21, co21, eo21⟩ := Kd.R_slice HO593.out; subst eo21; obtain ⟨Ao22, co22, eo22⟩ := Kd.R_slice HO596.out; subst eo22))
       go_loopg [12] k2 (fun kq v12 w' => ∃ (x12_3 : Int) (x598000_3 : Bool) (x598001_3 : List Int) (x598002_3 : List Int) (u598001 : Value) (u598002 : Value), v12 = .int .i64 x12_3 ∧ Aside0 (codewrightlaw36_DelsarteSums.l1 kq l1 t582 t583 t586 t587 x12_3 x598000_3 x598001_3 x598002_3 = some r) ∧ Aside0 (kq ≤ k2) ∧ Aside0 (Kd.V (Kd.slice 3 (Kd.int .i64)) 41 w' w.heap.size (fun k_ => (P1_ k_ ∨ w.heap.size ≤ k_) ∧ some k_ ≠ (v584 : Value).ownBlock ∧ some k_ ≠ (v588 : Value).ownBlock ∧ some k_ ≠ (u598001 : Value).ownBlock ∧ some k_ ≠ (u598002 : Value).ownBlock ∧ k_ ≠ gb597) (.slice A1 l1.length c1) l1) ∧ Aside0 (Kd.N k46 46 w' w.heap.size (fun k_ => (P1_ k_ ∨ w.heap.size ≤ k_) ∧ some k_ ≠ (v588 : Value).ownBlock ∧ some k_ ≠ (u598001 : Value).ownBlock ∧ some k_ ≠ (u598002 : Value).ownBlock ∧ k_ ≠ gb597) v584 t582) ∧ Aside0 (Kd.N k46 46 w' w.heap.size (fun k_ => (P1_ k_ ∨ w.heap.size ≤ k_) ∧ some k_ ≠ (v584 : Value).ownBlock ∧ some k_ ≠ (u598001 : Value).ownBlock ∧ some k_ ≠ (u598002 : Value).ownBlock ∧ k_ ≠ gb597) v588 t586) ∧ Aside0 (Kd.R (Kd.int .u32) 100 w' w.heap.size (fun k_ => (w.heap.size ≤ k_) ∧ some k_ ≠ (u598002 : Value).ownBlock) u598001 x598001_3) ∧ Aside0 (Kd.R (Kd.int .u32) 100 w' w.heap.size (fun k_ => (w.heap.size ≤ k_) ∧ some k_ ≠ (u598001 : Value).ownBlock) u598002 x598002_3) ∧ Aside0 (w'.heap[gb597]? = some (.cells #[.bool x598000_3, u598001, u598002] 46 (0, 0))) ∧ Aside0 (Below w.heap.size w w'))
       case atStart => exact ⟨(0), (t590), (t591), (t594), (.slice Ao21 t591.length co21), (.slice Ao22 t594.length co22), (by rfl), H', ⟨Nat.le_refl _⟩, ⟨by (with_reducible repeat (fail)); exact Kd.V_mono (Kd.V_far (p := ⟨gb597, 2, none⟩) (Kd.V_far (p := ⟨gb597, 1, none⟩) (Kd.V_far (p := ⟨gb597, 0, none⟩) (Kd.V_mono HO_1.out (fun k_ hk => (⟨hk, hk.2⟩ : _ ∧ k_ ≠ gb597))) (fun _ hk => hk.2) (.bool t590)) (fun _ hk => hk.2) (.slice Ao21 t591.length co21)) (fun _ hk => hk.2) (.slice Ao22 t594.length co22)) (fun _ hk => ⟨hk.1.1.1.1.1.1.1, ⟨hk.1.1.1.1.1.2, ⟨hk.1.1.1.1.2, ⟨hk.1.1.1.2, ⟨hk.1.1.2, hk.1.2⟩⟩⟩⟩⟩)⟩, ⟨by (with_reducible repeat (fail)); exact Kd.N_mono (Kd.N_far (p := ⟨gb597, 2, none⟩) (Kd.N_far (p := ⟨gb597, 1, none⟩) (Kd.N_far (p := ⟨gb597, 0, none⟩) (Kd.N_mono HO585.out (fun k_ hk => (⟨hk, hk.2⟩ : _ ∧ k_ ≠ gb597))) (fun _ hk => hk.2) (.bool t590)) (fun _ hk => hk.2) (.slice Ao21 t591.length co21)) (fun _ hk => hk.2) (.slice Ao22 t594.length co22)) (fun _ hk => ⟨hk.1.1.1.1.1.1, ⟨hk.1.1.1.1.2, ⟨hk.1.1.1.2, ⟨hk.1.1.2, hk.1.2⟩⟩⟩⟩)⟩, ⟨by (with_reducible repeat (fail)); exact Kd.N_mono (Kd.N_far (p := ⟨gb597, 2, none⟩) (Kd.N_far (p := ⟨gb597, 1, none⟩) (Kd.N_far (p := ⟨gb597, 0, none⟩) (Kd.N_mono HO589.out (fun k_ hk => (⟨hk, hk.2⟩ : _ ∧ k_ ≠ gb597))) (fun _ hk => hk.2) (.bool t590)) (fun _ hk => hk.2) (.slice Ao21 t591.length co21)) (fun _ hk => hk.2) (.slice Ao22 t594.length co22)) (fun _ hk => ⟨hk.1.1.1.1.1, ⟨hk.1.1.1.1.2.2, ⟨hk.1.1.1.2, ⟨hk.1.1.2, hk.1.2⟩⟩⟩⟩)⟩, ⟨by (with_reducible repeat (fail)); exact Kd.R_mono (Kd.R_far (p := ⟨gb597, 2, none⟩) (Kd.R_far (p := ⟨gb597, 1, none⟩) (Kd.R_far (p := ⟨gb597, 0, none⟩) (Kd.R_types HO593.out BK597.out (by decide)) (fun _ hk => hk.2) (.bool t590)) (fun _ hk => hk.2) (.slice Ao21 t591.length co21)) (fun _ hk => hk.2) (.slice Ao22 t594.length co22)) (fun _ hk => ⟨hk.1.1, hk.1.2⟩)⟩, ⟨by (with_reducible repeat (fail)); exact Kd.R_mono (Kd.R_far (p := ⟨gb597, 2, none⟩) (Kd.R_far (p := ⟨gb597, 1, none⟩) (Kd.R_far (p := ⟨gb597, 0, none⟩) (Kd.R_types HO596.out BK597.out (by decide)) (fun _ hk => hk.2) (.bool t590)) (fun _ hk => hk.2) (.slice Ao21 t591.length co21)) (fun _ hk => hk.2) (.slice Ao22 t594.length co22)) (fun _ hk => ⟨hk.1.1, hk.1.2⟩)⟩, ⟨by (with_reducible repeat (fail)); refine blk_put (cs := #[.bool t590, .slice Ao21 t591.length co21, .slice none 0 0]) ?_ 2 _ rfl; (with_reducible repeat (fail)); refine blk_put (cs := #[.bool t590, .slice none 0 0, .slice none 0 0]) ?_ 1 _ rfl; (with_reducible repeat (fail)); refine blk_put (cs := #[.bool false, .slice none 0 0, .slice none 0 0]) ?_ 0 _ rfl; (with_reducible repeat (fail)); exact BK597.out⟩, ⟨by repeat ((with_reducible first | exact HB.out | refine below_set ?_ GE597.out))⟩⟩
       case round =>
        clear H'
        try clear c7b0
        try clear hcz20_0
        try clear hcz20_1
        try clear hcz20_2
        try clear hfz20_0
        try clear hfz20_1
        try clear hfz20_2
        obtain ⟨x12_3, x598000_3, x598001_3, x598002_3, u598001, u598002, rfl, HA, HK3, HO_1, HO_7, HO_9, HO_598001, HO_598002, BK597, HB⟩ := hrel
        cases gk with
        | zero => exact absurd HA.out (by simp [codewrightlaw36_DelsarteSums.l1])
        | succ k3 =>
         have H := HA.out
         clear HA
         simp only [codewrightlaw36_DelsarteSums.l1] at H
         by_cases c23 : x12_3 < (t582.length : Int)
         ·rw [if_pos c23] at H
          have c23b0 : decide (x12_3 < (t582.length : Int)) = true := decide_eq_true c23
          clear c23
          by_cases c24 : 0 ≤ x12_3
          ·rw [if_pos c24] at H
           have c24b0 : decide (0 ≤ x12_3) = true := decide_eq_true c24
           clear c24
           replace H := Option.bind_eq_some_iff.mp H
           obtain ⟨⟨t599, t600, t603⟩, A250, H⟩ := H
           replace H : ((codewrightref02_Sign.f k3 ((rd_T46 t582 x12_3).f0) ((rd_T46 t582 x12_3).f1) ((rd_T46 t582 x12_3).f2)).bind fun t607 => (if t607 < 0 then (some false) else (codewrightlaw36_DelsarteSums.l1 k3 l1 t582 t583 t586 t587 (wrap64 (x12_3 + 1)) t599 t600 t603))) = some r := H
           have A25 := Aside0.mk A250
           clear A250
           replace H := Option.bind_eq_some_iff.mp H
           obtain ⟨t607, A260, H⟩ := H
           replace H : (if t607 < 0 then (some false) else (codewrightlaw36_DelsarteSums.l1 k3 l1 t582 t583 t586 t587 (wrap64 (x12_3 + 1)) t599 t600 t603)) = some r := H
           have A26 := Aside0.mk A260
           clear A260
           by_cases c27 : t607 < 0
           ·rw [if_pos c27] at H
            have c27b0 : decide (t607 < 0) = true := decide_eq_true c27
            clear c27
            obtain rfl := Option.some.inj H
            obtain ⟨Ao28, co28, eo28⟩ := Kd.N_slice HO_7.out
            subst eo28
            try go_wp2
            have n0_ := Aside0.mk (Kd.V_drew HO_1.out)
            have n1_ := Aside0.mk (Kd.N_drew HO_7.out)
            have n2_ := Aside0.mk (Kd.N_drew HO_9.out)
            have n3_ := Aside0.mk (Kd.R_drew HO_598001.out)
            have n4_ := Aside0.mk (Kd.R_drew HO_598002.out)
            have n5_ := Aside0.mk (blk_drew BK597.out)
            have n6_ := Aside0.mk (below_drew1 HB.out)
            clear HO_1
            clear HO_7
            clear HO_9
            clear HO_598001
            clear HO_598002
            clear BK597
            clear HB
            have HO_1 := n0_
            have HO_7 := n1_
            have HO_9 := n2_
            have HO_598001 := n3_
            have HO_598002 := n4_
            have BK597 := n5_
            have HB := n6_
            clear n0_ n1_ n2_ n3_ n4_ n5_ n6_
            have p598 : 0 ≤ (x12_3 : Int) := of_decide_eq_true (by (with_reducible assumption))
            have q598 : x12_3 < (t582.length : Int) := of_decide_eq_true (by (with_reducible assumption))
            obtain ⟨ad598, A598_1, c598_1, A598_2, c598_2, e598, hx598_0, hx598_1, hx598_2, hl598_1, hi598_1, hl598_2, hi598_2⟩ := at_T46 (Kd.N_reads' HO_7.out).2.2 x12_3 p598 q598
            cases e598
            obtain ⟨ce598, hce598, hMe598, hcc598⟩ := Kd.N_get HO_7.out z46 x12_3 p598 (by exact q598)
            obtain ⟨ua598_1, uc598_1, ua598_2, uc598_2, rfl, ul598_1, ge598_1, ul598_2, ge598_2⟩ := k46_openF hMe598
            have hv598_1 := hcc598 1 _ rfl
            rw [add_field _ _ 1 (by omega)] at hv598_1
            replace hv598_1 := Option.some.inj (hv598_1.symm.trans hx598_1)
            injection hv598_1 with hva_ hvn_ hvc_
            rw [hva_] at ge598_1
            rw [hvc_] at ul598_1
            have HL598_1 := Aside0.mk (show Kd.V (Kd.int .u32) 100 _ w.heap.size _ _ ((rd_T46 t582 x12_3).f1) from Kd.V_mk ul598_1 ge598_1)
            clear hva_ hvn_ hvc_ ge598_1 ul598_1
            have hv598_2 := hcc598 2 _ rfl
            rw [add_field _ _ 2 (by omega)] at hv598_2
            replace hv598_2 := Option.some.inj (hv598_2.symm.trans hx598_2)
            injection hv598_2 with hva_ hvn_ hvc_
            rw [hva_] at ge598_2
            rw [hvc_] at ul598_2
            have HL598_2 := Aside0.mk (show Kd.V (Kd.int .u32) 100 _ w.heap.size _ _ ((rd_T46 t582 x12_3).f2) from Kd.V_mk ul598_2 ge598_2)
            clear hva_ hvn_ hvc_ ge598_2 ul598_2
            clear hcc598 hce598
            have HR598_1 := Aside0.mk hi598_1
            have HC598_1 := Aside0.mk hl598_1
            clear hi598_1 hl598_1
            have HR598_2 := Aside0.mk hi598_2
            have HC598_2 := Aside0.mk hl598_2
            clear hi598_2 hl598_2
            replace p598 := eq_true p598
            replace q598 := eq_true q598
            obtain ⟨Ao30, co30, eo30⟩ := Kd.R_slice HO_598001.out
            (subst eo30)
            obtain ⟨Ao31, co31, eo31⟩ := Kd.R_slice HO_598002.out
            (subst eo31)
            refine start_ (n := 7) (S := fun w' => w'.cell? ⟨gb597, 0, none⟩ = some (.bool x598000_3) ∧ w'.cell? ⟨gb597, 1, none⟩ = some (.slice Ao30 x598001_3.length co30) ∧ w'.cell? ⟨gb597, 2, none⟩ = some (.slice Ao31 x598002_3.length co31) ∧ w'.cell? (ad598.add ((x12_3).toNat * 3)) = some (.bool ((rd_T46 t582 x12_3).f0)) ∧ w'.cell? ⟨(ad598.add ((x12_3).toNat * 3)).block, (ad598.add ((x12_3).toNat * 3)).off + 1, none⟩ = some (.slice A598_1 ((rd_T46 t582 x12_3).f1).length c598_1) ∧ w'.cell? ⟨(ad598.add ((x12_3).toNat * 3)).block, (ad598.add ((x12_3).toNat * 3)).off + 2, none⟩ = some (.slice A598_2 ((rd_T46 t582 x12_3).f2).length c598_2)) (ds := [6]) #[false, false, false, false, false, false, false] (by kernel_rfl) rfl rfl ⟨(blk_cell BK597.out 0).trans rfl, (blk_cell BK597.out 1).trans rfl, (blk_cell BK597.out 2).trans rfl, hx598_0, hx598_1, hx598_2⟩ (fun hHeld => ?_)
            generalize wr.drew = w29 at HO_1 HO_7 HO_9 HO_598001 HO_598002 BK597 HB HL598_1 HL598_2 HR598_1 HR598_2 hx598_0 hx598_1 hx598_2 hHeld ⊢
            refine pure_ (i := 1) (N := some 56) (v := ?_) (a' := ?_) #[false, true, false, false, false, false, false] rfl rfl (by kernel_rfl) (fun _ _ _ h => h) (Or.inl ⟨by rfl, ?_⟩) ?_ ?_
            rotate_left
            ·intro w'
             go_simp
             with_reducible rfl
            rotate_left
            ·simp only [Act.put, List.setIfInBounds_toArray, List.set_cons_zero, List.set_cons_succ, i64_w, i32_w]
             rfl
            refine pure_ (i := 2) (N := some 57) (v := ?_) (a' := ?_) #[false, true, true, false, false, false, false] rfl rfl (by kernel_rfl) (fun _ _ _ h => h) (Or.inl ⟨by rfl, ?_⟩) ?_ ?_
            rotate_left
            ·intro w'
             go_simp
             with_reducible rfl
            rotate_left
            ·simp only [Act.put, List.setIfInBounds_toArray, List.set_cons_zero, List.set_cons_succ, i64_w, i32_w]
             rfl
            refine pure_ (i := 3) (N := some 58) (v := ?_) (a' := ?_) #[false, true, true, true, false, false, false] rfl rfl (by kernel_rfl) (fun _ _ _ h => h) (Or.inl ⟨by rfl, ?_⟩) ?_ ?_
            rotate_left
            ·intro w'
             go_simp
             with_reducible rfl
            rotate_left
            ·simp only [Act.put, List.setIfInBounds_toArray, List.set_cons_zero, List.set_cons_succ, i64_w, i32_w]
             rfl
            refine take_ (i := 0) (N := some 55) (v := ?_) (a' := ?_) #[true, true, true, true, false, false, false] rfl rfl (by kernel_rfl) (fun _ _ _ h => h) (Or.inl ⟨by rfl, ?_⟩) hHeld ?_ ?_
            rotate_left
            ·rintro w' ⟨s0, s1, s2, s3, s4, s5⟩
             go_simp
             with_reducible rfl
            rotate_left
            ·simp only [Act.put, List.setIfInBounds_toArray, List.set_cons_zero, List.set_cons_succ, i64_w, i32_w]
             rfl
            refine take_ (i := 4) (N := some 59) (v := ?_) (a' := ?_) #[true, true, true, true, true, false, false] rfl rfl (by kernel_rfl) (fun _ _ _ h => h) (Or.inl ⟨by rfl, ?_⟩) hHeld ?_ ?_
            rotate_left
            ·rintro w' ⟨s0, s1, s2, s3, s4, s5⟩
             go_simp
             with_reducible rfl
            rotate_left
            ·simp only [Act.put, List.setIfInBounds_toArray, List.set_cons_zero, List.set_cons_succ, i64_w, i32_w]
             rfl
            refine one_ (i := 5) (N := some 60) #[true, true, true, true, true, true, false] rfl rfl (by kernel_rfl) (by decide) (fun K hK => ?_)
            refine goes_ Try.func33 (by kernel_rfl) rfl #[.agg #[.bool x598000_3, .slice Ao30 x598001_3.length co30, .slice Ao31 x598002_3.length co31], .agg #[.bool ((rd_T46 t582 x12_3).f0), .slice A598_1 ((rd_T46 t582 x12_3).f1).length c598_1, .slice A598_2 ((rd_T46 t582 x12_3).f2).length c598_2]] (by rfl) rfl rfl (by (try simp only [List.map_toArray, List.map_cons, List.map_nil]); rfl) ?_
            with_reducible refine (codewrightref02_Add.calls k3 x598000_3 _ _ x598001_3 _ _ x598002_3 ((rd_T46 t582 x12_3).f0) _ _ ((rd_T46 t582 x12_3).f1) _ _ ((rd_T46 t582 x12_3).f2) t599 t600 t603 _ ?side1 ?side2 ?side3 ?side4 ?side5 ?side6 ?side7 ?side8 A25.out).mono ?_
            (case side1 => exact (Kd.R_reads' HO_598001.out).2.2)
            (case side2 => exact (Kd.R_reads' HO_598001.out).2.1)
            (case side3 => exact (Kd.R_reads' HO_598002.out).2.2)
            (case side4 => exact (Kd.R_reads' HO_598002.out).2.1)
            (case side5 => repeat (exact (by repeat ((with_reducible exact HR598_1.out)))))
            (case side6 => exact HC598_1.out)
            (case side7 => repeat (exact (by repeat ((with_reducible exact HR598_2.out)))))
            (case side8 => exact HC598_2.out)
            rintro e w32 ⟨v601, v604, rfl, ho0, ho1, hb⟩
            have HS3_ := (hb.cell (World.block_lt_of_cell? _ _ (hHeld.2.2.2.1))).trans (hHeld.2.2.2.1)
            have HS4_ := (hb.cell (World.block_lt_of_cell? _ _ (hHeld.2.2.2.2.1))).trans (hHeld.2.2.2.2.1)
            have HS5_ := (hb.cell (World.block_lt_of_cell? _ _ (hHeld.2.2.2.2.2))).trans (hHeld.2.2.2.2.2)
            refine ⟨_, rfl, ?_⟩
            have n0_ := Aside0.mk (Kd.V_mono (Kd.V_told (Kd.V_told (Kd.V_old (by (with_reducible repeat (fail)); exact HO_1.out) hb) (Kd.R_base ho0)) (Kd.R_base ho1)) (fun _ h_ => h_.1))
            have n1_ := Aside0.mk (Kd.N_mono (Kd.N_told (Kd.N_told (Kd.N_old (by (with_reducible repeat (fail)); exact HO_7.out) hb) (Kd.R_base ho0)) (Kd.R_base ho1)) (fun _ h_ => h_.1))
            have n2_ := Aside0.mk (Kd.N_mono (Kd.N_told (Kd.N_told (Kd.N_old (by (with_reducible repeat (fail)); exact HO_9.out) hb) (Kd.R_base ho0)) (Kd.R_base ho1)) (fun _ h_ => h_.1))
            have n3_ := Aside0.mk (Kd.R_mono (Kd.R_told (Kd.R_told (Kd.R_old (by (with_reducible repeat (fail)); exact HO_598001.out) hb) (Kd.R_base ho0)) (Kd.R_base ho1)) (fun _ h_ => h_.1))
            have n4_ := Aside0.mk (Kd.R_mono (Kd.R_told (Kd.R_told (Kd.R_old (by (with_reducible repeat (fail)); exact HO_598002.out) hb) (Kd.R_base ho0)) (Kd.R_base ho1)) (fun _ h_ => h_.1))
            have n5_ := Aside0.mk (Kd.V_mono (Kd.V_told (Kd.V_told (Kd.V_old (by (with_reducible repeat (fail)); exact HL598_1.out) hb) (Kd.R_base ho0)) (Kd.R_base ho1)) (fun _ h_ => h_.1))
            have n6_ := Aside0.mk (Kd.V_mono (Kd.V_told (Kd.V_told (Kd.V_old (by (with_reducible repeat (fail)); exact HL598_2.out) hb) (Kd.R_base ho0)) (Kd.R_base ho1)) (fun _ h_ => h_.1))
            have n7_ := Aside0.mk (Kd.R_lower (Kd.R_new' (Kd.R_new' (Kd.R_newM (M := fun k_ => (w.heap.size ≤ k_)) ho0 (below_size (by repeat ((with_reducible exact HB.out)))) (fun k_ h_ => h_)) (Kd.R_lt (by (with_reducible repeat (fail)); exact HO_598001.out))) (Kd.R_lt (by (with_reducible repeat (fail)); exact HO_598002.out))) (below_size (by repeat ((with_reducible exact HB.out)))))
            have n8_ := Aside0.mk (Kd.R_lower (Kd.R_new' (Kd.R_new' (Kd.R_newM (M := fun k_ => (w.heap.size ≤ k_)) ho1 (below_size (by repeat ((with_reducible exact HB.out)))) (fun k_ h_ => h_)) (Kd.R_lt (by (with_reducible repeat (fail)); exact HO_598001.out))) (Kd.R_lt (by (with_reducible repeat (fail)); exact HO_598002.out))) (below_size (by repeat ((with_reducible exact HB.out)))))
            have n9_ := Aside0.mk (blk_below (g := gb597) (o := .cells #[.bool x598000_3, .slice Ao30 x598001_3.length co30, .slice Ao31 x598002_3.length co31] 46 (0, 0)) (by (with_reducible repeat (fail)); exact BK597.out) hb)
            have n10_ := Aside0.mk (Kd.C_below (by repeat ((with_reducible exact HR598_1.out))) hb)
            have n11_ := Aside0.mk (Kd.C_below (by repeat ((with_reducible exact HR598_2.out))) hb)
            have n12_ := Aside0.mk (below_step (by repeat ((with_reducible exact HB.out))) hb)
            clear HO_1
            clear HO_7
            clear HO_9
            clear HO_598001
            clear HO_598002
            clear HL598_1
            clear HL598_2
            clear BK597
            clear HR598_1
            clear HR598_2
            clear HB
            have HO_1 := n0_
            have HO_7 := n1_
            have HO_9 := n2_
            have HO_598001 := n3_
            have HO_598002 := n4_
            have HL598_1 := n5_
            have HL598_2 := n6_
            have HO602 := n7_
            have HO605 := n8_
            have BK597 := n9_
            have HR598_1 := n10_
            have HR598_2 := n11_
            have HB := n12_
            clear n0_ n1_ n2_ n3_ n4_ n5_ n6_ n7_ n8_ n9_ n10_ n11_ n12_
            (try clear hb)
            (try clear ho0)
            (try clear ho1)
            obtain ⟨Ao34, co34, eo34⟩ := Kd.R_slice HO602.out
            (subst eo34)
            obtain ⟨Ao36, co36, eo36⟩ := Kd.R_slice HO605.out
            (subst eo36)
            refine hK.out _ _ ⟨(blk_cell BK597.out 0).trans rfl, (blk_cell BK597.out 1).trans rfl, (blk_cell BK597.out 2).trans rfl, HS3_, HS4_, HS5_⟩ (fun hHeld => ?_)
            clear hK K
            refine norm_ (a' := ?_) ?_ ?_
            rotate_left
            ·show Act.put _ (some 60) _ = _
             simp only [Act.put, List.setIfInBounds_toArray, List.set_cons_zero, List.set_cons_succ, i64_w, i32_w]
             rfl
            refine last_ (i := 6) (N := none) #[true, true, true, true, true, true, true] rfl rfl (by kernel_rfl) (by decide) (fun K hK => ?_)
            have hs33 : w32.cell? ⟨gb597, 0, none⟩ = some (.bool x598000_3) := (blk_cell BK597.out 0).trans rfl
            have hfs33 := blk_frozen BK597.out 0
            have hs35 : w32.cell? ⟨gb597, 1, none⟩ = some (.slice Ao30 x598001_3.length co30) := (blk_cell BK597.out 1).trans rfl
            have hfs35 := blk_frozen BK597.out 1
            have hs37 : w32.cell? ⟨gb597, 2, none⟩ = some (.slice Ao31 x598002_3.length co31) := (blk_cell BK597.out 2).trans rfl
            have hfs37 := blk_frozen BK597.out 2
            refine skip_ (w1 := ?_) (by rfl) rfl ?_ ?_
            rotate_left
            ·go_simp
             rfl
            refine hK.out _ _ ?_
            clear hK K
            refine done_ (by kernel_rfl) ?_
            have n0_ : Aside0 (Kd.V (Kd.slice 3 (Kd.int .i64)) 41 (((w32.setCell ⟨gb597, 0, none⟩ (.bool t599)).setCell ⟨gb597, 1, none⟩ (.slice Ao34 t600.length co34)).setCell ⟨gb597, 2, none⟩ (.slice Ao36 t603.length co36)) w.heap.size (fun k_ => (P1_ k_ ∨ w.heap.size ≤ k_) ∧ some k_ ≠ (.slice (some ad598) t582.length co28 : Value).ownBlock ∧ some k_ ≠ (v588 : Value).ownBlock ∧ some k_ ≠ (.slice Ao30 x598001_3.length co30 : Value).ownBlock ∧ some k_ ≠ (.slice Ao31 x598002_3.length co31 : Value).ownBlock ∧ some k_ ≠ (.slice Ao34 t600.length co34 : Value).ownBlock ∧ some k_ ≠ (.slice Ao36 t603.length co36 : Value).ownBlock ∧ k_ ≠ gb597) (.slice A1 l1.length c1) l1) := ⟨by (with_reducible repeat (fail)); exact Kd.V_mono (Kd.V_far (p := ⟨gb597, 2, none⟩) (Kd.V_far (p := ⟨gb597, 1, none⟩) (Kd.V_far (p := ⟨gb597, 0, none⟩) (Kd.V_mono HO_1.out (fun k_ hk => (⟨hk, hk.1.1.2.2.2.2.2⟩ : _ ∧ k_ ≠ gb597))) (fun _ hk => hk.2) (.bool t599)) (fun _ hk => hk.2) (.slice Ao34 t600.length co34)) (fun _ hk => hk.2) (.slice Ao36 t603.length co36)) (fun _ hk => ⟨hk.1.1.1.1, ⟨hk.1.1.1.2.1, ⟨hk.1.1.1.2.2.1, ⟨hk.1.1.1.2.2.2.1, ⟨hk.1.1.1.2.2.2.2.1, ⟨hk.1.1.2, ⟨hk.1.2, hk.1.1.1.2.2.2.2.2⟩⟩⟩⟩⟩⟩⟩)⟩
            have n1_ : Aside0 (Kd.N k46 46 (((w32.setCell ⟨gb597, 0, none⟩ (.bool t599)).setCell ⟨gb597, 1, none⟩ (.slice Ao34 t600.length co34)).setCell ⟨gb597, 2, none⟩ (.slice Ao36 t603.length co36)) w.heap.size (fun k_ => (P1_ k_ ∨ w.heap.size ≤ k_) ∧ some k_ ≠ (v588 : Value).ownBlock ∧ some k_ ≠ (.slice Ao30 x598001_3.length co30 : Value).ownBlock ∧ some k_ ≠ (.slice Ao31 x598002_3.length co31 : Value).ownBlock ∧ some k_ ≠ (.slice Ao34 t600.length co34 : Value).ownBlock ∧ some k_ ≠ (.slice Ao36 t603.length co36 : Value).ownBlock ∧ k_ ≠ gb597) (.slice (some ad598) t582.length co28) t582) := ⟨by (with_reducible repeat (fail)); exact Kd.N_mono (Kd.N_far (p := ⟨gb597, 2, none⟩) (Kd.N_far (p := ⟨gb597, 1, none⟩) (Kd.N_far (p := ⟨gb597, 0, none⟩) (Kd.N_mono HO_7.out (fun k_ hk => (⟨hk, hk.1.1.2.2.2.2⟩ : _ ∧ k_ ≠ gb597))) (fun _ hk => hk.2) (.bool t599)) (fun _ hk => hk.2) (.slice Ao34 t600.length co34)) (fun _ hk => hk.2) (.slice Ao36 t603.length co36)) (fun _ hk => ⟨hk.1.1.1.1, ⟨hk.1.1.1.2.1, ⟨hk.1.1.1.2.2.1, ⟨hk.1.1.1.2.2.2.1, ⟨hk.1.1.2, ⟨hk.1.2, hk.1.1.1.2.2.2.2⟩⟩⟩⟩⟩⟩)⟩
            have n2_ : Aside0 (Kd.N k46 46 (((w32.setCell ⟨gb597, 0, none⟩ (.bool t599)).setCell ⟨gb597, 1, none⟩ (.slice Ao34 t600.length co34)).setCell ⟨gb597, 2, none⟩ (.slice Ao36 t603.length co36)) w.heap.size (fun k_ => (P1_ k_ ∨ w.heap.size ≤ k_) ∧ some k_ ≠ (.slice (some ad598) t582.length co28 : Value).ownBlock ∧ some k_ ≠ (.slice Ao30 x598001_3.length co30 : Value).ownBlock ∧ some k_ ≠ (.slice Ao31 x598002_3.length co31 : Value).ownBlock ∧ some k_ ≠ (.slice Ao34 t600.length co34 : Value).ownBlock ∧ some k_ ≠ (.slice Ao36 t603.length co36 : Value).ownBlock ∧ k_ ≠ gb597) v588 t586) := ⟨by (with_reducible repeat (fail)); exact Kd.N_mono (Kd.N_far (p := ⟨gb597, 2, none⟩) (Kd.N_far (p := ⟨gb597, 1, none⟩) (Kd.N_far (p := ⟨gb597, 0, none⟩) (Kd.N_mono HO_9.out (fun k_ hk => (⟨hk, hk.1.1.2.2.2.2⟩ : _ ∧ k_ ≠ gb597))) (fun _ hk => hk.2) (.bool t599)) (fun _ hk => hk.2) (.slice Ao34 t600.length co34)) (fun _ hk => hk.2) (.slice Ao36 t603.length co36)) (fun _ hk => ⟨hk.1.1.1.1, ⟨hk.1.1.1.2.1, ⟨hk.1.1.1.2.2.1, ⟨hk.1.1.1.2.2.2.1, ⟨hk.1.1.2, ⟨hk.1.2, hk.1.1.1.2.2.2.2⟩⟩⟩⟩⟩⟩)⟩
            have n3_ : Aside0 (Kd.R (Kd.int .u32) 100 (((w32.setCell ⟨gb597, 0, none⟩ (.bool t599)).setCell ⟨gb597, 1, none⟩ (.slice Ao34 t600.length co34)).setCell ⟨gb597, 2, none⟩ (.slice Ao36 t603.length co36)) w.heap.size (fun k_ => (w.heap.size ≤ k_) ∧ some k_ ≠ (.slice Ao31 x598002_3.length co31 : Value).ownBlock ∧ some k_ ≠ (.slice Ao34 t600.length co34 : Value).ownBlock ∧ some k_ ≠ (.slice Ao36 t603.length co36 : Value).ownBlock) (.slice Ao30 x598001_3.length co30) x598001_3) := ⟨by (with_reducible repeat (fail)); exact Kd.R_mono (Kd.R_far (p := ⟨gb597, 2, none⟩) (Kd.R_far (p := ⟨gb597, 1, none⟩) (Kd.R_far (p := ⟨gb597, 0, none⟩) (Kd.R_types HO_598001.out BK597.out (by decide)) (fun _ hk => hk.2) (.bool t599)) (fun _ hk => hk.2) (.slice Ao34 t600.length co34)) (fun _ hk => hk.2) (.slice Ao36 t603.length co36)) (fun _ hk => ⟨hk.1.1.1.1, ⟨hk.1.1.1.2, ⟨hk.1.1.2, hk.1.2⟩⟩⟩)⟩
            have n4_ : Aside0 (Kd.R (Kd.int .u32) 100 (((w32.setCell ⟨gb597, 0, none⟩ (.bool t599)).setCell ⟨gb597, 1, none⟩ (.slice Ao34 t600.length co34)).setCell ⟨gb597, 2, none⟩ (.slice Ao36 t603.length co36)) w.heap.size (fun k_ => (w.heap.size ≤ k_) ∧ some k_ ≠ (.slice Ao30 x598001_3.length co30 : Value).ownBlock ∧ some k_ ≠ (.slice Ao34 t600.length co34 : Value).ownBlock ∧ some k_ ≠ (.slice Ao36 t603.length co36 : Value).ownBlock) (.slice Ao31 x598002_3.length co31) x598002_3) := ⟨by (with_reducible repeat (fail)); exact Kd.R_mono (Kd.R_far (p := ⟨gb597, 2, none⟩) (Kd.R_far (p := ⟨gb597, 1, none⟩) (Kd.R_far (p := ⟨gb597, 0, none⟩) (Kd.R_types HO_598002.out BK597.out (by decide)) (fun _ hk => hk.2) (.bool t599)) (fun _ hk => hk.2) (.slice Ao34 t600.length co34)) (fun _ hk => hk.2) (.slice Ao36 t603.length co36)) (fun _ hk => ⟨hk.1.1.1.1, ⟨hk.1.1.1.2, ⟨hk.1.1.2, hk.1.2⟩⟩⟩)⟩
            have n5_ : Aside0 (Kd.V (Kd.int .u32) 100 (((w32.setCell ⟨gb597, 0, none⟩ (.bool t599)).setCell ⟨gb597, 1, none⟩ (.slice Ao34 t600.length co34)).setCell ⟨gb597, 2, none⟩ (.slice Ao36 t603.length co36)) w.heap.size (fun k_ => (P1_ k_ ∨ w.heap.size ≤ k_) ∧ some k_ ≠ (.slice (some ad598) t582.length co28 : Value).ownBlock ∧ some k_ ≠ (v588 : Value).ownBlock ∧ some k_ ≠ (.slice Ao30 x598001_3.length co30 : Value).ownBlock ∧ some k_ ≠ (.slice Ao31 x598002_3.length co31 : Value).ownBlock ∧ some k_ ≠ (.slice Ao34 t600.length co34 : Value).ownBlock ∧ some k_ ≠ (.slice Ao36 t603.length co36 : Value).ownBlock ∧ k_ ≠ gb597) (.slice A598_1 ((rd_T46 t582 x12_3).f1).length c598_1) ((rd_T46 t582 x12_3).f1)) := ⟨by (with_reducible repeat (fail)); exact Kd.V_mono (Kd.V_far (p := ⟨gb597, 2, none⟩) (Kd.V_far (p := ⟨gb597, 1, none⟩) (Kd.V_far (p := ⟨gb597, 0, none⟩) (Kd.V_mono HL598_1.out (fun k_ hk => (⟨hk, hk.1.1.1.2.2.2.2⟩ : _ ∧ k_ ≠ gb597))) (fun _ hk => hk.2) (.bool t599)) (fun _ hk => hk.2) (.slice Ao34 t600.length co34)) (fun _ hk => hk.2) (.slice Ao36 t603.length co36)) (fun _ hk => ⟨hk.1.1.1.1.1, ⟨hk.1.1.1.2, ⟨hk.1.1.1.1.2.1, ⟨hk.1.1.1.1.2.2.1, ⟨hk.1.1.1.1.2.2.2.1, ⟨hk.1.1.2, ⟨hk.1.2, hk.1.1.1.1.2.2.2.2⟩⟩⟩⟩⟩⟩⟩)⟩
            have n6_ : Aside0 (Kd.V (Kd.int .u32) 100 (((w32.setCell ⟨gb597, 0, none⟩ (.bool t599)).setCell ⟨gb597, 1, none⟩ (.slice Ao34 t600.length co34)).setCell ⟨gb597, 2, none⟩ (.slice Ao36 t603.length co36)) w.heap.size (fun k_ => (P1_ k_ ∨ w.heap.size ≤ k_) ∧ some k_ ≠ (.slice (some ad598) t582.length co28 : Value).ownBlock ∧ some k_ ≠ (v588 : Value).ownBlock ∧ some k_ ≠ (.slice Ao30 x598001_3.length co30 : Value).ownBlock ∧ some k_ ≠ (.slice Ao31 x598002_3.length co31 : Value).ownBlock ∧ some k_ ≠ (.slice Ao34 t600.length co34 : Value).ownBlock ∧ some k_ ≠ (.slice Ao36 t603.length co36 : Value).ownBlock ∧ k_ ≠ gb597) (.slice A598_2 ((rd_T46 t582 x12_3).f2).length c598_2) ((rd_T46 t582 x12_3).f2)) := ⟨by (with_reducible repeat (fail)); exact Kd.V_mono (Kd.V_far (p := ⟨gb597, 2, none⟩) (Kd.V_far (p := ⟨gb597, 1, none⟩) (Kd.V_far (p := ⟨gb597, 0, none⟩) (Kd.V_mono HL598_2.out (fun k_ hk => (⟨hk, hk.1.1.1.2.2.2.2⟩ : _ ∧ k_ ≠ gb597))) (fun _ hk => hk.2) (.bool t599)) (fun _ hk => hk.2) (.slice Ao34 t600.length co34)) (fun _ hk => hk.2) (.slice Ao36 t603.length co36)) (fun _ hk => ⟨hk.1.1.1.1.1, ⟨hk.1.1.1.2, ⟨hk.1.1.1.1.2.1, ⟨hk.1.1.1.1.2.2.1, ⟨hk.1.1.1.1.2.2.2.1, ⟨hk.1.1.2, ⟨hk.1.2, hk.1.1.1.1.2.2.2.2⟩⟩⟩⟩⟩⟩⟩)⟩
            have n7_ : Aside0 (Kd.R (Kd.int .u32) 100 (((w32.setCell ⟨gb597, 0, none⟩ (.bool t599)).setCell ⟨gb597, 1, none⟩ (.slice Ao34 t600.length co34)).setCell ⟨gb597, 2, none⟩ (.slice Ao36 t603.length co36)) w.heap.size (fun k_ => (w.heap.size ≤ k_) ∧ some k_ ≠ (.slice Ao30 x598001_3.length co30 : Value).ownBlock ∧ some k_ ≠ (.slice Ao31 x598002_3.length co31 : Value).ownBlock ∧ some k_ ≠ (.slice Ao36 t603.length co36 : Value).ownBlock) (.slice Ao34 t600.length co34) t600) := ⟨by (with_reducible repeat (fail)); exact Kd.R_mono (Kd.R_far (p := ⟨gb597, 2, none⟩) (Kd.R_far (p := ⟨gb597, 1, none⟩) (Kd.R_far (p := ⟨gb597, 0, none⟩) (Kd.R_types HO602.out BK597.out (by decide)) (fun _ hk => hk.2) (.bool t599)) (fun _ hk => hk.2) (.slice Ao34 t600.length co34)) (fun _ hk => hk.2) (.slice Ao36 t603.length co36)) (fun _ hk => ⟨hk.1.1.1.1, ⟨hk.1.1.2, ⟨hk.1.2, hk.1.1.1.2⟩⟩⟩)⟩
            have n8_ : Aside0 (Kd.R (Kd.int .u32) 100 (((w32.setCell ⟨gb597, 0, none⟩ (.bool t599)).setCell ⟨gb597, 1, none⟩ (.slice Ao34 t600.length co34)).setCell ⟨gb597, 2, none⟩ (.slice Ao36 t603.length co36)) w.heap.size (fun k_ => (w.heap.size ≤ k_) ∧ some k_ ≠ (.slice Ao30 x598001_3.length co30 : Value).ownBlock ∧ some k_ ≠ (.slice Ao31 x598002_3.length co31 : Value).ownBlock ∧ some k_ ≠ (.slice Ao34 t600.length co34 : Value).ownBlock) (.slice Ao36 t603.length co36) t603) := ⟨by (with_reducible repeat (fail)); exact Kd.R_mono (Kd.R_far (p := ⟨gb597, 2, none⟩) (Kd.R_far (p := ⟨gb597, 1, none⟩) (Kd.R_far (p := ⟨gb597, 0, none⟩) (Kd.R_types HO605.out BK597.out (by decide)) (fun _ hk => hk.2) (.bool t599)) (fun _ hk => hk.2) (.slice Ao34 t600.length co34)) (fun _ hk => hk.2) (.slice Ao36 t603.length co36)) (fun _ hk => ⟨hk.1.1.1.1, ⟨hk.1.1.2, ⟨hk.1.2, hk.1.1.1.2⟩⟩⟩)⟩
            have n9_ : Aside0 ((((w32.setCell ⟨gb597, 0, none⟩ (.bool t599)).setCell ⟨gb597, 1, none⟩ (.slice Ao34 t600.length co34)).setCell ⟨gb597, 2, none⟩ (.slice Ao36 t603.length co36)).heap[gb597]? = some (.cells #[.bool t599, .slice Ao34 t600.length co34, .slice Ao36 t603.length co36] 46 (0, 0))) := ⟨by (with_reducible repeat (fail)); refine blk_put (cs := #[.bool t599, .slice Ao34 t600.length co34, .slice Ao31 x598002_3.length co31]) ?_ 2 _ rfl; (with_reducible repeat (fail)); refine blk_put (cs := #[.bool t599, .slice Ao30 x598001_3.length co30, .slice Ao31 x598002_3.length co31]) ?_ 1 _ rfl; (with_reducible repeat (fail)); refine blk_put (cs := #[.bool x598000_3, .slice Ao30 x598001_3.length co30, .slice Ao31 x598002_3.length co31]) ?_ 0 _ rfl; (with_reducible repeat (fail)); exact BK597.out⟩
            have n10_ : Aside0 (Below w.heap.size w (((w32.setCell ⟨gb597, 0, none⟩ (.bool t599)).setCell ⟨gb597, 1, none⟩ (.slice Ao34 t600.length co34)).setCell ⟨gb597, 2, none⟩ (.slice Ao36 t603.length co36))) := ⟨by repeat ((with_reducible first | exact HB.out | refine below_set ?_ GE597.out))⟩
            (try clear HO_1)
            (try clear HO_7)
            (try clear HO_9)
            (try clear HO_598001)
            (try clear HO_598002)
            (try clear HL598_1)
            (try clear HL598_2)
            (try clear HO602)
            (try clear HO605)
            (try clear BK597)
            (try clear HB)
            generalize (((w32.setCell ⟨gb597, 0, none⟩ (.bool t599)).setCell ⟨gb597, 1, none⟩ (.slice Ao34 t600.length co34)).setCell ⟨gb597, 2, none⟩ (.slice Ao36 t603.length co36)) = w38 at n0_ n1_ n2_ n3_ n4_ n5_ n6_ n7_ n8_ n9_ n10_ ⊢
            have HO_1 := n0_
            have HO_7 := n1_
            have HO_9 := n2_
            have HO_598001 := n3_
            have HO_598002 := n4_
            have HL598_1 := n5_
            have HL598_2 := n6_
            have HO602 := n7_
            have HO605 := n8_
            have BK597 := n9_
            have HB := n10_
            clear n0_ n1_ n2_ n3_ n4_ n5_ n6_ n7_ n8_ n9_ n10_
            have p606 : 0 ≤ (x12_3 : Int) := of_decide_eq_true (by (with_reducible assumption))
            have q606 : x12_3 < (t582.length : Int) := of_decide_eq_true (by (with_reducible assumption))
            obtain ⟨ad606, A606_1, c606_1, A606_2, c606_2, e606, hx606_0, hx606_1, hx606_2, hl606_1, hi606_1, hl606_2, hi606_2⟩ := at_T46 (Kd.N_reads' HO_7.out).2.2 x12_3 p606 q606
            obtain rfl : ad598 = ad606 := (by injection e606)
            obtain ⟨ce606, hce606, hMe606, hcc606⟩ := Kd.N_get HO_7.out z46 x12_3 p606 (by exact q606)
            obtain ⟨ua606_1, uc606_1, ua606_2, uc606_2, rfl, ul606_1, ge606_1, ul606_2, ge606_2⟩ := k46_openF hMe606
            have hv606_1 := hcc606 1 _ rfl
            rw [add_field _ _ 1 (by omega)] at hv606_1
            replace hv606_1 := Option.some.inj (hv606_1.symm.trans hx606_1)
            injection hv606_1 with hva_ hvn_ hvc_
            rw [hva_] at ge606_1
            rw [hvc_] at ul606_1
            have HL606_1 := Aside0.mk (show Kd.V (Kd.int .u32) 100 _ w.heap.size _ _ ((rd_T46 t582 x12_3).f1) from Kd.V_mk ul606_1 ge606_1)
            clear hva_ hvn_ hvc_ ge606_1 ul606_1
            have hv606_2 := hcc606 2 _ rfl
            rw [add_field _ _ 2 (by omega)] at hv606_2
            replace hv606_2 := Option.some.inj (hv606_2.symm.trans hx606_2)
            injection hv606_2 with hva_ hvn_ hvc_
            rw [hva_] at ge606_2
            rw [hvc_] at ul606_2
            have HL606_2 := Aside0.mk (show Kd.V (Kd.int .u32) 100 _ w.heap.size _ _ ((rd_T46 t582 x12_3).f2) from Kd.V_mk ul606_2 ge606_2)
            clear hva_ hvn_ hvc_ ge606_2 ul606_2
            clear hcc606 hce606
            have HR606_1 := Aside0.mk hi606_1
            have HC606_1 := Aside0.mk hl606_1
            clear hi606_1 hl606_1
            have HR606_2 := Aside0.mk hi606_2
            have HC606_2 := Aside0.mk hl606_2
            clear hi606_2 hl606_2
            replace p606 := eq_true p606
            replace q606 := eq_true q606
            try go_wp2_with (((with_reducible refine gate_callee (f := 32) rfl ?_); refine goesL_ (some 65) rfl rfl Try.func32 (by kernel_rfl) rfl #[.agg #[.bool ((rd_T46 t582 x12_3).f0), .slice A606_1 ((rd_T46 t582 x12_3).f1).length c606_1, .slice A606_2 ((rd_T46 t582 x12_3).f2).length c606_2]] rfl (by (try simp only [List.map_toArray, List.map_cons, List.map_nil]); rfl) ?_; (with_reducible refine (codewrightref02_Sign.calls k3 ((rd_T46 t582 x12_3).f0) _ _ ((rd_T46 t582 x12_3).f1) _ _ ((rd_T46 t582 x12_3).f2) t607 _ ?side1 ?side2 ?side3 ?side4 A26.out).mono ?_); (case side1 => repeat (exact (by repeat ((with_reducible exact HR606_1.out))))); (case side2 => exact HC606_1.out); (case side3 => repeat (exact (by repeat ((with_reducible exact HR606_2.out))))); (case side4 => exact HC606_2.out); rintro e w39 ⟨rfl, hb⟩; refine ⟨_, rfl, ?_⟩; have n0_ := Aside0.mk (Kd.V_below (by (with_reducible repeat (fail)); exact HO_1.out) hb); have n1_ := Aside0.mk (Kd.N_below (by (with_reducible repeat (fail)); exact HO_7.out) hb); have n2_ := Aside0.mk (Kd.N_below (by (with_reducible repeat (fail)); exact HO_9.out) hb); have n3_ := Aside0.mk (Kd.R_below (by (with_reducible repeat (fail)); exact HO_598001.out) hb); have n4_ := Aside0.mk (Kd.R_below (by (with_reducible repeat (fail)); exact HO_598002.out) hb); have n5_ := Aside0.mk (Kd.V_below (by (with_reducible repeat (fail)); exact HL598_1.out) hb); have n6_ := Aside0.mk (Kd.V_below (by (with_reducible repeat (fail)); exact HL598_2.out) hb); have n7_ := Aside0.mk (Kd.R_below (by (with_reducible repeat (fail)); exact HO602.out) hb); have n8_ := Aside0.mk (Kd.R_below (by (with_reducible repeat (fail)); exact HO605.out) hb); have n9_ := Aside0.mk (Kd.V_below (by (with_reducible repeat (fail)); exact HL606_1.out) hb); have n10_ := Aside0.mk (Kd.V_below (by (with_reducible repeat (fail)); exact HL606_2.out) hb); have n11_ := Aside0.mk (blk_below (g := gb597) (o := .cells #[.bool t599, .slice Ao34 t600.length co34, .slice Ao36 t603.length co36] 46 (0, 0)) (by (with_reducible repeat (fail)); exact BK597.out) hb); have n12_ := Aside0.mk (Kd.C_below (by repeat ((with_reducible exact HR606_1.out))) hb); have n13_ := Aside0.mk (Kd.C_below (by repeat ((with_reducible exact HR606_2.out))) hb); have n14_ := Aside0.mk (below_step (by repeat ((with_reducible exact HB.out))) hb); clear HO_1; clear HO_7; clear HO_9; clear HO_598001; clear HO_598002; clear HL598_1; clear HL598_2; clear HO602; clear HO605; clear HL606_1; clear HL606_2; clear BK597; clear HR606_1; clear HR606_2; clear HB; have HO_1 := n0_; have HO_7 := n1_; have HO_9 := n2_; have HO_598001 := n3_; have HO_598002 := n4_; have HL598_1 := n5_; have HL598_2 := n6_; have HO602 := n7_; have HO605 := n8_; have HL606_1 := n9_; have HL606_2 := n10_; have BK597 := n11_; have HR606_1 := n12_; have HR606_2 := n13_; have HB := n14_; clear n0_ n1_ n2_ n3_ n4_ n5_ n6_ n7_ n8_ n9_ n10_ n11_ n12_ n13_ n14_; (try clear hb)))
            go_ret
            exact ⟨by rfl, by repeat ((with_reducible exact HB.out))⟩
           ·rw [if_neg c27] at H
            have c27b0 : decide (t607 < 0) = false := decide_eq_false c27
            clear c27
            have H' := Aside0.mk H
            clear H
            obtain ⟨Ao40, co40, eo40⟩ := Kd.N_slice HO_7.out
            subst eo40
            try go_wp2
            have n0_ := Aside0.mk (Kd.V_drew HO_1.out)
            have n1_ := Aside0.mk (Kd.N_drew HO_7.out)
            have n2_ := Aside0.mk (Kd.N_drew HO_9.out)
            have n3_ := Aside0.mk (Kd.R_drew HO_598001.out)
            have n4_ := Aside0.mk (Kd.R_drew HO_598002.out)
            have n5_ := Aside0.mk (blk_drew BK597.out)
            have n6_ := Aside0.mk (below_drew1 HB.out)
            clear HO_1
            clear HO_7
            clear HO_9
            clear HO_598001
            clear HO_598002
            clear BK597
            clear HB
            have HO_1 := n0_
            have HO_7 := n1_
            have HO_9 := n2_
            have HO_598001 := n3_
            have HO_598002 := n4_
            have BK597 := n5_
            have HB := n6_
            clear n0_ n1_ n2_ n3_ n4_ n5_ n6_
            have p598 : 0 ≤ (x12_3 : Int) := of_decide_eq_true (by (with_reducible assumption))
            have q598 : x12_3 < (t582.length : Int) := of_decide_eq_true (by (with_reducible assumption))
            obtain ⟨ad598, A598_1, c598_1, A598_2, c598_2, e598, hx598_0, hx598_1, hx598_2, hl598_1, hi598_1, hl598_2, hi598_2⟩ := at_T46 (Kd.N_reads' HO_7.out).2.2 x12_3 p598 q598
            cases e598
            obtain ⟨ce598, hce598, hMe598, hcc598⟩ := Kd.N_get HO_7.out z46 x12_3 p598 (by exact q598)
            obtain ⟨ua598_1, uc598_1, ua598_2, uc598_2, rfl, ul598_1, ge598_1, ul598_2, ge598_2⟩ := k46_openF hMe598
            have hv598_1 := hcc598 1 _ rfl
            rw [add_field _ _ 1 (by omega)] at hv598_1
            replace hv598_1 := Option.some.inj (hv598_1.symm.trans hx598_1)
            injection hv598_1 with hva_ hvn_ hvc_
            rw [hva_] at ge598_1
            rw [hvc_] at ul598_1
            have HL598_1 := Aside0.mk (show Kd.V (Kd.int .u32) 100 _ w.heap.size _ _ ((rd_T46 t582 x12_3).f1) from Kd.V_mk ul598_1 ge598_1)
            clear hva_ hvn_ hvc_ ge598_1 ul598_1
            have hv598_2 := hcc598 2 _ rfl
            rw [add_field _ _ 2 (by omega)] at hv598_2
            replace hv598_2 := Option.some.inj (hv598_2.symm.trans hx598_2)
            injection hv598_2 with hva_ hvn_ hvc_
            rw [hva_] at ge598_2
            rw [hvc_] at ul598_2
            have HL598_2 := Aside0.mk (show Kd.V (Kd.int .u32) 100 _ w.heap.size _ _ ((rd_T46 t582 x12_3).f2) from Kd.V_mk ul598_2 ge598_2)
            clear hva_ hvn_ hvc_ ge598_2 ul598_2
            clear hcc598 hce598
            have HR598_1 := Aside0.mk hi598_1
            have HC598_1 := Aside0.mk hl598_1
            clear hi598_1 hl598_1
            have HR598_2 := Aside0.mk hi598_2
            have HC598_2 := Aside0.mk hl598_2
            clear hi598_2 hl598_2
            replace p598 := eq_true p598
            replace q598 := eq_true q598
            obtain ⟨Ao42, co42, eo42⟩ := Kd.R_slice HO_598001.out
            (subst eo42)
            obtain ⟨Ao43, co43, eo43⟩ := Kd.R_slice HO_598002.out
            (subst eo43)
            refine start_ (n := 7) (S := fun w' => w'.cell? ⟨gb597, 0, none⟩ = some (.bool x598000_3) ∧ w'.cell? ⟨gb597, 1, none⟩ = some (.slice Ao42 x598001_3.length co42) ∧ w'.cell? ⟨gb597, 2, none⟩ = some (.slice Ao43 x598002_3.length co43) ∧ w'.cell? (ad598.add ((x12_3).toNat * 3)) = some (.bool ((rd_T46 t582 x12_3).f0)) ∧ w'.cell? ⟨(ad598.add ((x12_3).toNat * 3)).block, (ad598.add ((x12_3).toNat * 3)).off + 1, none⟩ = some (.slice A598_1 ((rd_T46 t582 x12_3).f1).length c598_1) ∧ w'.cell? ⟨(ad598.add ((x12_3).toNat * 3)).block, (ad598.add ((x12_3).toNat * 3)).off + 2, none⟩ = some (.slice A598_2 ((rd_T46 t582 x12_3).f2).length c598_2)) (ds := [6]) #[false, false, false, false, false, false, false] (by kernel_rfl) rfl rfl ⟨(blk_cell BK597.out 0).trans rfl, (blk_cell BK597.out 1).trans rfl, (blk_cell BK597.out 2).trans rfl, hx598_0, hx598_1, hx598_2⟩ (fun hHeld => ?_)
            generalize wr.drew = w41 at HO_1 HO_7 HO_9 HO_598001 HO_598002 BK597 HB HL598_1 HL598_2 HR598_1 HR598_2 hx598_0 hx598_1 hx598_2 hHeld ⊢
            refine pure_ (i := 1) (N := some 56) (v := ?_) (a' := ?_) #[false, true, false, false, false, false, false] rfl rfl (by kernel_rfl) (fun _ _ _ h => h) (Or.inl ⟨by rfl, ?_⟩) ?_ ?_
            rotate_left
            ·intro w'
             go_simp
             with_reducible rfl
            rotate_left
            ·simp only [Act.put, List.setIfInBounds_toArray, List.set_cons_zero, List.set_cons_succ, i64_w, i32_w]
             rfl
            refine pure_ (i := 2) (N := some 57) (v := ?_) (a' := ?_) #[false, true, true, false, false, false, false] rfl rfl (by kernel_rfl) (fun _ _ _ h => h) (Or.inl ⟨by rfl, ?_⟩) ?_ ?_
            rotate_left
            ·intro w'
             go_simp
             with_reducible rfl
            rotate_left
            ·simp only [Act.put, List.setIfInBounds_toArray, List.set_cons_zero, List.set_cons_succ, i64_w, i32_w]
             rfl
            refine pure_ (i := 3) (N := some 58) (v := ?_) (a' := ?_) #[false, true, true, true, false, false, false] rfl rfl (by kernel_rfl) (fun _ _ _ h => h) (Or.inl ⟨by rfl, ?_⟩) ?_ ?_
            rotate_left
            ·intro w'
             go_simp
             with_reducible rfl
            rotate_left
            ·simp only [Act.put, List.setIfInBounds_toArray, List.set_cons_zero, List.set_cons_succ, i64_w, i32_w]
             rfl
            refine take_ (i := 0) (N := some 55) (v := ?_) (a' := ?_) #[true, true, true, true, false, false, false] rfl rfl (by kernel_rfl) (fun _ _ _ h => h) (Or.inl ⟨by rfl, ?_⟩) hHeld ?_ ?_
            rotate_left
            ·rintro w' ⟨s0, s1, s2, s3, s4, s5⟩
             go_simp
             with_reducible rfl
            rotate_left
            ·simp only [Act.put, List.setIfInBounds_toArray, List.set_cons_zero, List.set_cons_succ, i64_w, i32_w]
             rfl
            refine take_ (i := 4) (N := some 59) (v := ?_) (a' := ?_) #[true, true, true, true, true, false, false] rfl rfl (by kernel_rfl) (fun _ _ _ h => h) (Or.inl ⟨by rfl, ?_⟩) hHeld ?_ ?_
            rotate_left
            ·rintro w' ⟨s0, s1, s2, s3, s4, s5⟩
             go_simp
             with_reducible rfl
            rotate_left
            ·simp only [Act.put, List.setIfInBounds_toArray, List.set_cons_zero, List.set_cons_succ, i64_w, i32_w]
             rfl
            refine one_ (i := 5) (N := some 60) #[true, true, true, true, true, true, false] rfl rfl (by kernel_rfl) (by decide) (fun K hK => ?_)
            refine goes_ Try.func33 (by kernel_rfl) rfl #[.agg #[.bool x598000_3, .slice Ao42 x598001_3.length co42, .slice Ao43 x598002_3.length co43], .agg #[.bool ((rd_T46 t582 x12_3).f0), .slice A598_1 ((rd_T46 t582 x12_3).f1).length c598_1, .slice A598_2 ((rd_T46 t582 x12_3).f2).length c598_2]] (by rfl) rfl rfl (by (try simp only [List.map_toArray, List.map_cons, List.map_nil]); rfl) ?_
            with_reducible refine (codewrightref02_Add.calls k3 x598000_3 _ _ x598001_3 _ _ x598002_3 ((rd_T46 t582 x12_3).f0) _ _ ((rd_T46 t582 x12_3).f1) _ _ ((rd_T46 t582 x12_3).f2) t599 t600 t603 _ ?side1 ?side2 ?side3 ?side4 ?side5 ?side6 ?side7 ?side8 A25.out).mono ?_
            (case side1 => exact (Kd.R_reads' HO_598001.out).2.2)
            (case side2 => exact (Kd.R_reads' HO_598001.out).2.1)
            (case side3 => exact (Kd.R_reads' HO_598002.out).2.2)
            (case side4 => exact (Kd.R_reads' HO_598002.out).2.1)
            (case side5 => repeat (exact (by repeat ((with_reducible exact HR598_1.out)))))
            (case side6 => exact HC598_1.out)
            (case side7 => repeat (exact (by repeat ((with_reducible exact HR598_2.out)))))
            (case side8 => exact HC598_2.out)
            rintro e w44 ⟨v601, v604, rfl, ho0, ho1, hb⟩
            have HS3_ := (hb.cell (World.block_lt_of_cell? _ _ (hHeld.2.2.2.1))).trans (hHeld.2.2.2.1)
            have HS4_ := (hb.cell (World.block_lt_of_cell? _ _ (hHeld.2.2.2.2.1))).trans (hHeld.2.2.2.2.1)
            have HS5_ := (hb.cell (World.block_lt_of_cell? _ _ (hHeld.2.2.2.2.2))).trans (hHeld.2.2.2.2.2)
            refine ⟨_, rfl, ?_⟩
            have n0_ := Aside0.mk (Kd.V_mono (Kd.V_told (Kd.V_told (Kd.V_old (by (with_reducible repeat (fail)); exact HO_1.out) hb) (Kd.R_base ho0)) (Kd.R_base ho1)) (fun _ h_ => h_.1))
            have n1_ := Aside0.mk (Kd.N_mono (Kd.N_told (Kd.N_told (Kd.N_old (by (with_reducible repeat (fail)); exact HO_7.out) hb) (Kd.R_base ho0)) (Kd.R_base ho1)) (fun _ h_ => h_.1))
            have n2_ := Aside0.mk (Kd.N_mono (Kd.N_told (Kd.N_told (Kd.N_old (by (with_reducible repeat (fail)); exact HO_9.out) hb) (Kd.R_base ho0)) (Kd.R_base ho1)) (fun _ h_ => h_.1))
            have n3_ := Aside0.mk (Kd.R_mono (Kd.R_told (Kd.R_told (Kd.R_old (by (with_reducible repeat (fail)); exact HO_598001.out) hb) (Kd.R_base ho0)) (Kd.R_base ho1)) (fun _ h_ => h_.1))
            have n4_ := Aside0.mk (Kd.R_mono (Kd.R_told (Kd.R_told (Kd.R_old (by (with_reducible repeat (fail)); exact HO_598002.out) hb) (Kd.R_base ho0)) (Kd.R_base ho1)) (fun _ h_ => h_.1))
            have n5_ := Aside0.mk (Kd.V_mono (Kd.V_told (Kd.V_told (Kd.V_old (by (with_reducible repeat (fail)); exact HL598_1.out) hb) (Kd.R_base ho0)) (Kd.R_base ho1)) (fun _ h_ => h_.1))
            have n6_ := Aside0.mk (Kd.V_mono (Kd.V_told (Kd.V_told (Kd.V_old (by (with_reducible repeat (fail)); exact HL598_2.out) hb) (Kd.R_base ho0)) (Kd.R_base ho1)) (fun _ h_ => h_.1))
            have n7_ := Aside0.mk (Kd.R_lower (Kd.R_new' (Kd.R_new' (Kd.R_newM (M := fun k_ => (w.heap.size ≤ k_)) ho0 (below_size (by repeat ((with_reducible exact HB.out)))) (fun k_ h_ => h_)) (Kd.R_lt (by (with_reducible repeat (fail)); exact HO_598001.out))) (Kd.R_lt (by (with_reducible repeat (fail)); exact HO_598002.out))) (below_size (by repeat ((with_reducible exact HB.out)))))
            have n8_ := Aside0.mk (Kd.R_lower (Kd.R_new' (Kd.R_new' (Kd.R_newM (M := fun k_ => (w.heap.size ≤ k_)) ho1 (below_size (by repeat ((with_reducible exact HB.out)))) (fun k_ h_ => h_)) (Kd.R_lt (by (with_reducible repeat (fail)); exact HO_598001.out))) (Kd.R_lt (by (with_reducible repeat (fail)); exact HO_598002.out))) (below_size (by repeat ((with_reducible exact HB.out)))))
            have n9_ := Aside0.mk (blk_below (g := gb597) (o := .cells #[.bool x598000_3, .slice Ao42 x598001_3.length co42, .slice Ao43 x598002_3.length co43] 46 (0, 0)) (by (with_reducible repeat (fail)); exact BK597.out) hb)
            have n10_ := Aside0.mk (Kd.C_below (by repeat ((with_reducible exact HR598_1.out))) hb)
            have n11_ := Aside0.mk (Kd.C_below (by repeat ((with_reducible exact HR598_2.out))) hb)
            have n12_ := Aside0.mk (below_step (by repeat ((with_reducible exact HB.out))) hb)
            clear HO_1
            clear HO_7
            clear HO_9
            clear HO_598001
            clear HO_598002
            clear HL598_1
            clear HL598_2
            clear BK597
            clear HR598_1
            clear HR598_2
            clear HB
            have HO_1 := n0_
            have HO_7 := n1_
            have HO_9 := n2_
            have HO_598001 := n3_
            have HO_598002 := n4_
            have HL598_1 := n5_
            have HL598_2 := n6_
            have HO602 := n7_
            have HO605 := n8_
            have BK597 := n9_
            have HR598_1 := n10_
            have HR598_2 := n11_
            have HB := n12_
            clear n0_ n1_ n2_ n3_ n4_ n5_ n6_ n7_ n8_ n9_ n10_ n11_ n12_
            (try clear hb)
            (try clear ho0)
            (try clear ho1)
            obtain ⟨Ao46, co46, eo46⟩ := Kd.R_slice HO602.out
            (subst eo46)
            obtain ⟨Ao48, co48, eo48⟩ := Kd.R_slice HO605.out
            (subst eo48)
            refine hK.out _ _ ⟨(blk_cell BK597.out 0).trans rfl, (blk_cell BK597.out 1).trans rfl, (blk_cell BK597.out 2).trans rfl, HS3_, HS4_, HS5_⟩ (fun hHeld => ?_)
            clear hK K
            refine norm_ (a' := ?_) ?_ ?_
            rotate_left
            ·show Act.put _ (some 60) _ = _
             simp only [Act.put, List.setIfInBounds_toArray, List.set_cons_zero, List.set_cons_succ, i64_w, i32_w]
             rfl
            refine last_ (i := 6) (N := none) #[true, true, true, true, true, true, true] rfl rfl (by kernel_rfl) (by decide) (fun K hK => ?_)
            have hs45 : w44.cell? ⟨gb597, 0, none⟩ = some (.bool x598000_3) := (blk_cell BK597.out 0).trans rfl
            have hfs45 := blk_frozen BK597.out 0
            have hs47 : w44.cell? ⟨gb597, 1, none⟩ = some (.slice Ao42 x598001_3.length co42) := (blk_cell BK597.out 1).trans rfl
            have hfs47 := blk_frozen BK597.out 1
            have hs49 : w44.cell? ⟨gb597, 2, none⟩ = some (.slice Ao43 x598002_3.length co43) := (blk_cell BK597.out 2).trans rfl
            have hfs49 := blk_frozen BK597.out 2
            refine skip_ (w1 := ?_) (by rfl) rfl ?_ ?_
            rotate_left
            ·go_simp
             rfl
            refine hK.out _ _ ?_
            clear hK K
            refine done_ (by kernel_rfl) ?_
            have n0_ : Aside0 (Kd.V (Kd.slice 3 (Kd.int .i64)) 41 (((w44.setCell ⟨gb597, 0, none⟩ (.bool t599)).setCell ⟨gb597, 1, none⟩ (.slice Ao46 t600.length co46)).setCell ⟨gb597, 2, none⟩ (.slice Ao48 t603.length co48)) w.heap.size (fun k_ => (P1_ k_ ∨ w.heap.size ≤ k_) ∧ some k_ ≠ (.slice (some ad598) t582.length co40 : Value).ownBlock ∧ some k_ ≠ (v588 : Value).ownBlock ∧ some k_ ≠ (.slice Ao42 x598001_3.length co42 : Value).ownBlock ∧ some k_ ≠ (.slice Ao43 x598002_3.length co43 : Value).ownBlock ∧ some k_ ≠ (.slice Ao46 t600.length co46 : Value).ownBlock ∧ some k_ ≠ (.slice Ao48 t603.length co48 : Value).ownBlock ∧ k_ ≠ gb597) (.slice A1 l1.length c1) l1) := ⟨by (with_reducible repeat (fail)); exact Kd.V_mono (Kd.V_far (p := ⟨gb597, 2, none⟩) (Kd.V_far (p := ⟨gb597, 1, none⟩) (Kd.V_far (p := ⟨gb597, 0, none⟩) (Kd.V_mono HO_1.out (fun k_ hk => (⟨hk, hk.1.1.2.2.2.2.2⟩ : _ ∧ k_ ≠ gb597))) (fun _ hk => hk.2) (.bool t599)) (fun _ hk => hk.2) (.slice Ao46 t600.length co46)) (fun _ hk => hk.2) (.slice Ao48 t603.length co48)) (fun _ hk => ⟨hk.1.1.1.1, ⟨hk.1.1.1.2.1, ⟨hk.1.1.1.2.2.1, ⟨hk.1.1.1.2.2.2.1, ⟨hk.1.1.1.2.2.2.2.1, ⟨hk.1.1.2, ⟨hk.1.2, hk.1.1.1.2.2.2.2.2⟩⟩⟩⟩⟩⟩⟩)⟩
            have n1_ : Aside0 (Kd.N k46 46 (((w44.setCell ⟨gb597, 0, none⟩ (.bool t599)).setCell ⟨gb597, 1, none⟩ (.slice Ao46 t600.length co46)).setCell ⟨gb597, 2, none⟩ (.slice Ao48 t603.length co48)) w.heap.size (fun k_ => (P1_ k_ ∨ w.heap.size ≤ k_) ∧ some k_ ≠ (v588 : Value).ownBlock ∧ some k_ ≠ (.slice Ao42 x598001_3.length co42 : Value).ownBlock ∧ some k_ ≠ (.slice Ao43 x598002_3.length co43 : Value).ownBlock ∧ some k_ ≠ (.slice Ao46 t600.length co46 : Value).ownBlock ∧ some k_ ≠ (.slice Ao48 t603.length co48 : Value).ownBlock ∧ k_ ≠ gb597) (.slice (some ad598) t582.length co40) t582) := ⟨by (with_reducible repeat (fail)); exact Kd.N_mono (Kd.N_far (p := ⟨gb597, 2, none⟩) (Kd.N_far (p := ⟨gb597, 1, none⟩) (Kd.N_far (p := ⟨gb597, 0, none⟩) (Kd.N_mono HO_7.out (fun k_ hk => (⟨hk, hk.1.1.2.2.2.2⟩ : _ ∧ k_ ≠ gb597))) (fun _ hk => hk.2) (.bool t599)) (fun _ hk => hk.2) (.slice Ao46 t600.length co46)) (fun _ hk => hk.2) (.slice Ao48 t603.length co48)) (fun _ hk => ⟨hk.1.1.1.1, ⟨hk.1.1.1.2.1, ⟨hk.1.1.1.2.2.1, ⟨hk.1.1.1.2.2.2.1, ⟨hk.1.1.2, ⟨hk.1.2, hk.1.1.1.2.2.2.2⟩⟩⟩⟩⟩⟩)⟩
            have n2_ : Aside0 (Kd.N k46 46 (((w44.setCell ⟨gb597, 0, none⟩ (.bool t599)).setCell ⟨gb597, 1, none⟩ (.slice Ao46 t600.length co46)).setCell ⟨gb597, 2, none⟩ (.slice Ao48 t603.length co48)) w.heap.size (fun k_ => (P1_ k_ ∨ w.heap.size ≤ k_) ∧ some k_ ≠ (.slice (some ad598) t582.length co40 : Value).ownBlock ∧ some k_ ≠ (.slice Ao42 x598001_3.length co42 : Value).ownBlock ∧ some k_ ≠ (.slice Ao43 x598002_3.length co43 : Value).ownBlock ∧ some k_ ≠ (.slice Ao46 t600.length co46 : Value).ownBlock ∧ some k_ ≠ (.slice Ao48 t603.length co48 : Value).ownBlock ∧ k_ ≠ gb597) v588 t586) := ⟨by (with_reducible repeat (fail)); exact Kd.N_mono (Kd.N_far (p := ⟨gb597, 2, none⟩) (Kd.N_far (p := ⟨gb597, 1, none⟩) (Kd.N_far (p := ⟨gb597, 0, none⟩) (Kd.N_mono HO_9.out (fun k_ hk => (⟨hk, hk.1.1.2.2.2.2⟩ : _ ∧ k_ ≠ gb597))) (fun _ hk => hk.2) (.bool t599)) (fun _ hk => hk.2) (.slice Ao46 t600.length co46)) (fun _ hk => hk.2) (.slice Ao48 t603.length co48)) (fun _ hk => ⟨hk.1.1.1.1, ⟨hk.1.1.1.2.1, ⟨hk.1.1.1.2.2.1, ⟨hk.1.1.1.2.2.2.1, ⟨hk.1.1.2, ⟨hk.1.2, hk.1.1.1.2.2.2.2⟩⟩⟩⟩⟩⟩)⟩
            have n3_ : Aside0 (Kd.R (Kd.int .u32) 100 (((w44.setCell ⟨gb597, 0, none⟩ (.bool t599)).setCell ⟨gb597, 1, none⟩ (.slice Ao46 t600.length co46)).setCell ⟨gb597, 2, none⟩ (.slice Ao48 t603.length co48)) w.heap.size (fun k_ => (w.heap.size ≤ k_) ∧ some k_ ≠ (.slice Ao43 x598002_3.length co43 : Value).ownBlock ∧ some k_ ≠ (.slice Ao46 t600.length co46 : Value).ownBlock ∧ some k_ ≠ (.slice Ao48 t603.length co48 : Value).ownBlock) (.slice Ao42 x598001_3.length co42) x598001_3) := ⟨by (with_reducible repeat (fail)); exact Kd.R_mono (Kd.R_far (p := ⟨gb597, 2, none⟩) (Kd.R_far (p := ⟨gb597, 1, none⟩) (Kd.R_far (p := ⟨gb597, 0, none⟩) (Kd.R_types HO_598001.out BK597.out (by decide)) (fun _ hk => hk.2) (.bool t599)) (fun _ hk => hk.2) (.slice Ao46 t600.length co46)) (fun _ hk => hk.2) (.slice Ao48 t603.length co48)) (fun _ hk => ⟨hk.1.1.1.1, ⟨hk.1.1.1.2, ⟨hk.1.1.2, hk.1.2⟩⟩⟩)⟩
            have n4_ : Aside0 (Kd.R (Kd.int .u32) 100 (((w44.setCell ⟨gb597, 0, none⟩ (.bool t599)).setCell ⟨gb597, 1, none⟩ (.slice Ao46 t600.length co46)).setCell ⟨gb597, 2, none⟩ (.slice Ao48 t603.length co48)) w.heap.size (fun k_ => (w.heap.size ≤ k_) ∧ some k_ ≠ (.slice Ao42 x598001_3.length co42 : Value).ownBlock ∧ some k_ ≠ (.slice Ao46 t600.length co46 : Value).ownBlock ∧ some k_ ≠ (.slice Ao48 t603.length co48 : Value).ownBlock) (.slice Ao43 x598002_3.length co43) x598002_3) := ⟨by (with_reducible repeat (fail)); exact Kd.R_mono (Kd.R_far (p := ⟨gb597, 2, none⟩) (Kd.R_far (p := ⟨gb597, 1, none⟩) (Kd.R_far (p := ⟨gb597, 0, none⟩) (Kd.R_types HO_598002.out BK597.out (by decide)) (fun _ hk => hk.2) (.bool t599)) (fun _ hk => hk.2) (.slice Ao46 t600.length co46)) (fun _ hk => hk.2) (.slice Ao48 t603.length co48)) (fun _ hk => ⟨hk.1.1.1.1, ⟨hk.1.1.1.2, ⟨hk.1.1.2, hk.1.2⟩⟩⟩)⟩
            have n5_ : Aside0 (Kd.V (Kd.int .u32) 100 (((w44.setCell ⟨gb597, 0, none⟩ (.bool t599)).setCell ⟨gb597, 1, none⟩ (.slice Ao46 t600.length co46)).setCell ⟨gb597, 2, none⟩ (.slice Ao48 t603.length co48)) w.heap.size (fun k_ => (P1_ k_ ∨ w.heap.size ≤ k_) ∧ some k_ ≠ (.slice (some ad598) t582.length co40 : Value).ownBlock ∧ some k_ ≠ (v588 : Value).ownBlock ∧ some k_ ≠ (.slice Ao42 x598001_3.length co42 : Value).ownBlock ∧ some k_ ≠ (.slice Ao43 x598002_3.length co43 : Value).ownBlock ∧ some k_ ≠ (.slice Ao46 t600.length co46 : Value).ownBlock ∧ some k_ ≠ (.slice Ao48 t603.length co48 : Value).ownBlock ∧ k_ ≠ gb597) (.slice A598_1 ((rd_T46 t582 x12_3).f1).length c598_1) ((rd_T46 t582 x12_3).f1)) := ⟨by (with_reducible repeat (fail)); exact Kd.V_mono (Kd.V_far (p := ⟨gb597, 2, none⟩) (Kd.V_far (p := ⟨gb597, 1, none⟩) (Kd.V_far (p := ⟨gb597, 0, none⟩) (Kd.V_mono HL598_1.out (fun k_ hk => (⟨hk, hk.1.1.1.2.2.2.2⟩ : _ ∧ k_ ≠ gb597))) (fun _ hk => hk.2) (.bool t599)) (fun _ hk => hk.2) (.slice Ao46 t600.length co46)) (fun _ hk => hk.2) (.slice Ao48 t603.length co48)) (fun _ hk => ⟨hk.1.1.1.1.1, ⟨hk.1.1.1.2, ⟨hk.1.1.1.1.2.1, ⟨hk.1.1.1.1.2.2.1, ⟨hk.1.1.1.1.2.2.2.1, ⟨hk.1.1.2, ⟨hk.1.2, hk.1.1.1.1.2.2.2.2⟩⟩⟩⟩⟩⟩⟩)⟩
            have n6_ : Aside0 (Kd.V (Kd.int .u32) 100 (((w44.setCell ⟨gb597, 0, none⟩ (.bool t599)).setCell ⟨gb597, 1, none⟩ (.slice Ao46 t600.length co46)).setCell ⟨gb597, 2, none⟩ (.slice Ao48 t603.length co48)) w.heap.size (fun k_ => (P1_ k_ ∨ w.heap.size ≤ k_) ∧ some k_ ≠ (.slice (some ad598) t582.length co40 : Value).ownBlock ∧ some k_ ≠ (v588 : Value).ownBlock ∧ some k_ ≠ (.slice Ao42 x598001_3.length co42 : Value).ownBlock ∧ some k_ ≠ (.slice Ao43 x598002_3.length co43 : Value).ownBlock ∧ some k_ ≠ (.slice Ao46 t600.length co46 : Value).ownBlock ∧ some k_ ≠ (.slice Ao48 t603.length co48 : Value).ownBlock ∧ k_ ≠ gb597) (.slice A598_2 ((rd_T46 t582 x12_3).f2).length c598_2) ((rd_T46 t582 x12_3).f2)) := ⟨by (with_reducible repeat (fail)); exact Kd.V_mono (Kd.V_far (p := ⟨gb597, 2, none⟩) (Kd.V_far (p := ⟨gb597, 1, none⟩) (Kd.V_far (p := ⟨gb597, 0, none⟩) (Kd.V_mono HL598_2.out (fun k_ hk => (⟨hk, hk.1.1.1.2.2.2.2⟩ : _ ∧ k_ ≠ gb597))) (fun _ hk => hk.2) (.bool t599)) (fun _ hk => hk.2) (.slice Ao46 t600.length co46)) (fun _ hk => hk.2) (.slice Ao48 t603.length co48)) (fun _ hk => ⟨hk.1.1.1.1.1, ⟨hk.1.1.1.2, ⟨hk.1.1.1.1.2.1, ⟨hk.1.1.1.1.2.2.1, ⟨hk.1.1.1.1.2.2.2.1, ⟨hk.1.1.2, ⟨hk.1.2, hk.1.1.1.1.2.2.2.2⟩⟩⟩⟩⟩⟩⟩)⟩
            have n7_ : Aside0 (Kd.R (Kd.int .u32) 100 (((w44.setCell ⟨gb597, 0, none⟩ (.bool t599)).setCell ⟨gb597, 1, none⟩ (.slice Ao46 t600.length co46)).setCell ⟨gb597, 2, none⟩ (.slice Ao48 t603.length co48)) w.heap.size (fun k_ => (w.heap.size ≤ k_) ∧ some k_ ≠ (.slice Ao42 x598001_3.length co42 : Value).ownBlock ∧ some k_ ≠ (.slice Ao43 x598002_3.length co43 : Value).ownBlock ∧ some k_ ≠ (.slice Ao48 t603.length co48 : Value).ownBlock) (.slice Ao46 t600.length co46) t600) := ⟨by (with_reducible repeat (fail)); exact Kd.R_mono (Kd.R_far (p := ⟨gb597, 2, none⟩) (Kd.R_far (p := ⟨gb597, 1, none⟩) (Kd.R_far (p := ⟨gb597, 0, none⟩) (Kd.R_types HO602.out BK597.out (by decide)) (fun _ hk => hk.2) (.bool t599)) (fun _ hk => hk.2) (.slice Ao46 t600.length co46)) (fun _ hk => hk.2) (.slice Ao48 t603.length co48)) (fun _ hk => ⟨hk.1.1.1.1, ⟨hk.1.1.2, ⟨hk.1.2, hk.1.1.1.2⟩⟩⟩)⟩
            have n8_ : Aside0 (Kd.R (Kd.int .u32) 100 (((w44.setCell ⟨gb597, 0, none⟩ (.bool t599)).setCell ⟨gb597, 1, none⟩ (.slice Ao46 t600.length co46)).setCell ⟨gb597, 2, none⟩ (.slice Ao48 t603.length co48)) w.heap.size (fun k_ => (w.heap.size ≤ k_) ∧ some k_ ≠ (.slice Ao42 x598001_3.length co42 : Value).ownBlock ∧ some k_ ≠ (.slice Ao43 x598002_3.length co43 : Value).ownBlock ∧ some k_ ≠ (.slice Ao46 t600.length co46 : Value).ownBlock) (.slice Ao48 t603.length co48) t603) := ⟨by (with_reducible repeat (fail)); exact Kd.R_mono (Kd.R_far (p := ⟨gb597, 2, none⟩) (Kd.R_far (p := ⟨gb597, 1, none⟩) (Kd.R_far (p := ⟨gb597, 0, none⟩) (Kd.R_types HO605.out BK597.out (by decide)) (fun _ hk => hk.2) (.bool t599)) (fun _ hk => hk.2) (.slice Ao46 t600.length co46)) (fun _ hk => hk.2) (.slice Ao48 t603.length co48)) (fun _ hk => ⟨hk.1.1.1.1, ⟨hk.1.1.2, ⟨hk.1.2, hk.1.1.1.2⟩⟩⟩)⟩
            have n9_ : Aside0 ((((w44.setCell ⟨gb597, 0, none⟩ (.bool t599)).setCell ⟨gb597, 1, none⟩ (.slice Ao46 t600.length co46)).setCell ⟨gb597, 2, none⟩ (.slice Ao48 t603.length co48)).heap[gb597]? = some (.cells #[.bool t599, .slice Ao46 t600.length co46, .slice Ao48 t603.length co48] 46 (0, 0))) := ⟨by (with_reducible repeat (fail)); refine blk_put (cs := #[.bool t599, .slice Ao46 t600.length co46, .slice Ao43 x598002_3.length co43]) ?_ 2 _ rfl; (with_reducible repeat (fail)); refine blk_put (cs := #[.bool t599, .slice Ao42 x598001_3.length co42, .slice Ao43 x598002_3.length co43]) ?_ 1 _ rfl; (with_reducible repeat (fail)); refine blk_put (cs := #[.bool x598000_3, .slice Ao42 x598001_3.length co42, .slice Ao43 x598002_3.length co43]) ?_ 0 _ rfl; (with_reducible repeat (fail)); exact BK597.out⟩
            have n10_ : Aside0 (Below w.heap.size w (((w44.setCell ⟨gb597, 0, none⟩ (.bool t599)).setCell ⟨gb597, 1, none⟩ (.slice Ao46 t600.length co46)).setCell ⟨gb597, 2, none⟩ (.slice Ao48 t603.length co48))) := ⟨by repeat ((with_reducible first | exact HB.out | refine below_set ?_ GE597.out))⟩
            (try clear HO_1)
            (try clear HO_7)
            (try clear HO_9)
            (try clear HO_598001)
            (try clear HO_598002)
            (try clear HL598_1)
            (try clear HL598_2)
            (try clear HO602)
            (try clear HO605)
            (try clear BK597)
            (try clear HB)
            generalize (((w44.setCell ⟨gb597, 0, none⟩ (.bool t599)).setCell ⟨gb597, 1, none⟩ (.slice Ao46 t600.length co46)).setCell ⟨gb597, 2, none⟩ (.slice Ao48 t603.length co48)) = w50 at n0_ n1_ n2_ n3_ n4_ n5_ n6_ n7_ n8_ n9_ n10_ ⊢
            have HO_1 := n0_
            have HO_7 := n1_
            have HO_9 := n2_
            have HO_598001 := n3_
            have HO_598002 := n4_
            have HL598_1 := n5_
            have HL598_2 := n6_
            have HO602 := n7_
            have HO605 := n8_
            have BK597 := n9_
            have HB := n10_
            clear n0_ n1_ n2_ n3_ n4_ n5_ n6_ n7_ n8_ n9_ n10_
            have p606 : 0 ≤ (x12_3 : Int) := of_decide_eq_true (by (with_reducible assumption))
            have q606 : x12_3 < (t582.length : Int) := of_decide_eq_true (by (with_reducible assumption))
            obtain ⟨ad606, A606_1, c606_1, A606_2, c606_2, e606, hx606_0, hx606_1, hx606_2, hl606_1, hi606_1, hl606_2, hi606_2⟩ := at_T46 (Kd.N_reads' HO_7.out).2.2 x12_3 p606 q606
            obtain rfl : ad598 = ad606 := (by injection e606)
            obtain ⟨ce606, hce606, hMe606, hcc606⟩ := Kd.N_get HO_7.out z46 x12_3 p606 (by exact q606)
            obtain ⟨ua606_1, uc606_1, ua606_2, uc606_2, rfl, ul606_1, ge606_1, ul606_2, ge606_2⟩ := k46_openF hMe606
            have hv606_1 := hcc606 1 _ rfl
            rw [add_field _ _ 1 (by omega)] at hv606_1
            replace hv606_1 := Option.some.inj (hv606_1.symm.trans hx606_1)
            injection hv606_1 with hva_ hvn_ hvc_
            rw [hva_] at ge606_1
            rw [hvc_] at ul606_1
            have HL606_1 := Aside0.mk (show Kd.V (Kd.int .u32) 100 _ w.heap.size _ _ ((rd_T46 t582 x12_3).f1) from Kd.V_mk ul606_1 ge606_1)
            clear hva_ hvn_ hvc_ ge606_1 ul606_1
            have hv606_2 := hcc606 2 _ rfl
            rw [add_field _ _ 2 (by omega)] at hv606_2
            replace hv606_2 := Option.some.inj (hv606_2.symm.trans hx606_2)
            injection hv606_2 with hva_ hvn_ hvc_
            rw [hva_] at ge606_2
            rw [hvc_] at ul606_2
            have HL606_2 := Aside0.mk (show Kd.V (Kd.int .u32) 100 _ w.heap.size _ _ ((rd_T46 t582 x12_3).f2) from Kd.V_mk ul606_2 ge606_2)
            clear hva_ hvn_ hvc_ ge606_2 ul606_2
            clear hcc606 hce606
            have HR606_1 := Aside0.mk hi606_1
            have HC606_1 := Aside0.mk hl606_1
            clear hi606_1 hl606_1
            have HR606_2 := Aside0.mk hi606_2
            have HC606_2 := Aside0.mk hl606_2
            clear hi606_2 hl606_2
            replace p606 := eq_true p606
            replace q606 := eq_true q606
            try go_wp2_with (((with_reducible refine gate_callee (f := 32) rfl ?_); refine goesL_ (some 65) rfl rfl Try.func32 (by kernel_rfl) rfl #[.agg #[.bool ((rd_T46 t582 x12_3).f0), .slice A606_1 ((rd_T46 t582 x12_3).f1).length c606_1, .slice A606_2 ((rd_T46 t582 x12_3).f2).length c606_2]] rfl (by (try simp only [List.map_toArray, List.map_cons, List.map_nil]); rfl) ?_; (with_reducible refine (codewrightref02_Sign.calls k3 ((rd_T46 t582 x12_3).f0) _ _ ((rd_T46 t582 x12_3).f1) _ _ ((rd_T46 t582 x12_3).f2) t607 _ ?side1 ?side2 ?side3 ?side4 A26.out).mono ?_); (case side1 => repeat (exact (by repeat ((with_reducible exact HR606_1.out))))); (case side2 => exact HC606_1.out); (case side3 => repeat (exact (by repeat ((with_reducible exact HR606_2.out))))); (case side4 => exact HC606_2.out); rintro e w51 ⟨rfl, hb⟩; refine ⟨_, rfl, ?_⟩; have n0_ := Aside0.mk (Kd.V_below (by (with_reducible repeat (fail)); exact HO_1.out) hb); have n1_ := Aside0.mk (Kd.N_below (by (with_reducible repeat (fail)); exact HO_7.out) hb); have n2_ := Aside0.mk (Kd.N_below (by (with_reducible repeat (fail)); exact HO_9.out) hb); have n3_ := Aside0.mk (Kd.R_below (by (with_reducible repeat (fail)); exact HO_598001.out) hb); have n4_ := Aside0.mk (Kd.R_below (by (with_reducible repeat (fail)); exact HO_598002.out) hb); have n5_ := Aside0.mk (Kd.V_below (by (with_reducible repeat (fail)); exact HL598_1.out) hb); have n6_ := Aside0.mk (Kd.V_below (by (with_reducible repeat (fail)); exact HL598_2.out) hb); have n7_ := Aside0.mk (Kd.R_below (by (with_reducible repeat (fail)); exact HO602.out) hb); have n8_ := Aside0.mk (Kd.R_below (by (with_reducible repeat (fail)); exact HO605.out) hb); have n9_ := Aside0.mk (Kd.V_below (by (with_reducible repeat (fail)); exact HL606_1.out) hb); have n10_ := Aside0.mk (Kd.V_below (by (with_reducible repeat (fail)); exact HL606_2.out) hb); have n11_ := Aside0.mk (blk_below (g := gb597) (o := .cells #[.bool t599, .slice Ao46 t600.length co46, .slice Ao48 t603.length co48] 46 (0, 0)) (by (with_reducible repeat (fail)); exact BK597.out) hb); have n12_ := Aside0.mk (Kd.C_below (by repeat ((with_reducible exact HR606_1.out))) hb); have n13_ := Aside0.mk (Kd.C_below (by repeat ((with_reducible exact HR606_2.out))) hb); have n14_ := Aside0.mk (below_step (by repeat ((with_reducible exact HB.out))) hb); clear HO_1; clear HO_7; clear HO_9; clear HO_598001; clear HO_598002; clear HL598_1; clear HL598_2; clear HO602; clear HO605; clear HL606_1; clear HL606_2; clear BK597; clear HR606_1; clear HR606_2; clear HB; have HO_1 := n0_; have HO_7 := n1_; have HO_9 := n2_; have HO_598001 := n3_; have HO_598002 := n4_; have HL598_1 := n5_; have HL598_2 := n6_; have HO602 := n7_; have HO605 := n8_; have HL606_1 := n9_; have HL606_2 := n10_; have BK597 := n11_; have HR606_1 := n12_; have HR606_2 := n13_; have HB := n14_; clear n0_ n1_ n2_ n3_ n4_ n5_ n6_ n7_ n8_ n9_ n10_ n11_ n12_ n13_ n14_; (try clear hb)))
            go_roundg k3
            case measure => have := HJ2.out; have := HK2.out; have := HK3.out; omega
            case rel => exact ⟨(wrap64 (x12_3 + 1)), (t599), (t600), (t603), (.slice Ao46 t600.length co46), (.slice Ao48 t603.length co48), (by rfl), H', ⟨by have := HJ2.out; have := HK2.out; have := HK3.out; omega⟩, ⟨by (with_reducible repeat (fail)); exact Kd.V_mono HO_1.out (fun _ hk => ⟨hk.1, ⟨hk.2.1, ⟨hk.2.2.1, ⟨hk.2.2.2.2.2.1, ⟨hk.2.2.2.2.2.2.1, hk.2.2.2.2.2.2.2⟩⟩⟩⟩⟩)⟩, ⟨by (with_reducible repeat (fail)); exact Kd.N_mono HO_7.out (fun _ hk => ⟨hk.1, ⟨hk.2.1, ⟨hk.2.2.2.2.1, ⟨hk.2.2.2.2.2.1, hk.2.2.2.2.2.2⟩⟩⟩⟩)⟩, ⟨by (with_reducible repeat (fail)); exact Kd.N_mono HO_9.out (fun _ hk => ⟨hk.1, ⟨hk.2.1, ⟨hk.2.2.2.2.1, ⟨hk.2.2.2.2.2.1, hk.2.2.2.2.2.2⟩⟩⟩⟩)⟩, ⟨by (with_reducible repeat (fail)); exact Kd.R_mono HO602.out (fun _ hk => ⟨hk.1, hk.2.2.2⟩)⟩, ⟨by (with_reducible repeat (fail)); exact Kd.R_mono HO605.out (fun _ hk => ⟨hk.1, hk.2.2.2⟩)⟩, ⟨by (with_reducible repeat (fail)); exact BK597.out⟩, ⟨by repeat ((with_reducible exact HB.out))⟩⟩
          ·rw [if_neg c24] at H
           exact absurd H (by simp)
         ·rw [if_neg c23] at H
          have c23b0 : decide (x12_3 < (t582.length : Int)) = false := decide_eq_false c23
          clear c23
          by_cases c52 : t583 = 0
          ·rw [if_pos c52] at H
           have c52b0 : (t583 == 0) = true := beq_iff_eq.mpr c52
           have c52b1 : (t583 != 0) = false := bne_eq_false_iff_eq.mpr c52
           clear c52
           by_cases c53 : t587 = 0
           ·rw [if_pos c53] at H
            have c53b0 : (t587 == 0) = true := beq_iff_eq.mpr c53
            have c53b1 : (t587 != 0) = false := bne_eq_false_iff_eq.mpr c53
            clear c53
            replace H := Option.bind_eq_some_iff.mp H
            obtain ⟨t608, A540, H⟩ := H
            replace H : (if t608 = true then ((codewrightref02_Int.f k3 (l1.length : Int)).bind fun bt609 => ((codewrightref02_Same.f k3 x598000_3 x598001_3 x598002_3 bt609.1 bt609.2.1 bt609.2.2).bind fun t616 => (some t616))) else (some false)) = some r := H
            have A54 := Aside0.mk A540
            clear A540
            by_cases c55 : t608 = true
            ·subst c55
             have H1 : ((codewrightref02_Int.f k3 (l1.length : Int)).bind fun bt609 => ((codewrightref02_Same.f k3 x598000_3 x598001_3 x598002_3 bt609.1 bt609.2.1 bt609.2.2).bind fun t616 => (some t616))) = some r := by rw [if_pos rfl] at H; exact H
             clear H
             have H := H1
             clear H1
             replace H := Option.bind_eq_some_iff.mp H
             obtain ⟨⟨t609, t610, t613⟩, A560, H⟩ := H
             replace H : ((codewrightref02_Same.f k3 x598000_3 x598001_3 x598002_3 t609 t610 t613).bind fun t616 => (some t616)) = some r := H
             have A56 := Aside0.mk A560
             clear A560
             replace H := Option.bind_eq_some_iff.mp H
             obtain ⟨t616, A570, H⟩ := H
             replace H : (some t616) = some r := H
             have A57 := Aside0.mk A570
             clear A570
             obtain rfl := Option.some.inj H
             obtain ⟨Ao58, co58, eo58⟩ := Kd.N_slice HO_7.out
             subst eo58
             try go_wp2
             have n0_ := Aside0.mk (Kd.V_drew HO_1.out)
             have n1_ := Aside0.mk (Kd.N_drew HO_7.out)
             have n2_ := Aside0.mk (Kd.N_drew HO_9.out)
             have n3_ := Aside0.mk (Kd.R_drew HO_598001.out)
             have n4_ := Aside0.mk (Kd.R_drew HO_598002.out)
             have n5_ := Aside0.mk (blk_drew BK597.out)
             have n6_ := Aside0.mk (below_drew1 HB.out)
             clear HO_1
             clear HO_7
             clear HO_9
             clear HO_598001
             clear HO_598002
             clear BK597
             clear HB
             have HO_1 := n0_
             have HO_7 := n1_
             have HO_9 := n2_
             have HO_598001 := n3_
             have HO_598002 := n4_
             have BK597 := n5_
             have HB := n6_
             clear n0_ n1_ n2_ n3_ n4_ n5_ n6_
             obtain ⟨Ao60, co60, eo60⟩ := Kd.N_slice HO_9.out
             (subst eo60)
             refine start_ (n := 19) (S := fun w' => w'.cell? ⟨gb597, 0, none⟩ = some (.bool x598000_3) ∧ w'.cell? ⟨gb597, 1, none⟩ = some (u598001) ∧ w'.cell? ⟨gb597, 2, none⟩ = some (u598002)) (ds := []) #[false, false, false, false, false, false, false, false, false, false, false, false, false, false, false, false, false, false, false] (by kernel_rfl) rfl rfl ⟨(blk_cell BK597.out 0).trans rfl, (blk_cell BK597.out 1).trans rfl, (blk_cell BK597.out 2).trans rfl⟩ (fun hHeld => ?_); refine with_tabW codewrightlaw36_DelsarteSums.tab17 codewrightlaw36_DelsarteSums.bits17 (fun HT_ HW_ => ?_)
             generalize wr.drew = w59 at HO_1 HO_7 HO_9 HO_598001 HO_598002 BK597 HB hHeld ⊢
             refine pure_ (i := 0) (N := some 67) (v := ?_) (a' := ?_) #[true, false, false, false, false, false, false, false, false, false, false, false, false, false, false, false, false, false, false] rfl rfl (any_of HT_.out (by kernel_rfl)) (fun _ _ _ h => h) (Or.inl ⟨by rfl, ?_⟩) ?_ ?_
             rotate_left
             ·intro w'
              go_simp
              with_reducible rfl
             rotate_left
             ·simp only [Act.put, List.setIfInBounds_toArray, List.set_cons_zero, List.set_cons_succ, i64_w, i32_w]
              rfl
             refine pure_ (i := 1) (N := some 68) (v := ?_) (a' := ?_) #[true, true, false, false, false, false, false, false, false, false, false, false, false, false, false, false, false, false, false] rfl rfl (any_of HT_.out (by kernel_rfl)) (fun _ _ _ h => h) (Or.inl ⟨by rfl, ?_⟩) ?_ ?_
             rotate_left
             ·intro w'
              go_simp
              with_reducible rfl
             rotate_left
             ·simp only [Act.put, List.setIfInBounds_toArray, List.set_cons_zero, List.set_cons_succ, i64_w, i32_w]
              rfl
             refine pure_ (i := 2) (N := some 69) (v := ?_) (a' := ?_) #[true, true, true, false, false, false, false, false, false, false, false, false, false, false, false, false, false, false, false] rfl rfl (any_of HT_.out (by kernel_rfl)) (fun _ _ _ h => h) (Or.inl ⟨by rfl, ?_⟩) ?_ ?_
             rotate_left
             ·intro w'
              go_simp
              with_reducible rfl
             rotate_left
             ·simp only [Act.put, List.setIfInBounds_toArray, List.set_cons_zero, List.set_cons_succ, i64_w, i32_w]
              rfl
             refine pure_ (i := 3) (N := some 70) (v := ?_) (a' := ?_) #[true, true, true, true, false, false, false, false, false, false, false, false, false, false, false, false, false, false, false] rfl rfl (any_of HT_.out (by kernel_rfl)) (fun _ _ _ h => h) (Or.inl ⟨by rfl, ?_⟩) ?_ ?_
             rotate_left
             ·intro w'
              go_simp
              with_reducible rfl
             rotate_left
             ·simp only [Act.put, List.setIfInBounds_toArray, List.set_cons_zero, List.set_cons_succ, i64_w, i32_w]
              rfl
             refine pure_ (i := 4) (N := some 71) (v := ?_) (a' := ?_) #[true, true, true, true, true, false, false, false, false, false, false, false, false, false, false, false, false, false, false] rfl rfl (any_of HT_.out (by kernel_rfl)) (fun _ _ _ h => h) (Or.inl ⟨by rfl, ?_⟩) ?_ ?_
             rotate_left
             ·intro w'
              go_simp
              with_reducible rfl
             rotate_left
             ·simp only [Act.put, List.setIfInBounds_toArray, List.set_cons_zero, List.set_cons_succ, i64_w, i32_w]
              rfl
             refine pure_ (i := 5) (N := some 72) (v := ?_) (a' := ?_) #[true, true, true, true, true, true, false, false, false, false, false, false, false, false, false, false, false, false, false] rfl rfl (any_of HT_.out (by kernel_rfl)) (fun _ _ _ h => h) (Or.inl ⟨by rfl, ?_⟩) ?_ ?_
             rotate_left
             ·intro w'
              go_simp
              with_reducible rfl
             rotate_left
             ·simp only [Act.put, List.setIfInBounds_toArray, List.set_cons_zero, List.set_cons_succ, i64_w, i32_w]
              rfl
             refine pure_ (i := 6) (N := some 73) (v := ?_) (a' := ?_) #[true, true, true, true, true, true, true, false, false, false, false, false, false, false, false, false, false, false, false] rfl rfl (any_of HT_.out (by kernel_rfl)) (fun _ _ _ h => h) (Or.inl ⟨by rfl, ?_⟩) ?_ ?_
             rotate_left
             ·intro w'
              go_simp
              with_reducible rfl
             rotate_left
             ·simp only [Act.put, List.setIfInBounds_toArray, List.set_cons_zero, List.set_cons_succ, i64_w, i32_w]
              rfl
             refine pure_ (i := 7) (N := some 74) (v := ?_) (a' := ?_) #[true, true, true, true, true, true, true, true, false, false, false, false, false, false, false, false, false, false, false] rfl rfl (any_of HT_.out (by kernel_rfl)) (fun _ _ _ h => h) (Or.inl ⟨by rfl, ?_⟩) ?_ ?_
             rotate_left
             ·intro w'
              go_simp
              with_reducible rfl
             rotate_left
             ·simp only [Act.put, List.setIfInBounds_toArray, List.set_cons_zero, List.set_cons_succ, i64_w, i32_w]
              rfl
             refine pure_ (i := 8) (N := some 75) (v := ?_) (a' := ?_) #[true, true, true, true, true, true, true, true, true, false, false, false, false, false, false, false, false, false, false] rfl rfl (any_of HT_.out (by kernel_rfl)) (fun _ _ _ h => h) (Or.inl ⟨by rfl, ?_⟩) ?_ ?_
             rotate_left
             ·intro w'
              go_simp
              with_reducible rfl
             rotate_left
             ·simp only [Act.put, List.setIfInBounds_toArray, List.set_cons_zero, List.set_cons_succ, i64_w, i32_w]
              rfl
             refine one_ (i := 9) (N := some 76) #[true, true, true, true, true, true, true, true, true, true, false, false, false, false, false, false, false, false, false] rfl rfl (one_of HT_.out (by kernel_rfl)) (by decide) (fun K hK => ?_)
             refine goes_ Try.func27 (by kernel_rfl) rfl #[.slice Ao58 t582.length co58, .slice Ao60 t586.length co60] (by rfl) rfl rfl (by (try simp only [List.map_toArray, List.map_cons, List.map_nil]); rfl) ?_
             with_reducible refine (codewrightref02_SameList.calls k3 _ _ t582 _ _ t586 true _ ?side1 ?side2 ?side3 ?side4 A54.out).mono ?_
             (case side1 => exact (Kd.N_reads' HO_7.out).2.2)
             (case side2 => exact (Kd.N_reads' HO_7.out).2.1)
             (case side3 => exact (Kd.N_reads' HO_9.out).2.2)
             (case side4 => exact (Kd.N_reads' HO_9.out).2.1)
             rintro e w61 ⟨rfl, hb⟩
             refine ⟨_, rfl, ?_⟩
             have n0_ := Aside0.mk (Kd.V_below (by (with_reducible repeat (fail)); exact HO_1.out) hb)
             have n1_ := Aside0.mk (Kd.N_below (by (with_reducible repeat (fail)); exact HO_7.out) hb)
             have n2_ := Aside0.mk (Kd.N_below (by (with_reducible repeat (fail)); exact HO_9.out) hb)
             have n3_ := Aside0.mk (Kd.R_below (by (with_reducible repeat (fail)); exact HO_598001.out) hb)
             have n4_ := Aside0.mk (Kd.R_below (by (with_reducible repeat (fail)); exact HO_598002.out) hb)
             have n5_ := Aside0.mk (blk_below (g := gb597) (o := .cells #[.bool x598000_3, u598001, u598002] 46 (0, 0)) (by (with_reducible repeat (fail)); exact BK597.out) hb)
             have n6_ := Aside0.mk (below_step (by repeat ((with_reducible exact HB.out))) hb)
             clear HO_1
             clear HO_7
             clear HO_9
             clear HO_598001
             clear HO_598002
             clear BK597
             clear HB
             have HO_1 := n0_
             have HO_7 := n1_
             have HO_9 := n2_
             have HO_598001 := n3_
             have HO_598002 := n4_
             have BK597 := n5_
             have HB := n6_
             clear n0_ n1_ n2_ n3_ n4_ n5_ n6_
             (try clear hb)
             refine hK.out _ _ ⟨(blk_cell BK597.out 0).trans rfl, (blk_cell BK597.out 1).trans rfl, (blk_cell BK597.out 2).trans rfl⟩ (fun hHeld => ?_)
             clear hK K
             refine norm_ (a' := ?_) ?_ ?_
             rotate_left
             ·show Act.put _ (some 76) _ = _
              simp only [Act.put, List.setIfInBounds_toArray, List.set_cons_zero, List.set_cons_succ, i64_w, i32_w]
              rfl
             refine pure_ (i := 10) (N := some 77) (v := ?_) (a' := ?_) #[true, true, true, true, true, true, true, true, true, true, true, false, false, false, false, false, false, false, false] rfl rfl (any_of HT_.out (by kernel_rfl)) (fun _ _ _ h => h) (Or.inl ⟨by rfl, ?_⟩) ?_ ?_
             rotate_left
             ·intro w'
              go_simp
              with_reducible rfl
             rotate_left
             ·simp only [Act.put, List.setIfInBounds_toArray, List.set_cons_zero, List.set_cons_succ, i64_w, i32_w]
              rfl
             refine pure_ (i := 11) (N := some 78) (v := ?_) (a' := ?_) #[true, true, true, true, true, true, true, true, true, true, true, true, false, false, false, false, false, false, false] rfl rfl (any_of HT_.out (by kernel_rfl)) (fun _ _ _ h => h) (Or.inl ⟨by rfl, ?_⟩) ?_ ?_
             rotate_left
             ·intro w'
              go_simp
              with_reducible rfl
             rotate_left
             ·simp only [Act.put, List.setIfInBounds_toArray, List.set_cons_zero, List.set_cons_succ, i64_w, i32_w]
              rfl
             refine pure_ (i := 13) (N := some 80) (v := ?_) (a' := ?_) #[true, true, true, true, true, true, true, true, true, true, true, true, false, true, false, false, false, false, false] rfl rfl (any_of HT_.out (by kernel_rfl)) (fun _ _ _ h => h) (Or.inl ⟨by rfl, ?_⟩) ?_ ?_
             rotate_left
             ·intro w'
              go_simp
              with_reducible rfl
             rotate_left
             ·simp only [Act.put, List.setIfInBounds_toArray, List.set_cons_zero, List.set_cons_succ, i64_w, i32_w]
              rfl
             refine pure_ (i := 14) (N := some 81) (v := ?_) (a' := ?_) #[true, true, true, true, true, true, true, true, true, true, true, true, false, true, true, false, false, false, false] rfl rfl (any_of HT_.out (by kernel_rfl)) (fun _ _ _ h => h) (Or.inl ⟨by rfl, ?_⟩) ?_ ?_
             rotate_left
             ·intro w'
              go_simp
              with_reducible rfl
             rotate_left
             ·simp only [Act.put, List.setIfInBounds_toArray, List.set_cons_zero, List.set_cons_succ, i64_w, i32_w]
              rfl
             refine take_ (i := 12) (N := some 79) (v := ?_) (a' := ?_) #[true, true, true, true, true, true, true, true, true, true, true, true, true, true, true, false, false, false, false] rfl rfl (take_ofW HT_.out HW_.out (by kernel_rfl)) (fun _ _ _ h => h) (Or.inl ⟨by rfl, ?_⟩) hHeld ?_ ?_
             rotate_left
             ·rintro w' ⟨s0, s1, s2⟩
              go_simp
              with_reducible rfl
             rotate_left
             ·simp only [Act.put, List.setIfInBounds_toArray, List.set_cons_zero, List.set_cons_succ, i64_w, i32_w]
              rfl
             refine one_ (i := 15) (N := some 82) #[true, true, true, true, true, true, true, true, true, true, true, true, true, true, true, true, false, false, false] rfl rfl (one_of HT_.out (by kernel_rfl)) (by decide) (fun K hK => ?_)
             refine goes_ Try.func30 (by kernel_rfl) rfl #[.int .i64 (l1.length : Int)] (by rfl) rfl rfl (by (try simp only [List.map_toArray, List.map_cons, List.map_nil]); rfl) ?_
             with_reducible refine (codewrightref02_Int.calls k3 (l1.length : Int) t609 t610 t613 _ A56.out).mono ?_
             rintro e w62 ⟨v611, v614, rfl, ho0, ho1, hb⟩
             refine ⟨_, rfl, ?_⟩
             have n0_ := Aside0.mk (Kd.V_mono (Kd.V_told (Kd.V_told (Kd.V_old (by (with_reducible repeat (fail)); exact HO_1.out) hb) (Kd.R_base ho0)) (Kd.R_base ho1)) (fun _ h_ => h_.1))
             have n1_ := Aside0.mk (Kd.N_mono (Kd.N_told (Kd.N_told (Kd.N_old (by (with_reducible repeat (fail)); exact HO_7.out) hb) (Kd.R_base ho0)) (Kd.R_base ho1)) (fun _ h_ => h_.1))
             have n2_ := Aside0.mk (Kd.N_mono (Kd.N_told (Kd.N_told (Kd.N_old (by (with_reducible repeat (fail)); exact HO_9.out) hb) (Kd.R_base ho0)) (Kd.R_base ho1)) (fun _ h_ => h_.1))
             have n3_ := Aside0.mk (Kd.R_mono (Kd.R_told (Kd.R_told (Kd.R_old (by (with_reducible repeat (fail)); exact HO_598001.out) hb) (Kd.R_base ho0)) (Kd.R_base ho1)) (fun _ h_ => h_.1))
             have n4_ := Aside0.mk (Kd.R_mono (Kd.R_told (Kd.R_told (Kd.R_old (by (with_reducible repeat (fail)); exact HO_598002.out) hb) (Kd.R_base ho0)) (Kd.R_base ho1)) (fun _ h_ => h_.1))
             have n5_ := Aside0.mk (Kd.R_lower (Kd.R_new' (Kd.R_new' (Kd.R_newM (M := fun k_ => (w.heap.size ≤ k_)) ho0 (below_size (by repeat ((with_reducible exact HB.out)))) (fun k_ h_ => h_)) (Kd.R_lt (by (with_reducible repeat (fail)); exact HO_598001.out))) (Kd.R_lt (by (with_reducible repeat (fail)); exact HO_598002.out))) (below_size (by repeat ((with_reducible exact HB.out)))))
             have n6_ := Aside0.mk (Kd.R_lower (Kd.R_new' (Kd.R_new' (Kd.R_newM (M := fun k_ => (w.heap.size ≤ k_)) ho1 (below_size (by repeat ((with_reducible exact HB.out)))) (fun k_ h_ => h_)) (Kd.R_lt (by (with_reducible repeat (fail)); exact HO_598001.out))) (Kd.R_lt (by (with_reducible repeat (fail)); exact HO_598002.out))) (below_size (by repeat ((with_reducible exact HB.out)))))
             have n7_ := Aside0.mk (blk_below (g := gb597) (o := .cells #[.bool x598000_3, u598001, u598002] 46 (0, 0)) (by (with_reducible repeat (fail)); exact BK597.out) hb)
             have n8_ := Aside0.mk (below_step (by repeat ((with_reducible exact HB.out))) hb)
             clear HO_1
             clear HO_7
             clear HO_9
             clear HO_598001
             clear HO_598002
             clear BK597
             clear HB
             have HO_1 := n0_
             have HO_7 := n1_
             have HO_9 := n2_
             have HO_598001 := n3_
             have HO_598002 := n4_
             have HO612 := n5_
             have HO615 := n6_
             have BK597 := n7_
             have HB := n8_
             clear n0_ n1_ n2_ n3_ n4_ n5_ n6_ n7_ n8_
             (try clear hb)
             (try clear ho0)
             (try clear ho1)
             obtain ⟨Ao63, co63, eo63⟩ := Kd.R_slice HO_598001.out
             (subst eo63)
             obtain ⟨Ao64, co64, eo64⟩ := Kd.R_slice HO_598002.out
             (subst eo64)
             obtain ⟨Ao65, co65, eo65⟩ := Kd.R_slice HO612.out
             (subst eo65)
             obtain ⟨Ao66, co66, eo66⟩ := Kd.R_slice HO615.out
             (subst eo66)
             refine hK.out _ _ ⟨(blk_cell BK597.out 0).trans rfl, (blk_cell BK597.out 1).trans rfl, (blk_cell BK597.out 2).trans rfl⟩ (fun hHeld => ?_)
             clear hK K
             refine norm_ (a' := ?_) ?_ ?_
             rotate_left
             ·show Act.put _ (some 82) _ = _
              simp only [Act.put, List.setIfInBounds_toArray, List.set_cons_zero, List.set_cons_succ, i64_w, i32_w]
              rfl
             refine one_ (i := 16) (N := some 83) #[true, true, true, true, true, true, true, true, true, true, true, true, true, true, true, true, true, false, false] rfl rfl (one_of HT_.out (by kernel_rfl)) (by decide) (fun K hK => ?_)
             refine goes_ Try.func34 (by kernel_rfl) rfl #[.agg #[.bool x598000_3, .slice Ao63 x598001_3.length co63, .slice Ao64 x598002_3.length co64], .agg #[.bool t609, .slice Ao65 t610.length co65, .slice Ao66 t613.length co66]] (by rfl) rfl rfl (by (try simp only [List.map_toArray, List.map_cons, List.map_nil]); rfl) ?_
             with_reducible refine (codewrightref02_Same.calls k3 x598000_3 _ _ x598001_3 _ _ x598002_3 t609 _ _ t610 _ _ t613 t616 _ ?side1 ?side2 ?side3 ?side4 ?side5 ?side6 ?side7 ?side8 A57.out).mono ?_
             (case side1 => exact (Kd.R_reads' HO_598001.out).2.2)
             (case side2 => exact (Kd.R_reads' HO_598001.out).2.1)
             (case side3 => exact (Kd.R_reads' HO_598002.out).2.2)
             (case side4 => exact (Kd.R_reads' HO_598002.out).2.1)
             (case side5 => exact (Kd.R_reads' HO612.out).2.2)
             (case side6 => exact (Kd.R_reads' HO612.out).2.1)
             (case side7 => exact (Kd.R_reads' HO615.out).2.2)
             (case side8 => exact (Kd.R_reads' HO615.out).2.1)
             rintro e w67 ⟨rfl, hb⟩
             refine ⟨_, rfl, ?_⟩
             have n0_ := Aside0.mk (Kd.V_below (by (with_reducible repeat (fail)); exact HO_1.out) hb)
             have n1_ := Aside0.mk (Kd.N_below (by (with_reducible repeat (fail)); exact HO_7.out) hb)
             have n2_ := Aside0.mk (Kd.N_below (by (with_reducible repeat (fail)); exact HO_9.out) hb)
             have n3_ := Aside0.mk (Kd.R_below (by (with_reducible repeat (fail)); exact HO_598001.out) hb)
             have n4_ := Aside0.mk (Kd.R_below (by (with_reducible repeat (fail)); exact HO_598002.out) hb)
             have n5_ := Aside0.mk (Kd.R_below (by (with_reducible repeat (fail)); exact HO612.out) hb)
             have n6_ := Aside0.mk (Kd.R_below (by (with_reducible repeat (fail)); exact HO615.out) hb)
             have n7_ := Aside0.mk (blk_below (g := gb597) (o := .cells #[.bool x598000_3, .slice Ao63 x598001_3.length co63, .slice Ao64 x598002_3.length co64] 46 (0, 0)) (by (with_reducible repeat (fail)); exact BK597.out) hb)
             have n8_ := Aside0.mk (below_step (by repeat ((with_reducible exact HB.out))) hb)
             clear HO_1
             clear HO_7
             clear HO_9
             clear HO_598001
             clear HO_598002
             clear HO612
             clear HO615
             clear BK597
             clear HB
             have HO_1 := n0_
             have HO_7 := n1_
             have HO_9 := n2_
             have HO_598001 := n3_
             have HO_598002 := n4_
             have HO612 := n5_
             have HO615 := n6_
             have BK597 := n7_
             have HB := n8_
             clear n0_ n1_ n2_ n3_ n4_ n5_ n6_ n7_ n8_
             (try clear hb)
             refine hK.out _ _ ⟨(blk_cell BK597.out 0).trans rfl, (blk_cell BK597.out 1).trans rfl, (blk_cell BK597.out 2).trans rfl⟩ (fun hHeld => ?_)
             clear hK K
             refine norm_ (a' := ?_) ?_ ?_
             rotate_left
             ·show Act.put _ (some 83) _ = _
              simp only [Act.put, List.setIfInBounds_toArray, List.set_cons_zero, List.set_cons_succ, i64_w, i32_w]
              rfl
             refine pure_ (i := 17) (N := some 84) (v := ?_) (a' := ?_) #[true, true, true, true, true, true, true, true, true, true, true, true, true, true, true, true, true, true, false] rfl rfl (any_of HT_.out (by kernel_rfl)) (fun _ _ _ h => h) (Or.inl ⟨by rfl, ?_⟩) ?_ ?_
             rotate_left
             ·intro w'
              go_simp
              with_reducible rfl
             rotate_left
             ·simp only [Act.put, List.setIfInBounds_toArray, List.set_cons_zero, List.set_cons_succ, i64_w, i32_w]
              rfl
             refine pure_ (i := 18) (N := some 4) (v := ?_) (a' := ?_) #[true, true, true, true, true, true, true, true, true, true, true, true, true, true, true, true, true, true, true] rfl rfl (any_of HT_.out (by kernel_rfl)) (fun _ _ _ h => h) (Or.inl ⟨by rfl, ?_⟩) ?_ ?_
             rotate_left
             ·intro w'
              go_simp
              with_reducible rfl
             rotate_left
             ·simp only [Act.put, List.setIfInBounds_toArray, List.set_cons_zero, List.set_cons_succ, i64_w, i32_w]
              rfl
             refine done_ (done_of HT_.out (by kernel_rfl)) ?_
             try go_wp2
             go_ret
             exact ⟨by rfl, by repeat ((with_reducible exact HB.out))⟩
            ·replace c55 := Bool.eq_false_iff.mpr c55
             subst c55
             have H1 : (some false) = some r := by rw [if_neg (show ¬ (false = true) by decide)] at H; exact H
             clear H
             have H := H1
             clear H1
             obtain rfl := Option.some.inj H
             obtain ⟨Ao68, co68, eo68⟩ := Kd.N_slice HO_7.out
             subst eo68
             try go_wp2
             have n0_ := Aside0.mk (Kd.V_drew HO_1.out)
             have n1_ := Aside0.mk (Kd.N_drew HO_7.out)
             have n2_ := Aside0.mk (Kd.N_drew HO_9.out)
             have n3_ := Aside0.mk (Kd.R_drew HO_598001.out)
             have n4_ := Aside0.mk (Kd.R_drew HO_598002.out)
             have n5_ := Aside0.mk (blk_drew BK597.out)
             have n6_ := Aside0.mk (below_drew1 HB.out)
             clear HO_1
             clear HO_7
             clear HO_9
             clear HO_598001
             clear HO_598002
             clear BK597
             clear HB
             have HO_1 := n0_
             have HO_7 := n1_
             have HO_9 := n2_
             have HO_598001 := n3_
             have HO_598002 := n4_
             have BK597 := n5_
             have HB := n6_
             clear n0_ n1_ n2_ n3_ n4_ n5_ n6_
             obtain ⟨Ao70, co70, eo70⟩ := Kd.N_slice HO_9.out
             (subst eo70)
             refine start_ (n := 19) (S := fun w' => True) (ds := []) #[false, false, false, false, false, false, false, false, false, false, false, false, false, false, false, false, false, false, false] (by kernel_rfl) rfl rfl trivial (fun hHeld => ?_); refine with_tabW codewrightlaw36_DelsarteSums.tab17 codewrightlaw36_DelsarteSums.bits17 (fun HT_ HW_ => ?_)
             generalize wr.drew = w69 at HO_1 HO_7 HO_9 HO_598001 HO_598002 BK597 HB hHeld ⊢
             refine pure_ (i := 0) (N := some 67) (v := ?_) (a' := ?_) #[true, false, false, false, false, false, false, false, false, false, false, false, false, false, false, false, false, false, false] rfl rfl (any_of HT_.out (by kernel_rfl)) (fun _ _ _ h => h) (Or.inl ⟨by rfl, ?_⟩) ?_ ?_
             rotate_left
             ·intro w'
              go_simp
              with_reducible rfl
             rotate_left
             ·simp only [Act.put, List.setIfInBounds_toArray, List.set_cons_zero, List.set_cons_succ, i64_w, i32_w]
              rfl
             refine pure_ (i := 1) (N := some 68) (v := ?_) (a' := ?_) #[true, true, false, false, false, false, false, false, false, false, false, false, false, false, false, false, false, false, false] rfl rfl (any_of HT_.out (by kernel_rfl)) (fun _ _ _ h => h) (Or.inl ⟨by rfl, ?_⟩) ?_ ?_
             rotate_left
             ·intro w'
              go_simp
              with_reducible rfl
             rotate_left
             ·simp only [Act.put, List.setIfInBounds_toArray, List.set_cons_zero, List.set_cons_succ, i64_w, i32_w]
              rfl
             refine pure_ (i := 2) (N := some 69) (v := ?_) (a' := ?_) #[true, true, true, false, false, false, false, false, false, false, false, false, false, false, false, false, false, false, false] rfl rfl (any_of HT_.out (by kernel_rfl)) (fun _ _ _ h => h) (Or.inl ⟨by rfl, ?_⟩) ?_ ?_
             rotate_left
             ·intro w'
              go_simp
              with_reducible rfl
             rotate_left
             ·simp only [Act.put, List.setIfInBounds_toArray, List.set_cons_zero, List.set_cons_succ, i64_w, i32_w]
              rfl
             refine pure_ (i := 3) (N := some 70) (v := ?_) (a' := ?_) #[true, true, true, true, false, false, false, false, false, false, false, false, false, false, false, false, false, false, false] rfl rfl (any_of HT_.out (by kernel_rfl)) (fun _ _ _ h => h) (Or.inl ⟨by rfl, ?_⟩) ?_ ?_
             rotate_left
             ·intro w'
              go_simp
              with_reducible rfl
             rotate_left
             ·simp only [Act.put, List.setIfInBounds_toArray, List.set_cons_zero, List.set_cons_succ, i64_w, i32_w]
              rfl
             refine pure_ (i := 4) (N := some 71) (v := ?_) (a' := ?_) #[true, true, true, true, true, false, false, false, false, false, false, false, false, false, false, false, false, false, false] rfl rfl (any_of HT_.out (by kernel_rfl)) (fun _ _ _ h => h) (Or.inl ⟨by rfl, ?_⟩) ?_ ?_
             rotate_left
             ·intro w'
              go_simp
              with_reducible rfl
             rotate_left
             ·simp only [Act.put, List.setIfInBounds_toArray, List.set_cons_zero, List.set_cons_succ, i64_w, i32_w]
              rfl
             refine pure_ (i := 5) (N := some 72) (v := ?_) (a' := ?_) #[true, true, true, true, true, true, false, false, false, false, false, false, false, false, false, false, false, false, false] rfl rfl (any_of HT_.out (by kernel_rfl)) (fun _ _ _ h => h) (Or.inl ⟨by rfl, ?_⟩) ?_ ?_
             rotate_left
             ·intro w'
              go_simp
              with_reducible rfl
             rotate_left
             ·simp only [Act.put, List.setIfInBounds_toArray, List.set_cons_zero, List.set_cons_succ, i64_w, i32_w]
              rfl
             refine pure_ (i := 6) (N := some 73) (v := ?_) (a' := ?_) #[true, true, true, true, true, true, true, false, false, false, false, false, false, false, false, false, false, false, false] rfl rfl (any_of HT_.out (by kernel_rfl)) (fun _ _ _ h => h) (Or.inl ⟨by rfl, ?_⟩) ?_ ?_
             rotate_left
             ·intro w'
              go_simp
              with_reducible rfl
             rotate_left
             ·simp only [Act.put, List.setIfInBounds_toArray, List.set_cons_zero, List.set_cons_succ, i64_w, i32_w]
              rfl
             refine pure_ (i := 7) (N := some 74) (v := ?_) (a' := ?_) #[true, true, true, true, true, true, true, true, false, false, false, false, false, false, false, false, false, false, false] rfl rfl (any_of HT_.out (by kernel_rfl)) (fun _ _ _ h => h) (Or.inl ⟨by rfl, ?_⟩) ?_ ?_
             rotate_left
             ·intro w'
              go_simp
              with_reducible rfl
             rotate_left
             ·simp only [Act.put, List.setIfInBounds_toArray, List.set_cons_zero, List.set_cons_succ, i64_w, i32_w]
              rfl
             refine pure_ (i := 8) (N := some 75) (v := ?_) (a' := ?_) #[true, true, true, true, true, true, true, true, true, false, false, false, false, false, false, false, false, false, false] rfl rfl (any_of HT_.out (by kernel_rfl)) (fun _ _ _ h => h) (Or.inl ⟨by rfl, ?_⟩) ?_ ?_
             rotate_left
             ·intro w'
              go_simp
              with_reducible rfl
             rotate_left
             ·simp only [Act.put, List.setIfInBounds_toArray, List.set_cons_zero, List.set_cons_succ, i64_w, i32_w]
              rfl
             refine one_ (i := 9) (N := some 76) #[true, true, true, true, true, true, true, true, true, true, false, false, false, false, false, false, false, false, false] rfl rfl (one_of HT_.out (by kernel_rfl)) (by decide) (fun K hK => ?_)
             refine goes_ Try.func27 (by kernel_rfl) rfl #[.slice Ao68 t582.length co68, .slice Ao70 t586.length co70] (by rfl) rfl rfl (by (try simp only [List.map_toArray, List.map_cons, List.map_nil]); rfl) ?_
             with_reducible refine (codewrightref02_SameList.calls k3 _ _ t582 _ _ t586 false _ ?side1 ?side2 ?side3 ?side4 A54.out).mono ?_
             (case side1 => exact (Kd.N_reads' HO_7.out).2.2)
             (case side2 => exact (Kd.N_reads' HO_7.out).2.1)
             (case side3 => exact (Kd.N_reads' HO_9.out).2.2)
             (case side4 => exact (Kd.N_reads' HO_9.out).2.1)
             rintro e w71 ⟨rfl, hb⟩
             refine ⟨_, rfl, ?_⟩
             have n0_ := Aside0.mk (Kd.V_below (by (with_reducible repeat (fail)); exact HO_1.out) hb)
             have n1_ := Aside0.mk (Kd.N_below (by (with_reducible repeat (fail)); exact HO_7.out) hb)
             have n2_ := Aside0.mk (Kd.N_below (by (with_reducible repeat (fail)); exact HO_9.out) hb)
             have n3_ := Aside0.mk (Kd.R_below (by (with_reducible repeat (fail)); exact HO_598001.out) hb)
             have n4_ := Aside0.mk (Kd.R_below (by (with_reducible repeat (fail)); exact HO_598002.out) hb)
             have n5_ := Aside0.mk (blk_below (g := gb597) (o := .cells #[.bool x598000_3, u598001, u598002] 46 (0, 0)) (by (with_reducible repeat (fail)); exact BK597.out) hb)
             have n6_ := Aside0.mk (below_step (by repeat ((with_reducible exact HB.out))) hb)
             clear HO_1
             clear HO_7
             clear HO_9
             clear HO_598001
             clear HO_598002
             clear BK597
             clear HB
             have HO_1 := n0_
             have HO_7 := n1_
             have HO_9 := n2_
             have HO_598001 := n3_
             have HO_598002 := n4_
             have BK597 := n5_
             have HB := n6_
             clear n0_ n1_ n2_ n3_ n4_ n5_ n6_
             (try clear hb)
             refine hK.out _ _ trivial (fun hHeld => ?_)
             clear hK K
             refine norm_ (a' := ?_) ?_ ?_
             rotate_left
             ·show Act.put _ (some 76) _ = _
              simp only [Act.put, List.setIfInBounds_toArray, List.set_cons_zero, List.set_cons_succ, i64_w, i32_w]
              rfl
             refine pure_ (i := 10) (N := some 77) (v := ?_) (a' := ?_) #[true, true, true, true, true, true, true, true, true, true, true, false, false, false, false, false, false, false, false] rfl rfl (any_of HT_.out (by kernel_rfl)) (fun _ _ _ h => h) (Or.inl ⟨by rfl, ?_⟩) ?_ ?_
             rotate_left
             ·intro w'
              go_simp
              with_reducible rfl
             rotate_left
             ·simp only [Act.put, List.setIfInBounds_toArray, List.set_cons_zero, List.set_cons_succ, i64_w, i32_w]
              rfl
             refine pure_ (i := 11) (N := some 78) (v := ?_) (a' := ?_) #[true, true, true, true, true, true, true, true, true, true, true, true, false, false, false, false, false, false, false] rfl rfl (any_of HT_.out (by kernel_rfl)) (fun _ _ _ h => h) (Or.inl ⟨by rfl, ?_⟩) ?_ ?_
             rotate_left
             ·intro w'
              go_simp
              with_reducible rfl
             rotate_left
             ·simp only [Act.put, List.setIfInBounds_toArray, List.set_cons_zero, List.set_cons_succ, i64_w, i32_w]
              rfl
             refine pure_ (i := 12) (N := some 79) (v := undef) (a' := ?_) #[true, true, true, true, true, true, true, true, true, true, true, true, true, false, false, false, false, false, false] rfl rfl (any_of HT_.out (by kernel_rfl)) (fun _ _ _ h => h) (Or.inr ⟨by rfl, rfl⟩) ?_ ?_
             rotate_left
             ·simp only [Act.put, List.setIfInBounds_toArray, List.set_cons_zero, List.set_cons_succ, i64_w, i32_w]
              rfl
             refine pure_ (i := 13) (N := some 80) (v := undef) (a' := ?_) #[true, true, true, true, true, true, true, true, true, true, true, true, true, true, false, false, false, false, false] rfl rfl (any_of HT_.out (by kernel_rfl)) (fun _ _ _ h => h) (Or.inr ⟨by rfl, rfl⟩) ?_ ?_
             rotate_left
             ·simp only [Act.put, List.setIfInBounds_toArray, List.set_cons_zero, List.set_cons_succ, i64_w, i32_w]
              rfl
             refine pure_ (i := 14) (N := some 81) (v := undef) (a' := ?_) #[true, true, true, true, true, true, true, true, true, true, true, true, true, true, true, false, false, false, false] rfl rfl (any_of HT_.out (by kernel_rfl)) (fun _ _ _ h => h) (Or.inr ⟨by rfl, rfl⟩) ?_ ?_
             rotate_left
             ·simp only [Act.put, List.setIfInBounds_toArray, List.set_cons_zero, List.set_cons_succ, i64_w, i32_w]
              rfl
             refine pure_ (i := 15) (N := some 82) (v := undef) (a' := ?_) #[true, true, true, true, true, true, true, true, true, true, true, true, true, true, true, true, false, false, false] rfl rfl (any_of HT_.out (by kernel_rfl)) (fun _ _ _ h => h) (Or.inr ⟨by rfl, rfl⟩) ?_ ?_
             rotate_left
             ·simp only [Act.put, List.setIfInBounds_toArray, List.set_cons_zero, List.set_cons_succ, i64_w, i32_w]
              rfl
             refine pure_ (i := 16) (N := some 83) (v := undef) (a' := ?_) #[true, true, true, true, true, true, true, true, true, true, true, true, true, true, true, true, true, false, false] rfl rfl (any_of HT_.out (by kernel_rfl)) (fun _ _ _ h => h) (Or.inr ⟨by rfl, rfl⟩) ?_ ?_
             rotate_left
             ·simp only [Act.put, List.setIfInBounds_toArray, List.set_cons_zero, List.set_cons_succ, i64_w, i32_w]
              rfl
             refine pure_ (i := 17) (N := some 84) (v := ?_) (a' := ?_) #[true, true, true, true, true, true, true, true, true, true, true, true, true, true, true, true, true, true, false] rfl rfl (any_of HT_.out (by kernel_rfl)) (fun _ _ _ h => h) (Or.inl ⟨by rfl, ?_⟩) ?_ ?_
             rotate_left
             ·intro w'
              go_simp
              with_reducible rfl
             rotate_left
             ·simp only [Act.put, List.setIfInBounds_toArray, List.set_cons_zero, List.set_cons_succ, i64_w, i32_w]
              rfl
             refine pure_ (i := 18) (N := some 4) (v := ?_) (a' := ?_) #[true, true, true, true, true, true, true, true, true, true, true, true, true, true, true, true, true, true, true] rfl rfl (any_of HT_.out (by kernel_rfl)) (fun _ _ _ h => h) (Or.inl ⟨by rfl, ?_⟩) ?_ ?_
             rotate_left
             ·intro w'
              go_simp
              with_reducible rfl
             rotate_left
             ·simp only [Act.put, List.setIfInBounds_toArray, List.set_cons_zero, List.set_cons_succ, i64_w, i32_w]
              rfl
             refine done_ (done_of HT_.out (by kernel_rfl)) ?_
             try go_wp2
             go_ret
             exact ⟨by rfl, by repeat ((with_reducible exact HB.out))⟩
           ·rw [if_neg c53] at H
            have c53b0 : (t587 == 0) = false := beq_eq_false_iff_ne.mpr c53
            have c53b1 : (t587 != 0) = true := bne_iff_ne.mpr c53
            obtain rfl := Option.some.inj H
            obtain ⟨Ao72, co72, eo72⟩ := Kd.N_slice HO_7.out
            subst eo72
            try go_wp2
            have n0_ := Aside0.mk (Kd.V_drew HO_1.out)
            have n1_ := Aside0.mk (Kd.N_drew HO_7.out)
            have n2_ := Aside0.mk (Kd.N_drew HO_9.out)
            have n3_ := Aside0.mk (Kd.R_drew HO_598001.out)
            have n4_ := Aside0.mk (Kd.R_drew HO_598002.out)
            have n5_ := Aside0.mk (blk_drew BK597.out)
            have n6_ := Aside0.mk (below_drew1 HB.out)
            clear HO_1
            clear HO_7
            clear HO_9
            clear HO_598001
            clear HO_598002
            clear BK597
            clear HB
            have HO_1 := n0_
            have HO_7 := n1_
            have HO_9 := n2_
            have HO_598001 := n3_
            have HO_598002 := n4_
            have BK597 := n5_
            have HB := n6_
            clear n0_ n1_ n2_ n3_ n4_ n5_ n6_
            refine start_ (n := 19) (S := fun w' => True) (ds := []) #[false, false, false, false, false, false, false, false, false, false, false, false, false, false, false, false, false, false, false] (by kernel_rfl) rfl rfl trivial (fun hHeld => ?_); refine with_tabW codewrightlaw36_DelsarteSums.tab17 codewrightlaw36_DelsarteSums.bits17 (fun HT_ HW_ => ?_)
            generalize wr.drew = w73 at HO_1 HO_7 HO_9 HO_598001 HO_598002 BK597 HB hHeld ⊢
            refine pure_ (i := 0) (N := some 67) (v := ?_) (a' := ?_) #[true, false, false, false, false, false, false, false, false, false, false, false, false, false, false, false, false, false, false] rfl rfl (any_of HT_.out (by kernel_rfl)) (fun _ _ _ h => h) (Or.inl ⟨by rfl, ?_⟩) ?_ ?_
            rotate_left
            ·intro w'
             go_simp
             with_reducible rfl
            rotate_left
            ·simp only [Act.put, List.setIfInBounds_toArray, List.set_cons_zero, List.set_cons_succ, i64_w, i32_w]
             rfl
            refine pure_ (i := 1) (N := some 68) (v := ?_) (a' := ?_) #[true, true, false, false, false, false, false, false, false, false, false, false, false, false, false, false, false, false, false] rfl rfl (any_of HT_.out (by kernel_rfl)) (fun _ _ _ h => h) (Or.inl ⟨by rfl, ?_⟩) ?_ ?_
            rotate_left
            ·intro w'
             go_simp
             with_reducible rfl
            rotate_left
            ·simp only [Act.put, List.setIfInBounds_toArray, List.set_cons_zero, List.set_cons_succ, i64_w, i32_w]
             rfl
            refine pure_ (i := 2) (N := some 69) (v := ?_) (a' := ?_) #[true, true, true, false, false, false, false, false, false, false, false, false, false, false, false, false, false, false, false] rfl rfl (any_of HT_.out (by kernel_rfl)) (fun _ _ _ h => h) (Or.inl ⟨by rfl, ?_⟩) ?_ ?_
            rotate_left
            ·intro w'
             go_simp
             with_reducible rfl
            rotate_left
            ·simp only [Act.put, List.setIfInBounds_toArray, List.set_cons_zero, List.set_cons_succ, i64_w, i32_w]
             rfl
            refine pure_ (i := 3) (N := some 70) (v := ?_) (a' := ?_) #[true, true, true, true, false, false, false, false, false, false, false, false, false, false, false, false, false, false, false] rfl rfl (any_of HT_.out (by kernel_rfl)) (fun _ _ _ h => h) (Or.inl ⟨by rfl, ?_⟩) ?_ ?_
            rotate_left
            ·intro w'
             go_simp
             with_reducible rfl
            rotate_left
            ·simp only [Act.put, List.setIfInBounds_toArray, List.set_cons_zero, List.set_cons_succ, i64_w, i32_w]
             rfl
            refine pure_ (i := 4) (N := some 71) (v := ?_) (a' := ?_) #[true, true, true, true, true, false, false, false, false, false, false, false, false, false, false, false, false, false, false] rfl rfl (any_of HT_.out (by kernel_rfl)) (fun _ _ _ h => h) (Or.inl ⟨by rfl, ?_⟩) ?_ ?_
            rotate_left
            ·intro w'
             go_simp
             with_reducible rfl
            rotate_left
            ·simp only [Act.put, List.setIfInBounds_toArray, List.set_cons_zero, List.set_cons_succ, i64_w, i32_w]
             rfl
            refine pure_ (i := 5) (N := some 72) (v := ?_) (a' := ?_) #[true, true, true, true, true, true, false, false, false, false, false, false, false, false, false, false, false, false, false] rfl rfl (any_of HT_.out (by kernel_rfl)) (fun _ _ _ h => h) (Or.inl ⟨by rfl, ?_⟩) ?_ ?_
            rotate_left
            ·intro w'
             go_simp
             with_reducible rfl
            rotate_left
            ·simp only [Act.put, List.setIfInBounds_toArray, List.set_cons_zero, List.set_cons_succ, i64_w, i32_w]
             rfl
            refine pure_ (i := 6) (N := some 73) (v := ?_) (a' := ?_) #[true, true, true, true, true, true, true, false, false, false, false, false, false, false, false, false, false, false, false] rfl rfl (any_of HT_.out (by kernel_rfl)) (fun _ _ _ h => h) (Or.inl ⟨by rfl, ?_⟩) ?_ ?_
            rotate_left
            ·intro w'
             go_simp
             with_reducible rfl
            rotate_left
            ·simp only [Act.put, List.setIfInBounds_toArray, List.set_cons_zero, List.set_cons_succ, i64_w, i32_w]
             rfl
            refine pure_ (i := 7) (N := some 74) (v := undef) (a' := ?_) #[true, true, true, true, true, true, true, true, false, false, false, false, false, false, false, false, false, false, false] rfl rfl (any_of HT_.out (by kernel_rfl)) (fun _ _ _ h => h) (Or.inr ⟨by rfl, rfl⟩) ?_ ?_
            rotate_left
            ·simp only [Act.put, List.setIfInBounds_toArray, List.set_cons_zero, List.set_cons_succ, i64_w, i32_w]
             rfl
            refine pure_ (i := 8) (N := some 75) (v := undef) (a' := ?_) #[true, true, true, true, true, true, true, true, true, false, false, false, false, false, false, false, false, false, false] rfl rfl (any_of HT_.out (by kernel_rfl)) (fun _ _ _ h => h) (Or.inr ⟨by rfl, rfl⟩) ?_ ?_
            rotate_left
            ·simp only [Act.put, List.setIfInBounds_toArray, List.set_cons_zero, List.set_cons_succ, i64_w, i32_w]
             rfl
            refine pure_ (i := 9) (N := some 76) (v := undef) (a' := ?_) #[true, true, true, true, true, true, true, true, true, true, false, false, false, false, false, false, false, false, false] rfl rfl (any_of HT_.out (by kernel_rfl)) (fun _ _ _ h => h) (Or.inr ⟨by rfl, rfl⟩) ?_ ?_
            rotate_left
            ·simp only [Act.put, List.setIfInBounds_toArray, List.set_cons_zero, List.set_cons_succ, i64_w, i32_w]
             rfl
            refine pure_ (i := 10) (N := some 77) (v := ?_) (a' := ?_) #[true, true, true, true, true, true, true, true, true, true, true, false, false, false, false, false, false, false, false] rfl rfl (any_of HT_.out (by kernel_rfl)) (fun _ _ _ h => h) (Or.inl ⟨by rfl, ?_⟩) ?_ ?_
            rotate_left
            ·intro w'
             go_simp
             with_reducible rfl
            rotate_left
            ·simp only [Act.put, List.setIfInBounds_toArray, List.set_cons_zero, List.set_cons_succ, i64_w, i32_w]
             rfl
            refine pure_ (i := 11) (N := some 78) (v := ?_) (a' := ?_) #[true, true, true, true, true, true, true, true, true, true, true, true, false, false, false, false, false, false, false] rfl rfl (any_of HT_.out (by kernel_rfl)) (fun _ _ _ h => h) (Or.inl ⟨by rfl, ?_⟩) ?_ ?_
            rotate_left
            ·intro w'
             go_simp
             with_reducible rfl
            rotate_left
            ·simp only [Act.put, List.setIfInBounds_toArray, List.set_cons_zero, List.set_cons_succ, i64_w, i32_w]
             rfl
            refine pure_ (i := 12) (N := some 79) (v := undef) (a' := ?_) #[true, true, true, true, true, true, true, true, true, true, true, true, true, false, false, false, false, false, false] rfl rfl (any_of HT_.out (by kernel_rfl)) (fun _ _ _ h => h) (Or.inr ⟨by rfl, rfl⟩) ?_ ?_
            rotate_left
            ·simp only [Act.put, List.setIfInBounds_toArray, List.set_cons_zero, List.set_cons_succ, i64_w, i32_w]
             rfl
            refine pure_ (i := 13) (N := some 80) (v := undef) (a' := ?_) #[true, true, true, true, true, true, true, true, true, true, true, true, true, true, false, false, false, false, false] rfl rfl (any_of HT_.out (by kernel_rfl)) (fun _ _ _ h => h) (Or.inr ⟨by rfl, rfl⟩) ?_ ?_
            rotate_left
            ·simp only [Act.put, List.setIfInBounds_toArray, List.set_cons_zero, List.set_cons_succ, i64_w, i32_w]
             rfl
            refine pure_ (i := 14) (N := some 81) (v := undef) (a' := ?_) #[true, true, true, true, true, true, true, true, true, true, true, true, true, true, true, false, false, false, false] rfl rfl (any_of HT_.out (by kernel_rfl)) (fun _ _ _ h => h) (Or.inr ⟨by rfl, rfl⟩) ?_ ?_
            rotate_left
            ·simp only [Act.put, List.setIfInBounds_toArray, List.set_cons_zero, List.set_cons_succ, i64_w, i32_w]
             rfl
            refine pure_ (i := 15) (N := some 82) (v := undef) (a' := ?_) #[true, true, true, true, true, true, true, true, true, true, true, true, true, true, true, true, false, false, false] rfl rfl (any_of HT_.out (by kernel_rfl)) (fun _ _ _ h => h) (Or.inr ⟨by rfl, rfl⟩) ?_ ?_
            rotate_left
            ·simp only [Act.put, List.setIfInBounds_toArray, List.set_cons_zero, List.set_cons_succ, i64_w, i32_w]
             rfl
            refine pure_ (i := 16) (N := some 83) (v := undef) (a' := ?_) #[true, true, true, true, true, true, true, true, true, true, true, true, true, true, true, true, true, false, false] rfl rfl (any_of HT_.out (by kernel_rfl)) (fun _ _ _ h => h) (Or.inr ⟨by rfl, rfl⟩) ?_ ?_
            rotate_left
            ·simp only [Act.put, List.setIfInBounds_toArray, List.set_cons_zero, List.set_cons_succ, i64_w, i32_w]
             rfl
            refine pure_ (i := 17) (N := some 84) (v := ?_) (a' := ?_) #[true, true, true, true, true, true, true, true, true, true, true, true, true, true, true, true, true, true, false] rfl rfl (any_of HT_.out (by kernel_rfl)) (fun _ _ _ h => h) (Or.inl ⟨by rfl, ?_⟩) ?_ ?_
            rotate_left
            ·intro w'
             go_simp
             with_reducible rfl
            rotate_left
            ·simp only [Act.put, List.setIfInBounds_toArray, List.set_cons_zero, List.set_cons_succ, i64_w, i32_w]
             rfl
            refine pure_ (i := 18) (N := some 4) (v := ?_) (a' := ?_) #[true, true, true, true, true, true, true, true, true, true, true, true, true, true, true, true, true, true, true] rfl rfl (any_of HT_.out (by kernel_rfl)) (fun _ _ _ h => h) (Or.inl ⟨by rfl, ?_⟩) ?_ ?_
            rotate_left
            ·intro w'
             go_simp
             with_reducible rfl
            rotate_left
            ·simp only [Act.put, List.setIfInBounds_toArray, List.set_cons_zero, List.set_cons_succ, i64_w, i32_w]
             rfl
            refine done_ (done_of HT_.out (by kernel_rfl)) ?_
            try go_wp2
            go_ret
            exact ⟨by rfl, by repeat ((with_reducible exact HB.out))⟩
          ·rw [if_neg c52] at H
           have c52b0 : (t583 == 0) = false := beq_eq_false_iff_ne.mpr c52
           have c52b1 : (t583 != 0) = true := bne_iff_ne.mpr c52
           obtain rfl := Option.some.inj H
           obtain ⟨Ao74, co74, eo74⟩ := Kd.N_slice HO_7.out
           subst eo74
           try go_wp2
           have n0_ := Aside0.mk (Kd.V_drew HO_1.out)
           have n1_ := Aside0.mk (Kd.N_drew HO_7.out)
           have n2_ := Aside0.mk (Kd.N_drew HO_9.out)
           have n3_ := Aside0.mk (Kd.R_drew HO_598001.out)
           have n4_ := Aside0.mk (Kd.R_drew HO_598002.out)
           have n5_ := Aside0.mk (blk_drew BK597.out)
           have n6_ := Aside0.mk (below_drew1 HB.out)
           clear HO_1
           clear HO_7
           clear HO_9
           clear HO_598001
           clear HO_598002
           clear BK597
           clear HB
           have HO_1 := n0_
           have HO_7 := n1_
           have HO_9 := n2_
           have HO_598001 := n3_
           have HO_598002 := n4_
           have BK597 := n5_
           have HB := n6_
           clear n0_ n1_ n2_ n3_ n4_ n5_ n6_
           refine start_ (n := 19) (S := fun w' => True) (ds := []) #[false, false, false, false, false, false, false, false, false, false, false, false, false, false, false, false, false, false, false] (by kernel_rfl) rfl rfl trivial (fun hHeld => ?_); refine with_tabW codewrightlaw36_DelsarteSums.tab17 codewrightlaw36_DelsarteSums.bits17 (fun HT_ HW_ => ?_)
           generalize wr.drew = w75 at HO_1 HO_7 HO_9 HO_598001 HO_598002 BK597 HB hHeld ⊢
           refine pure_ (i := 0) (N := some 67) (v := ?_) (a' := ?_) #[true, false, false, false, false, false, false, false, false, false, false, false, false, false, false, false, false, false, false] rfl rfl (any_of HT_.out (by kernel_rfl)) (fun _ _ _ h => h) (Or.inl ⟨by rfl, ?_⟩) ?_ ?_
           rotate_left
           ·intro w'
            go_simp
            with_reducible rfl
           rotate_left
           ·simp only [Act.put, List.setIfInBounds_toArray, List.set_cons_zero, List.set_cons_succ, i64_w, i32_w]
            rfl
           refine pure_ (i := 1) (N := some 68) (v := ?_) (a' := ?_) #[true, true, false, false, false, false, false, false, false, false, false, false, false, false, false, false, false, false, false] rfl rfl (any_of HT_.out (by kernel_rfl)) (fun _ _ _ h => h) (Or.inl ⟨by rfl, ?_⟩) ?_ ?_
           rotate_left
           ·intro w'
            go_simp
            with_reducible rfl
           rotate_left
           ·simp only [Act.put, List.setIfInBounds_toArray, List.set_cons_zero, List.set_cons_succ, i64_w, i32_w]
            rfl
           refine pure_ (i := 2) (N := some 69) (v := ?_) (a' := ?_) #[true, true, true, false, false, false, false, false, false, false, false, false, false, false, false, false, false, false, false] rfl rfl (any_of HT_.out (by kernel_rfl)) (fun _ _ _ h => h) (Or.inl ⟨by rfl, ?_⟩) ?_ ?_
           rotate_left
           ·intro w'
            go_simp
            with_reducible rfl
           rotate_left
           ·simp only [Act.put, List.setIfInBounds_toArray, List.set_cons_zero, List.set_cons_succ, i64_w, i32_w]
            rfl
           refine pure_ (i := 3) (N := some 70) (v := undef) (a' := ?_) #[true, true, true, true, false, false, false, false, false, false, false, false, false, false, false, false, false, false, false] rfl rfl (any_of HT_.out (by kernel_rfl)) (fun _ _ _ h => h) (Or.inr ⟨by rfl, rfl⟩) ?_ ?_
           rotate_left
           ·simp only [Act.put, List.setIfInBounds_toArray, List.set_cons_zero, List.set_cons_succ, i64_w, i32_w]
            rfl
           refine pure_ (i := 4) (N := some 71) (v := undef) (a' := ?_) #[true, true, true, true, true, false, false, false, false, false, false, false, false, false, false, false, false, false, false] rfl rfl (any_of HT_.out (by kernel_rfl)) (fun _ _ _ h => h) (Or.inr ⟨by rfl, rfl⟩) ?_ ?_
           rotate_left
           ·simp only [Act.put, List.setIfInBounds_toArray, List.set_cons_zero, List.set_cons_succ, i64_w, i32_w]
            rfl
           refine pure_ (i := 5) (N := some 72) (v := ?_) (a' := ?_) #[true, true, true, true, true, true, false, false, false, false, false, false, false, false, false, false, false, false, false] rfl rfl (any_of HT_.out (by kernel_rfl)) (fun _ _ _ h => h) (Or.inl ⟨by rfl, ?_⟩) ?_ ?_
           rotate_left
           ·intro w'
            go_simp
            with_reducible rfl
           rotate_left
           ·simp only [Act.put, List.setIfInBounds_toArray, List.set_cons_zero, List.set_cons_succ, i64_w, i32_w]
            rfl
           refine pure_ (i := 6) (N := some 73) (v := ?_) (a' := ?_) #[true, true, true, true, true, true, true, false, false, false, false, false, false, false, false, false, false, false, false] rfl rfl (any_of HT_.out (by kernel_rfl)) (fun _ _ _ h => h) (Or.inl ⟨by rfl, ?_⟩) ?_ ?_
           rotate_left
           ·intro w'
            go_simp
            with_reducible rfl
           rotate_left
           ·simp only [Act.put, List.setIfInBounds_toArray, List.set_cons_zero, List.set_cons_succ, i64_w, i32_w]
            rfl
           refine pure_ (i := 7) (N := some 74) (v := undef) (a' := ?_) #[true, true, true, true, true, true, true, true, false, false, false, false, false, false, false, false, false, false, false] rfl rfl (any_of HT_.out (by kernel_rfl)) (fun _ _ _ h => h) (Or.inr ⟨by rfl, rfl⟩) ?_ ?_
           rotate_left
           ·simp only [Act.put, List.setIfInBounds_toArray, List.set_cons_zero, List.set_cons_succ, i64_w, i32_w]
            rfl
           refine pure_ (i := 8) (N := some 75) (v := undef) (a' := ?_) #[true, true, true, true, true, true, true, true, true, false, false, false, false, false, false, false, false, false, false] rfl rfl (any_of HT_.out (by kernel_rfl)) (fun _ _ _ h => h) (Or.inr ⟨by rfl, rfl⟩) ?_ ?_
           rotate_left
           ·simp only [Act.put, List.setIfInBounds_toArray, List.set_cons_zero, List.set_cons_succ, i64_w, i32_w]
            rfl
           refine pure_ (i := 9) (N := some 76) (v := undef) (a' := ?_) #[true, true, true, true, true, true, true, true, true, true, false, false, false, false, false, false, false, false, false] rfl rfl (any_of HT_.out (by kernel_rfl)) (fun _ _ _ h => h) (Or.inr ⟨by rfl, rfl⟩) ?_ ?_
           rotate_left
           ·simp only [Act.put, List.setIfInBounds_toArray, List.set_cons_zero, List.set_cons_succ, i64_w, i32_w]
            rfl
           refine pure_ (i := 10) (N := some 77) (v := ?_) (a' := ?_) #[true, true, true, true, true, true, true, true, true, true, true, false, false, false, false, false, false, false, false] rfl rfl (any_of HT_.out (by kernel_rfl)) (fun _ _ _ h => h) (Or.inl ⟨by rfl, ?_⟩) ?_ ?_
           rotate_left
           ·intro w'
            go_simp
            with_reducible rfl
           rotate_left
           ·simp only [Act.put, List.setIfInBounds_toArray, List.set_cons_zero, List.set_cons_succ, i64_w, i32_w]
            rfl
           refine pure_ (i := 11) (N := some 78) (v := ?_) (a' := ?_) #[true, true, true, true, true, true, true, true, true, true, true, true, false, false, false, false, false, false, false] rfl rfl (any_of HT_.out (by kernel_rfl)) (fun _ _ _ h => h) (Or.inl ⟨by rfl, ?_⟩) ?_ ?_
           rotate_left
           ·intro w'
            go_simp
            with_reducible rfl
           rotate_left
           ·simp only [Act.put, List.setIfInBounds_toArray, List.set_cons_zero, List.set_cons_succ, i64_w, i32_w]
            rfl
           refine pure_ (i := 12) (N := some 79) (v := undef) (a' := ?_) #[true, true, true, true, true, true, true, true, true, true, true, true, true, false, false, false, false, false, false] rfl rfl (any_of HT_.out (by kernel_rfl)) (fun _ _ _ h => h) (Or.inr ⟨by rfl, rfl⟩) ?_ ?_
           rotate_left
           ·simp only [Act.put, List.setIfInBounds_toArray, List.set_cons_zero, List.set_cons_succ, i64_w, i32_w]
            rfl
           refine pure_ (i := 13) (N := some 80) (v := undef) (a' := ?_) #[true, true, true, true, true, true, true, true, true, true, true, true, true, true, false, false, false, false, false] rfl rfl (any_of HT_.out (by kernel_rfl)) (fun _ _ _ h => h) (Or.inr ⟨by rfl, rfl⟩) ?_ ?_
           rotate_left
           ·simp only [Act.put, List.setIfInBounds_toArray, List.set_cons_zero, List.set_cons_succ, i64_w, i32_w]
            rfl
           refine pure_ (i := 14) (N := some 81) (v := undef) (a' := ?_) #[true, true, true, true, true, true, true, true, true, true, true, true, true, true, true, false, false, false, false] rfl rfl (any_of HT_.out (by kernel_rfl)) (fun _ _ _ h => h) (Or.inr ⟨by rfl, rfl⟩) ?_ ?_
           rotate_left
           ·simp only [Act.put, List.setIfInBounds_toArray, List.set_cons_zero, List.set_cons_succ, i64_w, i32_w]
            rfl
           refine pure_ (i := 15) (N := some 82) (v := undef) (a' := ?_) #[true, true, true, true, true, true, true, true, true, true, true, true, true, true, true, true, false, false, false] rfl rfl (any_of HT_.out (by kernel_rfl)) (fun _ _ _ h => h) (Or.inr ⟨by rfl, rfl⟩) ?_ ?_
           rotate_left
           ·simp only [Act.put, List.setIfInBounds_toArray, List.set_cons_zero, List.set_cons_succ, i64_w, i32_w]
            rfl
           refine pure_ (i := 16) (N := some 83) (v := undef) (a' := ?_) #[true, true, true, true, true, true, true, true, true, true, true, true, true, true, true, true, true, false, false] rfl rfl (any_of HT_.out (by kernel_rfl)) (fun _ _ _ h => h) (Or.inr ⟨by rfl, rfl⟩) ?_ ?_
           rotate_left
           ·simp only [Act.put, List.setIfInBounds_toArray, List.set_cons_zero, List.set_cons_succ, i64_w, i32_w]
            rfl
           refine pure_ (i := 17) (N := some 84) (v := ?_) (a' := ?_) #[true, true, true, true, true, true, true, true, true, true, true, true, true, true, true, true, true, true, false] rfl rfl (any_of HT_.out (by kernel_rfl)) (fun _ _ _ h => h) (Or.inl ⟨by rfl, ?_⟩) ?_ ?_
           rotate_left
           ·intro w'
            go_simp
            with_reducible rfl
           rotate_left
           ·simp only [Act.put, List.setIfInBounds_toArray, List.set_cons_zero, List.set_cons_succ, i64_w, i32_w]
            rfl
           refine pure_ (i := 18) (N := some 4) (v := ?_) (a' := ?_) #[true, true, true, true, true, true, true, true, true, true, true, true, true, true, true, true, true, true, true] rfl rfl (any_of HT_.out (by kernel_rfl)) (fun _ _ _ h => h) (Or.inl ⟨by rfl, ?_⟩) ?_ ?_
           rotate_left
           ·intro w'
            go_simp
            with_reducible rfl
           rotate_left
           ·simp only [Act.put, List.setIfInBounds_toArray, List.set_cons_zero, List.set_cons_succ, i64_w, i32_w]
            rfl
           refine done_ (done_of HT_.out (by kernel_rfl)) ?_
           try go_wp2
           go_ret
           exact ⟨by rfl, by repeat ((with_reducible exact HB.out))⟩
end Go.Proofs.Ythheakfgmombdaa.F
end
