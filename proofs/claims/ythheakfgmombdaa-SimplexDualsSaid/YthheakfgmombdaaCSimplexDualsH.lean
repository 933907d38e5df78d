import Derived.Test.YthheakfgmombdaaCSimplexDualsG
/- Part H of the proof: FLaw35SimplexDuals. -/
section
namespace Go.Proofs.Ythheakfgmombdaa.F
open Go.RowKit Go.Proofs.YthheakfgmombdaaX.PrintWords Go.Proofs.YthheakfgmombdaaX.PrintLast Go.Proofs.YthheakfgmombdaaX.PrintMore
attribute [local go_sem] max2_int min2_int max_two min_two max_three min_three max_four min_four   -- for this text's walks alone
set_option linter.unusedVariables false
set_option linter.unusedSimpArgs false
def codewrightlaw35_SimplexDuals.T7 : Bool × List (List Nat × List Nat) := (true, [([], []), ([0], [0]), ([1], [1]), ([2], [2]), ([3, 2], [2, 3]), ([2, 4], [2, 4]), ([5, 2], [5]), ([6], [6]), ([6], [6]), ([8, 6, 6], [6, 8]), ([7, 9, 9, 6], [6, 7, 9]), ([6, 10], [6, 10]), ([11, 10], [11]), ([12], [12]), ([12], [12]), ([14, 12, 12], [12, 14]), ([13, 15, 15, 12], [12, 13, 15]), ([12, 16], [12, 16]), ([17, 16, 0, 1, 2, 3, 4, 5, 6, 7, 8, 9, 10, 11, 12, 13, 14, 15, 16, 17], [17])])
def codewrightlaw35_SimplexDuals.B7 : List Nat := [0, 1, 3, 7, 15, 31, 63, 127, 127, 383, 1023, 2047, 4095, 8191, 8191, 24575, 65535, 131071, 262143]
theorem codewrightlaw35_SimplexDuals.tab7 : rtab .any (opsOf Try.f4 7) = codewrightlaw35_SimplexDuals.T7 := by kernel_rfl
theorem codewrightlaw35_SimplexDuals.bits7 : waitsOk codewrightlaw35_SimplexDuals.T7.2 codewrightlaw35_SimplexDuals.B7 = true := by kernel_rfl
set_option maxHeartbeats 8000000 in
set_option maxRecDepth 100000 in
theorem codewrightlaw35_SimplexDuals.calls (k : Nat) (A0_0 : Option Addr) (c0_0 : Nat) (l0_0 : List (S46)) (A0_1 : Option Addr) (c0_1 : Nat) (l0_1 : List (List (S46))) (A0_2 : Option Addr) (c0_2 : Nat) (l0_2 : List (S46)) (r : Bool) (w : World) (hr0_0 : Kd.C k46 w A0_0 l0_0.length l0_0) (hc0_0 : l0_0.length ≤ c0_0) (hr0_1 : Kd.C (Kd.slice 46 k46) w A0_1 l0_1.length l0_1) (hc0_1 : l0_1.length ≤ c0_1) (hr0_2 : Kd.C k46 w A0_2 l0_2.length l0_2) (hc0_2 : l0_2.length ≤ c0_2) (h : codewrightlaw35_SimplexDuals.f k l0_0 l0_1 l0_2 = some r) :
    Calls Try.prog 4 #[.agg #[.slice A0_0 l0_0.length c0_0, .slice A0_1 l0_1.length c0_1, .slice A0_2 l0_2.length c0_2]] w fun e w' => e = .returned (.bool r) ∧ Below w.heap.size w w' := by
  have hu25 := Try.underlying25
  have HR0_0 := Aside0.mk hr0_0
  have HC0_0 := Aside0.mk hc0_0
  clear hr0_0 hc0_0
  have HR0_1 := Aside0.mk hr0_1
  have HC0_1 := Aside0.mk hc0_1
  clear hr0_1 hc0_1
  have HR0_2 := Aside0.mk hr0_2
  have HC0_2 := Aside0.mk hc0_2
  clear hr0_2 hc0_2
  have HB := Aside0.mk (Below.refl w.heap.size w)
  have H : ((codewrightref35_Check.f k l0_0 l0_1 l0_2).bind fun t550 => (if t550 = 0 then ((codewrightlaw35_fits.f k l0_0 l0_1 l0_2 ([] : List (List (S46)))).bind fun t551 => (codewrightlaw35_SimplexDuals.j0 k (!t551) l0_0 l0_1 l0_2)) else (codewrightlaw35_SimplexDuals.j0 k false l0_0 l0_1 l0_2))) = some r := h
  clear h
  have HC2 := Aside0.mk H
  clear H
  go_enter Try.func4, Try.ntmps4
  go_upto_region 1 with (((with_reducible refine gate_dst (N := 1) rfl ?_); refine box_event ?hg (N := 1) ?hd (cs := #[.slice A0_0 l0_0.length c0_0, .slice A0_1 l0_1.length c0_1, .slice A0_2 l0_2.length c0_2]) (t := 25) ?hr ?_; (case hd => rfl); (case hg => rfl); (case hr => (go_simp; done)); intro gb549 hg w3 hbox hb; have n0_ := Aside0.mk (below_step (by repeat ((with_reducible exact HB.out))) hb); have n1_ := Aside0.mk (hbox); have n2_ := Aside0.mk ((by rw [hg]; exact (below_size (by repeat ((with_reducible exact HB.out)))) : w.heap.size ≤ gb549)); have n3_ := Aside0.mk ((by rw [hg]; exact (below_size (by repeat ((with_reducible exact HB.out)))) : w.heap.size ≤ gb549)); clear HB; have HB := n0_; have BK549 := n1_; have GW549 := n2_; have GE549 := n3_; clear n0_ n1_ n2_ n3_; clear hb hbox hg))
  go_cut [14] (fun v14 wc => ∃ (kq : Nat) (x14_1 : Bool), v14 = .bool x14_1 ∧ Aside0 (codewrightlaw35_SimplexDuals.j0 kq x14_1 l0_0 l0_1 l0_2 = some r) ∧ Aside0 (kq ≤ k) ∧ Aside0 (wc.heap[gb549]? = some (.cells #[(.slice A0_0 l0_0.length c0_0), (.slice A0_1 l0_1.length c0_1), (.slice A0_2 l0_2.length c0_2)] 25 (0, 0))) ∧ Aside0 (Below w.heap.size w wc))
  case first =>
    have H := HC2.out
    clear HC2
    replace H := Option.bind_eq_some_iff.mp H
    obtain ⟨t550, A40, H⟩ := H
    replace H : (if t550 = 0 then ((codewrightlaw35_fits.f k l0_0 l0_1 l0_2 ([] : List (List (S46)))).bind fun t551 => (codewrightlaw35_SimplexDuals.j0 k (!t551) l0_0 l0_1 l0_2)) else (codewrightlaw35_SimplexDuals.j0 k false l0_0 l0_1 l0_2)) = some r := H
    have A4 := Aside0.mk A40
    clear A40
    by_cases c5 : t550 = 0
    · rw [if_pos c5] at H
      have c5b0 : (t550 == 0) = true := beq_iff_eq.mpr c5
      have c5b1 : (t550 != 0) = false := bne_eq_false_iff_eq.mpr c5
      clear c5
      (skip)
      replace H := Option.bind_eq_some_iff.mp H
      obtain ⟨t551, A60, H⟩ := H
      replace H : (codewrightlaw35_SimplexDuals.j0 k (!t551) l0_0 l0_1 l0_2) = some r := H
      have A6 := Aside0.mk A60
      clear A60
      have H' := Aside0.mk H
      clear H
      have hcz7_0 : w3.cell? ⟨gb549, 0, none⟩ = some (.slice A0_0 l0_0.length c0_0) := (blk_cell BK549.out 0).trans rfl
      have hcz7_1 : w3.cell? ⟨gb549, 1, none⟩ = some (.slice A0_1 l0_1.length c0_1) := (blk_cell BK549.out 1).trans rfl
      have hcz7_2 : w3.cell? ⟨gb549, 2, none⟩ = some (.slice A0_2 l0_2.length c0_2) := (blk_cell BK549.out 2).trans rfl
      have hfz7_0 := blk_frozen BK549.out 0
      have hfz7_1 := blk_frozen BK549.out 1
      have hfz7_2 := blk_frozen BK549.out 2
      go_wp2_with (first | ((with_reducible refine gate_callee (f := 19) rfl ?_); refine goesL_ (some 8) rfl rfl Try.func19 (by kernel_rfl) rfl #[.agg #[.slice A0_0 l0_0.length c0_0, .slice A0_1 l0_1.length c0_1, .slice A0_2 l0_2.length c0_2]] rfl (by (try simp only [List.map_toArray, List.map_cons, List.map_nil]); rfl) ?_; (with_reducible refine (codewrightref35_Check.calls k _ _ l0_0 _ _ l0_1 _ _ l0_2 t550 _ ?side1 ?side2 ?side3 ?side4 ?side5 ?side6 A4.out).mono ?_); (case side1 => repeat (exact (Kd.C_below HR0_0.out HB.out))); (case side2 => exact HC0_0.out); (case side3 => repeat (exact (Kd.C_below HR0_1.out HB.out))); (case side4 => exact HC0_1.out); (case side5 => repeat (exact (Kd.C_below HR0_2.out HB.out))); (case side6 => exact HC0_2.out); rintro e w8 ⟨rfl, hb⟩; refine ⟨_, rfl, ?_⟩; have n0_ := Aside0.mk (blk_below (g := gb549) (o := .cells #[.slice A0_0 l0_0.length c0_0, .slice A0_1 l0_1.length c0_1, .slice A0_2 l0_2.length c0_2] 25 (0, 0)) (by (with_reducible repeat (fail)); exact BK549.out) hb); have n1_ := Aside0.mk (below_step (by repeat ((with_reducible exact HB.out))) hb); clear BK549; clear HB; have BK549 := n0_; have HB := n1_; clear n0_ n1_; (try clear hb); have hcz9_0 : w8.cell? ⟨gb549, 0, none⟩ = some (.slice A0_0 l0_0.length c0_0) := (blk_cell BK549.out 0).trans rfl; have hcz9_1 : w8.cell? ⟨gb549, 1, none⟩ = some (.slice A0_1 l0_1.length c0_1) := (blk_cell BK549.out 1).trans rfl; have hcz9_2 : w8.cell? ⟨gb549, 2, none⟩ = some (.slice A0_2 l0_2.length c0_2) := (blk_cell BK549.out 2).trans rfl; have hfz9_0 := blk_frozen BK549.out 0; have hfz9_1 := blk_frozen BK549.out 1; have hfz9_2 := blk_frozen BK549.out 2) | (go_at_call 20; (refine (codewrightlaw35_fits.calls k _ _ l0_0 _ _ l0_1 _ _ l0_2 _ _ ([] : List (List (S46))) t551 _ ?side1 ?side2 ?side3 ?side4 ?side5 ?side6 ?side7 ?side8 A6.out).mono ?_); (case side1 => repeat (exact (Kd.C_below HR0_0.out HB.out))); (case side2 => exact HC0_0.out); (case side3 => repeat (exact (Kd.C_below HR0_1.out HB.out))); (case side4 => exact HC0_1.out); (case side5 => repeat (exact (Kd.C_below HR0_2.out HB.out))); (case side6 => exact HC0_2.out); (case side7 => exact Kd.C_nil _ _); (case side8 => exact Nat.le_refl _); rintro e w10 ⟨rfl, hb⟩; have n0_ := Aside0.mk (blk_below (g := gb549) (o := .cells #[.slice A0_0 l0_0.length c0_0, .slice A0_1 l0_1.length c0_1, .slice A0_2 l0_2.length c0_2] 25 (0, 0)) (by (with_reducible repeat (fail)); exact BK549.out) hb); have n1_ := Aside0.mk (below_step (by repeat ((with_reducible exact HB.out))) hb); clear BK549; clear HB; have BK549 := n0_; have HB := n1_; clear n0_ n1_; (try clear hb)))
      go_meet
      case rel => exact ⟨_, (!t551), (by rfl), H', ⟨by omega⟩, ⟨by (with_reducible repeat (fail)); exact BK549.out⟩, ⟨by repeat ((with_reducible exact HB.out))⟩⟩
    · rw [if_neg c5] at H
      have c5b0 : (t550 == 0) = false := beq_eq_false_iff_ne.mpr c5
      have c5b1 : (t550 != 0) = true := bne_iff_ne.mpr c5
      (skip)
      have H' := Aside0.mk H
      clear H
      have hcz11_0 : w3.cell? ⟨gb549, 0, none⟩ = some (.slice A0_0 l0_0.length c0_0) := (blk_cell BK549.out 0).trans rfl
      have hcz11_1 : w3.cell? ⟨gb549, 1, none⟩ = some (.slice A0_1 l0_1.length c0_1) := (blk_cell BK549.out 1).trans rfl
      have hcz11_2 : w3.cell? ⟨gb549, 2, none⟩ = some (.slice A0_2 l0_2.length c0_2) := (blk_cell BK549.out 2).trans rfl
      have hfz11_0 := blk_frozen BK549.out 0
      have hfz11_1 := blk_frozen BK549.out 1
      have hfz11_2 := blk_frozen BK549.out 2
      go_wp2_with (((with_reducible refine gate_callee (f := 19) rfl ?_); refine goesL_ (some 8) rfl rfl Try.func19 (by kernel_rfl) rfl #[.agg #[.slice A0_0 l0_0.length c0_0, .slice A0_1 l0_1.length c0_1, .slice A0_2 l0_2.length c0_2]] rfl (by (try simp only [List.map_toArray, List.map_cons, List.map_nil]); rfl) ?_; (with_reducible refine (codewrightref35_Check.calls k _ _ l0_0 _ _ l0_1 _ _ l0_2 t550 _ ?side1 ?side2 ?side3 ?side4 ?side5 ?side6 A4.out).mono ?_); (case side1 => repeat (exact (Kd.C_below HR0_0.out HB.out))); (case side2 => exact HC0_0.out); (case side3 => repeat (exact (Kd.C_below HR0_1.out HB.out))); (case side4 => exact HC0_1.out); (case side5 => repeat (exact (Kd.C_below HR0_2.out HB.out))); (case side6 => exact HC0_2.out); rintro e w12 ⟨rfl, hb⟩; refine ⟨_, rfl, ?_⟩; have n0_ := Aside0.mk (blk_below (g := gb549) (o := .cells #[.slice A0_0 l0_0.length c0_0, .slice A0_1 l0_1.length c0_1, .slice A0_2 l0_2.length c0_2] 25 (0, 0)) (by (with_reducible repeat (fail)); exact BK549.out) hb); have n1_ := Aside0.mk (below_step (by repeat ((with_reducible exact HB.out))) hb); clear BK549; clear HB; have BK549 := n0_; have HB := n1_; clear n0_ n1_; (try clear hb)))
      go_meet
      case rel => exact ⟨_, (false), (by rfl), H', ⟨by omega⟩, ⟨by (with_reducible repeat (fail)); exact BK549.out⟩, ⟨by repeat ((with_reducible exact HB.out))⟩⟩
  case rest =>
    clear HC2
    obtain ⟨kq, x14_1, rfl, HA, HJ1, BK549, HB⟩ := hcut
    cases kq with
    | zero => exact absurd HA.out (by simp [codewrightlaw35_SimplexDuals.j0])
    | succ kj1 =>
      have H := HA.out
      clear HA
      simp only [codewrightlaw35_SimplexDuals.j0] at H
      by_cases c13 : x14_1 = true
      · subst c13
        have H1 : (some true) = some r := by rw [if_pos rfl] at H; exact H
        clear H
        have H := H1
        clear H1
        obtain rfl := Option.some.inj H
        go_wp2
        go_ret
        exact ⟨by rfl, by repeat ((with_reducible exact HB.out))⟩
      · replace c13 := Bool.eq_false_iff.mpr c13
        subst c13
        have H1 : ((simplex_Dual.f kj1 l0_0 l0_1 l0_2).bind fun bt552 => ((codewrightref35_Check.f kj1 l0_0 l0_1 l0_2).bind fun t563 => (if t563 = 0 then ((simplex_Dual.f kj1 bt552.1 bt552.2.1 bt552.2.2.1).bind fun bt566 => (if bt552.2.2.2 = 0 then (if bt566.2.2.2 = 0 then ((codewrightref35_Dual.f kj1 l0_0 l0_1 l0_2).bind fun bt577 => ((codewrightref35_Same.f kj1 bt552.1 bt552.2.1 bt552.2.2.1 bt577.1 bt577.2.1 bt577.2.2).bind fun t586 => (if t586 = true then ((codewrightref35_Canon.f kj1 l0_0 l0_1 l0_2).bind fun bt587 => ((codewrightref35_Same.f kj1 bt566.1 bt566.2.1 bt566.2.2.1 bt587.1 bt587.2.1 bt587.2.2).bind fun t596 => (some t596))) else (some false)))) else (some false)) else (some false))) else ((codewrightref35_Check.f kj1 l0_0 l0_1 l0_2).bind fun t564 => (if bt552.2.2.2 = t564 then ((codewrightref35_Same.f kj1 bt552.1 bt552.2.1 bt552.2.2.1 ([] : List (S46)) ([] : List (List (S46))) ([] : List (S46))).bind fun t565 => (some t565)) else (some false)))))) = some r := by rw [if_neg (show ¬ (false = true) by decide)] at H; exact H
        clear H
        have H := H1
        clear H1
        replace H := Option.bind_eq_some_iff.mp H
        obtain ⟨⟨t552, t555, t558, t561⟩, A140, H⟩ := H
        replace H : ((codewrightref35_Check.f kj1 l0_0 l0_1 l0_2).bind fun t563 => (if t563 = 0 then ((simplex_Dual.f kj1 t552 t555 t558).bind fun bt566 => (if t561 = 0 then (if bt566.2.2.2 = 0 then ((codewrightref35_Dual.f kj1 l0_0 l0_1 l0_2).bind fun bt577 => ((codewrightref35_Same.f kj1 t552 t555 t558 bt577.1 bt577.2.1 bt577.2.2).bind fun t586 => (if t586 = true then ((codewrightref35_Canon.f kj1 l0_0 l0_1 l0_2).bind fun bt587 => ((codewrightref35_Same.f kj1 bt566.1 bt566.2.1 bt566.2.2.1 bt587.1 bt587.2.1 bt587.2.2).bind fun t596 => (some t596))) else (some false)))) else (some false)) else (some false))) else ((codewrightref35_Check.f kj1 l0_0 l0_1 l0_2).bind fun t564 => (if t561 = t564 then ((codewrightref35_Same.f kj1 t552 t555 t558 ([] : List (S46)) ([] : List (List (S46))) ([] : List (S46))).bind fun t565 => (some t565)) else (some false))))) = some r := H
        have A14 := Aside0.mk A140
        clear A140
        replace H := Option.bind_eq_some_iff.mp H
        obtain ⟨t563, A150, H⟩ := H
        replace H : (if t563 = 0 then ((simplex_Dual.f kj1 t552 t555 t558).bind fun bt566 => (if t561 = 0 then (if bt566.2.2.2 = 0 then ((codewrightref35_Dual.f kj1 l0_0 l0_1 l0_2).bind fun bt577 => ((codewrightref35_Same.f kj1 t552 t555 t558 bt577.1 bt577.2.1 bt577.2.2).bind fun t586 => (if t586 = true then ((codewrightref35_Canon.f kj1 l0_0 l0_1 l0_2).bind fun bt587 => ((codewrightref35_Same.f kj1 bt566.1 bt566.2.1 bt566.2.2.1 bt587.1 bt587.2.1 bt587.2.2).bind fun t596 => (some t596))) else (some false)))) else (some false)) else (some false))) else ((codewrightref35_Check.f kj1 l0_0 l0_1 l0_2).bind fun t564 => (if t561 = t564 then ((codewrightref35_Same.f kj1 t552 t555 t558 ([] : List (S46)) ([] : List (List (S46))) ([] : List (S46))).bind fun t565 => (some t565)) else (some false)))) = some r := H
        have A15 := Aside0.mk A150
        clear A150
        by_cases c16 : t563 = 0
        · rw [if_pos c16] at H
          have c16b0 : (t563 == 0) = true := beq_iff_eq.mpr c16
          have c16b1 : (t563 != 0) = false := bne_eq_false_iff_eq.mpr c16
          clear c16
          replace H := Option.bind_eq_some_iff.mp H
          obtain ⟨⟨t566, t569, t572, t575⟩, A170, H⟩ := H
          replace H : (if t561 = 0 then (if t575 = 0 then ((codewrightref35_Dual.f kj1 l0_0 l0_1 l0_2).bind fun bt577 => ((codewrightref35_Same.f kj1 t552 t555 t558 bt577.1 bt577.2.1 bt577.2.2).bind fun t586 => (if t586 = true then ((codewrightref35_Canon.f kj1 l0_0 l0_1 l0_2).bind fun bt587 => ((codewrightref35_Same.f kj1 t566 t569 t572 bt587.1 bt587.2.1 bt587.2.2).bind fun t596 => (some t596))) else (some false)))) else (some false)) else (some false)) = some r := H
          have A17 := Aside0.mk A170
          clear A170
          by_cases c18 : t561 = 0
          · rw [if_pos c18] at H
            have c18b0 : (t561 == 0) = true := beq_iff_eq.mpr c18
            have c18b1 : (t561 != 0) = false := bne_eq_false_iff_eq.mpr c18
            clear c18
            by_cases c19 : t575 = 0
            · rw [if_pos c19] at H
              have c19b0 : (t575 == 0) = true := beq_iff_eq.mpr c19
              have c19b1 : (t575 != 0) = false := bne_eq_false_iff_eq.mpr c19
              clear c19
              replace H := Option.bind_eq_some_iff.mp H
              obtain ⟨⟨t577, t580, t583⟩, A200, H⟩ := H
              replace H : ((codewrightref35_Same.f kj1 t552 t555 t558 t577 t580 t583).bind fun t586 => (if t586 = true then ((codewrightref35_Canon.f kj1 l0_0 l0_1 l0_2).bind fun bt587 => ((codewrightref35_Same.f kj1 t566 t569 t572 bt587.1 bt587.2.1 bt587.2.2).bind fun t596 => (some t596))) else (some false))) = some r := H
              have A20 := Aside0.mk A200
              clear A200
              replace H := Option.bind_eq_some_iff.mp H
              obtain ⟨t586, A210, H⟩ := H
              replace H : (if t586 = true then ((codewrightref35_Canon.f kj1 l0_0 l0_1 l0_2).bind fun bt587 => ((codewrightref35_Same.f kj1 t566 t569 t572 bt587.1 bt587.2.1 bt587.2.2).bind fun t596 => (some t596))) else (some false)) = some r := H
              have A21 := Aside0.mk A210
              clear A210
              by_cases c22 : t586 = true
              · subst c22
                have H1 : ((codewrightref35_Canon.f kj1 l0_0 l0_1 l0_2).bind fun bt587 => ((codewrightref35_Same.f kj1 t566 t569 t572 bt587.1 bt587.2.1 bt587.2.2).bind fun t596 => (some t596))) = some r := by rw [if_pos rfl] at H; exact H
                clear H
                have H := H1
                clear H1
                replace H := Option.bind_eq_some_iff.mp H
                obtain ⟨⟨t587, t590, t593⟩, A230, H⟩ := H
                replace H : ((codewrightref35_Same.f kj1 t566 t569 t572 t587 t590 t593).bind fun t596 => (some t596)) = some r := H
                have A23 := Aside0.mk A230
                clear A230
                replace H := Option.bind_eq_some_iff.mp H
                obtain ⟨t596, A240, H⟩ := H
                replace H : (some t596) = some r := H
                have A24 := Aside0.mk A240
                clear A240
                obtain rfl := Option.some.inj H
                have hcz25_0 : wc.cell? ⟨gb549, 0, none⟩ = some (.slice A0_0 l0_0.length c0_0) := (blk_cell BK549.out 0).trans rfl
                have hcz25_1 : wc.cell? ⟨gb549, 1, none⟩ = some (.slice A0_1 l0_1.length c0_1) := (blk_cell BK549.out 1).trans rfl
                have hcz25_2 : wc.cell? ⟨gb549, 2, none⟩ = some (.slice A0_2 l0_2.length c0_2) := (blk_cell BK549.out 2).trans rfl
                have hfz25_0 := blk_frozen BK549.out 0
                have hfz25_1 := blk_frozen BK549.out 1
                have hfz25_2 := blk_frozen BK549.out 2
                try go_wp2_with (first | ((with_reducible refine gate_callee (f := 21) rfl ?_); refine goesL_ (some 17) rfl rfl Try.func21 (by kernel_rfl) rfl #[.agg #[.slice A0_0 l0_0.length c0_0, .slice A0_1 l0_1.length c0_1, .slice A0_2 l0_2.length c0_2]] rfl (by (try simp only [List.map_toArray, List.map_cons, List.map_nil]); rfl) ?_; (with_reducible refine (simplex_Dual.calls kj1 _ _ l0_0 _ _ l0_1 _ _ l0_2 t552 t555 t558 t561 _ ?side1 ?side2 ?side3 ?side4 ?side5 ?side6 A14.out).mono ?_); (case side1 => repeat (exact (Kd.C_below HR0_0.out HB.out))); (case side2 => exact HC0_0.out); (case side3 => repeat (exact (Kd.C_below HR0_1.out HB.out))); (case side4 => exact HC0_1.out); (case side5 => repeat (exact (Kd.C_below HR0_2.out HB.out))); (case side6 => exact HC0_2.out); rintro e w26 ⟨v553, v556, v559, rfl, ho0, ho1, ho2, hb⟩; refine ⟨_, rfl, ?_⟩; have n0_ := Aside0.mk (Kd.S_lower ho0 (below_size (by repeat ((with_reducible exact HB.out))))); have n1_ := Aside0.mk (Kd.R_lower ho1 (below_size (by repeat ((with_reducible exact HB.out))))); have n2_ := Aside0.mk (Kd.S_lower ho2 (below_size (by repeat ((with_reducible exact HB.out))))); have n3_ := Aside0.mk (blk_below (g := gb549) (o := .cells #[.slice A0_0 l0_0.length c0_0, .slice A0_1 l0_1.length c0_1, .slice A0_2 l0_2.length c0_2] 25 (0, 0)) (by (with_reducible repeat (fail)); exact BK549.out) hb); have n4_ := Aside0.mk (below_step (by repeat ((with_reducible exact HB.out))) hb); clear BK549; clear HB; have HO554 := n0_; have HO557 := n1_; have HO560 := n2_; have BK549 := n3_; have HB := n4_; clear n0_ n1_ n2_ n3_ n4_; (try clear hb); (try clear ho0); (try clear ho1); (try clear ho2)) | ((with_reducible refine gate_dst (N := 3) rfl ?_); refine box_event ?hg (N := 3) ?hd (cs := #[.slice none 0 0, .slice none 0 0, .slice none 0 0]) (t := 25) ?hr ?_; (case hd => rfl); (case hg => rfl); (case hr => (go_simp; done)); intro gb562 hg w27 hbox hb; have n0_ := Aside0.mk (Kd.S_below (by (with_reducible repeat (fail)); exact HO554.out) hb); have n1_ := Aside0.mk (Kd.R_below (by (with_reducible repeat (fail)); exact HO557.out) hb); have n2_ := Aside0.mk (Kd.S_below (by (with_reducible repeat (fail)); exact HO560.out) hb); have n3_ := Aside0.mk (blk_below (g := gb549) (o := .cells #[.slice A0_0 l0_0.length c0_0, .slice A0_1 l0_1.length c0_1, .slice A0_2 l0_2.length c0_2] 25 (0, 0)) (by (with_reducible repeat (fail)); exact BK549.out) hb); have n4_ := Aside0.mk (below_step (by repeat ((with_reducible exact HB.out))) hb); have n5_ := Aside0.mk (hbox); have n6_ := Aside0.mk ((by rw [hg]; exact (below_size (by repeat ((with_reducible exact HB.out)))) : w.heap.size ≤ gb562)); have n7_ := Aside0.mk ((by rw [hg]; exact (below_size (by repeat ((with_reducible exact HB.out)))) : w.heap.size ≤ gb562)); have n8_ := Aside0.mk ((by rw [hg]; exact Nat.ne_of_lt (blk_lt (g := gb549) (o := .cells #[.slice A0_0 l0_0.length c0_0, .slice A0_1 l0_1.length c0_1, .slice A0_2 l0_2.length c0_2] 25 (0, 0)) (by (with_reducible repeat (fail)); exact BK549.out)) : gb549 ≠ gb562)); have n9_ := Aside0.mk ((by rw [hg]; exact Nat.ne_of_gt (blk_lt (g := gb549) (o := .cells #[.slice A0_0 l0_0.length c0_0, .slice A0_1 l0_1.length c0_1, .slice A0_2 l0_2.length c0_2] 25 (0, 0)) (by (with_reducible repeat (fail)); exact BK549.out)) : gb562 ≠ gb549)); clear HO554; clear HO557; clear HO560; clear BK549; clear HB; have HO554 := n0_; have HO557 := n1_; have HO560 := n2_; have BK549 := n3_; have HB := n4_; have BK562 := n5_; have GW562 := n6_; have GE562 := n7_; have NB549_562 := n8_; have NB562_549 := n9_; clear n0_ n1_ n2_ n3_ n4_ n5_ n6_ n7_ n8_ n9_; clear hb hbox hg; obtain ⟨Ao28, co28, eo28⟩ := Kd.S_slice HO554.out; subst eo28; have hnb29 := NB562_549.out; have hnc29 := NB549_562.out; have hcz30_0 : w27.cell? ⟨gb562, 0, none⟩ = some (.slice none 0 0) := (blk_cell BK562.out 0).trans rfl; have hcz30_1 : w27.cell? ⟨gb562, 1, none⟩ = some (.slice none 0 0) := (blk_cell BK562.out 1).trans rfl; have hcz30_2 : w27.cell? ⟨gb562, 2, none⟩ = some (.slice none 0 0) := (blk_cell BK562.out 2).trans rfl; have hfz30_0 := blk_frozen BK562.out 0; have hfz30_1 := blk_frozen BK562.out 1; have hfz30_2 := blk_frozen BK562.out 2; obtain ⟨Ao31, co31, eo31⟩ := Kd.R_slice HO557.out; subst eo31; obtain ⟨Ao32, co32, eo32⟩ := Kd.S_slice HO560.out; subst eo32; have hcz33_0 : w27.cell? ⟨gb549, 0, none⟩ = some (.slice A0_0 l0_0.length c0_0) := (blk_cell BK549.out 0).trans rfl; have hcz33_1 : w27.cell? ⟨gb549, 1, none⟩ = some (.slice A0_1 l0_1.length c0_1) := (blk_cell BK549.out 1).trans rfl; have hcz33_2 : w27.cell? ⟨gb549, 2, none⟩ = some (.slice A0_2 l0_2.length c0_2) := (blk_cell BK549.out 2).trans rfl; have hfz33_0 := blk_frozen BK549.out 0; have hfz33_1 := blk_frozen BK549.out 1; have hfz33_2 := blk_frozen BK549.out 2) | ((with_reducible refine gate_callee (f := 19) rfl ?_); refine goesL_ (some 21) rfl rfl Try.func19 (by kernel_rfl) rfl #[.agg #[.slice A0_0 l0_0.length c0_0, .slice A0_1 l0_1.length c0_1, .slice A0_2 l0_2.length c0_2]] rfl (by (try simp only [List.map_toArray, List.map_cons, List.map_nil]); rfl) ?_; (with_reducible refine (codewrightref35_Check.calls kj1 _ _ l0_0 _ _ l0_1 _ _ l0_2 t563 _ ?side1 ?side2 ?side3 ?side4 ?side5 ?side6 A15.out).mono ?_); (case side1 => exact Kd.C_below HR0_0.out (by repeat ((with_reducible first | exact HB.out | refine below_set ?_ GE562.out)))); (case side2 => exact HC0_0.out); (case side3 => exact Kd.C_below HR0_1.out (by repeat ((with_reducible first | exact HB.out | refine below_set ?_ GE562.out)))); (case side4 => exact HC0_1.out); (case side5 => exact Kd.C_below HR0_2.out (by repeat ((with_reducible first | exact HB.out | refine below_set ?_ GE562.out)))); (case side6 => exact HC0_2.out); rintro e w34 ⟨rfl, hb⟩; refine ⟨_, rfl, ?_⟩; have n0_ := Aside0.mk (Kd.S_below (by (with_reducible repeat (fail)); exact (Kd.S_mono (Kd.S_far (p := ⟨gb562, 2, none⟩) (Kd.S_far (p := ⟨gb562, 1, none⟩) (Kd.S_far (p := ⟨gb562, 0, none⟩) (Kd.S_types HO554.out BK562.out (by decide)) (fun _ hk => hk.2) (.slice Ao28 t552.length co28)) (fun _ hk => hk.2) (.slice Ao31 t555.length co31)) (fun _ hk => hk.2) (.slice Ao32 t558.length co32)) (fun _ h_ => h_.1))) hb); have n1_ := Aside0.mk (Kd.R_below (by (with_reducible repeat (fail)); exact (Kd.R_mono (Kd.R_far (p := ⟨gb562, 2, none⟩) (Kd.R_far (p := ⟨gb562, 1, none⟩) (Kd.R_far (p := ⟨gb562, 0, none⟩) (Kd.R_types HO557.out BK562.out (by decide)) (fun _ hk => hk.2) (.slice Ao28 t552.length co28)) (fun _ hk => hk.2) (.slice Ao31 t555.length co31)) (fun _ hk => hk.2) (.slice Ao32 t558.length co32)) (fun _ h_ => h_.1))) hb); have n2_ := Aside0.mk (Kd.S_below (by (with_reducible repeat (fail)); exact (Kd.S_mono (Kd.S_far (p := ⟨gb562, 2, none⟩) (Kd.S_far (p := ⟨gb562, 1, none⟩) (Kd.S_far (p := ⟨gb562, 0, none⟩) (Kd.S_types HO560.out BK562.out (by decide)) (fun _ hk => hk.2) (.slice Ao28 t552.length co28)) (fun _ hk => hk.2) (.slice Ao31 t555.length co31)) (fun _ hk => hk.2) (.slice Ao32 t558.length co32)) (fun _ h_ => h_.1))) hb); have n3_ := Aside0.mk (blk_below (g := gb549) (o := .cells #[.slice A0_0 l0_0.length c0_0, .slice A0_1 l0_1.length c0_1, .slice A0_2 l0_2.length c0_2] 25 (0, 0)) (by (with_reducible repeat (fail)); refine blk_far ?_ NB549_562.out _; (with_reducible repeat (fail)); refine blk_far ?_ NB549_562.out _; (with_reducible repeat (fail)); refine blk_far ?_ NB549_562.out _; (with_reducible repeat (fail)); exact BK549.out) hb); have n4_ := Aside0.mk (blk_below (g := gb562) (o := .cells #[.slice Ao28 t552.length co28, .slice Ao31 t555.length co31, .slice Ao32 t558.length co32] 25 (0, 0)) (by (with_reducible repeat (fail)); refine blk_put (cs := #[.slice Ao28 t552.length co28, .slice Ao31 t555.length co31, .slice none 0 0]) ?_ 2 _ rfl; (with_reducible repeat (fail)); refine blk_put (cs := #[.slice Ao28 t552.length co28, .slice none 0 0, .slice none 0 0]) ?_ 1 _ rfl; (with_reducible repeat (fail)); refine blk_put (cs := #[.slice none 0 0, .slice none 0 0, .slice none 0 0]) ?_ 0 _ rfl; (with_reducible repeat (fail)); exact BK562.out) hb); have n5_ := Aside0.mk (below_step (by repeat ((with_reducible first | exact HB.out | refine below_set ?_ GE562.out))) hb); clear HO554; clear HO557; clear HO560; clear BK549; clear BK562; clear HB; have HO554 := n0_; have HO557 := n1_; have HO560 := n2_; have BK549 := n3_; have BK562 := n4_; have HB := n5_; clear n0_ n1_ n2_ n3_ n4_ n5_; (try clear hb); have hcz35_0 : w34.cell? ⟨gb562, 0, none⟩ = some (.slice Ao28 t552.length co28) := (blk_cell BK562.out 0).trans rfl; have hcz35_1 : w34.cell? ⟨gb562, 1, none⟩ = some (.slice Ao31 t555.length co31) := (blk_cell BK562.out 1).trans rfl; have hcz35_2 : w34.cell? ⟨gb562, 2, none⟩ = some (.slice Ao32 t558.length co32) := (blk_cell BK562.out 2).trans rfl; have hfz35_0 := blk_frozen BK562.out 0; have hfz35_1 := blk_frozen BK562.out 1; have hfz35_2 := blk_frozen BK562.out 2) | ((with_reducible refine gate_callee (f := 21) rfl ?_); refine goesL_ (some 34) rfl rfl Try.func21 (by kernel_rfl) rfl #[.agg #[.slice Ao28 t552.length co28, .slice Ao31 t555.length co31, .slice Ao32 t558.length co32]] rfl (by (try simp only [List.map_toArray, List.map_cons, List.map_nil]); rfl) ?_; (with_reducible refine (simplex_Dual.calls kj1 _ _ t552 _ _ t555 _ _ t558 t566 t569 t572 t575 _ ?side1 ?side2 ?side3 ?side4 ?side5 ?side6 A17.out).mono ?_); (case side1 => exact (Kd.S_reads' HO554.out).2.2); (case side2 => exact (Kd.S_reads' HO554.out).2.1); (case side3 => exact (Kd.R_reads' HO557.out).2.2); (case side4 => exact (Kd.R_reads' HO557.out).2.1); (case side5 => exact (Kd.S_reads' HO560.out).2.2); (case side6 => exact (Kd.S_reads' HO560.out).2.1); rintro e w36 ⟨v567, v570, v573, rfl, ho0, ho1, ho2, hb⟩; refine ⟨_, rfl, ?_⟩; have n0_ := Aside0.mk (Kd.S_mono (Kd.S_told (Kd.S_told (Kd.S_old (by (with_reducible repeat (fail)); exact HO554.out) hb) (Kd.S_base ho0)) (Kd.S_base ho2)) (fun _ h_ => h_.1)); have n1_ := Aside0.mk (Kd.R_mono (Kd.R_told (Kd.R_told (Kd.R_told (Kd.R_old (by (with_reducible repeat (fail)); exact HO557.out) hb) (Kd.S_base ho0)) (Kd.R_base ho1)) (Kd.S_base ho2)) (fun _ h_ => h_.1)); have n2_ := Aside0.mk (Kd.S_mono (Kd.S_told (Kd.S_told (Kd.S_old (by (with_reducible repeat (fail)); exact HO560.out) hb) (Kd.S_base ho0)) (Kd.S_base ho2)) (fun _ h_ => h_.1)); have n3_ := Aside0.mk (Kd.S_lower (Kd.S_new' (Kd.S_new' ho0 (Kd.S_lt (by (with_reducible repeat (fail)); exact HO554.out))) (Kd.S_lt (by (with_reducible repeat (fail)); exact HO560.out))) (below_size (by repeat ((with_reducible exact HB.out))))); have n4_ := Aside0.mk (Kd.R_lower (Kd.R_new' (Kd.R_new' (Kd.R_new' ho1 (Kd.S_lt (by (with_reducible repeat (fail)); exact HO554.out))) (Kd.R_lt (by (with_reducible repeat (fail)); exact HO557.out))) (Kd.S_lt (by (with_reducible repeat (fail)); exact HO560.out))) (below_size (by repeat ((with_reducible exact HB.out))))); have n5_ := Aside0.mk (Kd.S_lower (Kd.S_new' (Kd.S_new' ho2 (Kd.S_lt (by (with_reducible repeat (fail)); exact HO554.out))) (Kd.S_lt (by (with_reducible repeat (fail)); exact HO560.out))) (below_size (by repeat ((with_reducible exact HB.out))))); have n6_ := Aside0.mk (blk_below (g := gb549) (o := .cells #[.slice A0_0 l0_0.length c0_0, .slice A0_1 l0_1.length c0_1, .slice A0_2 l0_2.length c0_2] 25 (0, 0)) (by (with_reducible repeat (fail)); exact BK549.out) hb); have n7_ := Aside0.mk (blk_below (g := gb562) (o := .cells #[.slice Ao28 t552.length co28, .slice Ao31 t555.length co31, .slice Ao32 t558.length co32] 25 (0, 0)) (by (with_reducible repeat (fail)); exact BK562.out) hb); have n8_ := Aside0.mk (below_step (by repeat ((with_reducible exact HB.out))) hb); clear HO554; clear HO557; clear HO560; clear BK549; clear BK562; clear HB; have HO554 := n0_; have HO557 := n1_; have HO560 := n2_; have HO568 := n3_; have HO571 := n4_; have HO574 := n5_; have BK549 := n6_; have BK562 := n7_; have HB := n8_; clear n0_ n1_ n2_ n3_ n4_ n5_ n6_ n7_ n8_; (try clear hb); (try clear ho0); (try clear ho1); (try clear ho2)) | ((with_reducible refine gate_dst (N := 5) rfl ?_); refine box_event ?hg (N := 5) ?hd (cs := #[.slice none 0 0, .slice none 0 0, .slice none 0 0]) (t := 25) ?hr ?_; (case hd => rfl); (case hg => rfl); (case hr => (go_simp; done)); intro gb576 hg w37 hbox hb; have n0_ := Aside0.mk (Kd.S_below (by (with_reducible repeat (fail)); exact HO554.out) hb); have n1_ := Aside0.mk (Kd.R_below (by (with_reducible repeat (fail)); exact HO557.out) hb); have n2_ := Aside0.mk (Kd.S_below (by (with_reducible repeat (fail)); exact HO560.out) hb); have n3_ := Aside0.mk (Kd.S_below (by (with_reducible repeat (fail)); exact HO568.out) hb); have n4_ := Aside0.mk (Kd.R_below (by (with_reducible repeat (fail)); exact HO571.out) hb); have n5_ := Aside0.mk (Kd.S_below (by (with_reducible repeat (fail)); exact HO574.out) hb); have n6_ := Aside0.mk (blk_below (g := gb549) (o := .cells #[.slice A0_0 l0_0.length c0_0, .slice A0_1 l0_1.length c0_1, .slice A0_2 l0_2.length c0_2] 25 (0, 0)) (by (with_reducible repeat (fail)); exact BK549.out) hb); have n7_ := Aside0.mk (blk_below (g := gb562) (o := .cells #[.slice Ao28 t552.length co28, .slice Ao31 t555.length co31, .slice Ao32 t558.length co32] 25 (0, 0)) (by (with_reducible repeat (fail)); exact BK562.out) hb); have n8_ := Aside0.mk (below_step (by repeat ((with_reducible exact HB.out))) hb); have n9_ := Aside0.mk (hbox); have n10_ := Aside0.mk ((by rw [hg]; exact (below_size (by repeat ((with_reducible exact HB.out)))) : w.heap.size ≤ gb576)); have n11_ := Aside0.mk ((by rw [hg]; exact (below_size (by repeat ((with_reducible exact HB.out)))) : w.heap.size ≤ gb576)); have n12_ := Aside0.mk ((by rw [hg]; exact Nat.ne_of_lt (blk_lt (g := gb549) (o := .cells #[.slice A0_0 l0_0.length c0_0, .slice A0_1 l0_1.length c0_1, .slice A0_2 l0_2.length c0_2] 25 (0, 0)) (by (with_reducible repeat (fail)); exact BK549.out)) : gb549 ≠ gb576)); have n13_ := Aside0.mk ((by rw [hg]; exact Nat.ne_of_gt (blk_lt (g := gb549) (o := .cells #[.slice A0_0 l0_0.length c0_0, .slice A0_1 l0_1.length c0_1, .slice A0_2 l0_2.length c0_2] 25 (0, 0)) (by (with_reducible repeat (fail)); exact BK549.out)) : gb576 ≠ gb549)); have n14_ := Aside0.mk ((by rw [hg]; exact Nat.ne_of_lt (blk_lt (g := gb562) (o := .cells #[.slice Ao28 t552.length co28, .slice Ao31 t555.length co31, .slice Ao32 t558.length co32] 25 (0, 0)) (by (with_reducible repeat (fail)); exact BK562.out)) : gb562 ≠ gb576)); have n15_ := Aside0.mk ((by rw [hg]; exact Nat.ne_of_gt (blk_lt (g := gb562) (o := .cells #[.slice Ao28 t552.length co28, .slice Ao31 t555.length co31, .slice Ao32 t558.length co32] 25 (0, 0)) (by (with_reducible repeat (fail)); exact BK562.out)) : gb576 ≠ gb562)); clear HO554; clear HO557; clear HO560; clear HO568; clear HO571; clear HO574; clear BK549; clear BK562; clear HB; have HO554 := n0_; have HO557 := n1_; have HO560 := n2_; have HO568 := n3_; have HO571 := n4_; have HO574 := n5_; have BK549 := n6_; have BK562 := n7_; have HB := n8_; have BK576 := n9_; have GW576 := n10_; have GE576 := n11_; have NB549_576 := n12_; have NB576_549 := n13_; have NB562_576 := n14_; have NB576_562 := n15_; clear n0_ n1_ n2_ n3_ n4_ n5_ n6_ n7_ n8_ n9_ n10_ n11_ n12_ n13_ n14_ n15_; clear hb hbox hg; obtain ⟨Ao38, co38, eo38⟩ := Kd.S_slice HO568.out; subst eo38; have hnb39 := NB576_549.out; have hnc39 := NB549_576.out; have hnb40 := NB576_562.out; have hnc40 := NB562_576.out; have hcz41_0 : w37.cell? ⟨gb576, 0, none⟩ = some (.slice none 0 0) := (blk_cell BK576.out 0).trans rfl; have hcz41_1 : w37.cell? ⟨gb576, 1, none⟩ = some (.slice none 0 0) := (blk_cell BK576.out 1).trans rfl; have hcz41_2 : w37.cell? ⟨gb576, 2, none⟩ = some (.slice none 0 0) := (blk_cell BK576.out 2).trans rfl; have hfz41_0 := blk_frozen BK576.out 0; have hfz41_1 := blk_frozen BK576.out 1; have hfz41_2 := blk_frozen BK576.out 2; obtain ⟨Ao42, co42, eo42⟩ := Kd.R_slice HO571.out; subst eo42; obtain ⟨Ao43, co43, eo43⟩ := Kd.S_slice HO574.out; subst eo43))
                have n0_ : Aside0 (Kd.S k46 46 (((w37.setCell ⟨gb576, 0, none⟩ (.slice Ao38 t566.length co38)).setCell ⟨gb576, 1, none⟩ (.slice Ao42 t569.length co42)).setCell ⟨gb576, 2, none⟩ (.slice Ao43 t572.length co43)) w.heap.size (fun k_ => some k_ ≠ (.slice Ao32 t558.length co32 : Value).ownBlock ∧ some k_ ≠ (.slice Ao38 t566.length co38 : Value).ownBlock ∧ some k_ ≠ (.slice Ao43 t572.length co43 : Value).ownBlock) (.slice Ao28 t552.length co28) t552) := ⟨by (with_reducible repeat (fail)); exact Kd.S_mono (Kd.S_far (p := ⟨gb576, 2, none⟩) (Kd.S_far (p := ⟨gb576, 1, none⟩) (Kd.S_far (p := ⟨gb576, 0, none⟩) (Kd.S_types HO554.out BK576.out (by decide)) (fun _ hk => hk.2) (.slice Ao38 t566.length co38)) (fun _ hk => hk.2) (.slice Ao42 t569.length co42)) (fun _ hk => hk.2) (.slice Ao43 t572.length co43)) (fun _ hk => ⟨hk.1.1.1, ⟨hk.1.1.2, hk.1.2⟩⟩)⟩
                have n1_ : Aside0 (Kd.R (Kd.slice 46 k46) 22 (((w37.setCell ⟨gb576, 0, none⟩ (.slice Ao38 t566.length co38)).setCell ⟨gb576, 1, none⟩ (.slice Ao42 t569.length co42)).setCell ⟨gb576, 2, none⟩ (.slice Ao43 t572.length co43)) w.heap.size (fun k_ => some k_ ≠ (.slice Ao28 t552.length co28 : Value).ownBlock ∧ some k_ ≠ (.slice Ao32 t558.length co32 : Value).ownBlock ∧ some k_ ≠ (.slice Ao38 t566.length co38 : Value).ownBlock ∧ some k_ ≠ (.slice Ao42 t569.length co42 : Value).ownBlock ∧ some k_ ≠ (.slice Ao43 t572.length co43 : Value).ownBlock) (.slice Ao31 t555.length co31) t555) := ⟨by (with_reducible repeat (fail)); exact Kd.R_mono (Kd.R_far (p := ⟨gb576, 2, none⟩) (Kd.R_far (p := ⟨gb576, 1, none⟩) (Kd.R_far (p := ⟨gb576, 0, none⟩) (Kd.R_types HO557.out BK576.out (by decide)) (fun _ hk => hk.2) (.slice Ao38 t566.length co38)) (fun _ hk => hk.2) (.slice Ao42 t569.length co42)) (fun _ hk => hk.2) (.slice Ao43 t572.length co43)) (fun _ hk => ⟨hk.1.1.1.1.1, ⟨hk.1.1.1.1.2, ⟨hk.1.1.1.2, ⟨hk.1.1.2, hk.1.2⟩⟩⟩⟩)⟩
                have n2_ : Aside0 (Kd.S k46 46 (((w37.setCell ⟨gb576, 0, none⟩ (.slice Ao38 t566.length co38)).setCell ⟨gb576, 1, none⟩ (.slice Ao42 t569.length co42)).setCell ⟨gb576, 2, none⟩ (.slice Ao43 t572.length co43)) w.heap.size (fun k_ => some k_ ≠ (.slice Ao28 t552.length co28 : Value).ownBlock ∧ some k_ ≠ (.slice Ao38 t566.length co38 : Value).ownBlock ∧ some k_ ≠ (.slice Ao43 t572.length co43 : Value).ownBlock) (.slice Ao32 t558.length co32) t558) := ⟨by (with_reducible repeat (fail)); exact Kd.S_mono (Kd.S_far (p := ⟨gb576, 2, none⟩) (Kd.S_far (p := ⟨gb576, 1, none⟩) (Kd.S_far (p := ⟨gb576, 0, none⟩) (Kd.S_types HO560.out BK576.out (by decide)) (fun _ hk => hk.2) (.slice Ao38 t566.length co38)) (fun _ hk => hk.2) (.slice Ao42 t569.length co42)) (fun _ hk => hk.2) (.slice Ao43 t572.length co43)) (fun _ hk => ⟨hk.1.1.1, ⟨hk.1.1.2, hk.1.2⟩⟩)⟩
                have n3_ : Aside0 (Kd.S k46 46 (((w37.setCell ⟨gb576, 0, none⟩ (.slice Ao38 t566.length co38)).setCell ⟨gb576, 1, none⟩ (.slice Ao42 t569.length co42)).setCell ⟨gb576, 2, none⟩ (.slice Ao43 t572.length co43)) w.heap.size (fun k_ => some k_ ≠ (.slice Ao28 t552.length co28 : Value).ownBlock ∧ some k_ ≠ (.slice Ao32 t558.length co32 : Value).ownBlock ∧ some k_ ≠ (.slice Ao43 t572.length co43 : Value).ownBlock) (.slice Ao38 t566.length co38) t566) := ⟨by (with_reducible repeat (fail)); exact Kd.S_mono (Kd.S_far (p := ⟨gb576, 2, none⟩) (Kd.S_far (p := ⟨gb576, 1, none⟩) (Kd.S_far (p := ⟨gb576, 0, none⟩) (Kd.S_types HO568.out BK576.out (by decide)) (fun _ hk => hk.2) (.slice Ao38 t566.length co38)) (fun _ hk => hk.2) (.slice Ao42 t569.length co42)) (fun _ hk => hk.2) (.slice Ao43 t572.length co43)) (fun _ hk => ⟨hk.1.1.2, ⟨hk.1.2, hk.1.1.1⟩⟩)⟩
                have n4_ : Aside0 (Kd.R (Kd.slice 46 k46) 22 (((w37.setCell ⟨gb576, 0, none⟩ (.slice Ao38 t566.length co38)).setCell ⟨gb576, 1, none⟩ (.slice Ao42 t569.length co42)).setCell ⟨gb576, 2, none⟩ (.slice Ao43 t572.length co43)) w.heap.size (fun k_ => some k_ ≠ (.slice Ao28 t552.length co28 : Value).ownBlock ∧ some k_ ≠ (.slice Ao31 t555.length co31 : Value).ownBlock ∧ some k_ ≠ (.slice Ao32 t558.length co32 : Value).ownBlock ∧ some k_ ≠ (.slice Ao38 t566.length co38 : Value).ownBlock ∧ some k_ ≠ (.slice Ao43 t572.length co43 : Value).ownBlock) (.slice Ao42 t569.length co42) t569) := ⟨by (with_reducible repeat (fail)); exact Kd.R_mono (Kd.R_far (p := ⟨gb576, 2, none⟩) (Kd.R_far (p := ⟨gb576, 1, none⟩) (Kd.R_far (p := ⟨gb576, 0, none⟩) (Kd.R_types HO571.out BK576.out (by decide)) (fun _ hk => hk.2) (.slice Ao38 t566.length co38)) (fun _ hk => hk.2) (.slice Ao42 t569.length co42)) (fun _ hk => hk.2) (.slice Ao43 t572.length co43)) (fun _ hk => ⟨hk.1.1.1.2, ⟨hk.1.1.2, ⟨hk.1.2, ⟨hk.1.1.1.1.1, hk.1.1.1.1.2⟩⟩⟩⟩)⟩
                have n5_ : Aside0 (Kd.S k46 46 (((w37.setCell ⟨gb576, 0, none⟩ (.slice Ao38 t566.length co38)).setCell ⟨gb576, 1, none⟩ (.slice Ao42 t569.length co42)).setCell ⟨gb576, 2, none⟩ (.slice Ao43 t572.length co43)) w.heap.size (fun k_ => some k_ ≠ (.slice Ao28 t552.length co28 : Value).ownBlock ∧ some k_ ≠ (.slice Ao32 t558.length co32 : Value).ownBlock ∧ some k_ ≠ (.slice Ao38 t566.length co38 : Value).ownBlock) (.slice Ao43 t572.length co43) t572) := ⟨by (with_reducible repeat (fail)); exact Kd.S_mono (Kd.S_far (p := ⟨gb576, 2, none⟩) (Kd.S_far (p := ⟨gb576, 1, none⟩) (Kd.S_far (p := ⟨gb576, 0, none⟩) (Kd.S_types HO574.out BK576.out (by decide)) (fun _ hk => hk.2) (.slice Ao38 t566.length co38)) (fun _ hk => hk.2) (.slice Ao42 t569.length co42)) (fun _ hk => hk.2) (.slice Ao43 t572.length co43)) (fun _ hk => ⟨hk.1.1.2, ⟨hk.1.2, hk.1.1.1⟩⟩)⟩
                have n6_ : Aside0 ((((w37.setCell ⟨gb576, 0, none⟩ (.slice Ao38 t566.length co38)).setCell ⟨gb576, 1, none⟩ (.slice Ao42 t569.length co42)).setCell ⟨gb576, 2, none⟩ (.slice Ao43 t572.length co43)).heap[gb549]? = some (.cells #[.slice A0_0 l0_0.length c0_0, .slice A0_1 l0_1.length c0_1, .slice A0_2 l0_2.length c0_2] 25 (0, 0))) := ⟨by (with_reducible repeat (fail)); refine blk_far ?_ NB549_576.out _; (with_reducible repeat (fail)); refine blk_far ?_ NB549_576.out _; (with_reducible repeat (fail)); refine blk_far ?_ NB549_576.out _; (with_reducible repeat (fail)); exact BK549.out⟩
                have n7_ : Aside0 ((((w37.setCell ⟨gb576, 0, none⟩ (.slice Ao38 t566.length co38)).setCell ⟨gb576, 1, none⟩ (.slice Ao42 t569.length co42)).setCell ⟨gb576, 2, none⟩ (.slice Ao43 t572.length co43)).heap[gb562]? = some (.cells #[.slice Ao28 t552.length co28, .slice Ao31 t555.length co31, .slice Ao32 t558.length co32] 25 (0, 0))) := ⟨by (with_reducible repeat (fail)); refine blk_far ?_ NB562_576.out _; (with_reducible repeat (fail)); refine blk_far ?_ NB562_576.out _; (with_reducible repeat (fail)); refine blk_far ?_ NB562_576.out _; (with_reducible repeat (fail)); exact BK562.out⟩
                have n8_ : Aside0 ((((w37.setCell ⟨gb576, 0, none⟩ (.slice Ao38 t566.length co38)).setCell ⟨gb576, 1, none⟩ (.slice Ao42 t569.length co42)).setCell ⟨gb576, 2, none⟩ (.slice Ao43 t572.length co43)).heap[gb576]? = some (.cells #[.slice Ao38 t566.length co38, .slice Ao42 t569.length co42, .slice Ao43 t572.length co43] 25 (0, 0))) := ⟨by (with_reducible repeat (fail)); refine blk_put (cs := #[.slice Ao38 t566.length co38, .slice Ao42 t569.length co42, .slice none 0 0]) ?_ 2 _ rfl; (with_reducible repeat (fail)); refine blk_put (cs := #[.slice Ao38 t566.length co38, .slice none 0 0, .slice none 0 0]) ?_ 1 _ rfl; (with_reducible repeat (fail)); refine blk_put (cs := #[.slice none 0 0, .slice none 0 0, .slice none 0 0]) ?_ 0 _ rfl; (with_reducible repeat (fail)); exact BK576.out⟩
                have n9_ : Aside0 (Below w.heap.size w (((w37.setCell ⟨gb576, 0, none⟩ (.slice Ao38 t566.length co38)).setCell ⟨gb576, 1, none⟩ (.slice Ao42 t569.length co42)).setCell ⟨gb576, 2, none⟩ (.slice Ao43 t572.length co43))) := ⟨by repeat ((with_reducible first | exact HB.out | refine below_set ?_ GE576.out))⟩
                (try clear HO554)
                (try clear HO557)
                (try clear HO560)
                (try clear HO568)
                (try clear HO571)
                (try clear HO574)
                (try clear BK549)
                (try clear BK562)
                (try clear BK576)
                (try clear HB)
                generalize (((w37.setCell ⟨gb576, 0, none⟩ (.slice Ao38 t566.length co38)).setCell ⟨gb576, 1, none⟩ (.slice Ao42 t569.length co42)).setCell ⟨gb576, 2, none⟩ (.slice Ao43 t572.length co43)) = w44 at n0_ n1_ n2_ n3_ n4_ n5_ n6_ n7_ n8_ n9_ ⊢
                have HO554 := n0_
                have HO557 := n1_
                have HO560 := n2_
                have HO568 := n3_
                have HO571 := n4_
                have HO574 := n5_
                have BK549 := n6_
                have BK562 := n7_
                have BK576 := n8_
                have HB := n9_
                clear n0_ n1_ n2_ n3_ n4_ n5_ n6_ n7_ n8_ n9_
                have n0_ := Aside0.mk (Kd.S_drew HO554.out)
                have n1_ := Aside0.mk (Kd.R_drew HO557.out)
                have n2_ := Aside0.mk (Kd.S_drew HO560.out)
                have n3_ := Aside0.mk (Kd.S_drew HO568.out)
                have n4_ := Aside0.mk (Kd.R_drew HO571.out)
                have n5_ := Aside0.mk (Kd.S_drew HO574.out)
                have n6_ := Aside0.mk (blk_drew BK549.out)
                have n7_ := Aside0.mk (blk_drew BK562.out)
                have n8_ := Aside0.mk (blk_drew BK576.out)
                have n9_ := Aside0.mk (below_drew1 HB.out)
                clear HO554
                clear HO557
                clear HO560
                clear HO568
                clear HO571
                clear HO574
                clear BK549
                clear BK562
                clear BK576
                clear HB
                have HO554 := n0_
                have HO557 := n1_
                have HO560 := n2_
                have HO568 := n3_
                have HO571 := n4_
                have HO574 := n5_
                have BK549 := n6_
                have BK562 := n7_
                have BK576 := n8_
                have HB := n9_
                clear n0_ n1_ n2_ n3_ n4_ n5_ n6_ n7_ n8_ n9_
                refine start_ (n := 19) (S := fun w' => w'.cell? ⟨gb562, 0, none⟩ = some (.slice Ao28 t552.length co28) ∧ w'.cell? ⟨gb562, 1, none⟩ = some (.slice Ao31 t555.length co31) ∧ w'.cell? ⟨gb562, 2, none⟩ = some (.slice Ao32 t558.length co32) ∧ w'.cell? ⟨gb549, 0, none⟩ = some (.slice A0_0 l0_0.length c0_0) ∧ w'.cell? ⟨gb549, 1, none⟩ = some (.slice A0_1 l0_1.length c0_1) ∧ w'.cell? ⟨gb549, 2, none⟩ = some (.slice A0_2 l0_2.length c0_2) ∧ w'.cell? ⟨gb576, 0, none⟩ = some (.slice Ao38 t566.length co38) ∧ w'.cell? ⟨gb576, 1, none⟩ = some (.slice Ao42 t569.length co42) ∧ w'.cell? ⟨gb576, 2, none⟩ = some (.slice Ao43 t572.length co43)) (ds := []) #[false, false, false, false, false, false, false, false, false, false, false, false, false, false, false, false, false, false, false] (by kernel_rfl) rfl rfl ⟨(blk_cell BK562.out 0).trans rfl, (blk_cell BK562.out 1).trans rfl, (blk_cell BK562.out 2).trans rfl, (blk_cell BK549.out 0).trans rfl, (blk_cell BK549.out 1).trans rfl, (blk_cell BK549.out 2).trans rfl, (blk_cell BK576.out 0).trans rfl, (blk_cell BK576.out 1).trans rfl, (blk_cell BK576.out 2).trans rfl⟩ (fun hHeld => ?_); refine with_tabW codewrightlaw35_SimplexDuals.tab7 codewrightlaw35_SimplexDuals.bits7 (fun HT_ HW_ => ?_)
                generalize w44.drew = w45 at HO554 HO557 HO560 HO568 HO571 HO574 BK549 BK562 BK576 HB hHeld ⊢
                refine pure_ (i := 0) (N := some 37) (v := ?_) (a' := ?_) #[true, false, false, false, false, false, false, false, false, false, false, false, false, false, false, false, false, false, false] rfl rfl (any_of HT_.out (by kernel_rfl)) (fun _ _ _ h => h) (Or.inl ⟨by rfl, ?_⟩) ?_ ?_
                rotate_left
                · intro w'
                  go_simp
                  with_reducible rfl
                rotate_left
                · simp only [Act.put, List.setIfInBounds_toArray, List.set_cons_zero, List.set_cons_succ, i64_w, i32_w]
                  rfl
                refine pure_ (i := 1) (N := some 38) (v := ?_) (a' := ?_) #[true, true, false, false, false, false, false, false, false, false, false, false, false, false, false, false, false, false, false] rfl rfl (any_of HT_.out (by kernel_rfl)) (fun _ _ _ h => h) (Or.inl ⟨by rfl, ?_⟩) ?_ ?_
                rotate_left
                · intro w'
                  go_simp
                  with_reducible rfl
                rotate_left
                · simp only [Act.put, List.setIfInBounds_toArray, List.set_cons_zero, List.set_cons_succ, i64_w, i32_w]
                  rfl
                refine pure_ (i := 2) (N := some 39) (v := ?_) (a' := ?_) #[true, true, true, false, false, false, false, false, false, false, false, false, false, false, false, false, false, false, false] rfl rfl (any_of HT_.out (by kernel_rfl)) (fun _ _ _ h => h) (Or.inl ⟨by rfl, ?_⟩) ?_ ?_
                rotate_left
                · intro w'
                  go_simp
                  with_reducible rfl
                rotate_left
                · simp only [Act.put, List.setIfInBounds_toArray, List.set_cons_zero, List.set_cons_succ, i64_w, i32_w]
                  rfl
                refine pure_ (i := 3) (N := some 40) (v := ?_) (a' := ?_) #[true, true, true, true, false, false, false, false, false, false, false, false, false, false, false, false, false, false, false] rfl rfl (any_of HT_.out (by kernel_rfl)) (fun _ _ _ h => h) (Or.inl ⟨by rfl, ?_⟩) ?_ ?_
                rotate_left
                · intro w'
                  go_simp
                  with_reducible rfl
                rotate_left
                · simp only [Act.put, List.setIfInBounds_toArray, List.set_cons_zero, List.set_cons_succ, i64_w, i32_w]
                  rfl
                refine pure_ (i := 4) (N := some 41) (v := ?_) (a' := ?_) #[true, true, true, true, true, false, false, false, false, false, false, false, false, false, false, false, false, false, false] rfl rfl (any_of HT_.out (by kernel_rfl)) (fun _ _ _ h => h) (Or.inl ⟨by rfl, ?_⟩) ?_ ?_
                rotate_left
                · intro w'
                  go_simp
                  with_reducible rfl
                rotate_left
                · simp only [Act.put, List.setIfInBounds_toArray, List.set_cons_zero, List.set_cons_succ, i64_w, i32_w]
                  rfl
                refine pure_ (i := 5) (N := some 42) (v := ?_) (a' := ?_) #[true, true, true, true, true, true, false, false, false, false, false, false, false, false, false, false, false, false, false] rfl rfl (any_of HT_.out (by kernel_rfl)) (fun _ _ _ h => h) (Or.inl ⟨by rfl, ?_⟩) ?_ ?_
                rotate_left
                · intro w'
                  go_simp
                  with_reducible rfl
                rotate_left
                · simp only [Act.put, List.setIfInBounds_toArray, List.set_cons_zero, List.set_cons_succ, i64_w, i32_w]
                  rfl
                refine pure_ (i := 6) (N := some 43) (v := ?_) (a' := ?_) #[true, true, true, true, true, true, true, false, false, false, false, false, false, false, false, false, false, false, false] rfl rfl (any_of HT_.out (by kernel_rfl)) (fun _ _ _ h => h) (Or.inl ⟨by rfl, ?_⟩) ?_ ?_
                rotate_left
                · intro w'
                  go_simp
                  with_reducible rfl
                rotate_left
                · simp only [Act.put, List.setIfInBounds_toArray, List.set_cons_zero, List.set_cons_succ, i64_w, i32_w]
                  rfl
                refine take_ (i := 7) (N := some 44) (v := ?_) (a' := ?_) #[true, true, true, true, true, true, true, true, false, false, false, false, false, false, false, false, false, false, false] rfl rfl (take_ofW HT_.out HW_.out (by kernel_rfl)) (fun _ _ _ h => h) (Or.inl ⟨by rfl, ?_⟩) hHeld ?_ ?_
                rotate_left
                · rintro w' ⟨s0, s1, s2, s3, s4, s5, s6, s7, s8⟩
                  go_simp
                  with_reducible rfl
                rotate_left
                · simp only [Act.put, List.setIfInBounds_toArray, List.set_cons_zero, List.set_cons_succ, i64_w, i32_w]
                  rfl
                refine take_ (i := 8) (N := some 45) (v := ?_) (a' := ?_) #[true, true, true, true, true, true, true, true, true, false, false, false, false, false, false, false, false, false, false] rfl rfl (take_ofW HT_.out HW_.out (by kernel_rfl)) (fun _ _ _ h => h) (Or.inl ⟨by rfl, ?_⟩) hHeld ?_ ?_
                rotate_left
                · rintro w' ⟨s0, s1, s2, s3, s4, s5, s6, s7, s8⟩
                  go_simp
                  with_reducible rfl
                rotate_left
                · simp only [Act.put, List.setIfInBounds_toArray, List.set_cons_zero, List.set_cons_succ, i64_w, i32_w]
                  rfl
                refine one_ (i := 9) (N := some 46) #[true, true, true, true, true, true, true, true, true, true, false, false, false, false, false, false, false, false, false] rfl rfl (one_of HT_.out (by kernel_rfl)) (by decide) (fun K hK => ?_)
                refine goes_ Try.func23 (by kernel_rfl) rfl #[.agg #[.slice A0_0 l0_0.length c0_0, .slice A0_1 l0_1.length c0_1, .slice A0_2 l0_2.length c0_2]] (by rfl) rfl rfl (by (try simp only [List.map_toArray, List.map_cons, List.map_nil]); rfl) ?_
                with_reducible refine (codewrightref35_Dual.calls kj1 _ _ l0_0 _ _ l0_1 _ _ l0_2 t577 t580 t583 _ ?side1 ?side2 ?side3 ?side4 ?side5 ?side6 A20.out).mono ?_
                (case side1 => repeat (exact (Kd.C_below HR0_0.out HB.out)))
                (case side2 => exact HC0_0.out)
                (case side3 => repeat (exact (Kd.C_below HR0_1.out HB.out)))
                (case side4 => exact HC0_1.out)
                (case side5 => repeat (exact (Kd.C_below HR0_2.out HB.out)))
                (case side6 => exact HC0_2.out)
                rintro e w46 ⟨v578, v581, v584, rfl, ho0, ho1, ho2, hb⟩
                refine ⟨_, rfl, ?_⟩
                have n0_ := Aside0.mk (Kd.S_mono (Kd.S_told (Kd.S_told (Kd.S_old (by (with_reducible repeat (fail)); exact HO554.out) hb) (Kd.S_base ho0)) (Kd.S_base ho2)) (fun _ h_ => h_.1))
                have n1_ := Aside0.mk (Kd.R_mono (Kd.R_told (Kd.R_told (Kd.R_told (Kd.R_old (by (with_reducible repeat (fail)); exact HO557.out) hb) (Kd.S_base ho0)) (Kd.R_base ho1)) (Kd.S_base ho2)) (fun _ h_ => h_.1))
                have n2_ := Aside0.mk (Kd.S_mono (Kd.S_told (Kd.S_told (Kd.S_old (by (with_reducible repeat (fail)); exact HO560.out) hb) (Kd.S_base ho0)) (Kd.S_base ho2)) (fun _ h_ => h_.1))
                have n3_ := Aside0.mk (Kd.S_mono (Kd.S_told (Kd.S_told (Kd.S_old (by (with_reducible repeat (fail)); exact HO568.out) hb) (Kd.S_base ho0)) (Kd.S_base ho2)) (fun _ h_ => h_.1))
                have n4_ := Aside0.mk (Kd.R_mono (Kd.R_told (Kd.R_told (Kd.R_told (Kd.R_old (by (with_reducible repeat (fail)); exact HO571.out) hb) (Kd.S_base ho0)) (Kd.R_base ho1)) (Kd.S_base ho2)) (fun _ h_ => h_.1))
                have n5_ := Aside0.mk (Kd.S_mono (Kd.S_told (Kd.S_told (Kd.S_old (by (with_reducible repeat (fail)); exact HO574.out) hb) (Kd.S_base ho0)) (Kd.S_base ho2)) (fun _ h_ => h_.1))
                have n6_ := Aside0.mk (Kd.S_lower (Kd.S_new' (Kd.S_new' (Kd.S_new' (Kd.S_new' ho0 (Kd.S_lt (by (with_reducible repeat (fail)); exact HO554.out))) (Kd.S_lt (by (with_reducible repeat (fail)); exact HO560.out))) (Kd.S_lt (by (with_reducible repeat (fail)); exact HO568.out))) (Kd.S_lt (by (with_reducible repeat (fail)); exact HO574.out))) (below_size (by repeat ((with_reducible exact HB.out)))))
                have n7_ := Aside0.mk (Kd.R_lower (Kd.R_new' (Kd.R_new' (Kd.R_new' (Kd.R_new' (Kd.R_new' (Kd.R_new' ho1 (Kd.S_lt (by (with_reducible repeat (fail)); exact HO554.out))) (Kd.R_lt (by (with_reducible repeat (fail)); exact HO557.out))) (Kd.S_lt (by (with_reducible repeat (fail)); exact HO560.out))) (Kd.S_lt (by (with_reducible repeat (fail)); exact HO568.out))) (Kd.R_lt (by (with_reducible repeat (fail)); exact HO571.out))) (Kd.S_lt (by (with_reducible repeat (fail)); exact HO574.out))) (below_size (by repeat ((with_reducible exact HB.out)))))
                have n8_ := Aside0.mk (Kd.S_lower (Kd.S_new' (Kd.S_new' (Kd.S_new' (Kd.S_new' ho2 (Kd.S_lt (by (with_reducible repeat (fail)); exact HO554.out))) (Kd.S_lt (by (with_reducible repeat (fail)); exact HO560.out))) (Kd.S_lt (by (with_reducible repeat (fail)); exact HO568.out))) (Kd.S_lt (by (with_reducible repeat (fail)); exact HO574.out))) (below_size (by repeat ((with_reducible exact HB.out)))))
                have n9_ := Aside0.mk (blk_below (g := gb549) (o := .cells #[.slice A0_0 l0_0.length c0_0, .slice A0_1 l0_1.length c0_1, .slice A0_2 l0_2.length c0_2] 25 (0, 0)) (by (with_reducible repeat (fail)); exact BK549.out) hb)
                have n10_ := Aside0.mk (blk_below (g := gb562) (o := .cells #[.slice Ao28 t552.length co28, .slice Ao31 t555.length co31, .slice Ao32 t558.length co32] 25 (0, 0)) (by (with_reducible repeat (fail)); exact BK562.out) hb)
                have n11_ := Aside0.mk (blk_below (g := gb576) (o := .cells #[.slice Ao38 t566.length co38, .slice Ao42 t569.length co42, .slice Ao43 t572.length co43] 25 (0, 0)) (by (with_reducible repeat (fail)); exact BK576.out) hb)
                have n12_ := Aside0.mk (below_step (by repeat ((with_reducible exact HB.out))) hb)
                clear HO554
                clear HO557
                clear HO560
                clear HO568
                clear HO571
                clear HO574
                clear BK549
                clear BK562
                clear BK576
                clear HB
                have HO554 := n0_
                have HO557 := n1_
                have HO560 := n2_
                have HO568 := n3_
                have HO571 := n4_
                have HO574 := n5_
                have HO579 := n6_
                have HO582 := n7_
                have HO585 := n8_
                have BK549 := n9_
                have BK562 := n10_
                have BK576 := n11_
                have HB := n12_
                clear n0_ n1_ n2_ n3_ n4_ n5_ n6_ n7_ n8_ n9_ n10_ n11_ n12_
                (try clear hb)
                (try clear ho0)
                (try clear ho1)
                (try clear ho2)
                obtain ⟨Ao47, co47, eo47⟩ := Kd.S_slice HO579.out
                (subst eo47)
                obtain ⟨Ao48, co48, eo48⟩ := Kd.R_slice HO582.out
                (subst eo48)
                obtain ⟨Ao49, co49, eo49⟩ := Kd.S_slice HO585.out
                (subst eo49)
                refine hK.out _ _ ⟨(blk_cell BK562.out 0).trans rfl, (blk_cell BK562.out 1).trans rfl, (blk_cell BK562.out 2).trans rfl, (blk_cell BK549.out 0).trans rfl, (blk_cell BK549.out 1).trans rfl, (blk_cell BK549.out 2).trans rfl, (blk_cell BK576.out 0).trans rfl, (blk_cell BK576.out 1).trans rfl, (blk_cell BK576.out 2).trans rfl⟩ (fun hHeld => ?_)
                clear hK K
                refine norm_ (a' := ?_) ?_ ?_
                rotate_left
                · show Act.put _ (some 46) _ = _
                  simp only [Act.put, List.setIfInBounds_toArray, List.set_cons_zero, List.set_cons_succ, i64_w, i32_w]
                  rfl
                refine one_ (i := 10) (N := some 47) #[true, true, true, true, true, true, true, true, true, true, true, false, false, false, false, false, false, false, false] rfl rfl (one_of HT_.out (by kernel_rfl)) (by decide) (fun K hK => ?_)
                refine goes_ Try.func22 (by kernel_rfl) rfl #[.agg #[.slice Ao28 t552.length co28, .slice Ao31 t555.length co31, .slice Ao32 t558.length co32], .agg #[.slice Ao47 t577.length co47, .slice Ao48 t580.length co48, .slice Ao49 t583.length co49]] (by rfl) rfl rfl (by (try simp only [List.map_toArray, List.map_cons, List.map_nil]); rfl) ?_
                with_reducible refine (codewrightref35_Same.calls kj1 _ _ t552 _ _ t555 _ _ t558 _ _ t577 _ _ t580 _ _ t583 true _ ?side1 ?side2 ?side3 ?side4 ?side5 ?side6 ?side7 ?side8 ?side9 ?side10 ?side11 ?side12 A21.out).mono ?_
                (case side1 => exact (Kd.S_reads' HO554.out).2.2)
                (case side2 => exact (Kd.S_reads' HO554.out).2.1)
                (case side3 => exact (Kd.R_reads' HO557.out).2.2)
                (case side4 => exact (Kd.R_reads' HO557.out).2.1)
                (case side5 => exact (Kd.S_reads' HO560.out).2.2)
                (case side6 => exact (Kd.S_reads' HO560.out).2.1)
                (case side7 => exact (Kd.S_reads' HO579.out).2.2)
                (case side8 => exact (Kd.S_reads' HO579.out).2.1)
                (case side9 => exact (Kd.R_reads' HO582.out).2.2)
                (case side10 => exact (Kd.R_reads' HO582.out).2.1)
                (case side11 => exact (Kd.S_reads' HO585.out).2.2)
                (case side12 => exact (Kd.S_reads' HO585.out).2.1)
                rintro e w50 ⟨rfl, hb⟩
                refine ⟨_, rfl, ?_⟩
                have n0_ := Aside0.mk (Kd.S_below (by (with_reducible repeat (fail)); exact HO554.out) hb)
                have n1_ := Aside0.mk (Kd.R_below (by (with_reducible repeat (fail)); exact HO557.out) hb)
                have n2_ := Aside0.mk (Kd.S_below (by (with_reducible repeat (fail)); exact HO560.out) hb)
                have n3_ := Aside0.mk (Kd.S_below (by (with_reducible repeat (fail)); exact HO568.out) hb)
                have n4_ := Aside0.mk (Kd.R_below (by (with_reducible repeat (fail)); exact HO571.out) hb)
                have n5_ := Aside0.mk (Kd.S_below (by (with_reducible repeat (fail)); exact HO574.out) hb)
                have n6_ := Aside0.mk (Kd.S_below (by (with_reducible repeat (fail)); exact HO579.out) hb)
                have n7_ := Aside0.mk (Kd.R_below (by (with_reducible repeat (fail)); exact HO582.out) hb)
                have n8_ := Aside0.mk (Kd.S_below (by (with_reducible repeat (fail)); exact HO585.out) hb)
                have n9_ := Aside0.mk (blk_below (g := gb549) (o := .cells #[.slice A0_0 l0_0.length c0_0, .slice A0_1 l0_1.length c0_1, .slice A0_2 l0_2.length c0_2] 25 (0, 0)) (by (with_reducible repeat (fail)); exact BK549.out) hb)
                have n10_ := Aside0.mk (blk_below (g := gb562) (o := .cells #[.slice Ao28 t552.length co28, .slice Ao31 t555.length co31, .slice Ao32 t558.length co32] 25 (0, 0)) (by (with_reducible repeat (fail)); exact BK562.out) hb)
                have n11_ := Aside0.mk (blk_below (g := gb576) (o := .cells #[.slice Ao38 t566.length co38, .slice Ao42 t569.length co42, .slice Ao43 t572.length co43] 25 (0, 0)) (by (with_reducible repeat (fail)); exact BK576.out) hb)
                have n12_ := Aside0.mk (below_step (by repeat ((with_reducible exact HB.out))) hb)
                clear HO554
                clear HO557
                clear HO560
                clear HO568
                clear HO571
                clear HO574
                clear HO579
                clear HO582
                clear HO585
                clear BK549
                clear BK562
                clear BK576
                clear HB
                have HO554 := n0_
                have HO557 := n1_
                have HO560 := n2_
                have HO568 := n3_
                have HO571 := n4_
                have HO574 := n5_
                have HO579 := n6_
                have HO582 := n7_
                have HO585 := n8_
                have BK549 := n9_
                have BK562 := n10_
                have BK576 := n11_
                have HB := n12_
                clear n0_ n1_ n2_ n3_ n4_ n5_ n6_ n7_ n8_ n9_ n10_ n11_ n12_
                (try clear hb)
                refine hK.out _ _ ⟨(blk_cell BK562.out 0).trans rfl, (blk_cell BK562.out 1).trans rfl, (blk_cell BK562.out 2).trans rfl, (blk_cell BK549.out 0).trans rfl, (blk_cell BK549.out 1).trans rfl, (blk_cell BK549.out 2).trans rfl, (blk_cell BK576.out 0).trans rfl, (blk_cell BK576.out 1).trans rfl, (blk_cell BK576.out 2).trans rfl⟩ (fun hHeld => ?_)
                clear hK K
                refine norm_ (a' := ?_) ?_ ?_
                rotate_left
                · show Act.put _ (some 47) _ = _
                  simp only [Act.put, List.setIfInBounds_toArray, List.set_cons_zero, List.set_cons_succ, i64_w, i32_w]
                  rfl
                refine pure_ (i := 11) (N := some 48) (v := ?_) (a' := ?_) #[true, true, true, true, true, true, true, true, true, true, true, true, false, false, false, false, false, false, false] rfl rfl (any_of HT_.out (by kernel_rfl)) (fun _ _ _ h => h) (Or.inl ⟨by rfl, ?_⟩) ?_ ?_
                rotate_left
                · intro w'
                  go_simp
                  with_reducible rfl
                rotate_left
                · simp only [Act.put, List.setIfInBounds_toArray, List.set_cons_zero, List.set_cons_succ, i64_w, i32_w]
                  rfl
                refine pure_ (i := 12) (N := some 49) (v := ?_) (a' := ?_) #[true, true, true, true, true, true, true, true, true, true, true, true, true, false, false, false, false, false, false] rfl rfl (any_of HT_.out (by kernel_rfl)) (fun _ _ _ h => h) (Or.inl ⟨by rfl, ?_⟩) ?_ ?_
                rotate_left
                · intro w'
                  go_simp
                  with_reducible rfl
                rotate_left
                · simp only [Act.put, List.setIfInBounds_toArray, List.set_cons_zero, List.set_cons_succ, i64_w, i32_w]
                  rfl
                refine take_ (i := 13) (N := some 50) (v := ?_) (a' := ?_) #[true, true, true, true, true, true, true, true, true, true, true, true, true, true, false, false, false, false, false] rfl rfl (take_ofW HT_.out HW_.out (by kernel_rfl)) (fun _ _ _ h => h) (Or.inl ⟨by rfl, ?_⟩) hHeld ?_ ?_
                rotate_left
                · rintro w' ⟨s0, s1, s2, s3, s4, s5, s6, s7, s8⟩
                  go_simp
                  with_reducible rfl
                rotate_left
                · simp only [Act.put, List.setIfInBounds_toArray, List.set_cons_zero, List.set_cons_succ, i64_w, i32_w]
                  rfl
                refine take_ (i := 14) (N := some 51) (v := ?_) (a' := ?_) #[true, true, true, true, true, true, true, true, true, true, true, true, true, true, true, false, false, false, false] rfl rfl (take_ofW HT_.out HW_.out (by kernel_rfl)) (fun _ _ _ h => h) (Or.inl ⟨by rfl, ?_⟩) hHeld ?_ ?_
                rotate_left
                · rintro w' ⟨s0, s1, s2, s3, s4, s5, s6, s7, s8⟩
                  go_simp
                  with_reducible rfl
                rotate_left
                · simp only [Act.put, List.setIfInBounds_toArray, List.set_cons_zero, List.set_cons_succ, i64_w, i32_w]
                  rfl
                refine one_ (i := 15) (N := some 52) #[true, true, true, true, true, true, true, true, true, true, true, true, true, true, true, true, false, false, false] rfl rfl (one_of HT_.out (by kernel_rfl)) (by decide) (fun K hK => ?_)
                refine goes_ Try.func24 (by kernel_rfl) rfl #[.agg #[.slice A0_0 l0_0.length c0_0, .slice A0_1 l0_1.length c0_1, .slice A0_2 l0_2.length c0_2]] (by rfl) rfl rfl (by (try simp only [List.map_toArray, List.map_cons, List.map_nil]); rfl) ?_
                with_reducible refine (codewrightref35_Canon.calls kj1 _ _ l0_0 _ _ l0_1 _ _ l0_2 t587 t590 t593 _ ?side1 ?side2 ?side3 ?side4 ?side5 ?side6 A23.out).mono ?_
                (case side1 => repeat (exact (Kd.C_below HR0_0.out HB.out)))
                (case side2 => exact HC0_0.out)
                (case side3 => repeat (exact (Kd.C_below HR0_1.out HB.out)))
                (case side4 => exact HC0_1.out)
                (case side5 => repeat (exact (Kd.C_below HR0_2.out HB.out)))
                (case side6 => exact HC0_2.out)
                rintro e w51 ⟨v588, v591, v594, rfl, ho0, ho1, ho2, hb⟩
                refine ⟨_, rfl, ?_⟩
                have n0_ := Aside0.mk (Kd.S_mono (Kd.S_told (Kd.S_told (Kd.S_old (by (with_reducible repeat (fail)); exact HO554.out) hb) (Kd.S_base ho0)) (Kd.S_base ho2)) (fun _ h_ => h_.1))
                have n1_ := Aside0.mk (Kd.R_mono (Kd.R_told (Kd.R_told (Kd.R_told (Kd.R_old (by (with_reducible repeat (fail)); exact HO557.out) hb) (Kd.S_base ho0)) (Kd.R_base ho1)) (Kd.S_base ho2)) (fun _ h_ => h_.1))
                have n2_ := Aside0.mk (Kd.S_mono (Kd.S_told (Kd.S_told (Kd.S_old (by (with_reducible repeat (fail)); exact HO560.out) hb) (Kd.S_base ho0)) (Kd.S_base ho2)) (fun _ h_ => h_.1))
                have n3_ := Aside0.mk (Kd.S_mono (Kd.S_told (Kd.S_told (Kd.S_old (by (with_reducible repeat (fail)); exact HO568.out) hb) (Kd.S_base ho0)) (Kd.S_base ho2)) (fun _ h_ => h_.1))
                have n4_ := Aside0.mk (Kd.R_mono (Kd.R_told (Kd.R_told (Kd.R_told (Kd.R_old (by (with_reducible repeat (fail)); exact HO571.out) hb) (Kd.S_base ho0)) (Kd.R_base ho1)) (Kd.S_base ho2)) (fun _ h_ => h_.1))
                have n5_ := Aside0.mk (Kd.S_mono (Kd.S_told (Kd.S_told (Kd.S_old (by (with_reducible repeat (fail)); exact HO574.out) hb) (Kd.S_base ho0)) (Kd.S_base ho2)) (fun _ h_ => h_.1))
                have n6_ := Aside0.mk (Kd.S_mono (Kd.S_told (Kd.S_told (Kd.S_old (by (with_reducible repeat (fail)); exact HO579.out) hb) (Kd.S_base ho0)) (Kd.S_base ho2)) (fun _ h_ => h_.1))
                have n7_ := Aside0.mk (Kd.R_mono (Kd.R_told (Kd.R_told (Kd.R_told (Kd.R_old (by (with_reducible repeat (fail)); exact HO582.out) hb) (Kd.S_base ho0)) (Kd.R_base ho1)) (Kd.S_base ho2)) (fun _ h_ => h_.1))
                have n8_ := Aside0.mk (Kd.S_mono (Kd.S_told (Kd.S_told (Kd.S_old (by (with_reducible repeat (fail)); exact HO585.out) hb) (Kd.S_base ho0)) (Kd.S_base ho2)) (fun _ h_ => h_.1))
                have n9_ := Aside0.mk (Kd.S_lower (Kd.S_new' (Kd.S_new' (Kd.S_new' (Kd.S_new' (Kd.S_new' (Kd.S_new' ho0 (Kd.S_lt (by (with_reducible repeat (fail)); exact HO554.out))) (Kd.S_lt (by (with_reducible repeat (fail)); exact HO560.out))) (Kd.S_lt (by (with_reducible repeat (fail)); exact HO568.out))) (Kd.S_lt (by (with_reducible repeat (fail)); exact HO574.out))) (Kd.S_lt (by (with_reducible repeat (fail)); exact HO579.out))) (Kd.S_lt (by (with_reducible repeat (fail)); exact HO585.out))) (below_size (by repeat ((with_reducible exact HB.out)))))
                have n10_ := Aside0.mk (Kd.R_lower (Kd.R_new' (Kd.R_new' (Kd.R_new' (Kd.R_new' (Kd.R_new' (Kd.R_new' (Kd.R_new' (Kd.R_new' (Kd.R_new' ho1 (Kd.S_lt (by (with_reducible repeat (fail)); exact HO554.out))) (Kd.R_lt (by (with_reducible repeat (fail)); exact HO557.out))) (Kd.S_lt (by (with_reducible repeat (fail)); exact HO560.out))) (Kd.S_lt (by (with_reducible repeat (fail)); exact HO568.out))) (Kd.R_lt (by (with_reducible repeat (fail)); exact HO571.out))) (Kd.S_lt (by (with_reducible repeat (fail)); exact HO574.out))) (Kd.S_lt (by (with_reducible repeat (fail)); exact HO579.out))) (Kd.R_lt (by (with_reducible repeat (fail)); exact HO582.out))) (Kd.S_lt (by (with_reducible repeat (fail)); exact HO585.out))) (below_size (by repeat ((with_reducible exact HB.out)))))
                have n11_ := Aside0.mk (Kd.S_lower (Kd.S_new' (Kd.S_new' (Kd.S_new' (Kd.S_new' (Kd.S_new' (Kd.S_new' ho2 (Kd.S_lt (by (with_reducible repeat (fail)); exact HO554.out))) (Kd.S_lt (by (with_reducible repeat (fail)); exact HO560.out))) (Kd.S_lt (by (with_reducible repeat (fail)); exact HO568.out))) (Kd.S_lt (by (with_reducible repeat (fail)); exact HO574.out))) (Kd.S_lt (by (with_reducible repeat (fail)); exact HO579.out))) (Kd.S_lt (by (with_reducible repeat (fail)); exact HO585.out))) (below_size (by repeat ((with_reducible exact HB.out)))))
                have n12_ := Aside0.mk (blk_below (g := gb549) (o := .cells #[.slice A0_0 l0_0.length c0_0, .slice A0_1 l0_1.length c0_1, .slice A0_2 l0_2.length c0_2] 25 (0, 0)) (by (with_reducible repeat (fail)); exact BK549.out) hb)
                have n13_ := Aside0.mk (blk_below (g := gb562) (o := .cells #[.slice Ao28 t552.length co28, .slice Ao31 t555.length co31, .slice Ao32 t558.length co32] 25 (0, 0)) (by (with_reducible repeat (fail)); exact BK562.out) hb)
                have n14_ := Aside0.mk (blk_below (g := gb576) (o := .cells #[.slice Ao38 t566.length co38, .slice Ao42 t569.length co42, .slice Ao43 t572.length co43] 25 (0, 0)) (by (with_reducible repeat (fail)); exact BK576.out) hb)
                have n15_ := Aside0.mk (below_step (by repeat ((with_reducible exact HB.out))) hb)
                clear HO554
                clear HO557
                clear HO560
                clear HO568
                clear HO571
                clear HO574
                clear HO579
                clear HO582
                clear HO585
                clear BK549
                clear BK562
                clear BK576
                clear HB
                have HO554 := n0_
                have HO557 := n1_
                have HO560 := n2_
                have HO568 := n3_
                have HO571 := n4_
                have HO574 := n5_
                have HO579 := n6_
                have HO582 := n7_
                have HO585 := n8_
                have HO589 := n9_
                have HO592 := n10_
                have HO595 := n11_
                have BK549 := n12_
                have BK562 := n13_
                have BK576 := n14_
                have HB := n15_
                clear n0_ n1_ n2_ n3_ n4_ n5_ n6_ n7_ n8_ n9_ n10_ n11_ n12_ n13_ n14_ n15_
                (try clear hb)
                (try clear ho0)
                (try clear ho1)
                (try clear ho2)
                obtain ⟨Ao52, co52, eo52⟩ := Kd.S_slice HO589.out
                (subst eo52)
                obtain ⟨Ao53, co53, eo53⟩ := Kd.R_slice HO592.out
                (subst eo53)
                obtain ⟨Ao54, co54, eo54⟩ := Kd.S_slice HO595.out
                (subst eo54)
                refine hK.out _ _ ⟨(blk_cell BK562.out 0).trans rfl, (blk_cell BK562.out 1).trans rfl, (blk_cell BK562.out 2).trans rfl, (blk_cell BK549.out 0).trans rfl, (blk_cell BK549.out 1).trans rfl, (blk_cell BK549.out 2).trans rfl, (blk_cell BK576.out 0).trans rfl, (blk_cell BK576.out 1).trans rfl, (blk_cell BK576.out 2).trans rfl⟩ (fun hHeld => ?_)
                clear hK K
                refine norm_ (a' := ?_) ?_ ?_
                rotate_left
                · show Act.put _ (some 52) _ = _
                  simp only [Act.put, List.setIfInBounds_toArray, List.set_cons_zero, List.set_cons_succ, i64_w, i32_w]
                  rfl
                refine one_ (i := 16) (N := some 53) #[true, true, true, true, true, true, true, true, true, true, true, true, true, true, true, true, true, false, false] rfl rfl (one_of HT_.out (by kernel_rfl)) (by decide) (fun K hK => ?_)
                refine goes_ Try.func22 (by kernel_rfl) rfl #[.agg #[.slice Ao38 t566.length co38, .slice Ao42 t569.length co42, .slice Ao43 t572.length co43], .agg #[.slice Ao52 t587.length co52, .slice Ao53 t590.length co53, .slice Ao54 t593.length co54]] (by rfl) rfl rfl (by (try simp only [List.map_toArray, List.map_cons, List.map_nil]); rfl) ?_
                with_reducible refine (codewrightref35_Same.calls kj1 _ _ t566 _ _ t569 _ _ t572 _ _ t587 _ _ t590 _ _ t593 t596 _ ?side1 ?side2 ?side3 ?side4 ?side5 ?side6 ?side7 ?side8 ?side9 ?side10 ?side11 ?side12 A24.out).mono ?_
                (case side1 => exact (Kd.S_reads' HO568.out).2.2)
                (case side2 => exact (Kd.S_reads' HO568.out).2.1)
                (case side3 => exact (Kd.R_reads' HO571.out).2.2)
                (case side4 => exact (Kd.R_reads' HO571.out).2.1)
                (case side5 => exact (Kd.S_reads' HO574.out).2.2)
                (case side6 => exact (Kd.S_reads' HO574.out).2.1)
                (case side7 => exact (Kd.S_reads' HO589.out).2.2)
                (case side8 => exact (Kd.S_reads' HO589.out).2.1)
                (case side9 => exact (Kd.R_reads' HO592.out).2.2)
                (case side10 => exact (Kd.R_reads' HO592.out).2.1)
                (case side11 => exact (Kd.S_reads' HO595.out).2.2)
                (case side12 => exact (Kd.S_reads' HO595.out).2.1)
                rintro e w55 ⟨rfl, hb⟩
                refine ⟨_, rfl, ?_⟩
                have n0_ := Aside0.mk (Kd.S_below (by (with_reducible repeat (fail)); exact HO554.out) hb)
                have n1_ := Aside0.mk (Kd.R_below (by (with_reducible repeat (fail)); exact HO557.out) hb)
                have n2_ := Aside0.mk (Kd.S_below (by (with_reducible repeat (fail)); exact HO560.out) hb)
                have n3_ := Aside0.mk (Kd.S_below (by (with_reducible repeat (fail)); exact HO568.out) hb)
                have n4_ := Aside0.mk (Kd.R_below (by (with_reducible repeat (fail)); exact HO571.out) hb)
                have n5_ := Aside0.mk (Kd.S_below (by (with_reducible repeat (fail)); exact HO574.out) hb)
                have n6_ := Aside0.mk (Kd.S_below (by (with_reducible repeat (fail)); exact HO579.out) hb)
                have n7_ := Aside0.mk (Kd.R_below (by (with_reducible repeat (fail)); exact HO582.out) hb)
                have n8_ := Aside0.mk (Kd.S_below (by (with_reducible repeat (fail)); exact HO585.out) hb)
                have n9_ := Aside0.mk (Kd.S_below (by (with_reducible repeat (fail)); exact HO589.out) hb)
                have n10_ := Aside0.mk (Kd.R_below (by (with_reducible repeat (fail)); exact HO592.out) hb)
                have n11_ := Aside0.mk (Kd.S_below (by (with_reducible repeat (fail)); exact HO595.out) hb)
                have n12_ := Aside0.mk (blk_below (g := gb549) (o := .cells #[.slice A0_0 l0_0.length c0_0, .slice A0_1 l0_1.length c0_1, .slice A0_2 l0_2.length c0_2] 25 (0, 0)) (by (with_reducible repeat (fail)); exact BK549.out) hb)
                have n13_ := Aside0.mk (blk_below (g := gb562) (o := .cells #[.slice Ao28 t552.length co28, .slice Ao31 t555.length co31, .slice Ao32 t558.length co32] 25 (0, 0)) (by (with_reducible repeat (fail)); exact BK562.out) hb)
                have n14_ := Aside0.mk (blk_below (g := gb576) (o := .cells #[.slice Ao38 t566.length co38, .slice Ao42 t569.length co42, .slice Ao43 t572.length co43] 25 (0, 0)) (by (with_reducible repeat (fail)); exact BK576.out) hb)
                have n15_ := Aside0.mk (below_step (by repeat ((with_reducible exact HB.out))) hb)
                clear HO554
                clear HO557
                clear HO560
                clear HO568
                clear HO571
                clear HO574
                clear HO579
                clear HO582
                clear HO585
                clear HO589
                clear HO592
                clear HO595
                clear BK549
                clear BK562
                clear BK576
                clear HB
                have HO554 := n0_
                have HO557 := n1_
                have HO560 := n2_
                have HO568 := n3_
                have HO571 := n4_
                have HO574 := n5_
                have HO579 := n6_
                have HO582 := n7_
                have HO585 := n8_
                have HO589 := n9_
                have HO592 := n10_
                have HO595 := n11_
                have BK549 := n12_
                have BK562 := n13_
                have BK576 := n14_
                have HB := n15_
                clear n0_ n1_ n2_ n3_ n4_ n5_ n6_ n7_ n8_ n9_ n10_ n11_ n12_ n13_ n14_ n15_
                (try clear hb)
                refine hK.out _ _ ⟨(blk_cell BK562.out 0).trans rfl, (blk_cell BK562.out 1).trans rfl, (blk_cell BK562.out 2).trans rfl, (blk_cell BK549.out 0).trans rfl, (blk_cell BK549.out 1).trans rfl, (blk_cell BK549.out 2).trans rfl, (blk_cell BK576.out 0).trans rfl, (blk_cell BK576.out 1).trans rfl, (blk_cell BK576.out 2).trans rfl⟩ (fun hHeld => ?_)
                clear hK K
                refine norm_ (a' := ?_) ?_ ?_
                rotate_left
                · show Act.put _ (some 53) _ = _
                  simp only [Act.put, List.setIfInBounds_toArray, List.set_cons_zero, List.set_cons_succ, i64_w, i32_w]
                  rfl
                refine pure_ (i := 17) (N := some 54) (v := ?_) (a' := ?_) #[true, true, true, true, true, true, true, true, true, true, true, true, true, true, true, true, true, true, false] rfl rfl (any_of HT_.out (by kernel_rfl)) (fun _ _ _ h => h) (Or.inl ⟨by rfl, ?_⟩) ?_ ?_
                rotate_left
                · intro w'
                  go_simp
                  with_reducible rfl
                rotate_left
                · simp only [Act.put, List.setIfInBounds_toArray, List.set_cons_zero, List.set_cons_succ, i64_w, i32_w]
                  rfl
                refine pure_ (i := 18) (N := some 2) (v := ?_) (a' := ?_) #[true, true, true, true, true, true, true, true, true, true, true, true, true, true, true, true, true, true, true] rfl rfl (any_of HT_.out (by kernel_rfl)) (fun _ _ _ h => h) (Or.inl ⟨by rfl, ?_⟩) ?_ ?_
                rotate_left
                · intro w'
                  go_simp
                  with_reducible rfl
                rotate_left
                · simp only [Act.put, List.setIfInBounds_toArray, List.set_cons_zero, List.set_cons_succ, i64_w, i32_w]
                  rfl
                refine done_ (done_of HT_.out (by kernel_rfl)) ?_
                try go_wp2
                go_ret
                exact ⟨by rfl, by repeat ((with_reducible exact HB.out))⟩
              · replace c22 := Bool.eq_false_iff.mpr c22
                subst c22
                have H1 : (some false) = some r := by rw [if_neg (show ¬ (false = true) by decide)] at H; exact H
                clear H
                have H := H1
                clear H1
                obtain rfl := Option.some.inj H
                have hcz56_0 : wc.cell? ⟨gb549, 0, none⟩ = some (.slice A0_0 l0_0.length c0_0) := (blk_cell BK549.out 0).trans rfl
                have hcz56_1 : wc.cell? ⟨gb549, 1, none⟩ = some (.slice A0_1 l0_1.length c0_1) := (blk_cell BK549.out 1).trans rfl
                have hcz56_2 : wc.cell? ⟨gb549, 2, none⟩ = some (.slice A0_2 l0_2.length c0_2) := (blk_cell BK549.out 2).trans rfl
                have hfz56_0 := blk_frozen BK549.out 0
                have hfz56_1 := blk_frozen BK549.out 1
                have hfz56_2 := blk_frozen BK549.out 2
                try go_wp2_with (first | ((with_reducible refine gate_callee (f := 21) rfl ?_); refine goesL_ (some 17) rfl rfl Try.func21 (by kernel_rfl) rfl #[.agg #[.slice A0_0 l0_0.length c0_0, .slice A0_1 l0_1.length c0_1, .slice A0_2 l0_2.length c0_2]] rfl (by (try simp only [List.map_toArray, List.map_cons, List.map_nil]); rfl) ?_; (with_reducible refine (simplex_Dual.calls kj1 _ _ l0_0 _ _ l0_1 _ _ l0_2 t552 t555 t558 t561 _ ?side1 ?side2 ?side3 ?side4 ?side5 ?side6 A14.out).mono ?_); (case side1 => repeat (exact (Kd.C_below HR0_0.out HB.out))); (case side2 => exact HC0_0.out); (case side3 => repeat (exact (Kd.C_below HR0_1.out HB.out))); (case side4 => exact HC0_1.out); (case side5 => repeat (exact (Kd.C_below HR0_2.out HB.out))); (case side6 => exact HC0_2.out); rintro e w57 ⟨v553, v556, v559, rfl, ho0, ho1, ho2, hb⟩; refine ⟨_, rfl, ?_⟩; have n0_ := Aside0.mk (Kd.S_lower ho0 (below_size (by repeat ((with_reducible exact HB.out))))); have n1_ := Aside0.mk (Kd.R_lower ho1 (below_size (by repeat ((with_reducible exact HB.out))))); have n2_ := Aside0.mk (Kd.S_lower ho2 (below_size (by repeat ((with_reducible exact HB.out))))); have n3_ := Aside0.mk (blk_below (g := gb549) (o := .cells #[.slice A0_0 l0_0.length c0_0, .slice A0_1 l0_1.length c0_1, .slice A0_2 l0_2.length c0_2] 25 (0, 0)) (by (with_reducible repeat (fail)); exact BK549.out) hb); have n4_ := Aside0.mk (below_step (by repeat ((with_reducible exact HB.out))) hb); clear BK549; clear HB; have HO554 := n0_; have HO557 := n1_; have HO560 := n2_; have BK549 := n3_; have HB := n4_; clear n0_ n1_ n2_ n3_ n4_; (try clear hb); (try clear ho0); (try clear ho1); (try clear ho2)) | ((with_reducible refine gate_dst (N := 3) rfl ?_); refine box_event ?hg (N := 3) ?hd (cs := #[.slice none 0 0, .slice none 0 0, .slice none 0 0]) (t := 25) ?hr ?_; (case hd => rfl); (case hg => rfl); (case hr => (go_simp; done)); intro gb562 hg w58 hbox hb; have n0_ := Aside0.mk (Kd.S_below (by (with_reducible repeat (fail)); exact HO554.out) hb); have n1_ := Aside0.mk (Kd.R_below (by (with_reducible repeat (fail)); exact HO557.out) hb); have n2_ := Aside0.mk (Kd.S_below (by (with_reducible repeat (fail)); exact HO560.out) hb); have n3_ := Aside0.mk (blk_below (g := gb549) (o := .cells #[.slice A0_0 l0_0.length c0_0, .slice A0_1 l0_1.length c0_1, .slice A0_2 l0_2.length c0_2] 25 (0, 0)) (by (with_reducible repeat (fail)); exact BK549.out) hb); have n4_ := Aside0.mk (below_step (by repeat ((with_reducible exact HB.out))) hb); have n5_ := Aside0.mk (hbox); have n6_ := Aside0.mk ((by rw [hg]; exact (below_size (by repeat ((with_reducible exact HB.out)))) : w.heap.size ≤ gb562)); have n7_ := Aside0.mk ((by rw [hg]; exact (below_size (by repeat ((with_reducible exact HB.out)))) : w.heap.size ≤ gb562)); have n8_ := Aside0.mk ((by rw [hg]; exact Nat.ne_of_lt (blk_lt (g := gb549) (o := .cells #[.slice A0_0 l0_0.length c0_0, .slice A0_1 l0_1.length c0_1, .slice A0_2 l0_2.length c0_2] 25 (0, 0)) (by (with_reducible repeat (fail)); exact BK549.out)) : gb549 ≠ gb562)); have n9_ := Aside0.mk ((by rw [hg]; exact Nat.ne_of_gt (blk_lt (g := gb549) (o := .cells #[.slice A0_0 l0_0.length c0_0, .slice A0_1 l0_1.length c0_1, .slice A0_2 l0_2.length c0_2] 25 (0, 0)) (by (with_reducible repeat (fail)); exact BK549.out)) : gb562 ≠ gb549)); clear HO554; clear HO557; clear HO560; clear BK549; clear HB; have HO554 := n0_; have HO557 := n1_; have HO560 := n2_; have BK549 := n3_; have HB := n4_; have BK562 := n5_; have GW562 := n6_; have GE562 := n7_; have NB549_562 := n8_; have NB562_549 := n9_; clear n0_ n1_ n2_ n3_ n4_ n5_ n6_ n7_ n8_ n9_; clear hb hbox hg; obtain ⟨Ao59, co59, eo59⟩ := Kd.S_slice HO554.out; subst eo59; have hnb60 := NB562_549.out; have hnc60 := NB549_562.out; have hcz61_0 : w58.cell? ⟨gb562, 0, none⟩ = some (.slice none 0 0) := (blk_cell BK562.out 0).trans rfl; have hcz61_1 : w58.cell? ⟨gb562, 1, none⟩ = some (.slice none 0 0) := (blk_cell BK562.out 1).trans rfl; have hcz61_2 : w58.cell? ⟨gb562, 2, none⟩ = some (.slice none 0 0) := (blk_cell BK562.out 2).trans rfl; have hfz61_0 := blk_frozen BK562.out 0; have hfz61_1 := blk_frozen BK562.out 1; have hfz61_2 := blk_frozen BK562.out 2; obtain ⟨Ao62, co62, eo62⟩ := Kd.R_slice HO557.out; subst eo62; obtain ⟨Ao63, co63, eo63⟩ := Kd.S_slice HO560.out; subst eo63; have hcz64_0 : w58.cell? ⟨gb549, 0, none⟩ = some (.slice A0_0 l0_0.length c0_0) := (blk_cell BK549.out 0).trans rfl; have hcz64_1 : w58.cell? ⟨gb549, 1, none⟩ = some (.slice A0_1 l0_1.length c0_1) := (blk_cell BK549.out 1).trans rfl; have hcz64_2 : w58.cell? ⟨gb549, 2, none⟩ = some (.slice A0_2 l0_2.length c0_2) := (blk_cell BK549.out 2).trans rfl; have hfz64_0 := blk_frozen BK549.out 0; have hfz64_1 := blk_frozen BK549.out 1; have hfz64_2 := blk_frozen BK549.out 2) | ((with_reducible refine gate_callee (f := 19) rfl ?_); refine goesL_ (some 21) rfl rfl Try.func19 (by kernel_rfl) rfl #[.agg #[.slice A0_0 l0_0.length c0_0, .slice A0_1 l0_1.length c0_1, .slice A0_2 l0_2.length c0_2]] rfl (by (try simp only [List.map_toArray, List.map_cons, List.map_nil]); rfl) ?_; (with_reducible refine (codewrightref35_Check.calls kj1 _ _ l0_0 _ _ l0_1 _ _ l0_2 t563 _ ?side1 ?side2 ?side3 ?side4 ?side5 ?side6 A15.out).mono ?_); (case side1 => exact Kd.C_below HR0_0.out (by repeat ((with_reducible first | exact HB.out | refine below_set ?_ GE562.out)))); (case side2 => exact HC0_0.out); (case side3 => exact Kd.C_below HR0_1.out (by repeat ((with_reducible first | exact HB.out | refine below_set ?_ GE562.out)))); (case side4 => exact HC0_1.out); (case side5 => exact Kd.C_below HR0_2.out (by repeat ((with_reducible first | exact HB.out | refine below_set ?_ GE562.out)))); (case side6 => exact HC0_2.out); rintro e w65 ⟨rfl, hb⟩; refine ⟨_, rfl, ?_⟩; have n0_ := Aside0.mk (Kd.S_below (by (with_reducible repeat (fail)); exact (Kd.S_mono (Kd.S_far (p := ⟨gb562, 2, none⟩) (Kd.S_far (p := ⟨gb562, 1, none⟩) (Kd.S_far (p := ⟨gb562, 0, none⟩) (Kd.S_types HO554.out BK562.out (by decide)) (fun _ hk => hk.2) (.slice Ao59 t552.length co59)) (fun _ hk => hk.2) (.slice Ao62 t555.length co62)) (fun _ hk => hk.2) (.slice Ao63 t558.length co63)) (fun _ h_ => h_.1))) hb); have n1_ := Aside0.mk (Kd.R_below (by (with_reducible repeat (fail)); exact (Kd.R_mono (Kd.R_far (p := ⟨gb562, 2, none⟩) (Kd.R_far (p := ⟨gb562, 1, none⟩) (Kd.R_far (p := ⟨gb562, 0, none⟩) (Kd.R_types HO557.out BK562.out (by decide)) (fun _ hk => hk.2) (.slice Ao59 t552.length co59)) (fun _ hk => hk.2) (.slice Ao62 t555.length co62)) (fun _ hk => hk.2) (.slice Ao63 t558.length co63)) (fun _ h_ => h_.1))) hb); have n2_ := Aside0.mk (Kd.S_below (by (with_reducible repeat (fail)); exact (Kd.S_mono (Kd.S_far (p := ⟨gb562, 2, none⟩) (Kd.S_far (p := ⟨gb562, 1, none⟩) (Kd.S_far (p := ⟨gb562, 0, none⟩) (Kd.S_types HO560.out BK562.out (by decide)) (fun _ hk => hk.2) (.slice Ao59 t552.length co59)) (fun _ hk => hk.2) (.slice Ao62 t555.length co62)) (fun _ hk => hk.2) (.slice Ao63 t558.length co63)) (fun _ h_ => h_.1))) hb); have n3_ := Aside0.mk (blk_below (g := gb549) (o := .cells #[.slice A0_0 l0_0.length c0_0, .slice A0_1 l0_1.length c0_1, .slice A0_2 l0_2.length c0_2] 25 (0, 0)) (by (with_reducible repeat (fail)); refine blk_far ?_ NB549_562.out _; (with_reducible repeat (fail)); refine blk_far ?_ NB549_562.out _; (with_reducible repeat (fail)); refine blk_far ?_ NB549_562.out _; (with_reducible repeat (fail)); exact BK549.out) hb); have n4_ := Aside0.mk (blk_below (g := gb562) (o := .cells #[.slice Ao59 t552.length co59, .slice Ao62 t555.length co62, .slice Ao63 t558.length co63] 25 (0, 0)) (by (with_reducible repeat (fail)); refine blk_put (cs := #[.slice Ao59 t552.length co59, .slice Ao62 t555.length co62, .slice none 0 0]) ?_ 2 _ rfl; (with_reducible repeat (fail)); refine blk_put (cs := #[.slice Ao59 t552.length co59, .slice none 0 0, .slice none 0 0]) ?_ 1 _ rfl; (with_reducible repeat (fail)); refine blk_put (cs := #[.slice none 0 0, .slice none 0 0, .slice none 0 0]) ?_ 0 _ rfl; (with_reducible repeat (fail)); exact BK562.out) hb); have n5_ := Aside0.mk (below_step (by repeat ((with_reducible first | exact HB.out | refine below_set ?_ GE562.out))) hb); clear HO554; clear HO557; clear HO560; clear BK549; clear BK562; clear HB; have HO554 := n0_; have HO557 := n1_; have HO560 := n2_; have BK549 := n3_; have BK562 := n4_; have HB := n5_; clear n0_ n1_ n2_ n3_ n4_ n5_; (try clear hb); have hcz66_0 : w65.cell? ⟨gb562, 0, none⟩ = some (.slice Ao59 t552.length co59) := (blk_cell BK562.out 0).trans rfl; have hcz66_1 : w65.cell? ⟨gb562, 1, none⟩ = some (.slice Ao62 t555.length co62) := (blk_cell BK562.out 1).trans rfl; have hcz66_2 : w65.cell? ⟨gb562, 2, none⟩ = some (.slice Ao63 t558.length co63) := (blk_cell BK562.out 2).trans rfl; have hfz66_0 := blk_frozen BK562.out 0; have hfz66_1 := blk_frozen BK562.out 1; have hfz66_2 := blk_frozen BK562.out 2) | ((with_reducible refine gate_callee (f := 21) rfl ?_); refine goesL_ (some 34) rfl rfl Try.func21 (by kernel_rfl) rfl #[.agg #[.slice Ao59 t552.length co59, .slice Ao62 t555.length co62, .slice Ao63 t558.length co63]] rfl (by (try simp only [List.map_toArray, List.map_cons, List.map_nil]); rfl) ?_; (with_reducible refine (simplex_Dual.calls kj1 _ _ t552 _ _ t555 _ _ t558 t566 t569 t572 t575 _ ?side1 ?side2 ?side3 ?side4 ?side5 ?side6 A17.out).mono ?_); (case side1 => exact (Kd.S_reads' HO554.out).2.2); (case side2 => exact (Kd.S_reads' HO554.out).2.1); (case side3 => exact (Kd.R_reads' HO557.out).2.2); (case side4 => exact (Kd.R_reads' HO557.out).2.1); (case side5 => exact (Kd.S_reads' HO560.out).2.2); (case side6 => exact (Kd.S_reads' HO560.out).2.1); rintro e w67 ⟨v567, v570, v573, rfl, ho0, ho1, ho2, hb⟩; refine ⟨_, rfl, ?_⟩; have n0_ := Aside0.mk (Kd.S_mono (Kd.S_told (Kd.S_told (Kd.S_old (by (with_reducible repeat (fail)); exact HO554.out) hb) (Kd.S_base ho0)) (Kd.S_base ho2)) (fun _ h_ => h_.1)); have n1_ := Aside0.mk (Kd.R_mono (Kd.R_told (Kd.R_told (Kd.R_told (Kd.R_old (by (with_reducible repeat (fail)); exact HO557.out) hb) (Kd.S_base ho0)) (Kd.R_base ho1)) (Kd.S_base ho2)) (fun _ h_ => h_.1)); have n2_ := Aside0.mk (Kd.S_mono (Kd.S_told (Kd.S_told (Kd.S_old (by (with_reducible repeat (fail)); exact HO560.out) hb) (Kd.S_base ho0)) (Kd.S_base ho2)) (fun _ h_ => h_.1)); have n3_ := Aside0.mk (Kd.S_lower (Kd.S_new' (Kd.S_new' ho0 (Kd.S_lt (by (with_reducible repeat (fail)); exact HO554.out))) (Kd.S_lt (by (with_reducible repeat (fail)); exact HO560.out))) (below_size (by repeat ((with_reducible exact HB.out))))); have n4_ := Aside0.mk (Kd.R_lower (Kd.R_new' (Kd.R_new' (Kd.R_new' ho1 (Kd.S_lt (by (with_reducible repeat (fail)); exact HO554.out))) (Kd.R_lt (by (with_reducible repeat (fail)); exact HO557.out))) (Kd.S_lt (by (with_reducible repeat (fail)); exact HO560.out))) (below_size (by repeat ((with_reducible exact HB.out))))); have n5_ := Aside0.mk (Kd.S_lower (Kd.S_new' (Kd.S_new' ho2 (Kd.S_lt (by (with_reducible repeat (fail)); exact HO554.out))) (Kd.S_lt (by (with_reducible repeat (fail)); exact HO560.out))) (below_size (by repeat ((with_reducible exact HB.out))))); have n6_ := Aside0.mk (blk_below (g := gb549) (o := .cells #[.slice A0_0 l0_0.length c0_0, .slice A0_1 l0_1.length c0_1, .slice A0_2 l0_2.length c0_2] 25 (0, 0)) (by (with_reducible repeat (fail)); exact BK549.out) hb); have n7_ := Aside0.mk (blk_below (g := gb562) (o := .cells #[.slice Ao59 t552.length co59, .slice Ao62 t555.length co62, .slice Ao63 t558.length co63] 25 (0, 0)) (by (with_reducible repeat (fail)); exact BK562.out) hb); have n8_ := Aside0.mk (below_step (by repeat ((with_reducible exact HB.out))) hb); clear HO554; clear HO557; clear HO560; clear BK549; clear BK562; clear HB; have HO554 := n0_; have HO557 := n1_; have HO560 := n2_; have HO568 := n3_; have HO571 := n4_; have HO574 := n5_; have BK549 := n6_; have BK562 := n7_; have HB := n8_; clear n0_ n1_ n2_ n3_ n4_ n5_ n6_ n7_ n8_; (try clear hb); (try clear ho0); (try clear ho1); (try clear ho2)) | ((with_reducible refine gate_dst (N := 5) rfl ?_); refine box_event ?hg (N := 5) ?hd (cs := #[.slice none 0 0, .slice none 0 0, .slice none 0 0]) (t := 25) ?hr ?_; (case hd => rfl); (case hg => rfl); (case hr => (go_simp; done)); intro gb576 hg w68 hbox hb; have n0_ := Aside0.mk (Kd.S_below (by (with_reducible repeat (fail)); exact HO554.out) hb); have n1_ := Aside0.mk (Kd.R_below (by (with_reducible repeat (fail)); exact HO557.out) hb); have n2_ := Aside0.mk (Kd.S_below (by (with_reducible repeat (fail)); exact HO560.out) hb); have n3_ := Aside0.mk (Kd.S_below (by (with_reducible repeat (fail)); exact HO568.out) hb); have n4_ := Aside0.mk (Kd.R_below (by (with_reducible repeat (fail)); exact HO571.out) hb); have n5_ := Aside0.mk (Kd.S_below (by (with_reducible repeat (fail)); exact HO574.out) hb); have n6_ := Aside0.mk (blk_below (g := gb549) (o := .cells #[.slice A0_0 l0_0.length c0_0, .slice A0_1 l0_1.length c0_1, .slice A0_2 l0_2.length c0_2] 25 (0, 0)) (by (with_reducible repeat (fail)); exact BK549.out) hb); have n7_ := Aside0.mk (blk_below (g := gb562) (o := .cells #[.slice Ao59 t552.length co59, .slice Ao62 t555.length co62, .slice Ao63 t558.length co63] 25 (0, 0)) (by (with_reducible repeat (fail)); exact BK562.out) hb); have n8_ := Aside0.mk (below_step (by repeat ((with_reducible exact HB.out))) hb); have n9_ := Aside0.mk (hbox); have n10_ := Aside0.mk ((by rw [hg]; exact (below_size (by repeat ((with_reducible exact HB.out)))) : w.heap.size ≤ gb576)); have n11_ := Aside0.mk ((by rw [hg]; exact (below_size (by repeat ((with_reducible exact HB.out)))) : w.heap.size ≤ gb576)); have n12_ := Aside0.mk ((by rw [hg]; exact Nat.ne_of_lt (blk_lt (g := gb549) (o := .cells #[.slice A0_0 l0_0.length c0_0, .slice A0_1 l0_1.length c0_1, .slice A0_2 l0_2.length c0_2] 25 (0, 0)) (by (with_reducible repeat (fail)); exact BK549.out)) : gb549 ≠ gb576)); have n13_ := Aside0.mk ((by rw [hg]; exact Nat.ne_of_gt (blk_lt (g := gb549) (o := .cells #[.slice A0_0 l0_0.length c0_0, .slice A0_1 l0_1.length c0_1, .slice A0_2 l0_2.length c0_2] 25 (0, 0)) (by (with_reducible repeat (fail)); exact BK549.out)) : gb576 ≠ gb549)); have n14_ := Aside0.mk ((by rw [hg]; exact Nat.ne_of_lt (blk_lt (g := gb562) (o := .cells #[.slice Ao59 t552.length co59, .slice Ao62 t555.length co62, .slice Ao63 t558.length co63] 25 (0, 0)) (by (with_reducible repeat (fail)); exact BK562.out)) : gb562 ≠ gb576)); have n15_ := Aside0.mk ((by rw [hg]; exact Nat.ne_of_gt (blk_lt (g := gb562) (o := .cells #[.slice Ao59 t552.length co59, .slice Ao62 t555.length co62, .slice Ao63 t558.length co63] 25 (0, 0)) (by (with_reducible repeat (fail)); exact BK562.out)) : gb576 ≠ gb562)); clear HO554; clear HO557; clear HO560; clear HO568; clear HO571; clear HO574; clear BK549; clear BK562; clear HB; have HO554 := n0_; have HO557 := n1_; have HO560 := n2_; have HO568 := n3_; have HO571 := n4_; have HO574 := n5_; have BK549 := n6_; have BK562 := n7_; have HB := n8_; have BK576 := n9_; have GW576 := n10_; have GE576 := n11_; have NB549_576 := n12_; have NB576_549 := n13_; have NB562_576 := n14_; have NB576_562 := n15_; clear n0_ n1_ n2_ n3_ n4_ n5_ n6_ n7_ n8_ n9_ n10_ n11_ n12_ n13_ n14_ n15_; clear hb hbox hg; obtain ⟨Ao69, co69, eo69⟩ := Kd.S_slice HO568.out; subst eo69; have hnb70 := NB576_549.out; have hnc70 := NB549_576.out; have hnb71 := NB576_562.out; have hnc71 := NB562_576.out; have hcz72_0 : w68.cell? ⟨gb576, 0, none⟩ = some (.slice none 0 0) := (blk_cell BK576.out 0).trans rfl; have hcz72_1 : w68.cell? ⟨gb576, 1, none⟩ = some (.slice none 0 0) := (blk_cell BK576.out 1).trans rfl; have hcz72_2 : w68.cell? ⟨gb576, 2, none⟩ = some (.slice none 0 0) := (blk_cell BK576.out 2).trans rfl; have hfz72_0 := blk_frozen BK576.out 0; have hfz72_1 := blk_frozen BK576.out 1; have hfz72_2 := blk_frozen BK576.out 2; obtain ⟨Ao73, co73, eo73⟩ := Kd.R_slice HO571.out; subst eo73; obtain ⟨Ao74, co74, eo74⟩ := Kd.S_slice HO574.out; subst eo74))
                have n0_ : Aside0 (Kd.S k46 46 (((w68.setCell ⟨gb576, 0, none⟩ (.slice Ao69 t566.length co69)).setCell ⟨gb576, 1, none⟩ (.slice Ao73 t569.length co73)).setCell ⟨gb576, 2, none⟩ (.slice Ao74 t572.length co74)) w.heap.size (fun k_ => some k_ ≠ (.slice Ao63 t558.length co63 : Value).ownBlock ∧ some k_ ≠ (.slice Ao69 t566.length co69 : Value).ownBlock ∧ some k_ ≠ (.slice Ao74 t572.length co74 : Value).ownBlock) (.slice Ao59 t552.length co59) t552) := ⟨by (with_reducible repeat (fail)); exact Kd.S_mono (Kd.S_far (p := ⟨gb576, 2, none⟩) (Kd.S_far (p := ⟨gb576, 1, none⟩) (Kd.S_far (p := ⟨gb576, 0, none⟩) (Kd.S_types HO554.out BK576.out (by decide)) (fun _ hk => hk.2) (.slice Ao69 t566.length co69)) (fun _ hk => hk.2) (.slice Ao73 t569.length co73)) (fun _ hk => hk.2) (.slice Ao74 t572.length co74)) (fun _ hk => ⟨hk.1.1.1, ⟨hk.1.1.2, hk.1.2⟩⟩)⟩
                have n1_ : Aside0 (Kd.R (Kd.slice 46 k46) 22 (((w68.setCell ⟨gb576, 0, none⟩ (.slice Ao69 t566.length co69)).setCell ⟨gb576, 1, none⟩ (.slice Ao73 t569.length co73)).setCell ⟨gb576, 2, none⟩ (.slice Ao74 t572.length co74)) w.heap.size (fun k_ => some k_ ≠ (.slice Ao59 t552.length co59 : Value).ownBlock ∧ some k_ ≠ (.slice Ao63 t558.length co63 : Value).ownBlock ∧ some k_ ≠ (.slice Ao69 t566.length co69 : Value).ownBlock ∧ some k_ ≠ (.slice Ao73 t569.length co73 : Value).ownBlock ∧ some k_ ≠ (.slice Ao74 t572.length co74 : Value).ownBlock) (.slice Ao62 t555.length co62) t555) := ⟨by (with_reducible repeat (fail)); exact Kd.R_mono (Kd.R_far (p := ⟨gb576, 2, none⟩) (Kd.R_far (p := ⟨gb576, 1, none⟩) (Kd.R_far (p := ⟨gb576, 0, none⟩) (Kd.R_types HO557.out BK576.out (by decide)) (fun _ hk => hk.2) (.slice Ao69 t566.length co69)) (fun _ hk => hk.2) (.slice Ao73 t569.length co73)) (fun _ hk => hk.2) (.slice Ao74 t572.length co74)) (fun _ hk => ⟨hk.1.1.1.1.1, ⟨hk.1.1.1.1.2, ⟨hk.1.1.1.2, ⟨hk.1.1.2, hk.1.2⟩⟩⟩⟩)⟩
                have n2_ : Aside0 (Kd.S k46 46 (((w68.setCell ⟨gb576, 0, none⟩ (.slice Ao69 t566.length co69)).setCell ⟨gb576, 1, none⟩ (.slice Ao73 t569.length co73)).setCell ⟨gb576, 2, none⟩ (.slice Ao74 t572.length co74)) w.heap.size (fun k_ => some k_ ≠ (.slice Ao59 t552.length co59 : Value).ownBlock ∧ some k_ ≠ (.slice Ao69 t566.length co69 : Value).ownBlock ∧ some k_ ≠ (.slice Ao74 t572.length co74 : Value).ownBlock) (.slice Ao63 t558.length co63) t558) := ⟨by (with_reducible repeat (fail)); exact Kd.S_mono (Kd.S_far (p := ⟨gb576, 2, none⟩) (Kd.S_far (p := ⟨gb576, 1, none⟩) (Kd.S_far (p := ⟨gb576, 0, none⟩) (Kd.S_types HO560.out BK576.out (by decide)) (fun _ hk => hk.2) (.slice Ao69 t566.length co69)) (fun _ hk => hk.2) (.slice Ao73 t569.length co73)) (fun _ hk => hk.2) (.slice Ao74 t572.length co74)) (fun _ hk => ⟨hk.1.1.1, ⟨hk.1.1.2, hk.1.2⟩⟩)⟩
                have n3_ : Aside0 (Kd.S k46 46 (((w68.setCell ⟨gb576, 0, none⟩ (.slice Ao69 t566.length co69)).setCell ⟨gb576, 1, none⟩ (.slice Ao73 t569.length co73)).setCell ⟨gb576, 2, none⟩ (.slice Ao74 t572.length co74)) w.heap.size (fun k_ => some k_ ≠ (.slice Ao59 t552.length co59 : Value).ownBlock ∧ some k_ ≠ (.slice Ao63 t558.length co63 : Value).ownBlock ∧ some k_ ≠ (.slice Ao74 t572.length co74 : Value).ownBlock) (.slice Ao69 t566.length co69) t566) := ⟨by (with_reducible repeat (fail)); exact Kd.S_mono (Kd.S_far (p := ⟨gb576, 2, none⟩) (Kd.S_far (p := ⟨gb576, 1, none⟩) (Kd.S_far (p := ⟨gb576, 0, none⟩) (Kd.S_types HO568.out BK576.out (by decide)) (fun _ hk => hk.2) (.slice Ao69 t566.length co69)) (fun _ hk => hk.2) (.slice Ao73 t569.length co73)) (fun _ hk => hk.2) (.slice Ao74 t572.length co74)) (fun _ hk => ⟨hk.1.1.2, ⟨hk.1.2, hk.1.1.1⟩⟩)⟩
                have n4_ : Aside0 (Kd.R (Kd.slice 46 k46) 22 (((w68.setCell ⟨gb576, 0, none⟩ (.slice Ao69 t566.length co69)).setCell ⟨gb576, 1, none⟩ (.slice Ao73 t569.length co73)).setCell ⟨gb576, 2, none⟩ (.slice Ao74 t572.length co74)) w.heap.size (fun k_ => some k_ ≠ (.slice Ao59 t552.length co59 : Value).ownBlock ∧ some k_ ≠ (.slice Ao62 t555.length co62 : Value).ownBlock ∧ some k_ ≠ (.slice Ao63 t558.length co63 : Value).ownBlock ∧ some k_ ≠ (.slice Ao69 t566.length co69 : Value).ownBlock ∧ some k_ ≠ (.slice Ao74 t572.length co74 : Value).ownBlock) (.slice Ao73 t569.length co73) t569) := ⟨by (with_reducible repeat (fail)); exact Kd.R_mono (Kd.R_far (p := ⟨gb576, 2, none⟩) (Kd.R_far (p := ⟨gb576, 1, none⟩) (Kd.R_far (p := ⟨gb576, 0, none⟩) (Kd.R_types HO571.out BK576.out (by decide)) (fun _ hk => hk.2) (.slice Ao69 t566.length co69)) (fun _ hk => hk.2) (.slice Ao73 t569.length co73)) (fun _ hk => hk.2) (.slice Ao74 t572.length co74)) (fun _ hk => ⟨hk.1.1.1.2, ⟨hk.1.1.2, ⟨hk.1.2, ⟨hk.1.1.1.1.1, hk.1.1.1.1.2⟩⟩⟩⟩)⟩
                have n5_ : Aside0 (Kd.S k46 46 (((w68.setCell ⟨gb576, 0, none⟩ (.slice Ao69 t566.length co69)).setCell ⟨gb576, 1, none⟩ (.slice Ao73 t569.length co73)).setCell ⟨gb576, 2, none⟩ (.slice Ao74 t572.length co74)) w.heap.size (fun k_ => some k_ ≠ (.slice Ao59 t552.length co59 : Value).ownBlock ∧ some k_ ≠ (.slice Ao63 t558.length co63 : Value).ownBlock ∧ some k_ ≠ (.slice Ao69 t566.length co69 : Value).ownBlock) (.slice Ao74 t572.length co74) t572) := ⟨by (with_reducible repeat (fail)); exact Kd.S_mono (Kd.S_far (p := ⟨gb576, 2, none⟩) (Kd.S_far (p := ⟨gb576, 1, none⟩) (Kd.S_far (p := ⟨gb576, 0, none⟩) (Kd.S_types HO574.out BK576.out (by decide)) (fun _ hk => hk.2) (.slice Ao69 t566.length co69)) (fun _ hk => hk.2) (.slice Ao73 t569.length co73)) (fun _ hk => hk.2) (.slice Ao74 t572.length co74)) (fun _ hk => ⟨hk.1.1.2, ⟨hk.1.2, hk.1.1.1⟩⟩)⟩
                have n6_ : Aside0 ((((w68.setCell ⟨gb576, 0, none⟩ (.slice Ao69 t566.length co69)).setCell ⟨gb576, 1, none⟩ (.slice Ao73 t569.length co73)).setCell ⟨gb576, 2, none⟩ (.slice Ao74 t572.length co74)).heap[gb549]? = some (.cells #[.slice A0_0 l0_0.length c0_0, .slice A0_1 l0_1.length c0_1, .slice A0_2 l0_2.length c0_2] 25 (0, 0))) := ⟨by (with_reducible repeat (fail)); refine blk_far ?_ NB549_576.out _; (with_reducible repeat (fail)); refine blk_far ?_ NB549_576.out _; (with_reducible repeat (fail)); refine blk_far ?_ NB549_576.out _; (with_reducible repeat (fail)); exact BK549.out⟩
                have n7_ : Aside0 ((((w68.setCell ⟨gb576, 0, none⟩ (.slice Ao69 t566.length co69)).setCell ⟨gb576, 1, none⟩ (.slice Ao73 t569.length co73)).setCell ⟨gb576, 2, none⟩ (.slice Ao74 t572.length co74)).heap[gb562]? = some (.cells #[.slice Ao59 t552.length co59, .slice Ao62 t555.length co62, .slice Ao63 t558.length co63] 25 (0, 0))) := ⟨by (with_reducible repeat (fail)); refine blk_far ?_ NB562_576.out _; (with_reducible repeat (fail)); refine blk_far ?_ NB562_576.out _; (with_reducible repeat (fail)); refine blk_far ?_ NB562_576.out _; (with_reducible repeat (fail)); exact BK562.out⟩
                have n8_ : Aside0 ((((w68.setCell ⟨gb576, 0, none⟩ (.slice Ao69 t566.length co69)).setCell ⟨gb576, 1, none⟩ (.slice Ao73 t569.length co73)).setCell ⟨gb576, 2, none⟩ (.slice Ao74 t572.length co74)).heap[gb576]? = some (.cells #[.slice Ao69 t566.length co69, .slice Ao73 t569.length co73, .slice Ao74 t572.length co74] 25 (0, 0))) := ⟨by (with_reducible repeat (fail)); refine blk_put (cs := #[.slice Ao69 t566.length co69, .slice Ao73 t569.length co73, .slice none 0 0]) ?_ 2 _ rfl; (with_reducible repeat (fail)); refine blk_put (cs := #[.slice Ao69 t566.length co69, .slice none 0 0, .slice none 0 0]) ?_ 1 _ rfl; (with_reducible repeat (fail)); refine blk_put (cs := #[.slice none 0 0, .slice none 0 0, .slice none 0 0]) ?_ 0 _ rfl; (with_reducible repeat (fail)); exact BK576.out⟩
                have n9_ : Aside0 (Below w.heap.size w (((w68.setCell ⟨gb576, 0, none⟩ (.slice Ao69 t566.length co69)).setCell ⟨gb576, 1, none⟩ (.slice Ao73 t569.length co73)).setCell ⟨gb576, 2, none⟩ (.slice Ao74 t572.length co74))) := ⟨by repeat ((with_reducible first | exact HB.out | refine below_set ?_ GE576.out))⟩
                (try clear HO554)
                (try clear HO557)
                (try clear HO560)
                (try clear HO568)
                (try clear HO571)
                (try clear HO574)
                (try clear BK549)
                (try clear BK562)
                (try clear BK576)
                (try clear HB)
                generalize (((w68.setCell ⟨gb576, 0, none⟩ (.slice Ao69 t566.length co69)).setCell ⟨gb576, 1, none⟩ (.slice Ao73 t569.length co73)).setCell ⟨gb576, 2, none⟩ (.slice Ao74 t572.length co74)) = w75 at n0_ n1_ n2_ n3_ n4_ n5_ n6_ n7_ n8_ n9_ ⊢
                have HO554 := n0_
                have HO557 := n1_
                have HO560 := n2_
                have HO568 := n3_
                have HO571 := n4_
                have HO574 := n5_
                have BK549 := n6_
                have BK562 := n7_
                have BK576 := n8_
                have HB := n9_
                clear n0_ n1_ n2_ n3_ n4_ n5_ n6_ n7_ n8_ n9_
                have n0_ := Aside0.mk (Kd.S_drew HO554.out)
                have n1_ := Aside0.mk (Kd.R_drew HO557.out)
                have n2_ := Aside0.mk (Kd.S_drew HO560.out)
                have n3_ := Aside0.mk (Kd.S_drew HO568.out)
                have n4_ := Aside0.mk (Kd.R_drew HO571.out)
                have n5_ := Aside0.mk (Kd.S_drew HO574.out)
                have n6_ := Aside0.mk (blk_drew BK549.out)
                have n7_ := Aside0.mk (blk_drew BK562.out)
                have n8_ := Aside0.mk (blk_drew BK576.out)
                have n9_ := Aside0.mk (below_drew1 HB.out)
                clear HO554
                clear HO557
                clear HO560
                clear HO568
                clear HO571
                clear HO574
                clear BK549
                clear BK562
                clear BK576
                clear HB
                have HO554 := n0_
                have HO557 := n1_
                have HO560 := n2_
                have HO568 := n3_
                have HO571 := n4_
                have HO574 := n5_
                have BK549 := n6_
                have BK562 := n7_
                have BK576 := n8_
                have HB := n9_
                clear n0_ n1_ n2_ n3_ n4_ n5_ n6_ n7_ n8_ n9_
                refine start_ (n := 19) (S := fun w' => w'.cell? ⟨gb562, 0, none⟩ = some (.slice Ao59 t552.length co59) ∧ w'.cell? ⟨gb562, 1, none⟩ = some (.slice Ao62 t555.length co62) ∧ w'.cell? ⟨gb562, 2, none⟩ = some (.slice Ao63 t558.length co63) ∧ w'.cell? ⟨gb549, 0, none⟩ = some (.slice A0_0 l0_0.length c0_0) ∧ w'.cell? ⟨gb549, 1, none⟩ = some (.slice A0_1 l0_1.length c0_1) ∧ w'.cell? ⟨gb549, 2, none⟩ = some (.slice A0_2 l0_2.length c0_2)) (ds := []) #[false, false, false, false, false, false, false, false, false, false, false, false, false, false, false, false, false, false, false] (by kernel_rfl) rfl rfl ⟨(blk_cell BK562.out 0).trans rfl, (blk_cell BK562.out 1).trans rfl, (blk_cell BK562.out 2).trans rfl, (blk_cell BK549.out 0).trans rfl, (blk_cell BK549.out 1).trans rfl, (blk_cell BK549.out 2).trans rfl⟩ (fun hHeld => ?_); refine with_tabW codewrightlaw35_SimplexDuals.tab7 codewrightlaw35_SimplexDuals.bits7 (fun HT_ HW_ => ?_)
                generalize w75.drew = w76 at HO554 HO557 HO560 HO568 HO571 HO574 BK549 BK562 BK576 HB hHeld ⊢
                refine pure_ (i := 0) (N := some 37) (v := ?_) (a' := ?_) #[true, false, false, false, false, false, false, false, false, false, false, false, false, false, false, false, false, false, false] rfl rfl (any_of HT_.out (by kernel_rfl)) (fun _ _ _ h => h) (Or.inl ⟨by rfl, ?_⟩) ?_ ?_
                rotate_left
                · intro w'
                  go_simp
                  with_reducible rfl
                rotate_left
                · simp only [Act.put, List.setIfInBounds_toArray, List.set_cons_zero, List.set_cons_succ, i64_w, i32_w]
                  rfl
                refine pure_ (i := 1) (N := some 38) (v := ?_) (a' := ?_) #[true, true, false, false, false, false, false, false, false, false, false, false, false, false, false, false, false, false, false] rfl rfl (any_of HT_.out (by kernel_rfl)) (fun _ _ _ h => h) (Or.inl ⟨by rfl, ?_⟩) ?_ ?_
                rotate_left
                · intro w'
                  go_simp
                  with_reducible rfl
                rotate_left
                · simp only [Act.put, List.setIfInBounds_toArray, List.set_cons_zero, List.set_cons_succ, i64_w, i32_w]
                  rfl
                refine pure_ (i := 2) (N := some 39) (v := ?_) (a' := ?_) #[true, true, true, false, false, false, false, false, false, false, false, false, false, false, false, false, false, false, false] rfl rfl (any_of HT_.out (by kernel_rfl)) (fun _ _ _ h => h) (Or.inl ⟨by rfl, ?_⟩) ?_ ?_
                rotate_left
                · intro w'
                  go_simp
                  with_reducible rfl
                rotate_left
                · simp only [Act.put, List.setIfInBounds_toArray, List.set_cons_zero, List.set_cons_succ, i64_w, i32_w]
                  rfl
                refine pure_ (i := 3) (N := some 40) (v := ?_) (a' := ?_) #[true, true, true, true, false, false, false, false, false, false, false, false, false, false, false, false, false, false, false] rfl rfl (any_of HT_.out (by kernel_rfl)) (fun _ _ _ h => h) (Or.inl ⟨by rfl, ?_⟩) ?_ ?_
                rotate_left
                · intro w'
                  go_simp
                  with_reducible rfl
                rotate_left
                · simp only [Act.put, List.setIfInBounds_toArray, List.set_cons_zero, List.set_cons_succ, i64_w, i32_w]
                  rfl
                refine pure_ (i := 4) (N := some 41) (v := ?_) (a' := ?_) #[true, true, true, true, true, false, false, false, false, false, false, false, false, false, false, false, false, false, false] rfl rfl (any_of HT_.out (by kernel_rfl)) (fun _ _ _ h => h) (Or.inl ⟨by rfl, ?_⟩) ?_ ?_
                rotate_left
                · intro w'
                  go_simp
                  with_reducible rfl
                rotate_left
                · simp only [Act.put, List.setIfInBounds_toArray, List.set_cons_zero, List.set_cons_succ, i64_w, i32_w]
                  rfl
                refine pure_ (i := 5) (N := some 42) (v := ?_) (a' := ?_) #[true, true, true, true, true, true, false, false, false, false, false, false, false, false, false, false, false, false, false] rfl rfl (any_of HT_.out (by kernel_rfl)) (fun _ _ _ h => h) (Or.inl ⟨by rfl, ?_⟩) ?_ ?_
                rotate_left
                · intro w'
                  go_simp
                  with_reducible rfl
                rotate_left
                · simp only [Act.put, List.setIfInBounds_toArray, List.set_cons_zero, List.set_cons_succ, i64_w, i32_w]
                  rfl
                refine pure_ (i := 6) (N := some 43) (v := ?_) (a' := ?_) #[true, true, true, true, true, true, true, false, false, false, false, false, false, false, false, false, false, false, false] rfl rfl (any_of HT_.out (by kernel_rfl)) (fun _ _ _ h => h) (Or.inl ⟨by rfl, ?_⟩) ?_ ?_
                rotate_left
                · intro w'
                  go_simp
                  with_reducible rfl
                rotate_left
                · simp only [Act.put, List.setIfInBounds_toArray, List.set_cons_zero, List.set_cons_succ, i64_w, i32_w]
                  rfl
                refine take_ (i := 7) (N := some 44) (v := ?_) (a' := ?_) #[true, true, true, true, true, true, true, true, false, false, false, false, false, false, false, false, false, false, false] rfl rfl (take_ofW HT_.out HW_.out (by kernel_rfl)) (fun _ _ _ h => h) (Or.inl ⟨by rfl, ?_⟩) hHeld ?_ ?_
                rotate_left
                · rintro w' ⟨s0, s1, s2, s3, s4, s5⟩
                  go_simp
                  with_reducible rfl
                rotate_left
                · simp only [Act.put, List.setIfInBounds_toArray, List.set_cons_zero, List.set_cons_succ, i64_w, i32_w]
                  rfl
                refine take_ (i := 8) (N := some 45) (v := ?_) (a' := ?_) #[true, true, true, true, true, true, true, true, true, false, false, false, false, false, false, false, false, false, false] rfl rfl (take_ofW HT_.out HW_.out (by kernel_rfl)) (fun _ _ _ h => h) (Or.inl ⟨by rfl, ?_⟩) hHeld ?_ ?_
                rotate_left
                · rintro w' ⟨s0, s1, s2, s3, s4, s5⟩
                  go_simp
                  with_reducible rfl
                rotate_left
                · simp only [Act.put, List.setIfInBounds_toArray, List.set_cons_zero, List.set_cons_succ, i64_w, i32_w]
                  rfl
                refine one_ (i := 9) (N := some 46) #[true, true, true, true, true, true, true, true, true, true, false, false, false, false, false, false, false, false, false] rfl rfl (one_of HT_.out (by kernel_rfl)) (by decide) (fun K hK => ?_)
                refine goes_ Try.func23 (by kernel_rfl) rfl #[.agg #[.slice A0_0 l0_0.length c0_0, .slice A0_1 l0_1.length c0_1, .slice A0_2 l0_2.length c0_2]] (by rfl) rfl rfl (by (try simp only [List.map_toArray, List.map_cons, List.map_nil]); rfl) ?_
                with_reducible refine (codewrightref35_Dual.calls kj1 _ _ l0_0 _ _ l0_1 _ _ l0_2 t577 t580 t583 _ ?side1 ?side2 ?side3 ?side4 ?side5 ?side6 A20.out).mono ?_
                (case side1 => repeat (exact (Kd.C_below HR0_0.out HB.out)))
                (case side2 => exact HC0_0.out)
                (case side3 => repeat (exact (Kd.C_below HR0_1.out HB.out)))
                (case side4 => exact HC0_1.out)
                (case side5 => repeat (exact (Kd.C_below HR0_2.out HB.out)))
                (case side6 => exact HC0_2.out)
                rintro e w77 ⟨v578, v581, v584, rfl, ho0, ho1, ho2, hb⟩
                refine ⟨_, rfl, ?_⟩
                have n0_ := Aside0.mk (Kd.S_mono (Kd.S_told (Kd.S_told (Kd.S_old (by (with_reducible repeat (fail)); exact HO554.out) hb) (Kd.S_base ho0)) (Kd.S_base ho2)) (fun _ h_ => h_.1))
                have n1_ := Aside0.mk (Kd.R_mono (Kd.R_told (Kd.R_told (Kd.R_told (Kd.R_old (by (with_reducible repeat (fail)); exact HO557.out) hb) (Kd.S_base ho0)) (Kd.R_base ho1)) (Kd.S_base ho2)) (fun _ h_ => h_.1))
                have n2_ := Aside0.mk (Kd.S_mono (Kd.S_told (Kd.S_told (Kd.S_old (by (with_reducible repeat (fail)); exact HO560.out) hb) (Kd.S_base ho0)) (Kd.S_base ho2)) (fun _ h_ => h_.1))
                have n3_ := Aside0.mk (Kd.S_mono (Kd.S_told (Kd.S_told (Kd.S_old (by (with_reducible repeat (fail)); exact HO568.out) hb) (Kd.S_base ho0)) (Kd.S_base ho2)) (fun _ h_ => h_.1))
                have n4_ := Aside0.mk (Kd.R_mono (Kd.R_told (Kd.R_told (Kd.R_told (Kd.R_old (by (with_reducible repeat (fail)); exact HO571.out) hb) (Kd.S_base ho0)) (Kd.R_base ho1)) (Kd.S_base ho2)) (fun _ h_ => h_.1))
                have n5_ := Aside0.mk (Kd.S_mono (Kd.S_told (Kd.S_told (Kd.S_old (by (with_reducible repeat (fail)); exact HO574.out) hb) (Kd.S_base ho0)) (Kd.S_base ho2)) (fun _ h_ => h_.1))
                have n6_ := Aside0.mk (Kd.S_lower (Kd.S_new' (Kd.S_new' (Kd.S_new' (Kd.S_new' ho0 (Kd.S_lt (by (with_reducible repeat (fail)); exact HO554.out))) (Kd.S_lt (by (with_reducible repeat (fail)); exact HO560.out))) (Kd.S_lt (by (with_reducible repeat (fail)); exact HO568.out))) (Kd.S_lt (by (with_reducible repeat (fail)); exact HO574.out))) (below_size (by repeat ((with_reducible exact HB.out)))))
                have n7_ := Aside0.mk (Kd.R_lower (Kd.R_new' (Kd.R_new' (Kd.R_new' (Kd.R_new' (Kd.R_new' (Kd.R_new' ho1 (Kd.S_lt (by (with_reducible repeat (fail)); exact HO554.out))) (Kd.R_lt (by (with_reducible repeat (fail)); exact HO557.out))) (Kd.S_lt (by (with_reducible repeat (fail)); exact HO560.out))) (Kd.S_lt (by (with_reducible repeat (fail)); exact HO568.out))) (Kd.R_lt (by (with_reducible repeat (fail)); exact HO571.out))) (Kd.S_lt (by (with_reducible repeat (fail)); exact HO574.out))) (below_size (by repeat ((with_reducible exact HB.out)))))
                have n8_ := Aside0.mk (Kd.S_lower (Kd.S_new' (Kd.S_new' (Kd.S_new' (Kd.S_new' ho2 (Kd.S_lt (by (with_reducible repeat (fail)); exact HO554.out))) (Kd.S_lt (by (with_reducible repeat (fail)); exact HO560.out))) (Kd.S_lt (by (with_reducible repeat (fail)); exact HO568.out))) (Kd.S_lt (by (with_reducible repeat (fail)); exact HO574.out))) (below_size (by repeat ((with_reducible exact HB.out)))))
                have n9_ := Aside0.mk (blk_below (g := gb549) (o := .cells #[.slice A0_0 l0_0.length c0_0, .slice A0_1 l0_1.length c0_1, .slice A0_2 l0_2.length c0_2] 25 (0, 0)) (by (with_reducible repeat (fail)); exact BK549.out) hb)
                have n10_ := Aside0.mk (blk_below (g := gb562) (o := .cells #[.slice Ao59 t552.length co59, .slice Ao62 t555.length co62, .slice Ao63 t558.length co63] 25 (0, 0)) (by (with_reducible repeat (fail)); exact BK562.out) hb)
                have n11_ := Aside0.mk (blk_below (g := gb576) (o := .cells #[.slice Ao69 t566.length co69, .slice Ao73 t569.length co73, .slice Ao74 t572.length co74] 25 (0, 0)) (by (with_reducible repeat (fail)); exact BK576.out) hb)
                have n12_ := Aside0.mk (below_step (by repeat ((with_reducible exact HB.out))) hb)
                clear HO554
                clear HO557
                clear HO560
                clear HO568
                clear HO571
                clear HO574
                clear BK549
                clear BK562
                clear BK576
                clear HB
                have HO554 := n0_
                have HO557 := n1_
                have HO560 := n2_
                have HO568 := n3_
                have HO571 := n4_
                have HO574 := n5_
                have HO579 := n6_
                have HO582 := n7_
                have HO585 := n8_
                have BK549 := n9_
                have BK562 := n10_
                have BK576 := n11_
                have HB := n12_
                clear n0_ n1_ n2_ n3_ n4_ n5_ n6_ n7_ n8_ n9_ n10_ n11_ n12_
                (try clear hb)
                (try clear ho0)
                (try clear ho1)
                (try clear ho2)
                obtain ⟨Ao78, co78, eo78⟩ := Kd.S_slice HO579.out
                (subst eo78)
                obtain ⟨Ao79, co79, eo79⟩ := Kd.R_slice HO582.out
                (subst eo79)
                obtain ⟨Ao80, co80, eo80⟩ := Kd.S_slice HO585.out
                (subst eo80)
                refine hK.out _ _ ⟨(blk_cell BK562.out 0).trans rfl, (blk_cell BK562.out 1).trans rfl, (blk_cell BK562.out 2).trans rfl, (blk_cell BK549.out 0).trans rfl, (blk_cell BK549.out 1).trans rfl, (blk_cell BK549.out 2).trans rfl⟩ (fun hHeld => ?_)
                clear hK K
                refine norm_ (a' := ?_) ?_ ?_
                rotate_left
                · show Act.put _ (some 46) _ = _
                  simp only [Act.put, List.setIfInBounds_toArray, List.set_cons_zero, List.set_cons_succ, i64_w, i32_w]
                  rfl
                refine one_ (i := 10) (N := some 47) #[true, true, true, true, true, true, true, true, true, true, true, false, false, false, false, false, false, false, false] rfl rfl (one_of HT_.out (by kernel_rfl)) (by decide) (fun K hK => ?_)
                refine goes_ Try.func22 (by kernel_rfl) rfl #[.agg #[.slice Ao59 t552.length co59, .slice Ao62 t555.length co62, .slice Ao63 t558.length co63], .agg #[.slice Ao78 t577.length co78, .slice Ao79 t580.length co79, .slice Ao80 t583.length co80]] (by rfl) rfl rfl (by (try simp only [List.map_toArray, List.map_cons, List.map_nil]); rfl) ?_
                with_reducible refine (codewrightref35_Same.calls kj1 _ _ t552 _ _ t555 _ _ t558 _ _ t577 _ _ t580 _ _ t583 false _ ?side1 ?side2 ?side3 ?side4 ?side5 ?side6 ?side7 ?side8 ?side9 ?side10 ?side11 ?side12 A21.out).mono ?_
                (case side1 => exact (Kd.S_reads' HO554.out).2.2)
                (case side2 => exact (Kd.S_reads' HO554.out).2.1)
                (case side3 => exact (Kd.R_reads' HO557.out).2.2)
                (case side4 => exact (Kd.R_reads' HO557.out).2.1)
                (case side5 => exact (Kd.S_reads' HO560.out).2.2)
                (case side6 => exact (Kd.S_reads' HO560.out).2.1)
                (case side7 => exact (Kd.S_reads' HO579.out).2.2)
                (case side8 => exact (Kd.S_reads' HO579.out).2.1)
                (case side9 => exact (Kd.R_reads' HO582.out).2.2)
                (case side10 => exact (Kd.R_reads' HO582.out).2.1)
                (case side11 => exact (Kd.S_reads' HO585.out).2.2)
                (case side12 => exact (Kd.S_reads' HO585.out).2.1)
                rintro e w81 ⟨rfl, hb⟩
                refine ⟨_, rfl, ?_⟩
                have n0_ := Aside0.mk (Kd.S_below (by (with_reducible repeat (fail)); exact HO554.out) hb)
                have n1_ := Aside0.mk (Kd.R_below (by (with_reducible repeat (fail)); exact HO557.out) hb)
                have n2_ := Aside0.mk (Kd.S_below (by (with_reducible repeat (fail)); exact HO560.out) hb)
                have n3_ := Aside0.mk (Kd.S_below (by (with_reducible repeat (fail)); exact HO568.out) hb)
                have n4_ := Aside0.mk (Kd.R_below (by (with_reducible repeat (fail)); exact HO571.out) hb)
                have n5_ := Aside0.mk (Kd.S_below (by (with_reducible repeat (fail)); exact HO574.out) hb)
                have n6_ := Aside0.mk (Kd.S_below (by (with_reducible repeat (fail)); exact HO579.out) hb)
                have n7_ := Aside0.mk (Kd.R_below (by (with_reducible repeat (fail)); exact HO582.out) hb)
                have n8_ := Aside0.mk (Kd.S_below (by (with_reducible repeat (fail)); exact HO585.out) hb)
                have n9_ := Aside0.mk (blk_below (g := gb549) (o := .cells #[.slice A0_0 l0_0.length c0_0, .slice A0_1 l0_1.length c0_1, .slice A0_2 l0_2.length c0_2] 25 (0, 0)) (by (with_reducible repeat (fail)); exact BK549.out) hb)
                have n10_ := Aside0.mk (blk_below (g := gb562) (o := .cells #[.slice Ao59 t552.length co59, .slice Ao62 t555.length co62, .slice Ao63 t558.length co63] 25 (0, 0)) (by (with_reducible repeat (fail)); exact BK562.out) hb)
                have n11_ := Aside0.mk (blk_below (g := gb576) (o := .cells #[.slice Ao69 t566.length co69, .slice Ao73 t569.length co73, .slice Ao74 t572.length co74] 25 (0, 0)) (by (with_reducible repeat (fail)); exact BK576.out) hb)
                have n12_ := Aside0.mk (below_step (by repeat ((with_reducible exact HB.out))) hb)
                clear HO554
                clear HO557
                clear HO560
                clear HO568
                clear HO571
                clear HO574
                clear HO579
                clear HO582
                clear HO585
                clear BK549
                clear BK562
                clear BK576
                clear HB
                have HO554 := n0_
                have HO557 := n1_
                have HO560 := n2_
                have HO568 := n3_
                have HO571 := n4_
                have HO574 := n5_
                have HO579 := n6_
                have HO582 := n7_
                have HO585 := n8_
                have BK549 := n9_
                have BK562 := n10_
                have BK576 := n11_
                have HB := n12_
                clear n0_ n1_ n2_ n3_ n4_ n5_ n6_ n7_ n8_ n9_ n10_ n11_ n12_
                (try clear hb)
                refine hK.out _ _ ⟨(blk_cell BK562.out 0).trans rfl, (blk_cell BK562.out 1).trans rfl, (blk_cell BK562.out 2).trans rfl, (blk_cell BK549.out 0).trans rfl, (blk_cell BK549.out 1).trans rfl, (blk_cell BK549.out 2).trans rfl⟩ (fun hHeld => ?_)
                clear hK K
                refine norm_ (a' := ?_) ?_ ?_
                rotate_left
                · show Act.put _ (some 47) _ = _
                  simp only [Act.put, List.setIfInBounds_toArray, List.set_cons_zero, List.set_cons_succ, i64_w, i32_w]
                  rfl
                refine pure_ (i := 11) (N := some 48) (v := ?_) (a' := ?_) #[true, true, true, true, true, true, true, true, true, true, true, true, false, false, false, false, false, false, false] rfl rfl (any_of HT_.out (by kernel_rfl)) (fun _ _ _ h => h) (Or.inl ⟨by rfl, ?_⟩) ?_ ?_
                rotate_left
                · intro w'
                  go_simp
                  with_reducible rfl
                rotate_left
                · simp only [Act.put, List.setIfInBounds_toArray, List.set_cons_zero, List.set_cons_succ, i64_w, i32_w]
                  rfl
                refine pure_ (i := 12) (N := some 49) (v := ?_) (a' := ?_) #[true, true, true, true, true, true, true, true, true, true, true, true, true, false, false, false, false, false, false] rfl rfl (any_of HT_.out (by kernel_rfl)) (fun _ _ _ h => h) (Or.inl ⟨by rfl, ?_⟩) ?_ ?_
                rotate_left
                · intro w'
                  go_simp
                  with_reducible rfl
                rotate_left
                · simp only [Act.put, List.setIfInBounds_toArray, List.set_cons_zero, List.set_cons_succ, i64_w, i32_w]
                  rfl
                refine pure_ (i := 13) (N := some 50) (v := undef) (a' := ?_) #[true, true, true, true, true, true, true, true, true, true, true, true, true, true, false, false, false, false, false] rfl rfl (any_of HT_.out (by kernel_rfl)) (fun _ _ _ h => h) (Or.inr ⟨by rfl, rfl⟩) ?_ ?_
                rotate_left
                · simp only [Act.put, List.setIfInBounds_toArray, List.set_cons_zero, List.set_cons_succ, i64_w, i32_w]
                  rfl
                refine pure_ (i := 14) (N := some 51) (v := undef) (a' := ?_) #[true, true, true, true, true, true, true, true, true, true, true, true, true, true, true, false, false, false, false] rfl rfl (any_of HT_.out (by kernel_rfl)) (fun _ _ _ h => h) (Or.inr ⟨by rfl, rfl⟩) ?_ ?_
                rotate_left
                · simp only [Act.put, List.setIfInBounds_toArray, List.set_cons_zero, List.set_cons_succ, i64_w, i32_w]
                  rfl
                refine pure_ (i := 15) (N := some 52) (v := undef) (a' := ?_) #[true, true, true, true, true, true, true, true, true, true, true, true, true, true, true, true, false, false, false] rfl rfl (any_of HT_.out (by kernel_rfl)) (fun _ _ _ h => h) (Or.inr ⟨by rfl, rfl⟩) ?_ ?_
                rotate_left
                · simp only [Act.put, List.setIfInBounds_toArray, List.set_cons_zero, List.set_cons_succ, i64_w, i32_w]
                  rfl
                refine pure_ (i := 16) (N := some 53) (v := undef) (a' := ?_) #[true, true, true, true, true, true, true, true, true, true, true, true, true, true, true, true, true, false, false] rfl rfl (any_of HT_.out (by kernel_rfl)) (fun _ _ _ h => h) (Or.inr ⟨by rfl, rfl⟩) ?_ ?_
                rotate_left
                · simp only [Act.put, List.setIfInBounds_toArray, List.set_cons_zero, List.set_cons_succ, i64_w, i32_w]
                  rfl
                refine pure_ (i := 17) (N := some 54) (v := ?_) (a' := ?_) #[true, true, true, true, true, true, true, true, true, true, true, true, true, true, true, true, true, true, false] rfl rfl (any_of HT_.out (by kernel_rfl)) (fun _ _ _ h => h) (Or.inl ⟨by rfl, ?_⟩) ?_ ?_
                rotate_left
                · intro w'
                  go_simp
                  with_reducible rfl
                rotate_left
                · simp only [Act.put, List.setIfInBounds_toArray, List.set_cons_zero, List.set_cons_succ, i64_w, i32_w]
                  rfl
                refine pure_ (i := 18) (N := some 2) (v := ?_) (a' := ?_) #[true, true, true, true, true, true, true, true, true, true, true, true, true, true, true, true, true, true, true] rfl rfl (any_of HT_.out (by kernel_rfl)) (fun _ _ _ h => h) (Or.inl ⟨by rfl, ?_⟩) ?_ ?_
                rotate_left
                · intro w'
                  go_simp
                  with_reducible rfl
                rotate_left
                · simp only [Act.put, List.setIfInBounds_toArray, List.set_cons_zero, List.set_cons_succ, i64_w, i32_w]
                  rfl
                refine done_ (done_of HT_.out (by kernel_rfl)) ?_
                try go_wp2
                go_ret
                exact ⟨by rfl, by repeat ((with_reducible exact HB.out))⟩
            · rw [if_neg c19] at H
              have c19b0 : (t575 == 0) = false := beq_eq_false_iff_ne.mpr c19
              have c19b1 : (t575 != 0) = true := bne_iff_ne.mpr c19
              obtain rfl := Option.some.inj H
              have hcz82_0 : wc.cell? ⟨gb549, 0, none⟩ = some (.slice A0_0 l0_0.length c0_0) := (blk_cell BK549.out 0).trans rfl
              have hcz82_1 : wc.cell? ⟨gb549, 1, none⟩ = some (.slice A0_1 l0_1.length c0_1) := (blk_cell BK549.out 1).trans rfl
              have hcz82_2 : wc.cell? ⟨gb549, 2, none⟩ = some (.slice A0_2 l0_2.length c0_2) := (blk_cell BK549.out 2).trans rfl
              have hfz82_0 := blk_frozen BK549.out 0
              have hfz82_1 := blk_frozen BK549.out 1
              have hfz82_2 := blk_frozen BK549.out 2
              try go_wp2_with (first | ((with_reducible refine gate_callee (f := 21) rfl ?_); refine goesL_ (some 17) rfl rfl Try.func21 (by kernel_rfl) rfl #[.agg #[.slice A0_0 l0_0.length c0_0, .slice A0_1 l0_1.length c0_1, .slice A0_2 l0_2.length c0_2]] rfl (by (try simp only [List.map_toArray, List.map_cons, List.map_nil]); rfl) ?_; (with_reducible refine (simplex_Dual.calls kj1 _ _ l0_0 _ _ l0_1 _ _ l0_2 t552 t555 t558 t561 _ ?side1 ?side2 ?side3 ?side4 ?side5 ?side6 A14.out).mono ?_); (case side1 => repeat (exact (Kd.C_below HR0_0.out HB.out))); (case side2 => exact HC0_0.out); (case side3 => repeat (exact (Kd.C_below HR0_1.out HB.out))); (case side4 => exact HC0_1.out); (case side5 => repeat (exact (Kd.C_below HR0_2.out HB.out))); (case side6 => exact HC0_2.out); rintro e w83 ⟨v553, v556, v559, rfl, ho0, ho1, ho2, hb⟩; refine ⟨_, rfl, ?_⟩; have n0_ := Aside0.mk (Kd.S_lower ho0 (below_size (by repeat ((with_reducible exact HB.out))))); have n1_ := Aside0.mk (Kd.R_lower ho1 (below_size (by repeat ((with_reducible exact HB.out))))); have n2_ := Aside0.mk (Kd.S_lower ho2 (below_size (by repeat ((with_reducible exact HB.out))))); have n3_ := Aside0.mk (blk_below (g := gb549) (o := .cells #[.slice A0_0 l0_0.length c0_0, .slice A0_1 l0_1.length c0_1, .slice A0_2 l0_2.length c0_2] 25 (0, 0)) (by (with_reducible repeat (fail)); exact BK549.out) hb); have n4_ := Aside0.mk (below_step (by repeat ((with_reducible exact HB.out))) hb); clear BK549; clear HB; have HO554 := n0_; have HO557 := n1_; have HO560 := n2_; have BK549 := n3_; have HB := n4_; clear n0_ n1_ n2_ n3_ n4_; (try clear hb); (try clear ho0); (try clear ho1); (try clear ho2)) | ((with_reducible refine gate_dst (N := 3) rfl ?_); refine box_event ?hg (N := 3) ?hd (cs := #[.slice none 0 0, .slice none 0 0, .slice none 0 0]) (t := 25) ?hr ?_; (case hd => rfl); (case hg => rfl); (case hr => (go_simp; done)); intro gb562 hg w84 hbox hb; have n0_ := Aside0.mk (Kd.S_below (by (with_reducible repeat (fail)); exact HO554.out) hb); have n1_ := Aside0.mk (Kd.R_below (by (with_reducible repeat (fail)); exact HO557.out) hb); have n2_ := Aside0.mk (Kd.S_below (by (with_reducible repeat (fail)); exact HO560.out) hb); have n3_ := Aside0.mk (blk_below (g := gb549) (o := .cells #[.slice A0_0 l0_0.length c0_0, .slice A0_1 l0_1.length c0_1, .slice A0_2 l0_2.length c0_2] 25 (0, 0)) (by (with_reducible repeat (fail)); exact BK549.out) hb); have n4_ := Aside0.mk (below_step (by repeat ((with_reducible exact HB.out))) hb); have n5_ := Aside0.mk (hbox); have n6_ := Aside0.mk ((by rw [hg]; exact (below_size (by repeat ((with_reducible exact HB.out)))) : w.heap.size ≤ gb562)); have n7_ := Aside0.mk ((by rw [hg]; exact (below_size (by repeat ((with_reducible exact HB.out)))) : w.heap.size ≤ gb562)); have n8_ := Aside0.mk ((by rw [hg]; exact Nat.ne_of_lt (blk_lt (g := gb549) (o := .cells #[.slice A0_0 l0_0.length c0_0, .slice A0_1 l0_1.length c0_1, .slice A0_2 l0_2.length c0_2] 25 (0, 0)) (by (with_reducible repeat (fail)); exact BK549.out)) : gb549 ≠ gb562)); have n9_ := Aside0.mk ((by rw [hg]; exact Nat.ne_of_gt (blk_lt (g := gb549) (o := .cells #[.slice A0_0 l0_0.length c0_0, .slice A0_1 l0_1.length c0_1, .slice A0_2 l0_2.length c0_2] 25 (0, 0)) (by (with_reducible repeat (fail)); exact BK549.out)) : gb562 ≠ gb549)); clear HO554; clear HO557; clear HO560; clear BK549; clear HB; have HO554 := n0_; have HO557 := n1_; have HO560 := n2_; have BK549 := n3_; have HB := n4_; have BK562 := n5_; have GW562 := n6_; have GE562 := n7_; have NB549_562 := n8_; have NB562_549 := n9_; clear n0_ n1_ n2_ n3_ n4_ n5_ n6_ n7_ n8_ n9_; clear hb hbox hg; obtain ⟨Ao85, co85, eo85⟩ := Kd.S_slice HO554.out; subst eo85; have hnb86 := NB562_549.out; have hnc86 := NB549_562.out; have hcz87_0 : w84.cell? ⟨gb562, 0, none⟩ = some (.slice none 0 0) := (blk_cell BK562.out 0).trans rfl; have hcz87_1 : w84.cell? ⟨gb562, 1, none⟩ = some (.slice none 0 0) := (blk_cell BK562.out 1).trans rfl; have hcz87_2 : w84.cell? ⟨gb562, 2, none⟩ = some (.slice none 0 0) := (blk_cell BK562.out 2).trans rfl; have hfz87_0 := blk_frozen BK562.out 0; have hfz87_1 := blk_frozen BK562.out 1; have hfz87_2 := blk_frozen BK562.out 2; obtain ⟨Ao88, co88, eo88⟩ := Kd.R_slice HO557.out; subst eo88; obtain ⟨Ao89, co89, eo89⟩ := Kd.S_slice HO560.out; subst eo89; have hcz90_0 : w84.cell? ⟨gb549, 0, none⟩ = some (.slice A0_0 l0_0.length c0_0) := (blk_cell BK549.out 0).trans rfl; have hcz90_1 : w84.cell? ⟨gb549, 1, none⟩ = some (.slice A0_1 l0_1.length c0_1) := (blk_cell BK549.out 1).trans rfl; have hcz90_2 : w84.cell? ⟨gb549, 2, none⟩ = some (.slice A0_2 l0_2.length c0_2) := (blk_cell BK549.out 2).trans rfl; have hfz90_0 := blk_frozen BK549.out 0; have hfz90_1 := blk_frozen BK549.out 1; have hfz90_2 := blk_frozen BK549.out 2) | ((with_reducible refine gate_callee (f := 19) rfl ?_); refine goesL_ (some 21) rfl rfl Try.func19 (by kernel_rfl) rfl #[.agg #[.slice A0_0 l0_0.length c0_0, .slice A0_1 l0_1.length c0_1, .slice A0_2 l0_2.length c0_2]] rfl (by (try simp only [List.map_toArray, List.map_cons, List.map_nil]); rfl) ?_; (with_reducible refine (codewrightref35_Check.calls kj1 _ _ l0_0 _ _ l0_1 _ _ l0_2 t563 _ ?side1 ?side2 ?side3 ?side4 ?side5 ?side6 A15.out).mono ?_); (case side1 => exact Kd.C_below HR0_0.out (by repeat ((with_reducible first | exact HB.out | refine below_set ?_ GE562.out)))); (case side2 => exact HC0_0.out); (case side3 => exact Kd.C_below HR0_1.out (by repeat ((with_reducible first | exact HB.out | refine below_set ?_ GE562.out)))); (case side4 => exact HC0_1.out); (case side5 => exact Kd.C_below HR0_2.out (by repeat ((with_reducible first | exact HB.out | refine below_set ?_ GE562.out)))); (case side6 => exact HC0_2.out); rintro e w91 ⟨rfl, hb⟩; refine ⟨_, rfl, ?_⟩; have n0_ := Aside0.mk (Kd.S_below (by (with_reducible repeat (fail)); exact (Kd.S_mono (Kd.S_far (p := ⟨gb562, 2, none⟩) (Kd.S_far (p := ⟨gb562, 1, none⟩) (Kd.S_far (p := ⟨gb562, 0, none⟩) (Kd.S_types HO554.out BK562.out (by decide)) (fun _ hk => hk.2) (.slice Ao85 t552.length co85)) (fun _ hk => hk.2) (.slice Ao88 t555.length co88)) (fun _ hk => hk.2) (.slice Ao89 t558.length co89)) (fun _ h_ => h_.1))) hb); have n1_ := Aside0.mk (Kd.R_below (by (with_reducible repeat (fail)); exact (Kd.R_mono (Kd.R_far (p := ⟨gb562, 2, none⟩) (Kd.R_far (p := ⟨gb562, 1, none⟩) (Kd.R_far (p := ⟨gb562, 0, none⟩) (Kd.R_types HO557.out BK562.out (by decide)) (fun _ hk => hk.2) (.slice Ao85 t552.length co85)) (fun _ hk => hk.2) (.slice Ao88 t555.length co88)) (fun _ hk => hk.2) (.slice Ao89 t558.length co89)) (fun _ h_ => h_.1))) hb); have n2_ := Aside0.mk (Kd.S_below (by (with_reducible repeat (fail)); exact (Kd.S_mono (Kd.S_far (p := ⟨gb562, 2, none⟩) (Kd.S_far (p := ⟨gb562, 1, none⟩) (Kd.S_far (p := ⟨gb562, 0, none⟩) (Kd.S_types HO560.out BK562.out (by decide)) (fun _ hk => hk.2) (.slice Ao85 t552.length co85)) (fun _ hk => hk.2) (.slice Ao88 t555.length co88)) (fun _ hk => hk.2) (.slice Ao89 t558.length co89)) (fun _ h_ => h_.1))) hb); have n3_ := Aside0.mk (blk_below (g := gb549) (o := .cells #[.slice A0_0 l0_0.length c0_0, .slice A0_1 l0_1.length c0_1, .slice A0_2 l0_2.length c0_2] 25 (0, 0)) (by (with_reducible repeat (fail)); refine blk_far ?_ NB549_562.out _; (with_reducible repeat (fail)); refine blk_far ?_ NB549_562.out _; (with_reducible repeat (fail)); refine blk_far ?_ NB549_562.out _; (with_reducible repeat (fail)); exact BK549.out) hb); have n4_ := Aside0.mk (blk_below (g := gb562) (o := .cells #[.slice Ao85 t552.length co85, .slice Ao88 t555.length co88, .slice Ao89 t558.length co89] 25 (0, 0)) (by (with_reducible repeat (fail)); refine blk_put (cs := #[.slice Ao85 t552.length co85, .slice Ao88 t555.length co88, .slice none 0 0]) ?_ 2 _ rfl; (with_reducible repeat (fail)); refine blk_put (cs := #[.slice Ao85 t552.length co85, .slice none 0 0, .slice none 0 0]) ?_ 1 _ rfl; (with_reducible repeat (fail)); refine blk_put (cs := #[.slice none 0 0, .slice none 0 0, .slice none 0 0]) ?_ 0 _ rfl; (with_reducible repeat (fail)); exact BK562.out) hb); have n5_ := Aside0.mk (below_step (by repeat ((with_reducible first | exact HB.out | refine below_set ?_ GE562.out))) hb); clear HO554; clear HO557; clear HO560; clear BK549; clear BK562; clear HB; have HO554 := n0_; have HO557 := n1_; have HO560 := n2_; have BK549 := n3_; have BK562 := n4_; have HB := n5_; clear n0_ n1_ n2_ n3_ n4_ n5_; (try clear hb); have hcz92_0 : w91.cell? ⟨gb562, 0, none⟩ = some (.slice Ao85 t552.length co85) := (blk_cell BK562.out 0).trans rfl; have hcz92_1 : w91.cell? ⟨gb562, 1, none⟩ = some (.slice Ao88 t555.length co88) := (blk_cell BK562.out 1).trans rfl; have hcz92_2 : w91.cell? ⟨gb562, 2, none⟩ = some (.slice Ao89 t558.length co89) := (blk_cell BK562.out 2).trans rfl; have hfz92_0 := blk_frozen BK562.out 0; have hfz92_1 := blk_frozen BK562.out 1; have hfz92_2 := blk_frozen BK562.out 2) | ((with_reducible refine gate_callee (f := 21) rfl ?_); refine goesL_ (some 34) rfl rfl Try.func21 (by kernel_rfl) rfl #[.agg #[.slice Ao85 t552.length co85, .slice Ao88 t555.length co88, .slice Ao89 t558.length co89]] rfl (by (try simp only [List.map_toArray, List.map_cons, List.map_nil]); rfl) ?_; (with_reducible refine (simplex_Dual.calls kj1 _ _ t552 _ _ t555 _ _ t558 t566 t569 t572 t575 _ ?side1 ?side2 ?side3 ?side4 ?side5 ?side6 A17.out).mono ?_); (case side1 => exact (Kd.S_reads' HO554.out).2.2); (case side2 => exact (Kd.S_reads' HO554.out).2.1); (case side3 => exact (Kd.R_reads' HO557.out).2.2); (case side4 => exact (Kd.R_reads' HO557.out).2.1); (case side5 => exact (Kd.S_reads' HO560.out).2.2); (case side6 => exact (Kd.S_reads' HO560.out).2.1); rintro e w93 ⟨v567, v570, v573, rfl, ho0, ho1, ho2, hb⟩; refine ⟨_, rfl, ?_⟩; have n0_ := Aside0.mk (Kd.S_mono (Kd.S_told (Kd.S_told (Kd.S_old (by (with_reducible repeat (fail)); exact HO554.out) hb) (Kd.S_base ho0)) (Kd.S_base ho2)) (fun _ h_ => h_.1)); have n1_ := Aside0.mk (Kd.R_mono (Kd.R_told (Kd.R_told (Kd.R_told (Kd.R_old (by (with_reducible repeat (fail)); exact HO557.out) hb) (Kd.S_base ho0)) (Kd.R_base ho1)) (Kd.S_base ho2)) (fun _ h_ => h_.1)); have n2_ := Aside0.mk (Kd.S_mono (Kd.S_told (Kd.S_told (Kd.S_old (by (with_reducible repeat (fail)); exact HO560.out) hb) (Kd.S_base ho0)) (Kd.S_base ho2)) (fun _ h_ => h_.1)); have n3_ := Aside0.mk (Kd.S_lower (Kd.S_new' (Kd.S_new' ho0 (Kd.S_lt (by (with_reducible repeat (fail)); exact HO554.out))) (Kd.S_lt (by (with_reducible repeat (fail)); exact HO560.out))) (below_size (by repeat ((with_reducible exact HB.out))))); have n4_ := Aside0.mk (Kd.R_lower (Kd.R_new' (Kd.R_new' (Kd.R_new' ho1 (Kd.S_lt (by (with_reducible repeat (fail)); exact HO554.out))) (Kd.R_lt (by (with_reducible repeat (fail)); exact HO557.out))) (Kd.S_lt (by (with_reducible repeat (fail)); exact HO560.out))) (below_size (by repeat ((with_reducible exact HB.out))))); have n5_ := Aside0.mk (Kd.S_lower (Kd.S_new' (Kd.S_new' ho2 (Kd.S_lt (by (with_reducible repeat (fail)); exact HO554.out))) (Kd.S_lt (by (with_reducible repeat (fail)); exact HO560.out))) (below_size (by repeat ((with_reducible exact HB.out))))); have n6_ := Aside0.mk (blk_below (g := gb549) (o := .cells #[.slice A0_0 l0_0.length c0_0, .slice A0_1 l0_1.length c0_1, .slice A0_2 l0_2.length c0_2] 25 (0, 0)) (by (with_reducible repeat (fail)); exact BK549.out) hb); have n7_ := Aside0.mk (blk_below (g := gb562) (o := .cells #[.slice Ao85 t552.length co85, .slice Ao88 t555.length co88, .slice Ao89 t558.length co89] 25 (0, 0)) (by (with_reducible repeat (fail)); exact BK562.out) hb); have n8_ := Aside0.mk (below_step (by repeat ((with_reducible exact HB.out))) hb); clear HO554; clear HO557; clear HO560; clear BK549; clear BK562; clear HB; have HO554 := n0_; have HO557 := n1_; have HO560 := n2_; have HO568 := n3_; have HO571 := n4_; have HO574 := n5_; have BK549 := n6_; have BK562 := n7_; have HB := n8_; clear n0_ n1_ n2_ n3_ n4_ n5_ n6_ n7_ n8_; (try clear hb); (try clear ho0); (try clear ho1); (try clear ho2)) | ((with_reducible refine gate_dst (N := 5) rfl ?_); refine box_event ?hg (N := 5) ?hd (cs := #[.slice none 0 0, .slice none 0 0, .slice none 0 0]) (t := 25) ?hr ?_; (case hd => rfl); (case hg => rfl); (case hr => (go_simp; done)); intro gb576 hg w94 hbox hb; have n0_ := Aside0.mk (Kd.S_below (by (with_reducible repeat (fail)); exact HO554.out) hb); have n1_ := Aside0.mk (Kd.R_below (by (with_reducible repeat (fail)); exact HO557.out) hb); have n2_ := Aside0.mk (Kd.S_below (by (with_reducible repeat (fail)); exact HO560.out) hb); have n3_ := Aside0.mk (Kd.S_below (by (with_reducible repeat (fail)); exact HO568.out) hb); have n4_ := Aside0.mk (Kd.R_below (by (with_reducible repeat (fail)); exact HO571.out) hb); have n5_ := Aside0.mk (Kd.S_below (by (with_reducible repeat (fail)); exact HO574.out) hb); have n6_ := Aside0.mk (blk_below (g := gb549) (o := .cells #[.slice A0_0 l0_0.length c0_0, .slice A0_1 l0_1.length c0_1, .slice A0_2 l0_2.length c0_2] 25 (0, 0)) (by (with_reducible repeat (fail)); exact BK549.out) hb); have n7_ := Aside0.mk (blk_below (g := gb562) (o := .cells #[.slice Ao85 t552.length co85, .slice Ao88 t555.length co88, .slice Ao89 t558.length co89] 25 (0, 0)) (by (with_reducible repeat (fail)); exact BK562.out) hb); have n8_ := Aside0.mk (below_step (by repeat ((with_reducible exact HB.out))) hb); have n9_ := Aside0.mk (hbox); have n10_ := Aside0.mk ((by rw [hg]; exact (below_size (by repeat ((with_reducible exact HB.out)))) : w.heap.size ≤ gb576)); have n11_ := Aside0.mk ((by rw [hg]; exact (below_size (by repeat ((with_reducible exact HB.out)))) : w.heap.size ≤ gb576)); have n12_ := Aside0.mk ((by rw [hg]; exact Nat.ne_of_lt (blk_lt (g := gb549) (o := .cells #[.slice A0_0 l0_0.length c0_0, .slice A0_1 l0_1.length c0_1, .slice A0_2 l0_2.length c0_2] 25 (0, 0)) (by (with_reducible repeat (fail)); exact BK549.out)) : gb549 ≠ gb576)); have n13_ := Aside0.mk ((by rw [hg]; exact Nat.ne_of_gt (blk_lt (g := gb549) (o := .cells #[.slice A0_0 l0_0.length c0_0, .slice A0_1 l0_1.length c0_1, .slice A0_2 l0_2.length c0_2] 25 (0, 0)) (by (with_reducible repeat (fail)); exact BK549.out)) : gb576 ≠ gb549)); have n14_ := Aside0.mk ((by rw [hg]; exact Nat.ne_of_lt (blk_lt (g := gb562) (o := .cells #[.slice Ao85 t552.length co85, .slice Ao88 t555.length co88, .slice Ao89 t558.length co89] 25 (0, 0)) (by (with_reducible repeat (fail)); exact BK562.out)) : gb562 ≠ gb576)); have n15_ := Aside0.mk ((by rw [hg]; exact Nat.ne_of_gt (blk_lt (g := gb562) (o := .cells #[.slice Ao85 t552.length co85, .slice Ao88 t555.length co88, .slice Ao89 t558.length co89] 25 (0, 0)) (by (with_reducible repeat (fail)); exact BK562.out)) : gb576 ≠ gb562)); clear HO554; clear HO557; clear HO560; clear HO568; clear HO571; clear HO574; clear BK549; clear BK562; clear HB; have HO554 := n0_; have HO557 := n1_; have HO560 := n2_; have HO568 := n3_; have HO571 := n4_; have HO574 := n5_; have BK549 := n6_; have BK562 := n7_; have HB := n8_; have BK576 := n9_; have GW576 := n10_; have GE576 := n11_; have NB549_576 := n12_; have NB576_549 := n13_; have NB562_576 := n14_; have NB576_562 := n15_; clear n0_ n1_ n2_ n3_ n4_ n5_ n6_ n7_ n8_ n9_ n10_ n11_ n12_ n13_ n14_ n15_; clear hb hbox hg; obtain ⟨Ao95, co95, eo95⟩ := Kd.S_slice HO568.out; subst eo95; have hnb96 := NB576_549.out; have hnc96 := NB549_576.out; have hnb97 := NB576_562.out; have hnc97 := NB562_576.out; have hcz98_0 : w94.cell? ⟨gb576, 0, none⟩ = some (.slice none 0 0) := (blk_cell BK576.out 0).trans rfl; have hcz98_1 : w94.cell? ⟨gb576, 1, none⟩ = some (.slice none 0 0) := (blk_cell BK576.out 1).trans rfl; have hcz98_2 : w94.cell? ⟨gb576, 2, none⟩ = some (.slice none 0 0) := (blk_cell BK576.out 2).trans rfl; have hfz98_0 := blk_frozen BK576.out 0; have hfz98_1 := blk_frozen BK576.out 1; have hfz98_2 := blk_frozen BK576.out 2; obtain ⟨Ao99, co99, eo99⟩ := Kd.R_slice HO571.out; subst eo99; obtain ⟨Ao100, co100, eo100⟩ := Kd.S_slice HO574.out; subst eo100))
              have n0_ : Aside0 (Kd.S k46 46 (((w94.setCell ⟨gb576, 0, none⟩ (.slice Ao95 t566.length co95)).setCell ⟨gb576, 1, none⟩ (.slice Ao99 t569.length co99)).setCell ⟨gb576, 2, none⟩ (.slice Ao100 t572.length co100)) w.heap.size (fun k_ => some k_ ≠ (.slice Ao89 t558.length co89 : Value).ownBlock ∧ some k_ ≠ (.slice Ao95 t566.length co95 : Value).ownBlock ∧ some k_ ≠ (.slice Ao100 t572.length co100 : Value).ownBlock) (.slice Ao85 t552.length co85) t552) := ⟨by (with_reducible repeat (fail)); exact Kd.S_mono (Kd.S_far (p := ⟨gb576, 2, none⟩) (Kd.S_far (p := ⟨gb576, 1, none⟩) (Kd.S_far (p := ⟨gb576, 0, none⟩) (Kd.S_types HO554.out BK576.out (by decide)) (fun _ hk => hk.2) (.slice Ao95 t566.length co95)) (fun _ hk => hk.2) (.slice Ao99 t569.length co99)) (fun _ hk => hk.2) (.slice Ao100 t572.length co100)) (fun _ hk => ⟨hk.1.1.1, ⟨hk.1.1.2, hk.1.2⟩⟩)⟩
              have n1_ : Aside0 (Kd.R (Kd.slice 46 k46) 22 (((w94.setCell ⟨gb576, 0, none⟩ (.slice Ao95 t566.length co95)).setCell ⟨gb576, 1, none⟩ (.slice Ao99 t569.length co99)).setCell ⟨gb576, 2, none⟩ (.slice Ao100 t572.length co100)) w.heap.size (fun k_ => some k_ ≠ (.slice Ao85 t552.length co85 : Value).ownBlock ∧ some k_ ≠ (.slice Ao89 t558.length co89 : Value).ownBlock ∧ some k_ ≠ (.slice Ao95 t566.length co95 : Value).ownBlock ∧ some k_ ≠ (.slice Ao99 t569.length co99 : Value).ownBlock ∧ some k_ ≠ (.slice Ao100 t572.length co100 : Value).ownBlock) (.slice Ao88 t555.length co88) t555) := ⟨by (with_reducible repeat (fail)); exact Kd.R_mono (Kd.R_far (p := ⟨gb576, 2, none⟩) (Kd.R_far (p := ⟨gb576, 1, none⟩) (Kd.R_far (p := ⟨gb576, 0, none⟩) (Kd.R_types HO557.out BK576.out (by decide)) (fun _ hk => hk.2) (.slice Ao95 t566.length co95)) (fun _ hk => hk.2) (.slice Ao99 t569.length co99)) (fun _ hk => hk.2) (.slice Ao100 t572.length co100)) (fun _ hk => ⟨hk.1.1.1.1.1, ⟨hk.1.1.1.1.2, ⟨hk.1.1.1.2, ⟨hk.1.1.2, hk.1.2⟩⟩⟩⟩)⟩
              have n2_ : Aside0 (Kd.S k46 46 (((w94.setCell ⟨gb576, 0, none⟩ (.slice Ao95 t566.length co95)).setCell ⟨gb576, 1, none⟩ (.slice Ao99 t569.length co99)).setCell ⟨gb576, 2, none⟩ (.slice Ao100 t572.length co100)) w.heap.size (fun k_ => some k_ ≠ (.slice Ao85 t552.length co85 : Value).ownBlock ∧ some k_ ≠ (.slice Ao95 t566.length co95 : Value).ownBlock ∧ some k_ ≠ (.slice Ao100 t572.length co100 : Value).ownBlock) (.slice Ao89 t558.length co89) t558) := ⟨by (with_reducible repeat (fail)); exact Kd.S_mono (Kd.S_far (p := ⟨gb576, 2, none⟩) (Kd.S_far (p := ⟨gb576, 1, none⟩) (Kd.S_far (p := ⟨gb576, 0, none⟩) (Kd.S_types HO560.out BK576.out (by decide)) (fun _ hk => hk.2) (.slice Ao95 t566.length co95)) (fun _ hk => hk.2) (.slice Ao99 t569.length co99)) (fun _ hk => hk.2) (.slice Ao100 t572.length co100)) (fun _ hk => ⟨hk.1.1.1, ⟨hk.1.1.2, hk.1.2⟩⟩)⟩
              have n3_ : Aside0 (Kd.S k46 46 (((w94.setCell ⟨gb576, 0, none⟩ (.slice Ao95 t566.length co95)).setCell ⟨gb576, 1, none⟩ (.slice Ao99 t569.length co99)).setCell ⟨gb576, 2, none⟩ (.slice Ao100 t572.length co100)) w.heap.size (fun k_ => some k_ ≠ (.slice Ao85 t552.length co85 : Value).ownBlock ∧ some k_ ≠ (.slice Ao89 t558.length co89 : Value).ownBlock ∧ some k_ ≠ (.slice Ao100 t572.length co100 : Value).ownBlock) (.slice Ao95 t566.length co95) t566) := ⟨by (with_reducible repeat (fail)); exact Kd.S_mono (Kd.S_far (p := ⟨gb576, 2, none⟩) (Kd.S_far (p := ⟨gb576, 1, none⟩) (Kd.S_far (p := ⟨gb576, 0, none⟩) (Kd.S_types HO568.out BK576.out (by decide)) (fun _ hk => hk.2) (.slice Ao95 t566.length co95)) (fun _ hk => hk.2) (.slice Ao99 t569.length co99)) (fun _ hk => hk.2) (.slice Ao100 t572.length co100)) (fun _ hk => ⟨hk.1.1.2, ⟨hk.1.2, hk.1.1.1⟩⟩)⟩
              have n4_ : Aside0 (Kd.R (Kd.slice 46 k46) 22 (((w94.setCell ⟨gb576, 0, none⟩ (.slice Ao95 t566.length co95)).setCell ⟨gb576, 1, none⟩ (.slice Ao99 t569.length co99)).setCell ⟨gb576, 2, none⟩ (.slice Ao100 t572.length co100)) w.heap.size (fun k_ => some k_ ≠ (.slice Ao85 t552.length co85 : Value).ownBlock ∧ some k_ ≠ (.slice Ao88 t555.length co88 : Value).ownBlock ∧ some k_ ≠ (.slice Ao89 t558.length co89 : Value).ownBlock ∧ some k_ ≠ (.slice Ao95 t566.length co95 : Value).ownBlock ∧ some k_ ≠ (.slice Ao100 t572.length co100 : Value).ownBlock) (.slice Ao99 t569.length co99) t569) := ⟨by (with_reducible repeat (fail)); exact Kd.R_mono (Kd.R_far (p := ⟨gb576, 2, none⟩) (Kd.R_far (p := ⟨gb576, 1, none⟩) (Kd.R_far (p := ⟨gb576, 0, none⟩) (Kd.R_types HO571.out BK576.out (by decide)) (fun _ hk => hk.2) (.slice Ao95 t566.length co95)) (fun _ hk => hk.2) (.slice Ao99 t569.length co99)) (fun _ hk => hk.2) (.slice Ao100 t572.length co100)) (fun _ hk => ⟨hk.1.1.1.2, ⟨hk.1.1.2, ⟨hk.1.2, ⟨hk.1.1.1.1.1, hk.1.1.1.1.2⟩⟩⟩⟩)⟩
              have n5_ : Aside0 (Kd.S k46 46 (((w94.setCell ⟨gb576, 0, none⟩ (.slice Ao95 t566.length co95)).setCell ⟨gb576, 1, none⟩ (.slice Ao99 t569.length co99)).setCell ⟨gb576, 2, none⟩ (.slice Ao100 t572.length co100)) w.heap.size (fun k_ => some k_ ≠ (.slice Ao85 t552.length co85 : Value).ownBlock ∧ some k_ ≠ (.slice Ao89 t558.length co89 : Value).ownBlock ∧ some k_ ≠ (.slice Ao95 t566.length co95 : Value).ownBlock) (.slice Ao100 t572.length co100) t572) := ⟨by (with_reducible repeat (fail)); exact Kd.S_mono (Kd.S_far (p := ⟨gb576, 2, none⟩) (Kd.S_far (p := ⟨gb576, 1, none⟩) (Kd.S_far (p := ⟨gb576, 0, none⟩) (Kd.S_types HO574.out BK576.out (by decide)) (fun _ hk => hk.2) (.slice Ao95 t566.length co95)) (fun _ hk => hk.2) (.slice Ao99 t569.length co99)) (fun _ hk => hk.2) (.slice Ao100 t572.length co100)) (fun _ hk => ⟨hk.1.1.2, ⟨hk.1.2, hk.1.1.1⟩⟩)⟩
              have n6_ : Aside0 ((((w94.setCell ⟨gb576, 0, none⟩ (.slice Ao95 t566.length co95)).setCell ⟨gb576, 1, none⟩ (.slice Ao99 t569.length co99)).setCell ⟨gb576, 2, none⟩ (.slice Ao100 t572.length co100)).heap[gb549]? = some (.cells #[.slice A0_0 l0_0.length c0_0, .slice A0_1 l0_1.length c0_1, .slice A0_2 l0_2.length c0_2] 25 (0, 0))) := ⟨by (with_reducible repeat (fail)); refine blk_far ?_ NB549_576.out _; (with_reducible repeat (fail)); refine blk_far ?_ NB549_576.out _; (with_reducible repeat (fail)); refine blk_far ?_ NB549_576.out _; (with_reducible repeat (fail)); exact BK549.out⟩
              have n7_ : Aside0 ((((w94.setCell ⟨gb576, 0, none⟩ (.slice Ao95 t566.length co95)).setCell ⟨gb576, 1, none⟩ (.slice Ao99 t569.length co99)).setCell ⟨gb576, 2, none⟩ (.slice Ao100 t572.length co100)).heap[gb562]? = some (.cells #[.slice Ao85 t552.length co85, .slice Ao88 t555.length co88, .slice Ao89 t558.length co89] 25 (0, 0))) := ⟨by (with_reducible repeat (fail)); refine blk_far ?_ NB562_576.out _; (with_reducible repeat (fail)); refine blk_far ?_ NB562_576.out _; (with_reducible repeat (fail)); refine blk_far ?_ NB562_576.out _; (with_reducible repeat (fail)); exact BK562.out⟩
              have n8_ : Aside0 ((((w94.setCell ⟨gb576, 0, none⟩ (.slice Ao95 t566.length co95)).setCell ⟨gb576, 1, none⟩ (.slice Ao99 t569.length co99)).setCell ⟨gb576, 2, none⟩ (.slice Ao100 t572.length co100)).heap[gb576]? = some (.cells #[.slice Ao95 t566.length co95, .slice Ao99 t569.length co99, .slice Ao100 t572.length co100] 25 (0, 0))) := ⟨by (with_reducible repeat (fail)); refine blk_put (cs := #[.slice Ao95 t566.length co95, .slice Ao99 t569.length co99, .slice none 0 0]) ?_ 2 _ rfl; (with_reducible repeat (fail)); refine blk_put (cs := #[.slice Ao95 t566.length co95, .slice none 0 0, .slice none 0 0]) ?_ 1 _ rfl; (with_reducible repeat (fail)); refine blk_put (cs := #[.slice none 0 0, .slice none 0 0, .slice none 0 0]) ?_ 0 _ rfl; (with_reducible repeat (fail)); exact BK576.out⟩
              have n9_ : Aside0 (Below w.heap.size w (((w94.setCell ⟨gb576, 0, none⟩ (.slice Ao95 t566.length co95)).setCell ⟨gb576, 1, none⟩ (.slice Ao99 t569.length co99)).setCell ⟨gb576, 2, none⟩ (.slice Ao100 t572.length co100))) := ⟨by repeat ((with_reducible first | exact HB.out | refine below_set ?_ GE576.out))⟩
              (try clear HO554)
              (try clear HO557)
              (try clear HO560)
              (try clear HO568)
              (try clear HO571)
              (try clear HO574)
              (try clear BK549)
              (try clear BK562)
              (try clear BK576)
              (try clear HB)
              generalize (((w94.setCell ⟨gb576, 0, none⟩ (.slice Ao95 t566.length co95)).setCell ⟨gb576, 1, none⟩ (.slice Ao99 t569.length co99)).setCell ⟨gb576, 2, none⟩ (.slice Ao100 t572.length co100)) = w101 at n0_ n1_ n2_ n3_ n4_ n5_ n6_ n7_ n8_ n9_ ⊢
              have HO554 := n0_
              have HO557 := n1_
              have HO560 := n2_
              have HO568 := n3_
              have HO571 := n4_
              have HO574 := n5_
              have BK549 := n6_
              have BK562 := n7_
              have BK576 := n8_
              have HB := n9_
              clear n0_ n1_ n2_ n3_ n4_ n5_ n6_ n7_ n8_ n9_
              have n0_ := Aside0.mk (Kd.S_drew HO554.out)
              have n1_ := Aside0.mk (Kd.R_drew HO557.out)
              have n2_ := Aside0.mk (Kd.S_drew HO560.out)
              have n3_ := Aside0.mk (Kd.S_drew HO568.out)
              have n4_ := Aside0.mk (Kd.R_drew HO571.out)
              have n5_ := Aside0.mk (Kd.S_drew HO574.out)
              have n6_ := Aside0.mk (blk_drew BK549.out)
              have n7_ := Aside0.mk (blk_drew BK562.out)
              have n8_ := Aside0.mk (blk_drew BK576.out)
              have n9_ := Aside0.mk (below_drew1 HB.out)
              clear HO554
              clear HO557
              clear HO560
              clear HO568
              clear HO571
              clear HO574
              clear BK549
              clear BK562
              clear BK576
              clear HB
              have HO554 := n0_
              have HO557 := n1_
              have HO560 := n2_
              have HO568 := n3_
              have HO571 := n4_
              have HO574 := n5_
              have BK549 := n6_
              have BK562 := n7_
              have BK576 := n8_
              have HB := n9_
              clear n0_ n1_ n2_ n3_ n4_ n5_ n6_ n7_ n8_ n9_
              refine start_ (n := 19) (S := fun w' => True) (ds := []) #[false, false, false, false, false, false, false, false, false, false, false, false, false, false, false, false, false, false, false] (by kernel_rfl) rfl rfl trivial (fun hHeld => ?_); refine with_tabW codewrightlaw35_SimplexDuals.tab7 codewrightlaw35_SimplexDuals.bits7 (fun HT_ HW_ => ?_)
              generalize w101.drew = w102 at HO554 HO557 HO560 HO568 HO571 HO574 BK549 BK562 BK576 HB hHeld ⊢
              refine pure_ (i := 0) (N := some 37) (v := ?_) (a' := ?_) #[true, false, false, false, false, false, false, false, false, false, false, false, false, false, false, false, false, false, false] rfl rfl (any_of HT_.out (by kernel_rfl)) (fun _ _ _ h => h) (Or.inl ⟨by rfl, ?_⟩) ?_ ?_
              rotate_left
              · intro w'
                go_simp
                with_reducible rfl
              rotate_left
              · simp only [Act.put, List.setIfInBounds_toArray, List.set_cons_zero, List.set_cons_succ, i64_w, i32_w]
                rfl
              refine pure_ (i := 1) (N := some 38) (v := ?_) (a' := ?_) #[true, true, false, false, false, false, false, false, false, false, false, false, false, false, false, false, false, false, false] rfl rfl (any_of HT_.out (by kernel_rfl)) (fun _ _ _ h => h) (Or.inl ⟨by rfl, ?_⟩) ?_ ?_
              rotate_left
              · intro w'
                go_simp
                with_reducible rfl
              rotate_left
              · simp only [Act.put, List.setIfInBounds_toArray, List.set_cons_zero, List.set_cons_succ, i64_w, i32_w]
                rfl
              refine pure_ (i := 2) (N := some 39) (v := ?_) (a' := ?_) #[true, true, true, false, false, false, false, false, false, false, false, false, false, false, false, false, false, false, false] rfl rfl (any_of HT_.out (by kernel_rfl)) (fun _ _ _ h => h) (Or.inl ⟨by rfl, ?_⟩) ?_ ?_
              rotate_left
              · intro w'
                go_simp
                with_reducible rfl
              rotate_left
              · simp only [Act.put, List.setIfInBounds_toArray, List.set_cons_zero, List.set_cons_succ, i64_w, i32_w]
                rfl
              refine pure_ (i := 3) (N := some 40) (v := ?_) (a' := ?_) #[true, true, true, true, false, false, false, false, false, false, false, false, false, false, false, false, false, false, false] rfl rfl (any_of HT_.out (by kernel_rfl)) (fun _ _ _ h => h) (Or.inl ⟨by rfl, ?_⟩) ?_ ?_
              rotate_left
              · intro w'
                go_simp
                with_reducible rfl
              rotate_left
              · simp only [Act.put, List.setIfInBounds_toArray, List.set_cons_zero, List.set_cons_succ, i64_w, i32_w]
                rfl
              refine pure_ (i := 4) (N := some 41) (v := ?_) (a' := ?_) #[true, true, true, true, true, false, false, false, false, false, false, false, false, false, false, false, false, false, false] rfl rfl (any_of HT_.out (by kernel_rfl)) (fun _ _ _ h => h) (Or.inl ⟨by rfl, ?_⟩) ?_ ?_
              rotate_left
              · intro w'
                go_simp
                with_reducible rfl
              rotate_left
              · simp only [Act.put, List.setIfInBounds_toArray, List.set_cons_zero, List.set_cons_succ, i64_w, i32_w]
                rfl
              refine pure_ (i := 5) (N := some 42) (v := ?_) (a' := ?_) #[true, true, true, true, true, true, false, false, false, false, false, false, false, false, false, false, false, false, false] rfl rfl (any_of HT_.out (by kernel_rfl)) (fun _ _ _ h => h) (Or.inl ⟨by rfl, ?_⟩) ?_ ?_
              rotate_left
              · intro w'
                go_simp
                with_reducible rfl
              rotate_left
              · simp only [Act.put, List.setIfInBounds_toArray, List.set_cons_zero, List.set_cons_succ, i64_w, i32_w]
                rfl
              refine pure_ (i := 6) (N := some 43) (v := ?_) (a' := ?_) #[true, true, true, true, true, true, true, false, false, false, false, false, false, false, false, false, false, false, false] rfl rfl (any_of HT_.out (by kernel_rfl)) (fun _ _ _ h => h) (Or.inl ⟨by rfl, ?_⟩) ?_ ?_
              rotate_left
              · intro w'
                go_simp
                with_reducible rfl
              rotate_left
              · simp only [Act.put, List.setIfInBounds_toArray, List.set_cons_zero, List.set_cons_succ, i64_w, i32_w]
                rfl
              refine pure_ (i := 7) (N := some 44) (v := undef) (a' := ?_) #[true, true, true, true, true, true, true, true, false, false, false, false, false, false, false, false, false, false, false] rfl rfl (any_of HT_.out (by kernel_rfl)) (fun _ _ _ h => h) (Or.inr ⟨by rfl, rfl⟩) ?_ ?_
              rotate_left
              · simp only [Act.put, List.setIfInBounds_toArray, List.set_cons_zero, List.set_cons_succ, i64_w, i32_w]
                rfl
              refine pure_ (i := 8) (N := some 45) (v := undef) (a' := ?_) #[true, true, true, true, true, true, true, true, true, false, false, false, false, false, false, false, false, false, false] rfl rfl (any_of HT_.out (by kernel_rfl)) (fun _ _ _ h => h) (Or.inr ⟨by rfl, rfl⟩) ?_ ?_
              rotate_left
              · simp only [Act.put, List.setIfInBounds_toArray, List.set_cons_zero, List.set_cons_succ, i64_w, i32_w]
                rfl
              refine pure_ (i := 9) (N := some 46) (v := undef) (a' := ?_) #[true, true, true, true, true, true, true, true, true, true, false, false, false, false, false, false, false, false, false] rfl rfl (any_of HT_.out (by kernel_rfl)) (fun _ _ _ h => h) (Or.inr ⟨by rfl, rfl⟩) ?_ ?_
              rotate_left
              · simp only [Act.put, List.setIfInBounds_toArray, List.set_cons_zero, List.set_cons_succ, i64_w, i32_w]
                rfl
              refine pure_ (i := 10) (N := some 47) (v := undef) (a' := ?_) #[true, true, true, true, true, true, true, true, true, true, true, false, false, false, false, false, false, false, false] rfl rfl (any_of HT_.out (by kernel_rfl)) (fun _ _ _ h => h) (Or.inr ⟨by rfl, rfl⟩) ?_ ?_
              rotate_left
              · simp only [Act.put, List.setIfInBounds_toArray, List.set_cons_zero, List.set_cons_succ, i64_w, i32_w]
                rfl
              refine pure_ (i := 11) (N := some 48) (v := ?_) (a' := ?_) #[true, true, true, true, true, true, true, true, true, true, true, true, false, false, false, false, false, false, false] rfl rfl (any_of HT_.out (by kernel_rfl)) (fun _ _ _ h => h) (Or.inl ⟨by rfl, ?_⟩) ?_ ?_
              rotate_left
              · intro w'
                go_simp
                with_reducible rfl
              rotate_left
              · simp only [Act.put, List.setIfInBounds_toArray, List.set_cons_zero, List.set_cons_succ, i64_w, i32_w]
                rfl
              refine pure_ (i := 12) (N := some 49) (v := ?_) (a' := ?_) #[true, true, true, true, true, true, true, true, true, true, true, true, true, false, false, false, false, false, false] rfl rfl (any_of HT_.out (by kernel_rfl)) (fun _ _ _ h => h) (Or.inl ⟨by rfl, ?_⟩) ?_ ?_
              rotate_left
              · intro w'
                go_simp
                with_reducible rfl
              rotate_left
              · simp only [Act.put, List.setIfInBounds_toArray, List.set_cons_zero, List.set_cons_succ, i64_w, i32_w]
                rfl
              refine pure_ (i := 13) (N := some 50) (v := undef) (a' := ?_) #[true, true, true, true, true, true, true, true, true, true, true, true, true, true, false, false, false, false, false] rfl rfl (any_of HT_.out (by kernel_rfl)) (fun _ _ _ h => h) (Or.inr ⟨by rfl, rfl⟩) ?_ ?_
              rotate_left
              · simp only [Act.put, List.setIfInBounds_toArray, List.set_cons_zero, List.set_cons_succ, i64_w, i32_w]
                rfl
              refine pure_ (i := 14) (N := some 51) (v := undef) (a' := ?_) #[true, true, true, true, true, true, true, true, true, true, true, true, true, true, true, false, false, false, false] rfl rfl (any_of HT_.out (by kernel_rfl)) (fun _ _ _ h => h) (Or.inr ⟨by rfl, rfl⟩) ?_ ?_
              rotate_left
              · simp only [Act.put, List.setIfInBounds_toArray, List.set_cons_zero, List.set_cons_succ, i64_w, i32_w]
                rfl
              refine pure_ (i := 15) (N := some 52) (v := undef) (a' := ?_) #[true, true, true, true, true, true, true, true, true, true, true, true, true, true, true, true, false, false, false] rfl rfl (any_of HT_.out (by kernel_rfl)) (fun _ _ _ h => h) (Or.inr ⟨by rfl, rfl⟩) ?_ ?_
              rotate_left
              · simp only [Act.put, List.setIfInBounds_toArray, List.set_cons_zero, List.set_cons_succ, i64_w, i32_w]
                rfl
              refine pure_ (i := 16) (N := some 53) (v := undef) (a' := ?_) #[true, true, true, true, true, true, true, true, true, true, true, true, true, true, true, true, true, false, false] rfl rfl (any_of HT_.out (by kernel_rfl)) (fun _ _ _ h => h) (Or.inr ⟨by rfl, rfl⟩) ?_ ?_
              rotate_left
              · simp only [Act.put, List.setIfInBounds_toArray, List.set_cons_zero, List.set_cons_succ, i64_w, i32_w]
                rfl
              refine pure_ (i := 17) (N := some 54) (v := ?_) (a' := ?_) #[true, true, true, true, true, true, true, true, true, true, true, true, true, true, true, true, true, true, false] rfl rfl (any_of HT_.out (by kernel_rfl)) (fun _ _ _ h => h) (Or.inl ⟨by rfl, ?_⟩) ?_ ?_
              rotate_left
              · intro w'
                go_simp
                with_reducible rfl
              rotate_left
              · simp only [Act.put, List.setIfInBounds_toArray, List.set_cons_zero, List.set_cons_succ, i64_w, i32_w]
                rfl
              refine pure_ (i := 18) (N := some 2) (v := ?_) (a' := ?_) #[true, true, true, true, true, true, true, true, true, true, true, true, true, true, true, true, true, true, true] rfl rfl (any_of HT_.out (by kernel_rfl)) (fun _ _ _ h => h) (Or.inl ⟨by rfl, ?_⟩) ?_ ?_
              rotate_left
              · intro w'
                go_simp
                with_reducible rfl
              rotate_left
              · simp only [Act.put, List.setIfInBounds_toArray, List.set_cons_zero, List.set_cons_succ, i64_w, i32_w]
                rfl
              refine done_ (done_of HT_.out (by kernel_rfl)) ?_
              try go_wp2
              go_ret
              exact ⟨by rfl, by repeat ((with_reducible exact HB.out))⟩
          · rw [if_neg c18] at H
            have c18b0 : (t561 == 0) = false := beq_eq_false_iff_ne.mpr c18
            have c18b1 : (t561 != 0) = true := bne_iff_ne.mpr c18
            obtain rfl := Option.some.inj H
            have hcz103_0 : wc.cell? ⟨gb549, 0, none⟩ = some (.slice A0_0 l0_0.length c0_0) := (blk_cell BK549.out 0).trans rfl
            have hcz103_1 : wc.cell? ⟨gb549, 1, none⟩ = some (.slice A0_1 l0_1.length c0_1) := (blk_cell BK549.out 1).trans rfl
            have hcz103_2 : wc.cell? ⟨gb549, 2, none⟩ = some (.slice A0_2 l0_2.length c0_2) := (blk_cell BK549.out 2).trans rfl
            have hfz103_0 := blk_frozen BK549.out 0
            have hfz103_1 := blk_frozen BK549.out 1
            have hfz103_2 := blk_frozen BK549.out 2
            try go_wp2_with (first | ((with_reducible refine gate_callee (f := 21) rfl ?_); refine goesL_ (some 17) rfl rfl Try.func21 (by kernel_rfl) rfl #[.agg #[.slice A0_0 l0_0.length c0_0, .slice A0_1 l0_1.length c0_1, .slice A0_2 l0_2.length c0_2]] rfl (by (try simp only [List.map_toArray, List.map_cons, List.map_nil]); rfl) ?_; (with_reducible refine (simplex_Dual.calls kj1 _ _ l0_0 _ _ l0_1 _ _ l0_2 t552 t555 t558 t561 _ ?side1 ?side2 ?side3 ?side4 ?side5 ?side6 A14.out).mono ?_); (case side1 => repeat (exact (Kd.C_below HR0_0.out HB.out))); (case side2 => exact HC0_0.out); (case side3 => repeat (exact (Kd.C_below HR0_1.out HB.out))); (case side4 => exact HC0_1.out); (case side5 => repeat (exact (Kd.C_below HR0_2.out HB.out))); (case side6 => exact HC0_2.out); rintro e w104 ⟨v553, v556, v559, rfl, ho0, ho1, ho2, hb⟩; refine ⟨_, rfl, ?_⟩; have n0_ := Aside0.mk (Kd.S_lower ho0 (below_size (by repeat ((with_reducible exact HB.out))))); have n1_ := Aside0.mk (Kd.R_lower ho1 (below_size (by repeat ((with_reducible exact HB.out))))); have n2_ := Aside0.mk (Kd.S_lower ho2 (below_size (by repeat ((with_reducible exact HB.out))))); have n3_ := Aside0.mk (blk_below (g := gb549) (o := .cells #[.slice A0_0 l0_0.length c0_0, .slice A0_1 l0_1.length c0_1, .slice A0_2 l0_2.length c0_2] 25 (0, 0)) (by (with_reducible repeat (fail)); exact BK549.out) hb); have n4_ := Aside0.mk (below_step (by repeat ((with_reducible exact HB.out))) hb); clear BK549; clear HB; have HO554 := n0_; have HO557 := n1_; have HO560 := n2_; have BK549 := n3_; have HB := n4_; clear n0_ n1_ n2_ n3_ n4_; (try clear hb); (try clear ho0); (try clear ho1); (try clear ho2)) | ((with_reducible refine gate_dst (N := 3) rfl ?_); refine box_event ?hg (N := 3) ?hd (cs := #[.slice none 0 0, .slice none 0 0, .slice none 0 0]) (t := 25) ?hr ?_; (case hd => rfl); (case hg => rfl); (case hr => (go_simp; done)); intro gb562 hg w105 hbox hb; have n0_ := Aside0.mk (Kd.S_below (by (with_reducible repeat (fail)); exact HO554.out) hb); have n1_ := Aside0.mk (Kd.R_below (by (with_reducible repeat (fail)); exact HO557.out) hb); have n2_ := Aside0.mk (Kd.S_below (by (with_reducible repeat (fail)); exact HO560.out) hb); have n3_ := Aside0.mk (blk_below (g := gb549) (o := .cells #[.slice A0_0 l0_0.length c0_0, .slice A0_1 l0_1.length c0_1, .slice A0_2 l0_2.length c0_2] 25 (0, 0)) (by (with_reducible repeat (fail)); exact BK549.out) hb); have n4_ := Aside0.mk (below_step (by repeat ((with_reducible exact HB.out))) hb); have n5_ := Aside0.mk (hbox); have n6_ := Aside0.mk ((by rw [hg]; exact (below_size (by repeat ((with_reducible exact HB.out)))) : w.heap.size ≤ gb562)); have n7_ := Aside0.mk ((by rw [hg]; exact (below_size (by repeat ((with_reducible exact HB.out)))) : w.heap.size ≤ gb562)); have n8_ := Aside0.mk ((by rw [hg]; exact Nat.ne_of_lt (blk_lt (g := gb549) (o := .cells #[.slice A0_0 l0_0.length c0_0, .slice A0_1 l0_1.length c0_1, .slice A0_2 l0_2.length c0_2] 25 (0, 0)) (by (with_reducible repeat (fail)); exact BK549.out)) : gb549 ≠ gb562)); have n9_ := Aside0.mk ((by rw [hg]; exact Nat.ne_of_gt (blk_lt (g := gb549) (o := .cells #[.slice A0_0 l0_0.length c0_0, .slice A0_1 l0_1.length c0_1, .slice A0_2 l0_2.length c0_2] 25 (0, 0)) (by (with_reducible repeat (fail)); exact BK549.out)) : gb562 ≠ gb549)); clear HO554; clear HO557; clear HO560; clear BK549; clear HB; have HO554 := n0_; have HO557 := n1_; have HO560 := n2_; have BK549 := n3_; have HB := n4_; have BK562 := n5_; have GW562 := n6_; have GE562 := n7_; have NB549_562 := n8_; have NB562_549 := n9_; clear n0_ n1_ n2_ n3_ n4_ n5_ n6_ n7_ n8_ n9_; clear hb hbox hg; obtain ⟨Ao106, co106, eo106⟩ := Kd.S_slice HO554.out; subst eo106; have hnb107 := NB562_549.out; have hnc107 := NB549_562.out; have hcz108_0 : w105.cell? ⟨gb562, 0, none⟩ = some (.slice none 0 0) := (blk_cell BK562.out 0).trans rfl; have hcz108_1 : w105.cell? ⟨gb562, 1, none⟩ = some (.slice none 0 0) := (blk_cell BK562.out 1).trans rfl; have hcz108_2 : w105.cell? ⟨gb562, 2, none⟩ = some (.slice none 0 0) := (blk_cell BK562.out 2).trans rfl; have hfz108_0 := blk_frozen BK562.out 0; have hfz108_1 := blk_frozen BK562.out 1; have hfz108_2 := blk_frozen BK562.out 2; obtain ⟨Ao109, co109, eo109⟩ := Kd.R_slice HO557.out; subst eo109; obtain ⟨Ao110, co110, eo110⟩ := Kd.S_slice HO560.out; subst eo110; have hcz111_0 : w105.cell? ⟨gb549, 0, none⟩ = some (.slice A0_0 l0_0.length c0_0) := (blk_cell BK549.out 0).trans rfl; have hcz111_1 : w105.cell? ⟨gb549, 1, none⟩ = some (.slice A0_1 l0_1.length c0_1) := (blk_cell BK549.out 1).trans rfl; have hcz111_2 : w105.cell? ⟨gb549, 2, none⟩ = some (.slice A0_2 l0_2.length c0_2) := (blk_cell BK549.out 2).trans rfl; have hfz111_0 := blk_frozen BK549.out 0; have hfz111_1 := blk_frozen BK549.out 1; have hfz111_2 := blk_frozen BK549.out 2) | ((with_reducible refine gate_callee (f := 19) rfl ?_); refine goesL_ (some 21) rfl rfl Try.func19 (by kernel_rfl) rfl #[.agg #[.slice A0_0 l0_0.length c0_0, .slice A0_1 l0_1.length c0_1, .slice A0_2 l0_2.length c0_2]] rfl (by (try simp only [List.map_toArray, List.map_cons, List.map_nil]); rfl) ?_; (with_reducible refine (codewrightref35_Check.calls kj1 _ _ l0_0 _ _ l0_1 _ _ l0_2 t563 _ ?side1 ?side2 ?side3 ?side4 ?side5 ?side6 A15.out).mono ?_); (case side1 => exact Kd.C_below HR0_0.out (by repeat ((with_reducible first | exact HB.out | refine below_set ?_ GE562.out)))); (case side2 => exact HC0_0.out); (case side3 => exact Kd.C_below HR0_1.out (by repeat ((with_reducible first | exact HB.out | refine below_set ?_ GE562.out)))); (case side4 => exact HC0_1.out); (case side5 => exact Kd.C_below HR0_2.out (by repeat ((with_reducible first | exact HB.out | refine below_set ?_ GE562.out)))); (case side6 => exact HC0_2.out); rintro e w112 ⟨rfl, hb⟩; refine ⟨_, rfl, ?_⟩; have n0_ := Aside0.mk (Kd.S_below (by (with_reducible repeat (fail)); exact (Kd.S_mono (Kd.S_far (p := ⟨gb562, 2, none⟩) (Kd.S_far (p := ⟨gb562, 1, none⟩) (Kd.S_far (p := ⟨gb562, 0, none⟩) (Kd.S_types HO554.out BK562.out (by decide)) (fun _ hk => hk.2) (.slice Ao106 t552.length co106)) (fun _ hk => hk.2) (.slice Ao109 t555.length co109)) (fun _ hk => hk.2) (.slice Ao110 t558.length co110)) (fun _ h_ => h_.1))) hb); have n1_ := Aside0.mk (Kd.R_below (by (with_reducible repeat (fail)); exact (Kd.R_mono (Kd.R_far (p := ⟨gb562, 2, none⟩) (Kd.R_far (p := ⟨gb562, 1, none⟩) (Kd.R_far (p := ⟨gb562, 0, none⟩) (Kd.R_types HO557.out BK562.out (by decide)) (fun _ hk => hk.2) (.slice Ao106 t552.length co106)) (fun _ hk => hk.2) (.slice Ao109 t555.length co109)) (fun _ hk => hk.2) (.slice Ao110 t558.length co110)) (fun _ h_ => h_.1))) hb); have n2_ := Aside0.mk (Kd.S_below (by (with_reducible repeat (fail)); exact (Kd.S_mono (Kd.S_far (p := ⟨gb562, 2, none⟩) (Kd.S_far (p := ⟨gb562, 1, none⟩) (Kd.S_far (p := ⟨gb562, 0, none⟩) (Kd.S_types HO560.out BK562.out (by decide)) (fun _ hk => hk.2) (.slice Ao106 t552.length co106)) (fun _ hk => hk.2) (.slice Ao109 t555.length co109)) (fun _ hk => hk.2) (.slice Ao110 t558.length co110)) (fun _ h_ => h_.1))) hb); have n3_ := Aside0.mk (blk_below (g := gb549) (o := .cells #[.slice A0_0 l0_0.length c0_0, .slice A0_1 l0_1.length c0_1, .slice A0_2 l0_2.length c0_2] 25 (0, 0)) (by (with_reducible repeat (fail)); refine blk_far ?_ NB549_562.out _; (with_reducible repeat (fail)); refine blk_far ?_ NB549_562.out _; (with_reducible repeat (fail)); refine blk_far ?_ NB549_562.out _; (with_reducible repeat (fail)); exact BK549.out) hb); have n4_ := Aside0.mk (blk_below (g := gb562) (o := .cells #[.slice Ao106 t552.length co106, .slice Ao109 t555.length co109, .slice Ao110 t558.length co110] 25 (0, 0)) (by (with_reducible repeat (fail)); refine blk_put (cs := #[.slice Ao106 t552.length co106, .slice Ao109 t555.length co109, .slice none 0 0]) ?_ 2 _ rfl; (with_reducible repeat (fail)); refine blk_put (cs := #[.slice Ao106 t552.length co106, .slice none 0 0, .slice none 0 0]) ?_ 1 _ rfl; (with_reducible repeat (fail)); refine blk_put (cs := #[.slice none 0 0, .slice none 0 0, .slice none 0 0]) ?_ 0 _ rfl; (with_reducible repeat (fail)); exact BK562.out) hb); have n5_ := Aside0.mk (below_step (by repeat ((with_reducible first | exact HB.out | refine below_set ?_ GE562.out))) hb); clear HO554; clear HO557; clear HO560; clear BK549; clear BK562; clear HB; have HO554 := n0_; have HO557 := n1_; have HO560 := n2_; have BK549 := n3_; have BK562 := n4_; have HB := n5_; clear n0_ n1_ n2_ n3_ n4_ n5_; (try clear hb); have hcz113_0 : w112.cell? ⟨gb562, 0, none⟩ = some (.slice Ao106 t552.length co106) := (blk_cell BK562.out 0).trans rfl; have hcz113_1 : w112.cell? ⟨gb562, 1, none⟩ = some (.slice Ao109 t555.length co109) := (blk_cell BK562.out 1).trans rfl; have hcz113_2 : w112.cell? ⟨gb562, 2, none⟩ = some (.slice Ao110 t558.length co110) := (blk_cell BK562.out 2).trans rfl; have hfz113_0 := blk_frozen BK562.out 0; have hfz113_1 := blk_frozen BK562.out 1; have hfz113_2 := blk_frozen BK562.out 2) | ((with_reducible refine gate_callee (f := 21) rfl ?_); refine goesL_ (some 34) rfl rfl Try.func21 (by kernel_rfl) rfl #[.agg #[.slice Ao106 t552.length co106, .slice Ao109 t555.length co109, .slice Ao110 t558.length co110]] rfl (by (try simp only [List.map_toArray, List.map_cons, List.map_nil]); rfl) ?_; (with_reducible refine (simplex_Dual.calls kj1 _ _ t552 _ _ t555 _ _ t558 t566 t569 t572 t575 _ ?side1 ?side2 ?side3 ?side4 ?side5 ?side6 A17.out).mono ?_); (case side1 => exact (Kd.S_reads' HO554.out).2.2); (case side2 => exact (Kd.S_reads' HO554.out).2.1); (case side3 => exact (Kd.R_reads' HO557.out).2.2); (case side4 => exact (Kd.R_reads' HO557.out).2.1); (case side5 => exact (Kd.S_reads' HO560.out).2.2); (case side6 => exact (Kd.S_reads' HO560.out).2.1); rintro e w114 ⟨v567, v570, v573, rfl, ho0, ho1, ho2, hb⟩; refine ⟨_, rfl, ?_⟩; have n0_ := Aside0.mk (Kd.S_mono (Kd.S_told (Kd.S_told (Kd.S_old (by (with_reducible repeat (fail)); exact HO554.out) hb) (Kd.S_base ho0)) (Kd.S_base ho2)) (fun _ h_ => h_.1)); have n1_ := Aside0.mk (Kd.R_mono (Kd.R_told (Kd.R_told (Kd.R_told (Kd.R_old (by (with_reducible repeat (fail)); exact HO557.out) hb) (Kd.S_base ho0)) (Kd.R_base ho1)) (Kd.S_base ho2)) (fun _ h_ => h_.1)); have n2_ := Aside0.mk (Kd.S_mono (Kd.S_told (Kd.S_told (Kd.S_old (by (with_reducible repeat (fail)); exact HO560.out) hb) (Kd.S_base ho0)) (Kd.S_base ho2)) (fun _ h_ => h_.1)); have n3_ := Aside0.mk (Kd.S_lower (Kd.S_new' (Kd.S_new' ho0 (Kd.S_lt (by (with_reducible repeat (fail)); exact HO554.out))) (Kd.S_lt (by (with_reducible repeat (fail)); exact HO560.out))) (below_size (by repeat ((with_reducible exact HB.out))))); have n4_ := Aside0.mk (Kd.R_lower (Kd.R_new' (Kd.R_new' (Kd.R_new' ho1 (Kd.S_lt (by (with_reducible repeat (fail)); exact HO554.out))) (Kd.R_lt (by (with_reducible repeat (fail)); exact HO557.out))) (Kd.S_lt (by (with_reducible repeat (fail)); exact HO560.out))) (below_size (by repeat ((with_reducible exact HB.out))))); have n5_ := Aside0.mk (Kd.S_lower (Kd.S_new' (Kd.S_new' ho2 (Kd.S_lt (by (with_reducible repeat (fail)); exact HO554.out))) (Kd.S_lt (by (with_reducible repeat (fail)); exact HO560.out))) (below_size (by repeat ((with_reducible exact HB.out))))); have n6_ := Aside0.mk (blk_below (g := gb549) (o := .cells #[.slice A0_0 l0_0.length c0_0, .slice A0_1 l0_1.length c0_1, .slice A0_2 l0_2.length c0_2] 25 (0, 0)) (by (with_reducible repeat (fail)); exact BK549.out) hb); have n7_ := Aside0.mk (blk_below (g := gb562) (o := .cells #[.slice Ao106 t552.length co106, .slice Ao109 t555.length co109, .slice Ao110 t558.length co110] 25 (0, 0)) (by (with_reducible repeat (fail)); exact BK562.out) hb); have n8_ := Aside0.mk (below_step (by repeat ((with_reducible exact HB.out))) hb); clear HO554; clear HO557; clear HO560; clear BK549; clear BK562; clear HB; have HO554 := n0_; have HO557 := n1_; have HO560 := n2_; have HO568 := n3_; have HO571 := n4_; have HO574 := n5_; have BK549 := n6_; have BK562 := n7_; have HB := n8_; clear n0_ n1_ n2_ n3_ n4_ n5_ n6_ n7_ n8_; (try clear hb); (try clear ho0); (try clear ho1); (try clear ho2)) | ((with_reducible refine gate_dst (N := 5) rfl ?_); refine box_event ?hg (N := 5) ?hd (cs := #[.slice none 0 0, .slice none 0 0, .slice none 0 0]) (t := 25) ?hr ?_; (case hd => rfl); (case hg => rfl); (case hr => (go_simp; done)); intro gb576 hg w115 hbox hb; have n0_ := Aside0.mk (Kd.S_below (by (with_reducible repeat (fail)); exact HO554.out) hb); have n1_ := Aside0.mk (Kd.R_below (by (with_reducible repeat (fail)); exact HO557.out) hb); have n2_ := Aside0.mk (Kd.S_below (by (with_reducible repeat (fail)); exact HO560.out) hb); have n3_ := Aside0.mk (Kd.S_below (by (with_reducible repeat (fail)); exact HO568.out) hb); have n4_ := Aside0.mk (Kd.R_below (by (with_reducible repeat (fail)); exact HO571.out) hb); have n5_ := Aside0.mk (Kd.S_below (by (with_reducible repeat (fail)); exact HO574.out) hb); have n6_ := Aside0.mk (blk_below (g := gb549) (o := .cells #[.slice A0_0 l0_0.length c0_0, .slice A0_1 l0_1.length c0_1, .slice A0_2 l0_2.length c0_2] 25 (0, 0)) (by (with_reducible repeat (fail)); exact BK549.out) hb); have n7_ := Aside0.mk (blk_below (g := gb562) (o := .cells #[.slice Ao106 t552.length co106, .slice Ao109 t555.length co109, .slice Ao110 t558.length co110] 25 (0, 0)) (by (with_reducible repeat (fail)); exact BK562.out) hb); have n8_ := Aside0.mk (below_step (by repeat ((with_reducible exact HB.out))) hb); have n9_ := Aside0.mk (hbox); have n10_ := Aside0.mk ((by rw [hg]; exact (below_size (by repeat ((with_reducible exact HB.out)))) : w.heap.size ≤ gb576)); have n11_ := Aside0.mk ((by rw [hg]; exact (below_size (by repeat ((with_reducible exact HB.out)))) : w.heap.size ≤ gb576)); have n12_ := Aside0.mk ((by rw [hg]; exact Nat.ne_of_lt (blk_lt (g := gb549) (o := .cells #[.slice A0_0 l0_0.length c0_0, .slice A0_1 l0_1.length c0_1, .slice A0_2 l0_2.length c0_2] 25 (0, 0)) (by (with_reducible repeat (fail)); exact BK549.out)) : gb549 ≠ gb576)); have n13_ := Aside0.mk ((by rw [hg]; exact Nat.ne_of_gt (blk_lt (g := gb549) (o := .cells #[.slice A0_0 l0_0.length c0_0, .slice A0_1 l0_1.length c0_1, .slice A0_2 l0_2.length c0_2] 25 (0, 0)) (by (with_reducible repeat (fail)); exact BK549.out)) : gb576 ≠ gb549)); have n14_ := Aside0.mk ((by rw [hg]; exact Nat.ne_of_lt (blk_lt (g := gb562) (o := .cells #[.slice Ao106 t552.length co106, .slice Ao109 t555.length co109, .slice Ao110 t558.length co110] 25 (0, 0)) (by (with_reducible repeat (fail)); exact BK562.out)) : gb562 ≠ gb576)); have n15_ := Aside0.mk ((by rw [hg]; exact Nat.ne_of_gt (blk_lt (g := gb562) (o := .cells #[.slice Ao106 t552.length co106, .slice Ao109 t555.length co109, .slice Ao110 t558.length co110] 25 (0, 0)) (by (with_reducible repeat (fail)); exact BK562.out)) : gb576 ≠ gb562)); clear HO554; clear HO557; clear HO560; clear HO568; clear HO571; clear HO574; clear BK549; clear BK562; clear HB; have HO554 := n0_; have HO557 := n1_; have HO560 := n2_; have HO568 := n3_; have HO571 := n4_; have HO574 := n5_; have BK549 := n6_; have BK562 := n7_; have HB := n8_; have BK576 := n9_; have GW576 := n10_; have GE576 := n11_; have NB549_576 := n12_; have NB576_549 := n13_; have NB562_576 := n14_; have NB576_562 := n15_; clear n0_ n1_ n2_ n3_ n4_ n5_ n6_ n7_ n8_ n9_ n10_ n11_ n12_ n13_ n14_ n15_; clear hb hbox hg; obtain ⟨Ao116, co116, eo116⟩ := Kd.S_slice HO568.out; subst eo116; have hnb117 := NB576_549.out; have hnc117 := NB549_576.out; have hnb118 := NB576_562.out; have hnc118 := NB562_576.out; have hcz119_0 : w115.cell? ⟨gb576, 0, none⟩ = some (.slice none 0 0) := (blk_cell BK576.out 0).trans rfl; have hcz119_1 : w115.cell? ⟨gb576, 1, none⟩ = some (.slice none 0 0) := (blk_cell BK576.out 1).trans rfl; have hcz119_2 : w115.cell? ⟨gb576, 2, none⟩ = some (.slice none 0 0) := (blk_cell BK576.out 2).trans rfl; have hfz119_0 := blk_frozen BK576.out 0; have hfz119_1 := blk_frozen BK576.out 1; have hfz119_2 := blk_frozen BK576.out 2; obtain ⟨Ao120, co120, eo120⟩ := Kd.R_slice HO571.out; subst eo120; obtain ⟨Ao121, co121, eo121⟩ := Kd.S_slice HO574.out; subst eo121))
            have n0_ : Aside0 (Kd.S k46 46 (((w115.setCell ⟨gb576, 0, none⟩ (.slice Ao116 t566.length co116)).setCell ⟨gb576, 1, none⟩ (.slice Ao120 t569.length co120)).setCell ⟨gb576, 2, none⟩ (.slice Ao121 t572.length co121)) w.heap.size (fun k_ => some k_ ≠ (.slice Ao110 t558.length co110 : Value).ownBlock ∧ some k_ ≠ (.slice Ao116 t566.length co116 : Value).ownBlock ∧ some k_ ≠ (.slice Ao121 t572.length co121 : Value).ownBlock) (.slice Ao106 t552.length co106) t552) := ⟨by (with_reducible repeat (fail)); exact Kd.S_mono (Kd.S_far (p := ⟨gb576, 2, none⟩) (Kd.S_far (p := ⟨gb576, 1, none⟩) (Kd.S_far (p := ⟨gb576, 0, none⟩) (Kd.S_types HO554.out BK576.out (by decide)) (fun _ hk => hk.2) (.slice Ao116 t566.length co116)) (fun _ hk => hk.2) (.slice Ao120 t569.length co120)) (fun _ hk => hk.2) (.slice Ao121 t572.length co121)) (fun _ hk => ⟨hk.1.1.1, ⟨hk.1.1.2, hk.1.2⟩⟩)⟩
            have n1_ : Aside0 (Kd.R (Kd.slice 46 k46) 22 (((w115.setCell ⟨gb576, 0, none⟩ (.slice Ao116 t566.length co116)).setCell ⟨gb576, 1, none⟩ (.slice Ao120 t569.length co120)).setCell ⟨gb576, 2, none⟩ (.slice Ao121 t572.length co121)) w.heap.size (fun k_ => some k_ ≠ (.slice Ao106 t552.length co106 : Value).ownBlock ∧ some k_ ≠ (.slice Ao110 t558.length co110 : Value).ownBlock ∧ some k_ ≠ (.slice Ao116 t566.length co116 : Value).ownBlock ∧ some k_ ≠ (.slice Ao120 t569.length co120 : Value).ownBlock ∧ some k_ ≠ (.slice Ao121 t572.length co121 : Value).ownBlock) (.slice Ao109 t555.length co109) t555) := ⟨by (with_reducible repeat (fail)); exact Kd.R_mono (Kd.R_far (p := ⟨gb576, 2, none⟩) (Kd.R_far (p := ⟨gb576, 1, none⟩) (Kd.R_far (p := ⟨gb576, 0, none⟩) (Kd.R_types HO557.out BK576.out (by decide)) (fun _ hk => hk.2) (.slice Ao116 t566.length co116)) (fun _ hk => hk.2) (.slice Ao120 t569.length co120)) (fun _ hk => hk.2) (.slice Ao121 t572.length co121)) (fun _ hk => ⟨hk.1.1.1.1.1, ⟨hk.1.1.1.1.2, ⟨hk.1.1.1.2, ⟨hk.1.1.2, hk.1.2⟩⟩⟩⟩)⟩
            have n2_ : Aside0 (Kd.S k46 46 (((w115.setCell ⟨gb576, 0, none⟩ (.slice Ao116 t566.length co116)).setCell ⟨gb576, 1, none⟩ (.slice Ao120 t569.length co120)).setCell ⟨gb576, 2, none⟩ (.slice Ao121 t572.length co121)) w.heap.size (fun k_ => some k_ ≠ (.slice Ao106 t552.length co106 : Value).ownBlock ∧ some k_ ≠ (.slice Ao116 t566.length co116 : Value).ownBlock ∧ some k_ ≠ (.slice Ao121 t572.length co121 : Value).ownBlock) (.slice Ao110 t558.length co110) t558) := ⟨by (with_reducible repeat (fail)); exact Kd.S_mono (Kd.S_far (p := ⟨gb576, 2, none⟩) (Kd.S_far (p := ⟨gb576, 1, none⟩) (Kd.S_far (p := ⟨gb576, 0, none⟩) (Kd.S_types HO560.out BK576.out (by decide)) (fun _ hk => hk.2) (.slice Ao116 t566.length co116)) (fun _ hk => hk.2) (.slice Ao120 t569.length co120)) (fun _ hk => hk.2) (.slice Ao121 t572.length co121)) (fun _ hk => ⟨hk.1.1.1, ⟨hk.1.1.2, hk.1.2⟩⟩)⟩
            have n3_ : Aside0 (Kd.S k46 46 (((w115.setCell ⟨gb576, 0, none⟩ (.slice Ao116 t566.length co116)).setCell ⟨gb576, 1, none⟩ (.slice Ao120 t569.length co120)).setCell ⟨gb576, 2, none⟩ (.slice Ao121 t572.length co121)) w.heap.size (fun k_ => some k_ ≠ (.slice Ao106 t552.length co106 : Value).ownBlock ∧ some k_ ≠ (.slice Ao110 t558.length co110 : Value).ownBlock ∧ some k_ ≠ (.slice Ao121 t572.length co121 : Value).ownBlock) (.slice Ao116 t566.length co116) t566) := ⟨by (with_reducible repeat (fail)); exact Kd.S_mono (Kd.S_far (p := ⟨gb576, 2, none⟩) (Kd.S_far (p := ⟨gb576, 1, none⟩) (Kd.S_far (p := ⟨gb576, 0, none⟩) (Kd.S_types HO568.out BK576.out (by decide)) (fun _ hk => hk.2) (.slice Ao116 t566.length co116)) (fun _ hk => hk.2) (.slice Ao120 t569.length co120)) (fun _ hk => hk.2) (.slice Ao121 t572.length co121)) (fun _ hk => ⟨hk.1.1.2, ⟨hk.1.2, hk.1.1.1⟩⟩)⟩
            have n4_ : Aside0 (Kd.R (Kd.slice 46 k46) 22 (((w115.setCell ⟨gb576, 0, none⟩ (.slice Ao116 t566.length co116)).setCell ⟨gb576, 1, none⟩ (.slice Ao120 t569.length co120)).setCell ⟨gb576, 2, none⟩ (.slice Ao121 t572.length co121)) w.heap.size (fun k_ => some k_ ≠ (.slice Ao106 t552.length co106 : Value).ownBlock ∧ some k_ ≠ (.slice Ao109 t555.length co109 : Value).ownBlock ∧ some k_ ≠ (.slice Ao110 t558.length co110 : Value).ownBlock ∧ some k_ ≠ (.slice Ao116 t566.length co116 : Value).ownBlock ∧ some k_ ≠ (.slice Ao121 t572.length co121 : Value).ownBlock) (.slice Ao120 t569.length co120) t569) := ⟨by (with_reducible repeat (fail)); exact Kd.R_mono (Kd.R_far (p := ⟨gb576, 2, none⟩) (Kd.R_far (p := ⟨gb576, 1, none⟩) (Kd.R_far (p := ⟨gb576, 0, none⟩) (Kd.R_types HO571.out BK576.out (by decide)) (fun _ hk => hk.2) (.slice Ao116 t566.length co116)) (fun _ hk => hk.2) (.slice Ao120 t569.length co120)) (fun _ hk => hk.2) (.slice Ao121 t572.length co121)) (fun _ hk => ⟨hk.1.1.1.2, ⟨hk.1.1.2, ⟨hk.1.2, ⟨hk.1.1.1.1.1, hk.1.1.1.1.2⟩⟩⟩⟩)⟩
            have n5_ : Aside0 (Kd.S k46 46 (((w115.setCell ⟨gb576, 0, none⟩ (.slice Ao116 t566.length co116)).setCell ⟨gb576, 1, none⟩ (.slice Ao120 t569.length co120)).setCell ⟨gb576, 2, none⟩ (.slice Ao121 t572.length co121)) w.heap.size (fun k_ => some k_ ≠ (.slice Ao106 t552.length co106 : Value).ownBlock ∧ some k_ ≠ (.slice Ao110 t558.length co110 : Value).ownBlock ∧ some k_ ≠ (.slice Ao116 t566.length co116 : Value).ownBlock) (.slice Ao121 t572.length co121) t572) := ⟨by (with_reducible repeat (fail)); exact Kd.S_mono (Kd.S_far (p := ⟨gb576, 2, none⟩) (Kd.S_far (p := ⟨gb576, 1, none⟩) (Kd.S_far (p := ⟨gb576, 0, none⟩) (Kd.S_types HO574.out BK576.out (by decide)) (fun _ hk => hk.2) (.slice Ao116 t566.length co116)) (fun _ hk => hk.2) (.slice Ao120 t569.length co120)) (fun _ hk => hk.2) (.slice Ao121 t572.length co121)) (fun _ hk => ⟨hk.1.1.2, ⟨hk.1.2, hk.1.1.1⟩⟩)⟩
            have n6_ : Aside0 ((((w115.setCell ⟨gb576, 0, none⟩ (.slice Ao116 t566.length co116)).setCell ⟨gb576, 1, none⟩ (.slice Ao120 t569.length co120)).setCell ⟨gb576, 2, none⟩ (.slice Ao121 t572.length co121)).heap[gb549]? = some (.cells #[.slice A0_0 l0_0.length c0_0, .slice A0_1 l0_1.length c0_1, .slice A0_2 l0_2.length c0_2] 25 (0, 0))) := ⟨by (with_reducible repeat (fail)); refine blk_far ?_ NB549_576.out _; (with_reducible repeat (fail)); refine blk_far ?_ NB549_576.out _; (with_reducible repeat (fail)); refine blk_far ?_ NB549_576.out _; (with_reducible repeat (fail)); exact BK549.out⟩
            have n7_ : Aside0 ((((w115.setCell ⟨gb576, 0, none⟩ (.slice Ao116 t566.length co116)).setCell ⟨gb576, 1, none⟩ (.slice Ao120 t569.length co120)).setCell ⟨gb576, 2, none⟩ (.slice Ao121 t572.length co121)).heap[gb562]? = some (.cells #[.slice Ao106 t552.length co106, .slice Ao109 t555.length co109, .slice Ao110 t558.length co110] 25 (0, 0))) := ⟨by (with_reducible repeat (fail)); refine blk_far ?_ NB562_576.out _; (with_reducible repeat (fail)); refine blk_far ?_ NB562_576.out _; (with_reducible repeat (fail)); refine blk_far ?_ NB562_576.out _; (with_reducible repeat (fail)); exact BK562.out⟩
            have n8_ : Aside0 ((((w115.setCell ⟨gb576, 0, none⟩ (.slice Ao116 t566.length co116)).setCell ⟨gb576, 1, none⟩ (.slice Ao120 t569.length co120)).setCell ⟨gb576, 2, none⟩ (.slice Ao121 t572.length co121)).heap[gb576]? = some (.cells #[.slice Ao116 t566.length co116, .slice Ao120 t569.length co120, .slice Ao121 t572.length co121] 25 (0, 0))) := ⟨by (with_reducible repeat (fail)); refine blk_put (cs := #[.slice Ao116 t566.length co116, .slice Ao120 t569.length co120, .slice none 0 0]) ?_ 2 _ rfl; (with_reducible repeat (fail)); refine blk_put (cs := #[.slice Ao116 t566.length co116, .slice none 0 0, .slice none 0 0]) ?_ 1 _ rfl; (with_reducible repeat (fail)); refine blk_put (cs := #[.slice none 0 0, .slice none 0 0, .slice none 0 0]) ?_ 0 _ rfl; (with_reducible repeat (fail)); exact BK576.out⟩
            have n9_ : Aside0 (Below w.heap.size w (((w115.setCell ⟨gb576, 0, none⟩ (.slice Ao116 t566.length co116)).setCell ⟨gb576, 1, none⟩ (.slice Ao120 t569.length co120)).setCell ⟨gb576, 2, none⟩ (.slice Ao121 t572.length co121))) := ⟨by repeat ((with_reducible first | exact HB.out | refine below_set ?_ GE576.out))⟩
            (try clear HO554)
            (try clear HO557)
            (try clear HO560)
            (try clear HO568)
            (try clear HO571)
            (try clear HO574)
            (try clear BK549)
            (try clear BK562)
            (try clear BK576)
            (try clear HB)
            generalize (((w115.setCell ⟨gb576, 0, none⟩ (.slice Ao116 t566.length co116)).setCell ⟨gb576, 1, none⟩ (.slice Ao120 t569.length co120)).setCell ⟨gb576, 2, none⟩ (.slice Ao121 t572.length co121)) = w122 at n0_ n1_ n2_ n3_ n4_ n5_ n6_ n7_ n8_ n9_ ⊢
            have HO554 := n0_
            have HO557 := n1_
            have HO560 := n2_
            have HO568 := n3_
            have HO571 := n4_
            have HO574 := n5_
            have BK549 := n6_
            have BK562 := n7_
            have BK576 := n8_
            have HB := n9_
            clear n0_ n1_ n2_ n3_ n4_ n5_ n6_ n7_ n8_ n9_
            have n0_ := Aside0.mk (Kd.S_drew HO554.out)
            have n1_ := Aside0.mk (Kd.R_drew HO557.out)
            have n2_ := Aside0.mk (Kd.S_drew HO560.out)
            have n3_ := Aside0.mk (Kd.S_drew HO568.out)
            have n4_ := Aside0.mk (Kd.R_drew HO571.out)
            have n5_ := Aside0.mk (Kd.S_drew HO574.out)
            have n6_ := Aside0.mk (blk_drew BK549.out)
            have n7_ := Aside0.mk (blk_drew BK562.out)
            have n8_ := Aside0.mk (blk_drew BK576.out)
            have n9_ := Aside0.mk (below_drew1 HB.out)
            clear HO554
            clear HO557
            clear HO560
            clear HO568
            clear HO571
            clear HO574
            clear BK549
            clear BK562
            clear BK576
            clear HB
            have HO554 := n0_
            have HO557 := n1_
            have HO560 := n2_
            have HO568 := n3_
            have HO571 := n4_
            have HO574 := n5_
            have BK549 := n6_
            have BK562 := n7_
            have BK576 := n8_
            have HB := n9_
            clear n0_ n1_ n2_ n3_ n4_ n5_ n6_ n7_ n8_ n9_
            refine start_ (n := 19) (S := fun w' => True) (ds := []) #[false, false, false, false, false, false, false, false, false, false, false, false, false, false, false, false, false, false, false] (by kernel_rfl) rfl rfl trivial (fun hHeld => ?_); refine with_tabW codewrightlaw35_SimplexDuals.tab7 codewrightlaw35_SimplexDuals.bits7 (fun HT_ HW_ => ?_)
            generalize w122.drew = w123 at HO554 HO557 HO560 HO568 HO571 HO574 BK549 BK562 BK576 HB hHeld ⊢
            refine pure_ (i := 0) (N := some 37) (v := ?_) (a' := ?_) #[true, false, false, false, false, false, false, false, false, false, false, false, false, false, false, false, false, false, false] rfl rfl (any_of HT_.out (by kernel_rfl)) (fun _ _ _ h => h) (Or.inl ⟨by rfl, ?_⟩) ?_ ?_
            rotate_left
            · intro w'
              go_simp
              with_reducible rfl
            rotate_left
            · simp only [Act.put, List.setIfInBounds_toArray, List.set_cons_zero, List.set_cons_succ, i64_w, i32_w]
              rfl
            refine pure_ (i := 1) (N := some 38) (v := ?_) (a' := ?_) #[true, true, false, false, false, false, false, false, false, false, false, false, false, false, false, false, false, false, false] rfl rfl (any_of HT_.out (by kernel_rfl)) (fun _ _ _ h => h) (Or.inl ⟨by rfl, ?_⟩) ?_ ?_
            rotate_left
            · intro w'
              go_simp
              with_reducible rfl
            rotate_left
            · simp only [Act.put, List.setIfInBounds_toArray, List.set_cons_zero, List.set_cons_succ, i64_w, i32_w]
              rfl
            refine pure_ (i := 2) (N := some 39) (v := ?_) (a' := ?_) #[true, true, true, false, false, false, false, false, false, false, false, false, false, false, false, false, false, false, false] rfl rfl (any_of HT_.out (by kernel_rfl)) (fun _ _ _ h => h) (Or.inl ⟨by rfl, ?_⟩) ?_ ?_
            rotate_left
            · intro w'
              go_simp
              with_reducible rfl
            rotate_left
            · simp only [Act.put, List.setIfInBounds_toArray, List.set_cons_zero, List.set_cons_succ, i64_w, i32_w]
              rfl
            refine pure_ (i := 3) (N := some 40) (v := undef) (a' := ?_) #[true, true, true, true, false, false, false, false, false, false, false, false, false, false, false, false, false, false, false] rfl rfl (any_of HT_.out (by kernel_rfl)) (fun _ _ _ h => h) (Or.inr ⟨by rfl, rfl⟩) ?_ ?_
            rotate_left
            · simp only [Act.put, List.setIfInBounds_toArray, List.set_cons_zero, List.set_cons_succ, i64_w, i32_w]
              rfl
            refine pure_ (i := 4) (N := some 41) (v := undef) (a' := ?_) #[true, true, true, true, true, false, false, false, false, false, false, false, false, false, false, false, false, false, false] rfl rfl (any_of HT_.out (by kernel_rfl)) (fun _ _ _ h => h) (Or.inr ⟨by rfl, rfl⟩) ?_ ?_
            rotate_left
            · simp only [Act.put, List.setIfInBounds_toArray, List.set_cons_zero, List.set_cons_succ, i64_w, i32_w]
              rfl
            refine pure_ (i := 5) (N := some 42) (v := ?_) (a' := ?_) #[true, true, true, true, true, true, false, false, false, false, false, false, false, false, false, false, false, false, false] rfl rfl (any_of HT_.out (by kernel_rfl)) (fun _ _ _ h => h) (Or.inl ⟨by rfl, ?_⟩) ?_ ?_
            rotate_left
            · intro w'
              go_simp
              with_reducible rfl
            rotate_left
            · simp only [Act.put, List.setIfInBounds_toArray, List.set_cons_zero, List.set_cons_succ, i64_w, i32_w]
              rfl
            refine pure_ (i := 6) (N := some 43) (v := ?_) (a' := ?_) #[true, true, true, true, true, true, true, false, false, false, false, false, false, false, false, false, false, false, false] rfl rfl (any_of HT_.out (by kernel_rfl)) (fun _ _ _ h => h) (Or.inl ⟨by rfl, ?_⟩) ?_ ?_
            rotate_left
            · intro w'
              go_simp
              with_reducible rfl
            rotate_left
            · simp only [Act.put, List.setIfInBounds_toArray, List.set_cons_zero, List.set_cons_succ, i64_w, i32_w]
              rfl
            refine pure_ (i := 7) (N := some 44) (v := undef) (a' := ?_) #[true, true, true, true, true, true, true, true, false, false, false, false, false, false, false, false, false, false, false] rfl rfl (any_of HT_.out (by kernel_rfl)) (fun _ _ _ h => h) (Or.inr ⟨by rfl, rfl⟩) ?_ ?_
            rotate_left
            · simp only [Act.put, List.setIfInBounds_toArray, List.set_cons_zero, List.set_cons_succ, i64_w, i32_w]
              rfl
            refine pure_ (i := 8) (N := some 45) (v := undef) (a' := ?_) #[true, true, true, true, true, true, true, true, true, false, false, false, false, false, false, false, false, false, false] rfl rfl (any_of HT_.out (by kernel_rfl)) (fun _ _ _ h => h) (Or.inr ⟨by rfl, rfl⟩) ?_ ?_
            rotate_left
            · simp only [Act.put, List.setIfInBounds_toArray, List.set_cons_zero, List.set_cons_succ, i64_w, i32_w]
              rfl
            refine pure_ (i := 9) (N := some 46) (v := undef) (a' := ?_) #[true, true, true, true, true, true, true, true, true, true, false, false, false, false, false, false, false, false, false] rfl rfl (any_of HT_.out (by kernel_rfl)) (fun _ _ _ h => h) (Or.inr ⟨by rfl, rfl⟩) ?_ ?_
            rotate_left
            · simp only [Act.put, List.setIfInBounds_toArray, List.set_cons_zero, List.set_cons_succ, i64_w, i32_w]
              rfl
            refine pure_ (i := 10) (N := some 47) (v := undef) (a' := ?_) #[true, true, true, true, true, true, true, true, true, true, true, false, false, false, false, false, false, false, false] rfl rfl (any_of HT_.out (by kernel_rfl)) (fun _ _ _ h => h) (Or.inr ⟨by rfl, rfl⟩) ?_ ?_
            rotate_left
            · simp only [Act.put, List.setIfInBounds_toArray, List.set_cons_zero, List.set_cons_succ, i64_w, i32_w]
              rfl
            refine pure_ (i := 11) (N := some 48) (v := ?_) (a' := ?_) #[true, true, true, true, true, true, true, true, true, true, true, true, false, false, false, false, false, false, false] rfl rfl (any_of HT_.out (by kernel_rfl)) (fun _ _ _ h => h) (Or.inl ⟨by rfl, ?_⟩) ?_ ?_
            rotate_left
            · intro w'
              go_simp
              with_reducible rfl
            rotate_left
            · simp only [Act.put, List.setIfInBounds_toArray, List.set_cons_zero, List.set_cons_succ, i64_w, i32_w]
              rfl
            refine pure_ (i := 12) (N := some 49) (v := ?_) (a' := ?_) #[true, true, true, true, true, true, true, true, true, true, true, true, true, false, false, false, false, false, false] rfl rfl (any_of HT_.out (by kernel_rfl)) (fun _ _ _ h => h) (Or.inl ⟨by rfl, ?_⟩) ?_ ?_
            rotate_left
            · intro w'
              go_simp
              with_reducible rfl
            rotate_left
            · simp only [Act.put, List.setIfInBounds_toArray, List.set_cons_zero, List.set_cons_succ, i64_w, i32_w]
              rfl
            refine pure_ (i := 13) (N := some 50) (v := undef) (a' := ?_) #[true, true, true, true, true, true, true, true, true, true, true, true, true, true, false, false, false, false, false] rfl rfl (any_of HT_.out (by kernel_rfl)) (fun _ _ _ h => h) (Or.inr ⟨by rfl, rfl⟩) ?_ ?_
            rotate_left
            · simp only [Act.put, List.setIfInBounds_toArray, List.set_cons_zero, List.set_cons_succ, i64_w, i32_w]
              rfl
            refine pure_ (i := 14) (N := some 51) (v := undef) (a' := ?_) #[true, true, true, true, true, true, true, true, true, true, true, true, true, true, true, false, false, false, false] rfl rfl (any_of HT_.out (by kernel_rfl)) (fun _ _ _ h => h) (Or.inr ⟨by rfl, rfl⟩) ?_ ?_
            rotate_left
            · simp only [Act.put, List.setIfInBounds_toArray, List.set_cons_zero, List.set_cons_succ, i64_w, i32_w]
              rfl
            refine pure_ (i := 15) (N := some 52) (v := undef) (a' := ?_) #[true, true, true, true, true, true, true, true, true, true, true, true, true, true, true, true, false, false, false] rfl rfl (any_of HT_.out (by kernel_rfl)) (fun _ _ _ h => h) (Or.inr ⟨by rfl, rfl⟩) ?_ ?_
            rotate_left
            · simp only [Act.put, List.setIfInBounds_toArray, List.set_cons_zero, List.set_cons_succ, i64_w, i32_w]
              rfl
            refine pure_ (i := 16) (N := some 53) (v := undef) (a' := ?_) #[true, true, true, true, true, true, true, true, true, true, true, true, true, true, true, true, true, false, false] rfl rfl (any_of HT_.out (by kernel_rfl)) (fun _ _ _ h => h) (Or.inr ⟨by rfl, rfl⟩) ?_ ?_
            rotate_left
            · simp only [Act.put, List.setIfInBounds_toArray, List.set_cons_zero, List.set_cons_succ, i64_w, i32_w]
              rfl
            refine pure_ (i := 17) (N := some 54) (v := ?_) (a' := ?_) #[true, true, true, true, true, true, true, true, true, true, true, true, true, true, true, true, true, true, false] rfl rfl (any_of HT_.out (by kernel_rfl)) (fun _ _ _ h => h) (Or.inl ⟨by rfl, ?_⟩) ?_ ?_
            rotate_left
            · intro w'
              go_simp
              with_reducible rfl
            rotate_left
            · simp only [Act.put, List.setIfInBounds_toArray, List.set_cons_zero, List.set_cons_succ, i64_w, i32_w]
              rfl
            refine pure_ (i := 18) (N := some 2) (v := ?_) (a' := ?_) #[true, true, true, true, true, true, true, true, true, true, true, true, true, true, true, true, true, true, true] rfl rfl (any_of HT_.out (by kernel_rfl)) (fun _ _ _ h => h) (Or.inl ⟨by rfl, ?_⟩) ?_ ?_
            rotate_left
            · intro w'
              go_simp
              with_reducible rfl
            rotate_left
            · simp only [Act.put, List.setIfInBounds_toArray, List.set_cons_zero, List.set_cons_succ, i64_w, i32_w]
              rfl
            refine done_ (done_of HT_.out (by kernel_rfl)) ?_
            try go_wp2
            go_ret
            exact ⟨by rfl, by repeat ((with_reducible exact HB.out))⟩
        · rw [if_neg c16] at H
          have c16b0 : (t563 == 0) = false := beq_eq_false_iff_ne.mpr c16
          have c16b1 : (t563 != 0) = true := bne_iff_ne.mpr c16
          replace H := Option.bind_eq_some_iff.mp H
          obtain ⟨t564, A1240, H⟩ := H
          replace H : (if t561 = t564 then ((codewrightref35_Same.f kj1 t552 t555 t558 ([] : List (S46)) ([] : List (List (S46))) ([] : List (S46))).bind fun t565 => (some t565)) else (some false)) = some r := H
          have A124 := Aside0.mk A1240
          clear A1240
          by_cases c125 : t561 = t564
          · rw [if_pos c125] at H
            have c125b0 : (t561 == t564) = true := beq_iff_eq.mpr c125
            have c125b1 : (t561 != t564) = false := bne_eq_false_iff_eq.mpr c125
            clear c125
            replace H := Option.bind_eq_some_iff.mp H
            obtain ⟨t565, A1260, H⟩ := H
            replace H : (some t565) = some r := H
            have A126 := Aside0.mk A1260
            clear A1260
            obtain rfl := Option.some.inj H
            have hcz127_0 : wc.cell? ⟨gb549, 0, none⟩ = some (.slice A0_0 l0_0.length c0_0) := (blk_cell BK549.out 0).trans rfl
            have hcz127_1 : wc.cell? ⟨gb549, 1, none⟩ = some (.slice A0_1 l0_1.length c0_1) := (blk_cell BK549.out 1).trans rfl
            have hcz127_2 : wc.cell? ⟨gb549, 2, none⟩ = some (.slice A0_2 l0_2.length c0_2) := (blk_cell BK549.out 2).trans rfl
            have hfz127_0 := blk_frozen BK549.out 0
            have hfz127_1 := blk_frozen BK549.out 1
            have hfz127_2 := blk_frozen BK549.out 2
            go_wp2_with (first | ((with_reducible refine gate_callee (f := 21) rfl ?_); refine goesL_ (some 17) rfl rfl Try.func21 (by kernel_rfl) rfl #[.agg #[.slice A0_0 l0_0.length c0_0, .slice A0_1 l0_1.length c0_1, .slice A0_2 l0_2.length c0_2]] rfl (by (try simp only [List.map_toArray, List.map_cons, List.map_nil]); rfl) ?_; (with_reducible refine (simplex_Dual.calls kj1 _ _ l0_0 _ _ l0_1 _ _ l0_2 t552 t555 t558 t561 _ ?side1 ?side2 ?side3 ?side4 ?side5 ?side6 A14.out).mono ?_); (case side1 => repeat (exact (Kd.C_below HR0_0.out HB.out))); (case side2 => exact HC0_0.out); (case side3 => repeat (exact (Kd.C_below HR0_1.out HB.out))); (case side4 => exact HC0_1.out); (case side5 => repeat (exact (Kd.C_below HR0_2.out HB.out))); (case side6 => exact HC0_2.out); rintro e w128 ⟨v553, v556, v559, rfl, ho0, ho1, ho2, hb⟩; refine ⟨_, rfl, ?_⟩; have n0_ := Aside0.mk (Kd.S_lower ho0 (below_size (by repeat ((with_reducible exact HB.out))))); have n1_ := Aside0.mk (Kd.R_lower ho1 (below_size (by repeat ((with_reducible exact HB.out))))); have n2_ := Aside0.mk (Kd.S_lower ho2 (below_size (by repeat ((with_reducible exact HB.out))))); have n3_ := Aside0.mk (blk_below (g := gb549) (o := .cells #[.slice A0_0 l0_0.length c0_0, .slice A0_1 l0_1.length c0_1, .slice A0_2 l0_2.length c0_2] 25 (0, 0)) (by (with_reducible repeat (fail)); exact BK549.out) hb); have n4_ := Aside0.mk (below_step (by repeat ((with_reducible exact HB.out))) hb); clear BK549; clear HB; have HO554 := n0_; have HO557 := n1_; have HO560 := n2_; have BK549 := n3_; have HB := n4_; clear n0_ n1_ n2_ n3_ n4_; (try clear hb); (try clear ho0); (try clear ho1); (try clear ho2)) | ((with_reducible refine gate_dst (N := 3) rfl ?_); refine box_event ?hg (N := 3) ?hd (cs := #[.slice none 0 0, .slice none 0 0, .slice none 0 0]) (t := 25) ?hr ?_; (case hd => rfl); (case hg => rfl); (case hr => (go_simp; done)); intro gb562 hg w129 hbox hb; have n0_ := Aside0.mk (Kd.S_below (by (with_reducible repeat (fail)); exact HO554.out) hb); have n1_ := Aside0.mk (Kd.R_below (by (with_reducible repeat (fail)); exact HO557.out) hb); have n2_ := Aside0.mk (Kd.S_below (by (with_reducible repeat (fail)); exact HO560.out) hb); have n3_ := Aside0.mk (blk_below (g := gb549) (o := .cells #[.slice A0_0 l0_0.length c0_0, .slice A0_1 l0_1.length c0_1, .slice A0_2 l0_2.length c0_2] 25 (0, 0)) (by (with_reducible repeat (fail)); exact BK549.out) hb); have n4_ := Aside0.mk (below_step (by repeat ((with_reducible exact HB.out))) hb); have n5_ := Aside0.mk (hbox); have n6_ := Aside0.mk ((by rw [hg]; exact (below_size (by repeat ((with_reducible exact HB.out)))) : w.heap.size ≤ gb562)); have n7_ := Aside0.mk ((by rw [hg]; exact (below_size (by repeat ((with_reducible exact HB.out)))) : w.heap.size ≤ gb562)); have n8_ := Aside0.mk ((by rw [hg]; exact Nat.ne_of_lt (blk_lt (g := gb549) (o := .cells #[.slice A0_0 l0_0.length c0_0, .slice A0_1 l0_1.length c0_1, .slice A0_2 l0_2.length c0_2] 25 (0, 0)) (by (with_reducible repeat (fail)); exact BK549.out)) : gb549 ≠ gb562)); have n9_ := Aside0.mk ((by rw [hg]; exact Nat.ne_of_gt (blk_lt (g := gb549) (o := .cells #[.slice A0_0 l0_0.length c0_0, .slice A0_1 l0_1.length c0_1, .slice A0_2 l0_2.length c0_2] 25 (0, 0)) (by (with_reducible repeat (fail)); exact BK549.out)) : gb562 ≠ gb549)); clear HO554; clear HO557; clear HO560; clear BK549; clear HB; have HO554 := n0_; have HO557 := n1_; have HO560 := n2_; have BK549 := n3_; have HB := n4_; have BK562 := n5_; have GW562 := n6_; have GE562 := n7_; have NB549_562 := n8_; have NB562_549 := n9_; clear n0_ n1_ n2_ n3_ n4_ n5_ n6_ n7_ n8_ n9_; clear hb hbox hg; obtain ⟨Ao130, co130, eo130⟩ := Kd.S_slice HO554.out; subst eo130; have hnb131 := NB562_549.out; have hnc131 := NB549_562.out; have hcz132_0 : w129.cell? ⟨gb562, 0, none⟩ = some (.slice none 0 0) := (blk_cell BK562.out 0).trans rfl; have hcz132_1 : w129.cell? ⟨gb562, 1, none⟩ = some (.slice none 0 0) := (blk_cell BK562.out 1).trans rfl; have hcz132_2 : w129.cell? ⟨gb562, 2, none⟩ = some (.slice none 0 0) := (blk_cell BK562.out 2).trans rfl; have hfz132_0 := blk_frozen BK562.out 0; have hfz132_1 := blk_frozen BK562.out 1; have hfz132_2 := blk_frozen BK562.out 2; obtain ⟨Ao133, co133, eo133⟩ := Kd.R_slice HO557.out; subst eo133; obtain ⟨Ao134, co134, eo134⟩ := Kd.S_slice HO560.out; subst eo134; have hcz135_0 : w129.cell? ⟨gb549, 0, none⟩ = some (.slice A0_0 l0_0.length c0_0) := (blk_cell BK549.out 0).trans rfl; have hcz135_1 : w129.cell? ⟨gb549, 1, none⟩ = some (.slice A0_1 l0_1.length c0_1) := (blk_cell BK549.out 1).trans rfl; have hcz135_2 : w129.cell? ⟨gb549, 2, none⟩ = some (.slice A0_2 l0_2.length c0_2) := (blk_cell BK549.out 2).trans rfl; have hfz135_0 := blk_frozen BK549.out 0; have hfz135_1 := blk_frozen BK549.out 1; have hfz135_2 := blk_frozen BK549.out 2) | ((with_reducible refine gate_callee (f := 19) rfl ?_); refine goesL_ (some 21) rfl rfl Try.func19 (by kernel_rfl) rfl #[.agg #[.slice A0_0 l0_0.length c0_0, .slice A0_1 l0_1.length c0_1, .slice A0_2 l0_2.length c0_2]] rfl (by (try simp only [List.map_toArray, List.map_cons, List.map_nil]); rfl) ?_; (with_reducible refine (codewrightref35_Check.calls kj1 _ _ l0_0 _ _ l0_1 _ _ l0_2 t563 _ ?side1 ?side2 ?side3 ?side4 ?side5 ?side6 A15.out).mono ?_); (case side1 => exact Kd.C_below HR0_0.out (by repeat ((with_reducible first | exact HB.out | refine below_set ?_ GE562.out)))); (case side2 => exact HC0_0.out); (case side3 => exact Kd.C_below HR0_1.out (by repeat ((with_reducible first | exact HB.out | refine below_set ?_ GE562.out)))); (case side4 => exact HC0_1.out); (case side5 => exact Kd.C_below HR0_2.out (by repeat ((with_reducible first | exact HB.out | refine below_set ?_ GE562.out)))); (case side6 => exact HC0_2.out); rintro e w136 ⟨rfl, hb⟩; refine ⟨_, rfl, ?_⟩; have n0_ := Aside0.mk (Kd.S_below (by (with_reducible repeat (fail)); exact (Kd.S_mono (Kd.S_far (p := ⟨gb562, 2, none⟩) (Kd.S_far (p := ⟨gb562, 1, none⟩) (Kd.S_far (p := ⟨gb562, 0, none⟩) (Kd.S_types HO554.out BK562.out (by decide)) (fun _ hk => hk.2) (.slice Ao130 t552.length co130)) (fun _ hk => hk.2) (.slice Ao133 t555.length co133)) (fun _ hk => hk.2) (.slice Ao134 t558.length co134)) (fun _ h_ => h_.1))) hb); have n1_ := Aside0.mk (Kd.R_below (by (with_reducible repeat (fail)); exact (Kd.R_mono (Kd.R_far (p := ⟨gb562, 2, none⟩) (Kd.R_far (p := ⟨gb562, 1, none⟩) (Kd.R_far (p := ⟨gb562, 0, none⟩) (Kd.R_types HO557.out BK562.out (by decide)) (fun _ hk => hk.2) (.slice Ao130 t552.length co130)) (fun _ hk => hk.2) (.slice Ao133 t555.length co133)) (fun _ hk => hk.2) (.slice Ao134 t558.length co134)) (fun _ h_ => h_.1))) hb); have n2_ := Aside0.mk (Kd.S_below (by (with_reducible repeat (fail)); exact (Kd.S_mono (Kd.S_far (p := ⟨gb562, 2, none⟩) (Kd.S_far (p := ⟨gb562, 1, none⟩) (Kd.S_far (p := ⟨gb562, 0, none⟩) (Kd.S_types HO560.out BK562.out (by decide)) (fun _ hk => hk.2) (.slice Ao130 t552.length co130)) (fun _ hk => hk.2) (.slice Ao133 t555.length co133)) (fun _ hk => hk.2) (.slice Ao134 t558.length co134)) (fun _ h_ => h_.1))) hb); have n3_ := Aside0.mk (blk_below (g := gb549) (o := .cells #[.slice A0_0 l0_0.length c0_0, .slice A0_1 l0_1.length c0_1, .slice A0_2 l0_2.length c0_2] 25 (0, 0)) (by (with_reducible repeat (fail)); refine blk_far ?_ NB549_562.out _; (with_reducible repeat (fail)); refine blk_far ?_ NB549_562.out _; (with_reducible repeat (fail)); refine blk_far ?_ NB549_562.out _; (with_reducible repeat (fail)); exact BK549.out) hb); have n4_ := Aside0.mk (blk_below (g := gb562) (o := .cells #[.slice Ao130 t552.length co130, .slice Ao133 t555.length co133, .slice Ao134 t558.length co134] 25 (0, 0)) (by (with_reducible repeat (fail)); refine blk_put (cs := #[.slice Ao130 t552.length co130, .slice Ao133 t555.length co133, .slice none 0 0]) ?_ 2 _ rfl; (with_reducible repeat (fail)); refine blk_put (cs := #[.slice Ao130 t552.length co130, .slice none 0 0, .slice none 0 0]) ?_ 1 _ rfl; (with_reducible repeat (fail)); refine blk_put (cs := #[.slice none 0 0, .slice none 0 0, .slice none 0 0]) ?_ 0 _ rfl; (with_reducible repeat (fail)); exact BK562.out) hb); have n5_ := Aside0.mk (below_step (by repeat ((with_reducible first | exact HB.out | refine below_set ?_ GE562.out))) hb); clear HO554; clear HO557; clear HO560; clear BK549; clear BK562; clear HB; have HO554 := n0_; have HO557 := n1_; have HO560 := n2_; have BK549 := n3_; have BK562 := n4_; have HB := n5_; clear n0_ n1_ n2_ n3_ n4_ n5_; (try clear hb); have hcz137_0 : w136.cell? ⟨gb549, 0, none⟩ = some (.slice A0_0 l0_0.length c0_0) := (blk_cell BK549.out 0).trans rfl; have hcz137_1 : w136.cell? ⟨gb549, 1, none⟩ = some (.slice A0_1 l0_1.length c0_1) := (blk_cell BK549.out 1).trans rfl; have hcz137_2 : w136.cell? ⟨gb549, 2, none⟩ = some (.slice A0_2 l0_2.length c0_2) := (blk_cell BK549.out 2).trans rfl; have hfz137_0 := blk_frozen BK549.out 0; have hfz137_1 := blk_frozen BK549.out 1; have hfz137_2 := blk_frozen BK549.out 2) | ((with_reducible refine gate_callee (f := 19) rfl ?_); refine goesL_ (some 25) rfl rfl Try.func19 (by kernel_rfl) rfl #[.agg #[.slice A0_0 l0_0.length c0_0, .slice A0_1 l0_1.length c0_1, .slice A0_2 l0_2.length c0_2]] rfl (by (try simp only [List.map_toArray, List.map_cons, List.map_nil]); rfl) ?_; (with_reducible refine (codewrightref35_Check.calls kj1 _ _ l0_0 _ _ l0_1 _ _ l0_2 t564 _ ?side1 ?side2 ?side3 ?side4 ?side5 ?side6 A124.out).mono ?_); (case side1 => repeat (exact (Kd.C_below HR0_0.out HB.out))); (case side2 => exact HC0_0.out); (case side3 => repeat (exact (Kd.C_below HR0_1.out HB.out))); (case side4 => exact HC0_1.out); (case side5 => repeat (exact (Kd.C_below HR0_2.out HB.out))); (case side6 => exact HC0_2.out); rintro e w138 ⟨rfl, hb⟩; refine ⟨_, rfl, ?_⟩; have n0_ := Aside0.mk (Kd.S_below (by (with_reducible repeat (fail)); exact HO554.out) hb); have n1_ := Aside0.mk (Kd.R_below (by (with_reducible repeat (fail)); exact HO557.out) hb); have n2_ := Aside0.mk (Kd.S_below (by (with_reducible repeat (fail)); exact HO560.out) hb); have n3_ := Aside0.mk (blk_below (g := gb549) (o := .cells #[.slice A0_0 l0_0.length c0_0, .slice A0_1 l0_1.length c0_1, .slice A0_2 l0_2.length c0_2] 25 (0, 0)) (by (with_reducible repeat (fail)); exact BK549.out) hb); have n4_ := Aside0.mk (blk_below (g := gb562) (o := .cells #[.slice Ao130 t552.length co130, .slice Ao133 t555.length co133, .slice Ao134 t558.length co134] 25 (0, 0)) (by (with_reducible repeat (fail)); exact BK562.out) hb); have n5_ := Aside0.mk (below_step (by repeat ((with_reducible exact HB.out))) hb); clear HO554; clear HO557; clear HO560; clear BK549; clear BK562; clear HB; have HO554 := n0_; have HO557 := n1_; have HO560 := n2_; have BK549 := n3_; have BK562 := n4_; have HB := n5_; clear n0_ n1_ n2_ n3_ n4_ n5_; (try clear hb); have hcz139_0 : w138.cell? ⟨gb562, 0, none⟩ = some (.slice Ao130 t552.length co130) := (blk_cell BK562.out 0).trans rfl; have hcz139_1 : w138.cell? ⟨gb562, 1, none⟩ = some (.slice Ao133 t555.length co133) := (blk_cell BK562.out 1).trans rfl; have hcz139_2 : w138.cell? ⟨gb562, 2, none⟩ = some (.slice Ao134 t558.length co134) := (blk_cell BK562.out 2).trans rfl; have hfz139_0 := blk_frozen BK562.out 0; have hfz139_1 := blk_frozen BK562.out 1; have hfz139_2 := blk_frozen BK562.out 2) | (go_at_call 22; (refine (codewrightref35_Same.calls kj1 _ _ t552 _ _ t555 _ _ t558 _ _ ([] : List (S46)) _ _ ([] : List (List (S46))) _ _ ([] : List (S46)) t565 _ ?side1 ?side2 ?side3 ?side4 ?side5 ?side6 ?side7 ?side8 ?side9 ?side10 ?side11 ?side12 A126.out).mono ?_); (case side1 => exact (Kd.S_reads' HO554.out).2.2); (case side2 => exact (Kd.S_reads' HO554.out).2.1); (case side3 => exact (Kd.R_reads' HO557.out).2.2); (case side4 => exact (Kd.R_reads' HO557.out).2.1); (case side5 => exact (Kd.S_reads' HO560.out).2.2); (case side6 => exact (Kd.S_reads' HO560.out).2.1); (case side7 => exact Kd.C_nil _ _); (case side8 => exact Nat.le_refl _); (case side9 => exact Kd.C_nil _ _); (case side10 => exact Nat.le_refl _); (case side11 => exact Kd.C_nil _ _); (case side12 => exact Nat.le_refl _); rintro e w140 ⟨rfl, hb⟩; have n0_ := Aside0.mk (Kd.S_below (by (with_reducible repeat (fail)); exact HO554.out) hb); have n1_ := Aside0.mk (Kd.R_below (by (with_reducible repeat (fail)); exact HO557.out) hb); have n2_ := Aside0.mk (Kd.S_below (by (with_reducible repeat (fail)); exact HO560.out) hb); have n3_ := Aside0.mk (blk_below (g := gb549) (o := .cells #[.slice A0_0 l0_0.length c0_0, .slice A0_1 l0_1.length c0_1, .slice A0_2 l0_2.length c0_2] 25 (0, 0)) (by (with_reducible repeat (fail)); exact BK549.out) hb); have n4_ := Aside0.mk (blk_below (g := gb562) (o := .cells #[.slice Ao130 t552.length co130, .slice Ao133 t555.length co133, .slice Ao134 t558.length co134] 25 (0, 0)) (by (with_reducible repeat (fail)); exact BK562.out) hb); have n5_ := Aside0.mk (below_step (by repeat ((with_reducible exact HB.out))) hb); clear HO554; clear HO557; clear HO560; clear BK549; clear BK562; clear HB; have HO554 := n0_; have HO557 := n1_; have HO560 := n2_; have BK549 := n3_; have BK562 := n4_; have HB := n5_; clear n0_ n1_ n2_ n3_ n4_ n5_; (try clear hb)))
            go_ret
            exact ⟨by rfl, by repeat ((with_reducible exact HB.out))⟩
          · rw [if_neg c125] at H
            have c125b0 : (t561 == t564) = false := beq_eq_false_iff_ne.mpr c125
            have c125b1 : (t561 != t564) = true := bne_iff_ne.mpr c125
            obtain rfl := Option.some.inj H
            have hcz141_0 : wc.cell? ⟨gb549, 0, none⟩ = some (.slice A0_0 l0_0.length c0_0) := (blk_cell BK549.out 0).trans rfl
            have hcz141_1 : wc.cell? ⟨gb549, 1, none⟩ = some (.slice A0_1 l0_1.length c0_1) := (blk_cell BK549.out 1).trans rfl
            have hcz141_2 : wc.cell? ⟨gb549, 2, none⟩ = some (.slice A0_2 l0_2.length c0_2) := (blk_cell BK549.out 2).trans rfl
            have hfz141_0 := blk_frozen BK549.out 0
            have hfz141_1 := blk_frozen BK549.out 1
            have hfz141_2 := blk_frozen BK549.out 2
            go_wp2_with (first | ((with_reducible refine gate_callee (f := 21) rfl ?_); refine goesL_ (some 17) rfl rfl Try.func21 (by kernel_rfl) rfl #[.agg #[.slice A0_0 l0_0.length c0_0, .slice A0_1 l0_1.length c0_1, .slice A0_2 l0_2.length c0_2]] rfl (by (try simp only [List.map_toArray, List.map_cons, List.map_nil]); rfl) ?_; (with_reducible refine (simplex_Dual.calls kj1 _ _ l0_0 _ _ l0_1 _ _ l0_2 t552 t555 t558 t561 _ ?side1 ?side2 ?side3 ?side4 ?side5 ?side6 A14.out).mono ?_); (case side1 => repeat (exact (Kd.C_below HR0_0.out HB.out))); (case side2 => exact HC0_0.out); (case side3 => repeat (exact (Kd.C_below HR0_1.out HB.out))); (case side4 => exact HC0_1.out); (case side5 => repeat (exact (Kd.C_below HR0_2.out HB.out))); (case side6 => exact HC0_2.out); rintro e w142 ⟨v553, v556, v559, rfl, ho0, ho1, ho2, hb⟩; refine ⟨_, rfl, ?_⟩; have n0_ := Aside0.mk (Kd.S_lower ho0 (below_size (by repeat ((with_reducible exact HB.out))))); have n1_ := Aside0.mk (Kd.R_lower ho1 (below_size (by repeat ((with_reducible exact HB.out))))); have n2_ := Aside0.mk (Kd.S_lower ho2 (below_size (by repeat ((with_reducible exact HB.out))))); have n3_ := Aside0.mk (blk_below (g := gb549) (o := .cells #[.slice A0_0 l0_0.length c0_0, .slice A0_1 l0_1.length c0_1, .slice A0_2 l0_2.length c0_2] 25 (0, 0)) (by (with_reducible repeat (fail)); exact BK549.out) hb); have n4_ := Aside0.mk (below_step (by repeat ((with_reducible exact HB.out))) hb); clear BK549; clear HB; have HO554 := n0_; have HO557 := n1_; have HO560 := n2_; have BK549 := n3_; have HB := n4_; clear n0_ n1_ n2_ n3_ n4_; (try clear hb); (try clear ho0); (try clear ho1); (try clear ho2)) | ((with_reducible refine gate_dst (N := 3) rfl ?_); refine box_event ?hg (N := 3) ?hd (cs := #[.slice none 0 0, .slice none 0 0, .slice none 0 0]) (t := 25) ?hr ?_; (case hd => rfl); (case hg => rfl); (case hr => (go_simp; done)); intro gb562 hg w143 hbox hb; have n0_ := Aside0.mk (Kd.S_below (by (with_reducible repeat (fail)); exact HO554.out) hb); have n1_ := Aside0.mk (Kd.R_below (by (with_reducible repeat (fail)); exact HO557.out) hb); have n2_ := Aside0.mk (Kd.S_below (by (with_reducible repeat (fail)); exact HO560.out) hb); have n3_ := Aside0.mk (blk_below (g := gb549) (o := .cells #[.slice A0_0 l0_0.length c0_0, .slice A0_1 l0_1.length c0_1, .slice A0_2 l0_2.length c0_2] 25 (0, 0)) (by (with_reducible repeat (fail)); exact BK549.out) hb); have n4_ := Aside0.mk (below_step (by repeat ((with_reducible exact HB.out))) hb); have n5_ := Aside0.mk (hbox); have n6_ := Aside0.mk ((by rw [hg]; exact (below_size (by repeat ((with_reducible exact HB.out)))) : w.heap.size ≤ gb562)); have n7_ := Aside0.mk ((by rw [hg]; exact (below_size (by repeat ((with_reducible exact HB.out)))) : w.heap.size ≤ gb562)); have n8_ := Aside0.mk ((by rw [hg]; exact Nat.ne_of_lt (blk_lt (g := gb549) (o := .cells #[.slice A0_0 l0_0.length c0_0, .slice A0_1 l0_1.length c0_1, .slice A0_2 l0_2.length c0_2] 25 (0, 0)) (by (with_reducible repeat (fail)); exact BK549.out)) : gb549 ≠ gb562)); have n9_ := Aside0.mk ((by rw [hg]; exact Nat.ne_of_gt (blk_lt (g := gb549) (o := .cells #[.slice A0_0 l0_0.length c0_0, .slice A0_1 l0_1.length c0_1, .slice A0_2 l0_2.length c0_2] 25 (0, 0)) (by (with_reducible repeat (fail)); exact BK549.out)) : gb562 ≠ gb549)); clear HO554; clear HO557; clear HO560; clear BK549; clear HB; have HO554 := n0_; have HO557 := n1_; have HO560 := n2_; have BK549 := n3_; have HB := n4_; have BK562 := n5_; have GW562 := n6_; have GE562 := n7_; have NB549_562 := n8_; have NB562_549 := n9_; clear n0_ n1_ n2_ n3_ n4_ n5_ n6_ n7_ n8_ n9_; clear hb hbox hg; obtain ⟨Ao144, co144, eo144⟩ := Kd.S_slice HO554.out; subst eo144; have hnb145 := NB562_549.out; have hnc145 := NB549_562.out; have hcz146_0 : w143.cell? ⟨gb562, 0, none⟩ = some (.slice none 0 0) := (blk_cell BK562.out 0).trans rfl; have hcz146_1 : w143.cell? ⟨gb562, 1, none⟩ = some (.slice none 0 0) := (blk_cell BK562.out 1).trans rfl; have hcz146_2 : w143.cell? ⟨gb562, 2, none⟩ = some (.slice none 0 0) := (blk_cell BK562.out 2).trans rfl; have hfz146_0 := blk_frozen BK562.out 0; have hfz146_1 := blk_frozen BK562.out 1; have hfz146_2 := blk_frozen BK562.out 2; obtain ⟨Ao147, co147, eo147⟩ := Kd.R_slice HO557.out; subst eo147; obtain ⟨Ao148, co148, eo148⟩ := Kd.S_slice HO560.out; subst eo148; have hcz149_0 : w143.cell? ⟨gb549, 0, none⟩ = some (.slice A0_0 l0_0.length c0_0) := (blk_cell BK549.out 0).trans rfl; have hcz149_1 : w143.cell? ⟨gb549, 1, none⟩ = some (.slice A0_1 l0_1.length c0_1) := (blk_cell BK549.out 1).trans rfl; have hcz149_2 : w143.cell? ⟨gb549, 2, none⟩ = some (.slice A0_2 l0_2.length c0_2) := (blk_cell BK549.out 2).trans rfl; have hfz149_0 := blk_frozen BK549.out 0; have hfz149_1 := blk_frozen BK549.out 1; have hfz149_2 := blk_frozen BK549.out 2) | ((with_reducible refine gate_callee (f := 19) rfl ?_); refine goesL_ (some 21) rfl rfl Try.func19 (by kernel_rfl) rfl #[.agg #[.slice A0_0 l0_0.length c0_0, .slice A0_1 l0_1.length c0_1, .slice A0_2 l0_2.length c0_2]] rfl (by (try simp only [List.map_toArray, List.map_cons, List.map_nil]); rfl) ?_; (with_reducible refine (codewrightref35_Check.calls kj1 _ _ l0_0 _ _ l0_1 _ _ l0_2 t563 _ ?side1 ?side2 ?side3 ?side4 ?side5 ?side6 A15.out).mono ?_); (case side1 => exact Kd.C_below HR0_0.out (by repeat ((with_reducible first | exact HB.out | refine below_set ?_ GE562.out)))); (case side2 => exact HC0_0.out); (case side3 => exact Kd.C_below HR0_1.out (by repeat ((with_reducible first | exact HB.out | refine below_set ?_ GE562.out)))); (case side4 => exact HC0_1.out); (case side5 => exact Kd.C_below HR0_2.out (by repeat ((with_reducible first | exact HB.out | refine below_set ?_ GE562.out)))); (case side6 => exact HC0_2.out); rintro e w150 ⟨rfl, hb⟩; refine ⟨_, rfl, ?_⟩; have n0_ := Aside0.mk (Kd.S_below (by (with_reducible repeat (fail)); exact (Kd.S_mono (Kd.S_far (p := ⟨gb562, 2, none⟩) (Kd.S_far (p := ⟨gb562, 1, none⟩) (Kd.S_far (p := ⟨gb562, 0, none⟩) (Kd.S_types HO554.out BK562.out (by decide)) (fun _ hk => hk.2) (.slice Ao144 t552.length co144)) (fun _ hk => hk.2) (.slice Ao147 t555.length co147)) (fun _ hk => hk.2) (.slice Ao148 t558.length co148)) (fun _ h_ => h_.1))) hb); have n1_ := Aside0.mk (Kd.R_below (by (with_reducible repeat (fail)); exact (Kd.R_mono (Kd.R_far (p := ⟨gb562, 2, none⟩) (Kd.R_far (p := ⟨gb562, 1, none⟩) (Kd.R_far (p := ⟨gb562, 0, none⟩) (Kd.R_types HO557.out BK562.out (by decide)) (fun _ hk => hk.2) (.slice Ao144 t552.length co144)) (fun _ hk => hk.2) (.slice Ao147 t555.length co147)) (fun _ hk => hk.2) (.slice Ao148 t558.length co148)) (fun _ h_ => h_.1))) hb); have n2_ := Aside0.mk (Kd.S_below (by (with_reducible repeat (fail)); exact (Kd.S_mono (Kd.S_far (p := ⟨gb562, 2, none⟩) (Kd.S_far (p := ⟨gb562, 1, none⟩) (Kd.S_far (p := ⟨gb562, 0, none⟩) (Kd.S_types HO560.out BK562.out (by decide)) (fun _ hk => hk.2) (.slice Ao144 t552.length co144)) (fun _ hk => hk.2) (.slice Ao147 t555.length co147)) (fun _ hk => hk.2) (.slice Ao148 t558.length co148)) (fun _ h_ => h_.1))) hb); have n3_ := Aside0.mk (blk_below (g := gb549) (o := .cells #[.slice A0_0 l0_0.length c0_0, .slice A0_1 l0_1.length c0_1, .slice A0_2 l0_2.length c0_2] 25 (0, 0)) (by (with_reducible repeat (fail)); refine blk_far ?_ NB549_562.out _; (with_reducible repeat (fail)); refine blk_far ?_ NB549_562.out _; (with_reducible repeat (fail)); refine blk_far ?_ NB549_562.out _; (with_reducible repeat (fail)); exact BK549.out) hb); have n4_ := Aside0.mk (blk_below (g := gb562) (o := .cells #[.slice Ao144 t552.length co144, .slice Ao147 t555.length co147, .slice Ao148 t558.length co148] 25 (0, 0)) (by (with_reducible repeat (fail)); refine blk_put (cs := #[.slice Ao144 t552.length co144, .slice Ao147 t555.length co147, .slice none 0 0]) ?_ 2 _ rfl; (with_reducible repeat (fail)); refine blk_put (cs := #[.slice Ao144 t552.length co144, .slice none 0 0, .slice none 0 0]) ?_ 1 _ rfl; (with_reducible repeat (fail)); refine blk_put (cs := #[.slice none 0 0, .slice none 0 0, .slice none 0 0]) ?_ 0 _ rfl; (with_reducible repeat (fail)); exact BK562.out) hb); have n5_ := Aside0.mk (below_step (by repeat ((with_reducible first | exact HB.out | refine below_set ?_ GE562.out))) hb); clear HO554; clear HO557; clear HO560; clear BK549; clear BK562; clear HB; have HO554 := n0_; have HO557 := n1_; have HO560 := n2_; have BK549 := n3_; have BK562 := n4_; have HB := n5_; clear n0_ n1_ n2_ n3_ n4_ n5_; (try clear hb); have hcz151_0 : w150.cell? ⟨gb549, 0, none⟩ = some (.slice A0_0 l0_0.length c0_0) := (blk_cell BK549.out 0).trans rfl; have hcz151_1 : w150.cell? ⟨gb549, 1, none⟩ = some (.slice A0_1 l0_1.length c0_1) := (blk_cell BK549.out 1).trans rfl; have hcz151_2 : w150.cell? ⟨gb549, 2, none⟩ = some (.slice A0_2 l0_2.length c0_2) := (blk_cell BK549.out 2).trans rfl; have hfz151_0 := blk_frozen BK549.out 0; have hfz151_1 := blk_frozen BK549.out 1; have hfz151_2 := blk_frozen BK549.out 2) | ((with_reducible refine gate_callee (f := 19) rfl ?_); refine goesL_ (some 25) rfl rfl Try.func19 (by kernel_rfl) rfl #[.agg #[.slice A0_0 l0_0.length c0_0, .slice A0_1 l0_1.length c0_1, .slice A0_2 l0_2.length c0_2]] rfl (by (try simp only [List.map_toArray, List.map_cons, List.map_nil]); rfl) ?_; (with_reducible refine (codewrightref35_Check.calls kj1 _ _ l0_0 _ _ l0_1 _ _ l0_2 t564 _ ?side1 ?side2 ?side3 ?side4 ?side5 ?side6 A124.out).mono ?_); (case side1 => repeat (exact (Kd.C_below HR0_0.out HB.out))); (case side2 => exact HC0_0.out); (case side3 => repeat (exact (Kd.C_below HR0_1.out HB.out))); (case side4 => exact HC0_1.out); (case side5 => repeat (exact (Kd.C_below HR0_2.out HB.out))); (case side6 => exact HC0_2.out); rintro e w152 ⟨rfl, hb⟩; refine ⟨_, rfl, ?_⟩; have n0_ := Aside0.mk (Kd.S_below (by (with_reducible repeat (fail)); exact HO554.out) hb); have n1_ := Aside0.mk (Kd.R_below (by (with_reducible repeat (fail)); exact HO557.out) hb); have n2_ := Aside0.mk (Kd.S_below (by (with_reducible repeat (fail)); exact HO560.out) hb); have n3_ := Aside0.mk (blk_below (g := gb549) (o := .cells #[.slice A0_0 l0_0.length c0_0, .slice A0_1 l0_1.length c0_1, .slice A0_2 l0_2.length c0_2] 25 (0, 0)) (by (with_reducible repeat (fail)); exact BK549.out) hb); have n4_ := Aside0.mk (blk_below (g := gb562) (o := .cells #[.slice Ao144 t552.length co144, .slice Ao147 t555.length co147, .slice Ao148 t558.length co148] 25 (0, 0)) (by (with_reducible repeat (fail)); exact BK562.out) hb); have n5_ := Aside0.mk (below_step (by repeat ((with_reducible exact HB.out))) hb); clear HO554; clear HO557; clear HO560; clear BK549; clear BK562; clear HB; have HO554 := n0_; have HO557 := n1_; have HO560 := n2_; have BK549 := n3_; have BK562 := n4_; have HB := n5_; clear n0_ n1_ n2_ n3_ n4_ n5_; (try clear hb)))
            go_ret
            exact ⟨by rfl, by repeat ((with_reducible exact HB.out))⟩
end Go.Proofs.Ythheakfgmombdaa.F
end
