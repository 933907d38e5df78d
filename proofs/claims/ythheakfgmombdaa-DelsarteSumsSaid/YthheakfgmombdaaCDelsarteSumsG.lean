import Derived.Test.YthheakfgmombdaaCDelsarteSumsF
/- Part G of the proof: FRef02Add. -/
section
namespace Go.Proofs.Ythheakfgmombdaa.F
open Go.RowKit Go.Proofs.YthheakfgmombdaaX.PrintWords Go.Proofs.YthheakfgmombdaaX.PrintLast Go.Proofs.YthheakfgmombdaaX.PrintMore
attribute [local go_sem] max2_int min2_int max_two min_two max_three min_three max_four min_four   -- for this text's walks alone
set_option linter.unusedVariables false
set_option linter.unusedSimpArgs false
def codewrightref02_Add.T7 : Bool × List (List Nat × List Nat) := (true, [([], []), ([0], [0]), ([], []), ([], []), ([2, 3], [2, 3]), ([], []), ([1, 4, 5, 4], [1, 4, 5]), ([6, 6, 0, 1, 2, 3, 4, 5, 6], [6])])
def codewrightref02_Add.B7 : List Nat := [0, 1, 0, 0, 12, 0, 63, 127]
theorem codewrightref02_Add.tab7 : rtab .any (opsOf Try.f33 7) = codewrightref02_Add.T7 := by kernel_rfl
theorem codewrightref02_Add.bits7 : waitsOk codewrightref02_Add.T7.2 codewrightref02_Add.B7 = true := by kernel_rfl
def codewrightref02_Add.T9 : Bool × List (List Nat × List Nat) := (true, [([], []), ([0], [0]), ([], []), ([], []), ([2, 3], [2, 3]), ([], []), ([1, 4, 5, 4], [1, 4, 5]), ([6, 6, 0, 1, 2, 3, 4, 5, 6], [6])])
def codewrightref02_Add.B9 : List Nat := [0, 1, 0, 0, 12, 0, 63, 127]
theorem codewrightref02_Add.tab9 : rtab .any (opsOf Try.f33 9) = codewrightref02_Add.T9 := by kernel_rfl
theorem codewrightref02_Add.bits9 : waitsOk codewrightref02_Add.T9.2 codewrightref02_Add.B9 = true := by kernel_rfl
def codewrightref02_Add.T10 : Bool × List (List Nat × List Nat) := (true, [([], []), ([0], [0]), ([], []), ([], []), ([2, 3], [2, 3]), ([], []), ([1, 4, 5, 4], [1, 4, 5]), ([6, 6, 0, 1, 2, 3, 4, 5, 6], [6])])
def codewrightref02_Add.B10 : List Nat := [0, 1, 0, 0, 12, 0, 63, 127]
theorem codewrightref02_Add.tab10 : rtab .any (opsOf Try.f33 10) = codewrightref02_Add.T10 := by kernel_rfl
theorem codewrightref02_Add.bits10 : waitsOk codewrightref02_Add.T10.2 codewrightref02_Add.B10 = true := by kernel_rfl
set_option maxHeartbeats 8000000 in
set_option maxRecDepth 100000 in
theorem codewrightref02_Add.calls (k : Nat) (a0_0 : Bool) (A0_1 : Option Addr) (c0_1 : Nat) (l0_1 : List Int) (A0_2 : Option Addr) (c0_2 : Nat) (l0_2 : List Int) (a1_0 : Bool) (A1_1 : Option Addr) (c1_1 : Nat) (l1_1 : List Int) (A1_2 : Option Addr) (c1_2 : Nat) (l1_2 : List Int) (r1 : Bool) (r2 : List Int) (r3 : List Int) (w : World) (hr0_1 : Kd.C (Kd.int .u32) w A0_1 l0_1.length l0_1) (hc0_1 : l0_1.length ≤ c0_1) (hr0_2 : Kd.C (Kd.int .u32) w A0_2 l0_2.length l0_2) (hc0_2 : l0_2.length ≤ c0_2) (hr1_1 : Kd.C (Kd.int .u32) w A1_1 l1_1.length l1_1) (hc1_1 : l1_1.length ≤ c1_1) (hr1_2 : Kd.C (Kd.int .u32) w A1_2 l1_2.length l1_2) (hc1_2 : l1_2.length ≤ c1_2) (h : codewrightref02_Add.f k a0_0 l0_1 l0_2 a1_0 l1_1 l1_2 = some (r1, r2, r3)) :
  Calls Try.prog 33 #[.agg #[.bool a0_0, .slice A0_1 l0_1.length c0_1, .slice A0_2 l0_2.length c0_2], .agg #[.bool a1_0, .slice A1_1 l1_1.length c1_1, .slice A1_2 l1_2.length c1_2]] w fun e w' => ∃ v1_ v2_ : Value, e = .returned (.agg #[.bool r1, v1_, v2_]) ∧ Kd.R (Kd.int .u32) 100 w' w.heap.size (fun k_ => some k_ ≠ (v2_ : Value).ownBlock) v1_ r2 ∧ Kd.R (Kd.int .u32) 100 w' w.heap.size (fun k_ => some k_ ≠ (v1_ : Value).ownBlock) v2_ r3 ∧ Below w.heap.size w w' := by
 have hu46 := Try.underlying46
 have HR0_1 := Aside0.mk hr0_1
 have HC0_1 := Aside0.mk hc0_1
 clear hr0_1 hc0_1
 have HR0_2 := Aside0.mk hr0_2
 have HC0_2 := Aside0.mk hc0_2
 clear hr0_2 hc0_2
 have HR1_1 := Aside0.mk hr1_1
 have HC1_1 := Aside0.mk hc1_1
 clear hr1_1 hc1_1
 have HR1_2 := Aside0.mk hr1_2
 have HC1_2 := Aside0.mk hc1_2
 clear hr1_2 hc1_2
 have HB := Aside0.mk (Below.refl w.heap.size w)
 have H : ((codewrightref02_Trim.f k a0_0 l0_1 l0_2).bind fun bt482 => ((codewrightref02_Trim.f k a1_0 l1_1 l1_2).bind fun bt489 => ((codewrightref01_Mul.f k bt482.2.1 bt489.2.2).bind fun t496 => ((codewrightref01_Mul.f k bt489.2.1 bt482.2.2).bind fun t499 => ((codewrightref01_Mul.f k bt482.2.2 bt489.2.2).bind fun t502 => (if (bt482.1 == bt489.1) = true then ((codewrightref01_Add.f k t496 t499).bind fun t505 => ((codewrightref02_Make.f k bt482.1 t505 t502).bind fun bt508 => (some (bt508.1, bt508.2.1, bt508.2.2)))) else ((codewrightref01_Cmp.f k t496 t499).bind fun t515 => (if t515 ≥ 0 then ((codewrightref01_Sub.f k t496 t499).bind fun t516 => ((codewrightref02_Make.f k bt482.1 t516 t502).bind fun bt519 => (some (bt519.1, bt519.2.1, bt519.2.2)))) else ((codewrightref01_Sub.f k t499 t496).bind fun t526 => ((codewrightref02_Make.f k bt489.1 t526 t502).bind fun bt529 => (some (bt529.1, bt529.2.1, bt529.2.2)))))))))))) = some (r1, r2, r3) := h
 clear h
 replace H := Option.bind_eq_some_iff.mp H
 obtain ⟨⟨t482, t483, t486⟩, A30, H⟩ := H
 replace H : ((codewrightref02_Trim.f k a1_0 l1_1 l1_2).bind fun bt489 => ((codewrightref01_Mul.f k t483 bt489.2.2).bind fun t496 => ((codewrightref01_Mul.f k bt489.2.1 t486).bind fun t499 => ((codewrightref01_Mul.f k t486 bt489.2.2).bind fun t502 => (if (t482 == bt489.1) = true then ((codewrightref01_Add.f k t496 t499).bind fun t505 => ((codewrightref02_Make.f k t482 t505 t502).bind fun bt508 => (some (bt508.1, bt508.2.1, bt508.2.2)))) else ((codewrightref01_Cmp.f k t496 t499).bind fun t515 => (if t515 ≥ 0 then ((codewrightref01_Sub.f k t496 t499).bind fun t516 => ((codewrightref02_Make.f k t482 t516 t502).bind fun bt519 => (some (bt519.1, bt519.2.1, bt519.2.2)))) else ((codewrightref01_Sub.f k t499 t496).bind fun t526 => ((codewrightref02_Make.f k bt489.1 t526 t502).bind fun bt529 => (some (bt529.1, bt529.2.1, bt529.2.2))))))))))) = some (r1, r2, r3) := H
 have A3 := Aside0.mk A30
 clear A30
 replace H := Option.bind_eq_some_iff.mp H
 obtain ⟨⟨t489, t490, t493⟩, A40, H⟩ := H
 replace H : ((codewrightref01_Mul.f k t483 t493).bind fun t496 => ((codewrightref01_Mul.f k t490 t486).bind fun t499 => ((codewrightref01_Mul.f k t486 t493).bind fun t502 => (if (t482 == t489) = true then ((codewrightref01_Add.f k t496 t499).bind fun t505 => ((codewrightref02_Make.f k t482 t505 t502).bind fun bt508 => (some (bt508.1, bt508.2.1, bt508.2.2)))) else ((codewrightref01_Cmp.f k t496 t499).bind fun t515 => (if t515 ≥ 0 then ((codewrightref01_Sub.f k t496 t499).bind fun t516 => ((codewrightref02_Make.f k t482 t516 t502).bind fun bt519 => (some (bt519.1, bt519.2.1, bt519.2.2)))) else ((codewrightref01_Sub.f k t499 t496).bind fun t526 => ((codewrightref02_Make.f k t489 t526 t502).bind fun bt529 => (some (bt529.1, bt529.2.1, bt529.2.2)))))))))) = some (r1, r2, r3) := H
 have A4 := Aside0.mk A40
 clear A40
 replace H := Option.bind_eq_some_iff.mp H
 obtain ⟨t496, A50, H⟩ := H
 replace H : ((codewrightref01_Mul.f k t490 t486).bind fun t499 => ((codewrightref01_Mul.f k t486 t493).bind fun t502 => (if (t482 == t489) = true then ((codewrightref01_Add.f k t496 t499).bind fun t505 => ((codewrightref02_Make.f k t482 t505 t502).bind fun bt508 => (some (bt508.1, bt508.2.1, bt508.2.2)))) else ((codewrightref01_Cmp.f k t496 t499).bind fun t515 => (if t515 ≥ 0 then ((codewrightref01_Sub.f k t496 t499).bind fun t516 => ((codewrightref02_Make.f k t482 t516 t502).bind fun bt519 => (some (bt519.1, bt519.2.1, bt519.2.2)))) else ((codewrightref01_Sub.f k t499 t496).bind fun t526 => ((codewrightref02_Make.f k t489 t526 t502).bind fun bt529 => (some (bt529.1, bt529.2.1, bt529.2.2))))))))) = some (r1, r2, r3) := H
 have A5 := Aside0.mk A50
 clear A50
 replace H := Option.bind_eq_some_iff.mp H
 obtain ⟨t499, A60, H⟩ := H
 replace H : ((codewrightref01_Mul.f k t486 t493).bind fun t502 => (if (t482 == t489) = true then ((codewrightref01_Add.f k t496 t499).bind fun t505 => ((codewrightref02_Make.f k t482 t505 t502).bind fun bt508 => (some (bt508.1, bt508.2.1, bt508.2.2)))) else ((codewrightref01_Cmp.f k t496 t499).bind fun t515 => (if t515 ≥ 0 then ((codewrightref01_Sub.f k t496 t499).bind fun t516 => ((codewrightref02_Make.f k t482 t516 t502).bind fun bt519 => (some (bt519.1, bt519.2.1, bt519.2.2)))) else ((codewrightref01_Sub.f k t499 t496).bind fun t526 => ((codewrightref02_Make.f k t489 t526 t502).bind fun bt529 => (some (bt529.1, bt529.2.1, bt529.2.2)))))))) = some (r1, r2, r3) := H
 have A6 := Aside0.mk A60
 clear A60
 replace H := Option.bind_eq_some_iff.mp H
 obtain ⟨t502, A70, H⟩ := H
 replace H : (if (t482 == t489) = true then ((codewrightref01_Add.f k t496 t499).bind fun t505 => ((codewrightref02_Make.f k t482 t505 t502).bind fun bt508 => (some (bt508.1, bt508.2.1, bt508.2.2)))) else ((codewrightref01_Cmp.f k t496 t499).bind fun t515 => (if t515 ≥ 0 then ((codewrightref01_Sub.f k t496 t499).bind fun t516 => ((codewrightref02_Make.f k t482 t516 t502).bind fun bt519 => (some (bt519.1, bt519.2.1, bt519.2.2)))) else ((codewrightref01_Sub.f k t499 t496).bind fun t526 => ((codewrightref02_Make.f k t489 t526 t502).bind fun bt529 => (some (bt529.1, bt529.2.1, bt529.2.2))))))) = some (r1, r2, r3) := H
 have A7 := Aside0.mk A70
 clear A70
 by_cases c8 : (t482 == t489) = true
 ·rw [if_pos c8] at H
  have c8b0 : (t482 == t489) = true := c8
  (try (have c8b1 : decide (t482 = t489) = true := by simpa using c8))
  (try (have c8b2 : (t482 == t489) = true := by simpa using c8))
  clear c8
  replace H := Option.bind_eq_some_iff.mp H
  obtain ⟨t505, A90, H⟩ := H
  replace H : ((codewrightref02_Make.f k t482 t505 t502).bind fun bt508 => (some (bt508.1, bt508.2.1, bt508.2.2))) = some (r1, r2, r3) := H
  have A9 := Aside0.mk A90
  clear A90
  replace H := Option.bind_eq_some_iff.mp H
  obtain ⟨⟨t508, t509, t512⟩, A100, H⟩ := H
  replace H : (some (t508, t509, t512)) = some (r1, r2, r3) := H
  have A10 := Aside0.mk A100
  clear A100
  simp only [Option.some.injEq, Prod.mk.injEq] at H
  obtain ⟨rfl, rfl, rfl⟩ := H
  go_enter Try.func33, Try.ntmps33
  try go_wp2_with (first | ((with_reducible refine gate_dst (N := 2) rfl ?_); refine box_event ?hg (N := 2) ?hd (cs := #[.bool a0_0, .slice A0_1 l0_1.length c0_1, .slice A0_2 l0_2.length c0_2]) (t := 46) ?hr ?_; (case hd => rfl); (case hg => rfl); (case hr => (go_simp; done)); intro gb479 hg w11 hbox hb; have n0_ := Aside0.mk (below_step (by repeat ((with_reducible exact HB.out))) hb); have n1_ := Aside0.mk (hbox); have n2_ := Aside0.mk ((by rw [hg]; exact (below_size (by repeat ((with_reducible exact HB.out)))) : w.heap.size ≤ gb479)); have n3_ := Aside0.mk ((by rw [hg]; exact (below_size (by repeat ((with_reducible exact HB.out)))) : w.heap.size ≤ gb479)); clear HB; have HB := n0_; have BK479 := n1_; have GW479 := n2_; have GE479 := n3_; clear n0_ n1_ n2_ n3_; clear hb hbox hg) | ((with_reducible refine gate_dst (N := 3) rfl ?_); refine box_event ?hg (N := 3) ?hd (cs := #[.bool a1_0, .slice A1_1 l1_1.length c1_1, .slice A1_2 l1_2.length c1_2]) (t := 46) ?hr ?_; (case hd => rfl); (case hg => rfl); (case hr => (go_simp; done)); intro gb480 hg w12 hbox hb; have n0_ := Aside0.mk (blk_below (g := gb479) (o := .cells #[.bool a0_0, .slice A0_1 l0_1.length c0_1, .slice A0_2 l0_2.length c0_2] 46 (0, 0)) (by (with_reducible repeat (fail)); exact BK479.out) hb); have n1_ := Aside0.mk (below_step (by repeat ((with_reducible exact HB.out))) hb); have n2_ := Aside0.mk (hbox); have n3_ := Aside0.mk ((by rw [hg]; exact (below_size (by repeat ((with_reducible exact HB.out)))) : w.heap.size ≤ gb480)); have n4_ := Aside0.mk ((by rw [hg]; exact (below_size (by repeat ((with_reducible exact HB.out)))) : w.heap.size ≤ gb480)); have n5_ := Aside0.mk ((by rw [hg]; exact Nat.ne_of_lt (blk_lt (g := gb479) (o := .cells #[.bool a0_0, .slice A0_1 l0_1.length c0_1, .slice A0_2 l0_2.length c0_2] 46 (0, 0)) (by (with_reducible repeat (fail)); exact BK479.out)) : gb479 ≠ gb480)); have n6_ := Aside0.mk ((by rw [hg]; exact Nat.ne_of_gt (blk_lt (g := gb479) (o := .cells #[.bool a0_0, .slice A0_1 l0_1.length c0_1, .slice A0_2 l0_2.length c0_2] 46 (0, 0)) (by (with_reducible repeat (fail)); exact BK479.out)) : gb480 ≠ gb479)); clear BK479; clear HB; have BK479 := n0_; have HB := n1_; have BK480 := n2_; have GW480 := n3_; have GE480 := n4_; have NB479_480 := n5_; have NB480_479 := n6_; clear n0_ n1_ n2_ n3_ n4_ n5_ n6_; clear hb hbox hg) | ((with_reducible refine gate_dst (N := 4) rfl ?_); refine box_event ?hg (N := 4) ?hd (cs := #[.bool false, .slice none 0 0, .slice none 0 0]) (t := 46) ?hr ?_; (case hd => rfl); (case hg => rfl); (case hr => (go_simp; done)); intro gb481 hg w13 hbox hb; have n0_ := Aside0.mk (blk_below (g := gb479) (o := .cells #[.bool a0_0, .slice A0_1 l0_1.length c0_1, .slice A0_2 l0_2.length c0_2] 46 (0, 0)) (by (with_reducible repeat (fail)); exact BK479.out) hb); have n1_ := Aside0.mk (blk_below (g := gb480) (o := .cells #[.bool a1_0, .slice A1_1 l1_1.length c1_1, .slice A1_2 l1_2.length c1_2] 46 (0, 0)) (by (with_reducible repeat (fail)); exact BK480.out) hb); have n2_ := Aside0.mk (below_step (by repeat ((with_reducible exact HB.out))) hb); have n3_ := Aside0.mk (hbox); have n4_ := Aside0.mk ((by rw [hg]; exact (below_size (by repeat ((with_reducible exact HB.out)))) : w.heap.size ≤ gb481)); have n5_ := Aside0.mk ((by rw [hg]; exact (below_size (by repeat ((with_reducible exact HB.out)))) : w.heap.size ≤ gb481)); have n6_ := Aside0.mk ((by rw [hg]; exact Nat.ne_of_lt (blk_lt (g := gb479) (o := .cells #[.bool a0_0, .slice A0_1 l0_1.length c0_1, .slice A0_2 l0_2.length c0_2] 46 (0, 0)) (by (with_reducible repeat (fail)); exact BK479.out)) : gb479 ≠ gb481)); have n7_ := Aside0.mk ((by rw [hg]; exact Nat.ne_of_gt (blk_lt (g := gb479) (o := .cells #[.bool a0_0, .slice A0_1 l0_1.length c0_1, .slice A0_2 l0_2.length c0_2] 46 (0, 0)) (by (with_reducible repeat (fail)); exact BK479.out)) : gb481 ≠ gb479)); have n8_ := Aside0.mk ((by rw [hg]; exact Nat.ne_of_lt (blk_lt (g := gb480) (o := .cells #[.bool a1_0, .slice A1_1 l1_1.length c1_1, .slice A1_2 l1_2.length c1_2] 46 (0, 0)) (by (with_reducible repeat (fail)); exact BK480.out)) : gb480 ≠ gb481)); have n9_ := Aside0.mk ((by rw [hg]; exact Nat.ne_of_gt (blk_lt (g := gb480) (o := .cells #[.bool a1_0, .slice A1_1 l1_1.length c1_1, .slice A1_2 l1_2.length c1_2] 46 (0, 0)) (by (with_reducible repeat (fail)); exact BK480.out)) : gb481 ≠ gb480)); clear BK479; clear BK480; clear HB; have BK479 := n0_; have BK480 := n1_; have HB := n2_; have BK481 := n3_; have GW481 := n4_; have GE481 := n5_; have NB479_481 := n6_; have NB481_479 := n7_; have NB480_481 := n8_; have NB481_480 := n9_; clear n0_ n1_ n2_ n3_ n4_ n5_ n6_ n7_ n8_ n9_; clear hb hbox hg; have hnb14 := NB479_480.out; have hnc14 := NB480_479.out; have hnb15 := NB479_481.out; have hnc15 := NB481_479.out; have hcz16_0 : w13.cell? ⟨gb479, 0, none⟩ = some (.bool a0_0) := (blk_cell BK479.out 0).trans rfl; have hcz16_1 : w13.cell? ⟨gb479, 1, none⟩ = some (.slice A0_1 l0_1.length c0_1) := (blk_cell BK479.out 1).trans rfl; have hcz16_2 : w13.cell? ⟨gb479, 2, none⟩ = some (.slice A0_2 l0_2.length c0_2) := (blk_cell BK479.out 2).trans rfl; have hfz16_0 := blk_frozen BK479.out 0; have hfz16_1 := blk_frozen BK479.out 1; have hfz16_2 := blk_frozen BK479.out 2) | ((with_reducible refine gate_callee (f := 67) rfl ?_); refine goesL_ (some 9) rfl rfl Try.func67 (by kernel_rfl) rfl #[.agg #[.bool a0_0, .slice A0_1 l0_1.length c0_1, .slice A0_2 l0_2.length c0_2]] rfl (by (try simp only [List.map_toArray, List.map_cons, List.map_nil]); rfl) ?_; (with_reducible refine (codewrightref02_Trim.calls k a0_0 _ _ l0_1 _ _ l0_2 t482 t483 t486 _ ?side1 ?side2 ?side3 ?side4 A3.out).mono ?_); (case side1 => repeat (exact (Kd.C_below HR0_1.out HB.out))); (case side2 => exact HC0_1.out); (case side3 => repeat (exact (Kd.C_below HR0_2.out HB.out))); (case side4 => exact HC0_2.out); rintro e w17 ⟨v484, v487, rfl, ho0, ho1, hb⟩; refine ⟨_, rfl, ?_⟩; have n0_ := Aside0.mk (Kd.R_lower ho0 (below_size (by repeat ((with_reducible exact HB.out))))); have n1_ := Aside0.mk (Kd.R_lower ho1 (below_size (by repeat ((with_reducible exact HB.out))))); have n2_ := Aside0.mk (blk_below (g := gb479) (o := .cells #[.bool a0_0, .slice A0_1 l0_1.length c0_1, .slice A0_2 l0_2.length c0_2] 46 (0, 0)) (by (with_reducible repeat (fail)); exact BK479.out) hb); have n3_ := Aside0.mk (blk_below (g := gb480) (o := .cells #[.bool a1_0, .slice A1_1 l1_1.length c1_1, .slice A1_2 l1_2.length c1_2] 46 (0, 0)) (by (with_reducible repeat (fail)); exact BK480.out) hb); have n4_ := Aside0.mk (blk_below (g := gb481) (o := .cells #[.bool false, .slice none 0 0, .slice none 0 0] 46 (0, 0)) (by (with_reducible repeat (fail)); exact BK481.out) hb); have n5_ := Aside0.mk (below_step (by repeat ((with_reducible exact HB.out))) hb); clear BK479; clear BK480; clear BK481; clear HB; have HO485 := n0_; have HO488 := n1_; have BK479 := n2_; have BK480 := n3_; have BK481 := n4_; have HB := n5_; clear n0_ n1_ n2_ n3_ n4_ n5_; (try clear hb); (try clear ho0); (try clear ho1); have hcz18_0 : w17.cell? ⟨gb479, 0, none⟩ = some (.bool a0_0) := (blk_cell BK479.out 0).trans rfl; have hcz18_1 : w17.cell? ⟨gb479, 1, none⟩ = some (.slice A0_1 l0_1.length c0_1) := (blk_cell BK479.out 1).trans rfl; have hcz18_2 : w17.cell? ⟨gb479, 2, none⟩ = some (.slice A0_2 l0_2.length c0_2) := (blk_cell BK479.out 2).trans rfl; have hfz18_0 := blk_frozen BK479.out 0; have hfz18_1 := blk_frozen BK479.out 1; have hfz18_2 := blk_frozen BK479.out 2; obtain ⟨Ao19, co19, eo19⟩ := Kd.R_slice HO485.out; subst eo19; obtain ⟨Ao20, co20, eo20⟩ := Kd.R_slice HO488.out; subst eo20; have hnb21 := NB480_481.out; have hnc21 := NB481_480.out; have hcz22_0 : w17.cell? ⟨gb480, 0, none⟩ = some (.bool a1_0) := (blk_cell BK480.out 0).trans rfl; have hcz22_1 : w17.cell? ⟨gb480, 1, none⟩ = some (.slice A1_1 l1_1.length c1_1) := (blk_cell BK480.out 1).trans rfl; have hcz22_2 : w17.cell? ⟨gb480, 2, none⟩ = some (.slice A1_2 l1_2.length c1_2) := (blk_cell BK480.out 2).trans rfl; have hfz22_0 := blk_frozen BK480.out 0; have hfz22_1 := blk_frozen BK480.out 1; have hfz22_2 := blk_frozen BK480.out 2) | ((with_reducible refine gate_callee (f := 67) rfl ?_); refine goesL_ (some 11) rfl rfl Try.func67 (by kernel_rfl) rfl #[.agg #[.bool a1_0, .slice A1_1 l1_1.length c1_1, .slice A1_2 l1_2.length c1_2]] rfl (by (try simp only [List.map_toArray, List.map_cons, List.map_nil]); rfl) ?_; (with_reducible refine (codewrightref02_Trim.calls k a1_0 _ _ l1_1 _ _ l1_2 t489 t490 t493 _ ?side1 ?side2 ?side3 ?side4 A4.out).mono ?_); (case side1 => exact Kd.C_below HR1_1.out (by repeat ((with_reducible first | exact HB.out | refine below_set ?_ GE479.out)))); (case side2 => exact HC1_1.out); (case side3 => exact Kd.C_below HR1_2.out (by repeat ((with_reducible first | exact HB.out | refine below_set ?_ GE479.out)))); (case side4 => exact HC1_2.out); rintro e w23 ⟨v491, v494, rfl, ho0, ho1, hb⟩; refine ⟨_, rfl, ?_⟩; have n0_ := Aside0.mk (Kd.R_mono (Kd.R_told (Kd.R_told (Kd.R_old (by (with_reducible repeat (fail)); exact (Kd.R_mono (Kd.R_far (p := ⟨gb479, 2, none⟩) (Kd.R_far (p := ⟨gb479, 1, none⟩) (Kd.R_far (p := ⟨gb479, 0, none⟩) (Kd.R_types HO485.out BK479.out (by decide)) (fun _ hk => hk.2) (.bool t482)) (fun _ hk => hk.2) (.slice Ao19 t483.length co19)) (fun _ hk => hk.2) (.slice Ao20 t486.length co20)) (fun _ h_ => h_.1))) hb) (Kd.R_base ho0)) (Kd.R_base ho1)) (fun _ h_ => h_.1)); have n1_ := Aside0.mk (Kd.R_mono (Kd.R_told (Kd.R_told (Kd.R_old (by (with_reducible repeat (fail)); exact (Kd.R_mono (Kd.R_far (p := ⟨gb479, 2, none⟩) (Kd.R_far (p := ⟨gb479, 1, none⟩) (Kd.R_far (p := ⟨gb479, 0, none⟩) (Kd.R_types HO488.out BK479.out (by decide)) (fun _ hk => hk.2) (.bool t482)) (fun _ hk => hk.2) (.slice Ao19 t483.length co19)) (fun _ hk => hk.2) (.slice Ao20 t486.length co20)) (fun _ h_ => h_.1))) hb) (Kd.R_base ho0)) (Kd.R_base ho1)) (fun _ h_ => h_.1)); have n2_ := Aside0.mk (Kd.R_lower (Kd.R_new' (Kd.R_new' ho0 (Kd.R_lt (by (with_reducible repeat (fail)); exact (Kd.R_mono (Kd.R_far (p := ⟨gb479, 2, none⟩) (Kd.R_far (p := ⟨gb479, 1, none⟩) (Kd.R_far (p := ⟨gb479, 0, none⟩) (Kd.R_types HO485.out BK479.out (by decide)) (fun _ hk => hk.2) (.bool t482)) (fun _ hk => hk.2) (.slice Ao19 t483.length co19)) (fun _ hk => hk.2) (.slice Ao20 t486.length co20)) (fun _ h_ => h_.1))))) (Kd.R_lt (by (with_reducible repeat (fail)); exact (Kd.R_mono (Kd.R_far (p := ⟨gb479, 2, none⟩) (Kd.R_far (p := ⟨gb479, 1, none⟩) (Kd.R_far (p := ⟨gb479, 0, none⟩) (Kd.R_types HO488.out BK479.out (by decide)) (fun _ hk => hk.2) (.bool t482)) (fun _ hk => hk.2) (.slice Ao19 t483.length co19)) (fun _ hk => hk.2) (.slice Ao20 t486.length co20)) (fun _ h_ => h_.1))))) (below_size (by repeat ((with_reducible first | exact HB.out | refine below_set ?_ GE479.out))))); have n3_ := Aside0.mk (Kd.R_lower (Kd.R_new' (Kd.R_new' ho1 (Kd.R_lt (by (with_reducible repeat (fail)); exact (Kd.R_mono (Kd.R_far (p := ⟨gb479, 2, none⟩) (Kd.R_far (p := ⟨gb479, 1, none⟩) (Kd.R_far (p := ⟨gb479, 0, none⟩) (Kd.R_types HO485.out BK479.out (by decide)) (fun _ hk => hk.2) (.bool t482)) (fun _ hk => hk.2) (.slice Ao19 t483.length co19)) (fun _ hk => hk.2) (.slice Ao20 t486.length co20)) (fun _ h_ => h_.1))))) (Kd.R_lt (by (with_reducible repeat (fail)); exact (Kd.R_mono (Kd.R_far (p := ⟨gb479, 2, none⟩) (Kd.R_far (p := ⟨gb479, 1, none⟩) (Kd.R_far (p := ⟨gb479, 0, none⟩) (Kd.R_types HO488.out BK479.out (by decide)) (fun _ hk => hk.2) (.bool t482)) (fun _ hk => hk.2) (.slice Ao19 t483.length co19)) (fun _ hk => hk.2) (.slice Ao20 t486.length co20)) (fun _ h_ => h_.1))))) (below_size (by repeat ((with_reducible first | exact HB.out | refine below_set ?_ GE479.out))))); have n4_ := Aside0.mk (blk_below (g := gb479) (o := .cells #[.bool t482, .slice Ao19 t483.length co19, .slice Ao20 t486.length co20] 46 (0, 0)) (by (with_reducible repeat (fail)); refine blk_put (cs := #[.bool t482, .slice Ao19 t483.length co19, .slice A0_2 l0_2.length c0_2]) ?_ 2 _ rfl; (with_reducible repeat (fail)); refine blk_put (cs := #[.bool t482, .slice A0_1 l0_1.length c0_1, .slice A0_2 l0_2.length c0_2]) ?_ 1 _ rfl; (with_reducible repeat (fail)); refine blk_put (cs := #[.bool a0_0, .slice A0_1 l0_1.length c0_1, .slice A0_2 l0_2.length c0_2]) ?_ 0 _ rfl; (with_reducible repeat (fail)); exact BK479.out) hb); have n5_ := Aside0.mk (blk_below (g := gb480) (o := .cells #[.bool a1_0, .slice A1_1 l1_1.length c1_1, .slice A1_2 l1_2.length c1_2] 46 (0, 0)) (by (with_reducible repeat (fail)); refine blk_far ?_ NB480_479.out _; (with_reducible repeat (fail)); refine blk_far ?_ NB480_479.out _; (with_reducible repeat (fail)); refine blk_far ?_ NB480_479.out _; (with_reducible repeat (fail)); exact BK480.out) hb); have n6_ := Aside0.mk (blk_below (g := gb481) (o := .cells #[.bool false, .slice none 0 0, .slice none 0 0] 46 (0, 0)) (by (with_reducible repeat (fail)); refine blk_far ?_ NB481_479.out _; (with_reducible repeat (fail)); refine blk_far ?_ NB481_479.out _; (with_reducible repeat (fail)); refine blk_far ?_ NB481_479.out _; (with_reducible repeat (fail)); exact BK481.out) hb); have n7_ := Aside0.mk (below_step (by repeat ((with_reducible first | exact HB.out | refine below_set ?_ GE479.out))) hb); clear HO485; clear HO488; clear BK479; clear BK480; clear BK481; clear HB; have HO485 := n0_; have HO488 := n1_; have HO492 := n2_; have HO495 := n3_; have BK479 := n4_; have BK480 := n5_; have BK481 := n6_; have HB := n7_; clear n0_ n1_ n2_ n3_ n4_ n5_ n6_ n7_; (try clear hb); (try clear ho0); (try clear ho1); have hcz24_0 : w23.cell? ⟨gb480, 0, none⟩ = some (.bool a1_0) := (blk_cell BK480.out 0).trans rfl; have hcz24_1 : w23.cell? ⟨gb480, 1, none⟩ = some (.slice A1_1 l1_1.length c1_1) := (blk_cell BK480.out 1).trans rfl; have hcz24_2 : w23.cell? ⟨gb480, 2, none⟩ = some (.slice A1_2 l1_2.length c1_2) := (blk_cell BK480.out 2).trans rfl; have hfz24_0 := blk_frozen BK480.out 0; have hfz24_1 := blk_frozen BK480.out 1; have hfz24_2 := blk_frozen BK480.out 2; obtain ⟨Ao25, co25, eo25⟩ := Kd.R_slice HO492.out; subst eo25; obtain ⟨Ao26, co26, eo26⟩ := Kd.R_slice HO495.out; subst eo26; have hcz27_0 : w23.cell? ⟨gb479, 0, none⟩ = some (.bool t482) := (blk_cell BK479.out 0).trans rfl; have hcz27_1 : w23.cell? ⟨gb479, 1, none⟩ = some (.slice Ao19 t483.length co19) := (blk_cell BK479.out 1).trans rfl; have hcz27_2 : w23.cell? ⟨gb479, 2, none⟩ = some (.slice Ao20 t486.length co20) := (blk_cell BK479.out 2).trans rfl; have hfz27_0 := blk_frozen BK479.out 0; have hfz27_1 := blk_frozen BK479.out 1; have hfz27_2 := blk_frozen BK479.out 2) | ((with_reducible refine gate_callee (f := 68) rfl ?_); refine goesL_ (some 16) rfl rfl Try.func68 (by kernel_rfl) rfl #[.slice Ao19 t483.length co19, .slice Ao26 t493.length co26] rfl (by (try simp only [List.map_toArray, List.map_cons, List.map_nil]); rfl) ?_; (with_reducible refine (codewrightref01_Mul.calls k _ _ t483 _ _ t493 t496 _ ?side1 ?side2 ?side3 ?side4 A5.out).mono ?_); (case side1 => refine (Kd.R_reads' (e := 100) (base := w.heap.size) (ok := fun k_ => ((some k_ ≠ (.slice Ao20 t486.length co20 : Value).ownBlock ∧ some k_ ≠ (.slice Ao25 t490.length co25 : Value).ownBlock) ∧ some k_ ≠ (.slice Ao26 t493.length co26 : Value).ownBlock)) (n := t483.length) (c := co19) ?_).2.2; exact (by (with_reducible repeat (fail)); exact (Kd.R_mono (Kd.R_far (p := ⟨gb480, 2, none⟩) (Kd.R_far (p := ⟨gb480, 1, none⟩) (Kd.R_far (p := ⟨gb480, 0, none⟩) (Kd.R_types HO485.out BK480.out (by decide)) (fun _ hk => hk.2) (.bool t489)) (fun _ hk => hk.2) (.slice Ao25 t490.length co25)) (fun _ hk => hk.2) (.slice Ao26 t493.length co26)) (fun _ h_ => h_.1)))); (case side2 => exact (Kd.R_reads' HO485.out).2.1); (case side3 => refine (Kd.R_reads' (e := 100) (base := w.heap.size) (ok := fun k_ => ((some k_ ≠ (.slice Ao25 t490.length co25 : Value).ownBlock ∧ some k_ ≠ (.slice Ao19 t483.length co19 : Value).ownBlock) ∧ some k_ ≠ (.slice Ao20 t486.length co20 : Value).ownBlock)) (n := t493.length) (c := co26) ?_).2.2; exact (by (with_reducible repeat (fail)); exact (Kd.R_mono (Kd.R_far (p := ⟨gb480, 2, none⟩) (Kd.R_far (p := ⟨gb480, 1, none⟩) (Kd.R_far (p := ⟨gb480, 0, none⟩) (Kd.R_types HO495.out BK480.out (by decide)) (fun _ hk => hk.2) (.bool t489)) (fun _ hk => hk.2) (.slice Ao25 t490.length co25)) (fun _ hk => hk.2) (.slice Ao26 t493.length co26)) (fun _ h_ => h_.1)))); (case side4 => exact (Kd.R_reads' HO495.out).2.1); rintro e w28 ⟨v497, rfl, ho0, hb⟩; refine ⟨_, rfl, ?_⟩; have n0_ := Aside0.mk (Kd.R_elder' (by (with_reducible repeat (fail)); exact (Kd.R_mono (Kd.R_far (p := ⟨gb480, 2, none⟩) (Kd.R_far (p := ⟨gb480, 1, none⟩) (Kd.R_far (p := ⟨gb480, 0, none⟩) (Kd.R_types HO485.out BK480.out (by decide)) (fun _ hk => hk.2) (.bool t489)) (fun _ hk => hk.2) (.slice Ao25 t490.length co25)) (fun _ hk => hk.2) (.slice Ao26 t493.length co26)) (fun _ h_ => h_.1))) (Kd.R_base ho0) hb); have n1_ := Aside0.mk (Kd.R_elder' (by (with_reducible repeat (fail)); exact (Kd.R_mono (Kd.R_far (p := ⟨gb480, 2, none⟩) (Kd.R_far (p := ⟨gb480, 1, none⟩) (Kd.R_far (p := ⟨gb480, 0, none⟩) (Kd.R_types HO488.out BK480.out (by decide)) (fun _ hk => hk.2) (.bool t489)) (fun _ hk => hk.2) (.slice Ao25 t490.length co25)) (fun _ hk => hk.2) (.slice Ao26 t493.length co26)) (fun _ h_ => h_.1))) (Kd.R_base ho0) hb); have n2_ := Aside0.mk (Kd.R_elder' (by (with_reducible repeat (fail)); exact (Kd.R_mono (Kd.R_far (p := ⟨gb480, 2, none⟩) (Kd.R_far (p := ⟨gb480, 1, none⟩) (Kd.R_far (p := ⟨gb480, 0, none⟩) (Kd.R_types HO492.out BK480.out (by decide)) (fun _ hk => hk.2) (.bool t489)) (fun _ hk => hk.2) (.slice Ao25 t490.length co25)) (fun _ hk => hk.2) (.slice Ao26 t493.length co26)) (fun _ h_ => h_.1))) (Kd.R_base ho0) hb); have n3_ := Aside0.mk (Kd.R_elder' (by (with_reducible repeat (fail)); exact (Kd.R_mono (Kd.R_far (p := ⟨gb480, 2, none⟩) (Kd.R_far (p := ⟨gb480, 1, none⟩) (Kd.R_far (p := ⟨gb480, 0, none⟩) (Kd.R_types HO495.out BK480.out (by decide)) (fun _ hk => hk.2) (.bool t489)) (fun _ hk => hk.2) (.slice Ao25 t490.length co25)) (fun _ hk => hk.2) (.slice Ao26 t493.length co26)) (fun _ h_ => h_.1))) (Kd.R_base ho0) hb); have n4_ := Aside0.mk (Kd.R_lower (Kd.R_new' (Kd.R_new' (Kd.R_new' (Kd.R_new' ho0 (Kd.R_lt (by (with_reducible repeat (fail)); exact (Kd.R_mono (Kd.R_far (p := ⟨gb480, 2, none⟩) (Kd.R_far (p := ⟨gb480, 1, none⟩) (Kd.R_far (p := ⟨gb480, 0, none⟩) (Kd.R_types HO485.out BK480.out (by decide)) (fun _ hk => hk.2) (.bool t489)) (fun _ hk => hk.2) (.slice Ao25 t490.length co25)) (fun _ hk => hk.2) (.slice Ao26 t493.length co26)) (fun _ h_ => h_.1))))) (Kd.R_lt (by (with_reducible repeat (fail)); exact (Kd.R_mono (Kd.R_far (p := ⟨gb480, 2, none⟩) (Kd.R_far (p := ⟨gb480, 1, none⟩) (Kd.R_far (p := ⟨gb480, 0, none⟩) (Kd.R_types HO488.out BK480.out (by decide)) (fun _ hk => hk.2) (.bool t489)) (fun _ hk => hk.2) (.slice Ao25 t490.length co25)) (fun _ hk => hk.2) (.slice Ao26 t493.length co26)) (fun _ h_ => h_.1))))) (Kd.R_lt (by (with_reducible repeat (fail)); exact (Kd.R_mono (Kd.R_far (p := ⟨gb480, 2, none⟩) (Kd.R_far (p := ⟨gb480, 1, none⟩) (Kd.R_far (p := ⟨gb480, 0, none⟩) (Kd.R_types HO492.out BK480.out (by decide)) (fun _ hk => hk.2) (.bool t489)) (fun _ hk => hk.2) (.slice Ao25 t490.length co25)) (fun _ hk => hk.2) (.slice Ao26 t493.length co26)) (fun _ h_ => h_.1))))) (Kd.R_lt (by (with_reducible repeat (fail)); exact (Kd.R_mono (Kd.R_far (p := ⟨gb480, 2, none⟩) (Kd.R_far (p := ⟨gb480, 1, none⟩) (Kd.R_far (p := ⟨gb480, 0, none⟩) (Kd.R_types HO495.out BK480.out (by decide)) (fun _ hk => hk.2) (.bool t489)) (fun _ hk => hk.2) (.slice Ao25 t490.length co25)) (fun _ hk => hk.2) (.slice Ao26 t493.length co26)) (fun _ h_ => h_.1))))) (below_size (by repeat ((with_reducible first | exact HB.out | refine below_set ?_ GE480.out))))); have n5_ := Aside0.mk (blk_below (g := gb479) (o := .cells #[.bool t482, .slice Ao19 t483.length co19, .slice Ao20 t486.length co20] 46 (0, 0)) (by (with_reducible repeat (fail)); refine blk_far ?_ NB479_480.out _; (with_reducible repeat (fail)); refine blk_far ?_ NB479_480.out _; (with_reducible repeat (fail)); refine blk_far ?_ NB479_480.out _; (with_reducible repeat (fail)); exact BK479.out) hb); have n6_ := Aside0.mk (blk_below (g := gb480) (o := .cells #[.bool t489, .slice Ao25 t490.length co25, .slice Ao26 t493.length co26] 46 (0, 0)) (by (with_reducible repeat (fail)); refine blk_put (cs := #[.bool t489, .slice Ao25 t490.length co25, .slice A1_2 l1_2.length c1_2]) ?_ 2 _ rfl; (with_reducible repeat (fail)); refine blk_put (cs := #[.bool t489, .slice A1_1 l1_1.length c1_1, .slice A1_2 l1_2.length c1_2]) ?_ 1 _ rfl; (with_reducible repeat (fail)); refine blk_put (cs := #[.bool a1_0, .slice A1_1 l1_1.length c1_1, .slice A1_2 l1_2.length c1_2]) ?_ 0 _ rfl; (with_reducible repeat (fail)); exact BK480.out) hb); have n7_ := Aside0.mk (blk_below (g := gb481) (o := .cells #[.bool false, .slice none 0 0, .slice none 0 0] 46 (0, 0)) (by (with_reducible repeat (fail)); refine blk_far ?_ NB481_480.out _; (with_reducible repeat (fail)); refine blk_far ?_ NB481_480.out _; (with_reducible repeat (fail)); refine blk_far ?_ NB481_480.out _; (with_reducible repeat (fail)); exact BK481.out) hb); have n8_ := Aside0.mk (below_step (by repeat ((with_reducible first | exact HB.out | refine below_set ?_ GE480.out))) hb); clear HO485; clear HO488; clear HO492; clear HO495; clear BK479; clear BK480; clear BK481; clear HB; have HO485 := n0_; have HO488 := n1_; have HO492 := n2_; have HO495 := n3_; have HO498 := n4_; have BK479 := n5_; have BK480 := n6_; have BK481 := n7_; have HB := n8_; clear n0_ n1_ n2_ n3_ n4_ n5_ n6_ n7_ n8_; (try clear hb); (try clear ho0); have hcz29_0 : w28.cell? ⟨gb480, 0, none⟩ = some (.bool t489) := (blk_cell BK480.out 0).trans rfl; have hcz29_1 : w28.cell? ⟨gb480, 1, none⟩ = some (.slice Ao25 t490.length co25) := (blk_cell BK480.out 1).trans rfl; have hcz29_2 : w28.cell? ⟨gb480, 2, none⟩ = some (.slice Ao26 t493.length co26) := (blk_cell BK480.out 2).trans rfl; have hfz29_0 := blk_frozen BK480.out 0; have hfz29_1 := blk_frozen BK480.out 1; have hfz29_2 := blk_frozen BK480.out 2; have hcz30_0 : w28.cell? ⟨gb479, 0, none⟩ = some (.bool t482) := (blk_cell BK479.out 0).trans rfl; have hcz30_1 : w28.cell? ⟨gb479, 1, none⟩ = some (.slice Ao19 t483.length co19) := (blk_cell BK479.out 1).trans rfl; have hcz30_2 : w28.cell? ⟨gb479, 2, none⟩ = some (.slice Ao20 t486.length co20) := (blk_cell BK479.out 2).trans rfl; have hfz30_0 := blk_frozen BK479.out 0; have hfz30_1 := blk_frozen BK479.out 1; have hfz30_2 := blk_frozen BK479.out 2) | ((with_reducible refine gate_callee (f := 68) rfl ?_); refine goesL_ (some 21) rfl rfl Try.func68 (by kernel_rfl) rfl #[.slice Ao25 t490.length co25, .slice Ao20 t486.length co20] rfl (by (try simp only [List.map_toArray, List.map_cons, List.map_nil]); rfl) ?_; (with_reducible refine (codewrightref01_Mul.calls k _ _ t490 _ _ t486 t499 _ ?side1 ?side2 ?side3 ?side4 A6.out).mono ?_); (case side1 => exact (Kd.R_reads' HO492.out).2.2); (case side2 => exact (Kd.R_reads' HO492.out).2.1); (case side3 => exact (Kd.R_reads' HO488.out).2.2); (case side4 => exact (Kd.R_reads' HO488.out).2.1); rintro e w31 ⟨v500, rfl, ho0, hb⟩; refine ⟨_, rfl, ?_⟩; have n0_ := Aside0.mk (Kd.R_elder' (by (with_reducible repeat (fail)); exact HO485.out) (Kd.R_base ho0) hb); have n1_ := Aside0.mk (Kd.R_elder' (by (with_reducible repeat (fail)); exact HO488.out) (Kd.R_base ho0) hb); have n2_ := Aside0.mk (Kd.R_elder' (by (with_reducible repeat (fail)); exact HO492.out) (Kd.R_base ho0) hb); have n3_ := Aside0.mk (Kd.R_elder' (by (with_reducible repeat (fail)); exact HO495.out) (Kd.R_base ho0) hb); have n4_ := Aside0.mk (Kd.R_elder' (by (with_reducible repeat (fail)); exact HO498.out) (Kd.R_base ho0) hb); have n5_ := Aside0.mk (Kd.R_lower (Kd.R_new' (Kd.R_new' (Kd.R_new' (Kd.R_new' (Kd.R_new' ho0 (Kd.R_lt (by (with_reducible repeat (fail)); exact HO485.out))) (Kd.R_lt (by (with_reducible repeat (fail)); exact HO488.out))) (Kd.R_lt (by (with_reducible repeat (fail)); exact HO492.out))) (Kd.R_lt (by (with_reducible repeat (fail)); exact HO495.out))) (Kd.R_lt (by (with_reducible repeat (fail)); exact HO498.out))) (below_size (by repeat ((with_reducible exact HB.out))))); have n6_ := Aside0.mk (blk_below (g := gb479) (o := .cells #[.bool t482, .slice Ao19 t483.length co19, .slice Ao20 t486.length co20] 46 (0, 0)) (by (with_reducible repeat (fail)); exact BK479.out) hb); have n7_ := Aside0.mk (blk_below (g := gb480) (o := .cells #[.bool t489, .slice Ao25 t490.length co25, .slice Ao26 t493.length co26] 46 (0, 0)) (by (with_reducible repeat (fail)); exact BK480.out) hb); have n8_ := Aside0.mk (blk_below (g := gb481) (o := .cells #[.bool false, .slice none 0 0, .slice none 0 0] 46 (0, 0)) (by (with_reducible repeat (fail)); exact BK481.out) hb); have n9_ := Aside0.mk (below_step (by repeat ((with_reducible exact HB.out))) hb); clear HO485; clear HO488; clear HO492; clear HO495; clear HO498; clear BK479; clear BK480; clear BK481; clear HB; have HO485 := n0_; have HO488 := n1_; have HO492 := n2_; have HO495 := n3_; have HO498 := n4_; have HO501 := n5_; have BK479 := n6_; have BK480 := n7_; have BK481 := n8_; have HB := n9_; clear n0_ n1_ n2_ n3_ n4_ n5_ n6_ n7_ n8_ n9_; (try clear hb); (try clear ho0); have hcz32_0 : w31.cell? ⟨gb479, 0, none⟩ = some (.bool t482) := (blk_cell BK479.out 0).trans rfl; have hcz32_1 : w31.cell? ⟨gb479, 1, none⟩ = some (.slice Ao19 t483.length co19) := (blk_cell BK479.out 1).trans rfl; have hcz32_2 : w31.cell? ⟨gb479, 2, none⟩ = some (.slice Ao20 t486.length co20) := (blk_cell BK479.out 2).trans rfl; have hfz32_0 := blk_frozen BK479.out 0; have hfz32_1 := blk_frozen BK479.out 1; have hfz32_2 := blk_frozen BK479.out 2; have hcz33_0 : w31.cell? ⟨gb480, 0, none⟩ = some (.bool t489) := (blk_cell BK480.out 0).trans rfl; have hcz33_1 : w31.cell? ⟨gb480, 1, none⟩ = some (.slice Ao25 t490.length co25) := (blk_cell BK480.out 1).trans rfl; have hcz33_2 : w31.cell? ⟨gb480, 2, none⟩ = some (.slice Ao26 t493.length co26) := (blk_cell BK480.out 2).trans rfl; have hfz33_0 := blk_frozen BK480.out 0; have hfz33_1 := blk_frozen BK480.out 1; have hfz33_2 := blk_frozen BK480.out 2) | ((with_reducible refine gate_callee (f := 68) rfl ?_); refine goesL_ (some 26) rfl rfl Try.func68 (by kernel_rfl) rfl #[.slice Ao20 t486.length co20, .slice Ao26 t493.length co26] rfl (by (try simp only [List.map_toArray, List.map_cons, List.map_nil]); rfl) ?_; (with_reducible refine (codewrightref01_Mul.calls k _ _ t486 _ _ t493 t502 _ ?side1 ?side2 ?side3 ?side4 A7.out).mono ?_); (case side1 => exact (Kd.R_reads' HO488.out).2.2); (case side2 => exact (Kd.R_reads' HO488.out).2.1); (case side3 => exact (Kd.R_reads' HO495.out).2.2); (case side4 => exact (Kd.R_reads' HO495.out).2.1); rintro e w34 ⟨v503, rfl, ho0, hb⟩; refine ⟨_, rfl, ?_⟩; have n0_ := Aside0.mk (Kd.R_elder' (by (with_reducible repeat (fail)); exact HO485.out) (Kd.R_base ho0) hb); have n1_ := Aside0.mk (Kd.R_elder' (by (with_reducible repeat (fail)); exact HO488.out) (Kd.R_base ho0) hb); have n2_ := Aside0.mk (Kd.R_elder' (by (with_reducible repeat (fail)); exact HO492.out) (Kd.R_base ho0) hb); have n3_ := Aside0.mk (Kd.R_elder' (by (with_reducible repeat (fail)); exact HO495.out) (Kd.R_base ho0) hb); have n4_ := Aside0.mk (Kd.R_elder' (by (with_reducible repeat (fail)); exact HO498.out) (Kd.R_base ho0) hb); have n5_ := Aside0.mk (Kd.R_elder' (by (with_reducible repeat (fail)); exact HO501.out) (Kd.R_base ho0) hb); have n6_ := Aside0.mk (Kd.R_lower (Kd.R_new' (Kd.R_new' (Kd.R_new' (Kd.R_new' (Kd.R_new' (Kd.R_new' ho0 (Kd.R_lt (by (with_reducible repeat (fail)); exact HO485.out))) (Kd.R_lt (by (with_reducible repeat (fail)); exact HO488.out))) (Kd.R_lt (by (with_reducible repeat (fail)); exact HO492.out))) (Kd.R_lt (by (with_reducible repeat (fail)); exact HO495.out))) (Kd.R_lt (by (with_reducible repeat (fail)); exact HO498.out))) (Kd.R_lt (by (with_reducible repeat (fail)); exact HO501.out))) (below_size (by repeat ((with_reducible exact HB.out))))); have n7_ := Aside0.mk (blk_below (g := gb479) (o := .cells #[.bool t482, .slice Ao19 t483.length co19, .slice Ao20 t486.length co20] 46 (0, 0)) (by (with_reducible repeat (fail)); exact BK479.out) hb); have n8_ := Aside0.mk (blk_below (g := gb480) (o := .cells #[.bool t489, .slice Ao25 t490.length co25, .slice Ao26 t493.length co26] 46 (0, 0)) (by (with_reducible repeat (fail)); exact BK480.out) hb); have n9_ := Aside0.mk (blk_below (g := gb481) (o := .cells #[.bool false, .slice none 0 0, .slice none 0 0] 46 (0, 0)) (by (with_reducible repeat (fail)); exact BK481.out) hb); have n10_ := Aside0.mk (below_step (by repeat ((with_reducible exact HB.out))) hb); clear HO485; clear HO488; clear HO492; clear HO495; clear HO498; clear HO501; clear BK479; clear BK480; clear BK481; clear HB; have HO485 := n0_; have HO488 := n1_; have HO492 := n2_; have HO495 := n3_; have HO498 := n4_; have HO501 := n5_; have HO504 := n6_; have BK479 := n7_; have BK480 := n8_; have BK481 := n9_; have HB := n10_; clear n0_ n1_ n2_ n3_ n4_ n5_ n6_ n7_ n8_ n9_ n10_; (try clear hb); (try clear ho0); have hcz35_0 : w34.cell? ⟨gb479, 0, none⟩ = some (.bool t482) := (blk_cell BK479.out 0).trans rfl; have hcz35_1 : w34.cell? ⟨gb479, 1, none⟩ = some (.slice Ao19 t483.length co19) := (blk_cell BK479.out 1).trans rfl; have hcz35_2 : w34.cell? ⟨gb479, 2, none⟩ = some (.slice Ao20 t486.length co20) := (blk_cell BK479.out 2).trans rfl; have hfz35_0 := blk_frozen BK479.out 0; have hfz35_1 := blk_frozen BK479.out 1; have hfz35_2 := blk_frozen BK479.out 2; have hcz36_0 : w34.cell? ⟨gb480, 0, none⟩ = some (.bool t489) := (blk_cell BK480.out 0).trans rfl; have hcz36_1 : w34.cell? ⟨gb480, 1, none⟩ = some (.slice Ao25 t490.length co25) := (blk_cell BK480.out 1).trans rfl; have hcz36_2 : w34.cell? ⟨gb480, 2, none⟩ = some (.slice Ao26 t493.length co26) := (blk_cell BK480.out 2).trans rfl; have hfz36_0 := blk_frozen BK480.out 0; have hfz36_1 := blk_frozen BK480.out 1; have hfz36_2 := blk_frozen BK480.out 2))
  have n0_ := Aside0.mk (Kd.R_drew HO485.out)
  have n1_ := Aside0.mk (Kd.R_drew HO488.out)
  have n2_ := Aside0.mk (Kd.R_drew HO492.out)
  have n3_ := Aside0.mk (Kd.R_drew HO495.out)
  have n4_ := Aside0.mk (Kd.R_drew HO498.out)
  have n5_ := Aside0.mk (Kd.R_drew HO501.out)
  have n6_ := Aside0.mk (Kd.R_drew HO504.out)
  have n7_ := Aside0.mk (blk_drew BK479.out)
  have n8_ := Aside0.mk (blk_drew BK480.out)
  have n9_ := Aside0.mk (blk_drew BK481.out)
  have n10_ := Aside0.mk (below_drew1 HB.out)
  clear HO485
  clear HO488
  clear HO492
  clear HO495
  clear HO498
  clear HO501
  clear HO504
  clear BK479
  clear BK480
  clear BK481
  clear HB
  have HO485 := n0_
  have HO488 := n1_
  have HO492 := n2_
  have HO495 := n3_
  have HO498 := n4_
  have HO501 := n5_
  have HO504 := n6_
  have BK479 := n7_
  have BK480 := n8_
  have BK481 := n9_
  have HB := n10_
  clear n0_ n1_ n2_ n3_ n4_ n5_ n6_ n7_ n8_ n9_ n10_
  obtain ⟨Ao38, co38, eo38⟩ := Kd.R_slice HO498.out
  (subst eo38)
  obtain ⟨Ao39, co39, eo39⟩ := Kd.R_slice HO501.out
  (subst eo39)
  refine start_ (n := 8) (S := fun w' => w'.cell? ⟨gb479, 0, none⟩ = some (.bool t482) ∧ w'.cell? ⟨gb479, 1, none⟩ = some (.slice Ao19 t483.length co19) ∧ w'.cell? ⟨gb479, 2, none⟩ = some (.slice Ao20 t486.length co20)) (ds := []) #[false, false, false, false, false, false, false, false] (by kernel_rfl) rfl rfl ⟨(blk_cell BK479.out 0).trans rfl, (blk_cell BK479.out 1).trans rfl, (blk_cell BK479.out 2).trans rfl⟩ (fun hHeld => ?_); refine with_tabW codewrightref02_Add.tab7 codewrightref02_Add.bits7 (fun HT_ HW_ => ?_)
  generalize w34.drew = w37 at HO485 HO488 HO492 HO495 HO498 HO501 HO504 BK479 BK480 BK481 HB hHeld ⊢
  refine pure_ (i := 0) (N := some 32) (v := ?_) (a' := ?_) #[true, false, false, false, false, false, false, false] rfl rfl (any_of HT_.out (by kernel_rfl)) (fun _ _ _ h => h) (Or.inl ⟨by rfl, ?_⟩) ?_ ?_
  rotate_left
  ·intro w'
   go_simp
   with_reducible rfl
  rotate_left
  ·simp only [Act.put, List.setIfInBounds_toArray, List.set_cons_zero, List.set_cons_succ, i64_w, i32_w]
   rfl
  refine pure_ (i := 2) (N := some 34) (v := ?_) (a' := ?_) #[true, false, true, false, false, false, false, false] rfl rfl (any_of HT_.out (by kernel_rfl)) (fun _ _ _ h => h) (Or.inl ⟨by rfl, ?_⟩) ?_ ?_
  rotate_left
  ·intro w'
   go_simp
   with_reducible rfl
  rotate_left
  ·simp only [Act.put, List.setIfInBounds_toArray, List.set_cons_zero, List.set_cons_succ, i64_w, i32_w]
   rfl
  refine pure_ (i := 3) (N := some 35) (v := ?_) (a' := ?_) #[true, false, true, true, false, false, false, false] rfl rfl (any_of HT_.out (by kernel_rfl)) (fun _ _ _ h => h) (Or.inl ⟨by rfl, ?_⟩) ?_ ?_
  rotate_left
  ·intro w'
   go_simp
   with_reducible rfl
  rotate_left
  ·simp only [Act.put, List.setIfInBounds_toArray, List.set_cons_zero, List.set_cons_succ, i64_w, i32_w]
   rfl
  refine pure_ (i := 5) (N := some 37) (v := ?_) (a' := ?_) #[true, false, true, true, false, true, false, false] rfl rfl (any_of HT_.out (by kernel_rfl)) (fun _ _ _ h => h) (Or.inl ⟨by rfl, ?_⟩) ?_ ?_
  rotate_left
  ·intro w'
   go_simp
   with_reducible rfl
  rotate_left
  ·simp only [Act.put, List.setIfInBounds_toArray, List.set_cons_zero, List.set_cons_succ, i64_w, i32_w]
   rfl
  refine take_ (i := 1) (N := some 33) (v := ?_) (a' := ?_) #[true, true, true, true, false, true, false, false] rfl rfl (take_ofW HT_.out HW_.out (by kernel_rfl)) (fun _ _ _ h => h) (Or.inl ⟨by rfl, ?_⟩) hHeld ?_ ?_
  rotate_left
  ·rintro w' ⟨s0, s1, s2⟩
   go_simp
   with_reducible rfl
  rotate_left
  ·simp only [Act.put, List.setIfInBounds_toArray, List.set_cons_zero, List.set_cons_succ, i64_w, i32_w]
   rfl
  refine one_ (i := 4) (N := some 36) #[true, true, true, true, true, true, false, false] rfl rfl (one_of HT_.out (by kernel_rfl)) (by decide) (fun K hK => ?_)
  refine goes_ Try.func70 (by kernel_rfl) rfl #[.slice Ao38 t496.length co38, .slice Ao39 t499.length co39] (by rfl) rfl rfl (by (try simp only [List.map_toArray, List.map_cons, List.map_nil]); rfl) ?_
  with_reducible refine (codewrightref01_Add.calls k _ _ t496 _ _ t499 t505 _ ?side1 ?side2 ?side3 ?side4 A9.out).mono ?_
  (case side1 => exact (Kd.R_reads' HO498.out).2.2)
  (case side2 => exact (Kd.R_reads' HO498.out).2.1)
  (case side3 => exact (Kd.R_reads' HO501.out).2.2)
  (case side4 => exact (Kd.R_reads' HO501.out).2.1)
  rintro e w40 ⟨v506, rfl, ho0, hb⟩
  refine ⟨_, rfl, ?_⟩
  have n0_ := Aside0.mk (Kd.R_elder' (by (with_reducible repeat (fail)); exact HO485.out) (Kd.R_base ho0) hb)
  have n1_ := Aside0.mk (Kd.R_elder' (by (with_reducible repeat (fail)); exact HO488.out) (Kd.R_base ho0) hb)
  have n2_ := Aside0.mk (Kd.R_elder' (by (with_reducible repeat (fail)); exact HO492.out) (Kd.R_base ho0) hb)
  have n3_ := Aside0.mk (Kd.R_elder' (by (with_reducible repeat (fail)); exact HO495.out) (Kd.R_base ho0) hb)
  have n4_ := Aside0.mk (Kd.R_elder' (by (with_reducible repeat (fail)); exact HO498.out) (Kd.R_base ho0) hb)
  have n5_ := Aside0.mk (Kd.R_elder' (by (with_reducible repeat (fail)); exact HO501.out) (Kd.R_base ho0) hb)
  have n6_ := Aside0.mk (Kd.R_elder' (by (with_reducible repeat (fail)); exact HO504.out) (Kd.R_base ho0) hb)
  have n7_ := Aside0.mk (Kd.R_lower (Kd.R_new' (Kd.R_new' (Kd.R_new' (Kd.R_new' (Kd.R_new' (Kd.R_new' (Kd.R_new' ho0 (Kd.R_lt (by (with_reducible repeat (fail)); exact HO485.out))) (Kd.R_lt (by (with_reducible repeat (fail)); exact HO488.out))) (Kd.R_lt (by (with_reducible repeat (fail)); exact HO492.out))) (Kd.R_lt (by (with_reducible repeat (fail)); exact HO495.out))) (Kd.R_lt (by (with_reducible repeat (fail)); exact HO498.out))) (Kd.R_lt (by (with_reducible repeat (fail)); exact HO501.out))) (Kd.R_lt (by (with_reducible repeat (fail)); exact HO504.out))) (below_size (by repeat ((with_reducible exact HB.out)))))
  have n8_ := Aside0.mk (blk_below (g := gb479) (o := .cells #[.bool t482, .slice Ao19 t483.length co19, .slice Ao20 t486.length co20] 46 (0, 0)) (by (with_reducible repeat (fail)); exact BK479.out) hb)
  have n9_ := Aside0.mk (blk_below (g := gb480) (o := .cells #[.bool t489, .slice Ao25 t490.length co25, .slice Ao26 t493.length co26] 46 (0, 0)) (by (with_reducible repeat (fail)); exact BK480.out) hb)
  have n10_ := Aside0.mk (blk_below (g := gb481) (o := .cells #[.bool false, .slice none 0 0, .slice none 0 0] 46 (0, 0)) (by (with_reducible repeat (fail)); exact BK481.out) hb)
  have n11_ := Aside0.mk (below_step (by repeat ((with_reducible exact HB.out))) hb)
  clear HO485
  clear HO488
  clear HO492
  clear HO495
  clear HO498
  clear HO501
  clear HO504
  clear BK479
  clear BK480
  clear BK481
  clear HB
  have HO485 := n0_
  have HO488 := n1_
  have HO492 := n2_
  have HO495 := n3_
  have HO498 := n4_
  have HO501 := n5_
  have HO504 := n6_
  have HO507 := n7_
  have BK479 := n8_
  have BK480 := n9_
  have BK481 := n10_
  have HB := n11_
  clear n0_ n1_ n2_ n3_ n4_ n5_ n6_ n7_ n8_ n9_ n10_ n11_
  (try clear hb)
  (try clear ho0)
  obtain ⟨Ao41, co41, eo41⟩ := Kd.R_slice HO507.out
  (subst eo41)
  obtain ⟨Ao42, co42, eo42⟩ := Kd.R_slice HO504.out
  (subst eo42)
  refine hK.out _ _ ⟨(blk_cell BK479.out 0).trans rfl, (blk_cell BK479.out 1).trans rfl, (blk_cell BK479.out 2).trans rfl⟩ (fun hHeld => ?_)
  clear hK K
  refine norm_ (a' := ?_) ?_ ?_
  rotate_left
  ·show Act.put _ (some 36) _ = _
   simp only [Act.put, List.setIfInBounds_toArray, List.set_cons_zero, List.set_cons_succ, i64_w, i32_w]
   rfl
  refine one_ (i := 6) (N := some 38) #[true, true, true, true, true, true, true, false] rfl rfl (one_of HT_.out (by kernel_rfl)) (by decide) (fun K hK => ?_)
  refine goes_ Try.func69 (by kernel_rfl) rfl #[.bool t482, .slice Ao41 t505.length co41, .slice Ao42 t502.length co42] (by rfl) rfl rfl (by (try simp only [List.map_toArray, List.map_cons, List.map_nil]); rfl) ?_
  with_reducible refine (codewrightref02_Make.calls k t482 _ _ t505 _ _ t502 t508 t509 t512 _ ?side1 ?side2 ?side3 ?side4 A10.out).mono ?_
  (case side1 => exact (Kd.R_reads' HO507.out).2.2)
  (case side2 => exact (Kd.R_reads' HO507.out).2.1)
  (case side3 => exact (Kd.R_reads' HO504.out).2.2)
  (case side4 => exact (Kd.R_reads' HO504.out).2.1)
  rintro e w43 ⟨v510, v513, rfl, ho0, ho1, hb⟩
  refine ⟨_, rfl, ?_⟩
  have n0_ := Aside0.mk (Kd.R_mono (Kd.R_told (Kd.R_told (Kd.R_old (by (with_reducible repeat (fail)); exact HO485.out) hb) (Kd.R_base ho0)) (Kd.R_base ho1)) (fun _ h_ => h_.1))
  have n1_ := Aside0.mk (Kd.R_mono (Kd.R_told (Kd.R_told (Kd.R_old (by (with_reducible repeat (fail)); exact HO488.out) hb) (Kd.R_base ho0)) (Kd.R_base ho1)) (fun _ h_ => h_.1))
  have n2_ := Aside0.mk (Kd.R_mono (Kd.R_told (Kd.R_told (Kd.R_old (by (with_reducible repeat (fail)); exact HO492.out) hb) (Kd.R_base ho0)) (Kd.R_base ho1)) (fun _ h_ => h_.1))
  have n3_ := Aside0.mk (Kd.R_mono (Kd.R_told (Kd.R_told (Kd.R_old (by (with_reducible repeat (fail)); exact HO495.out) hb) (Kd.R_base ho0)) (Kd.R_base ho1)) (fun _ h_ => h_.1))
  have n4_ := Aside0.mk (Kd.R_mono (Kd.R_told (Kd.R_told (Kd.R_old (by (with_reducible repeat (fail)); exact HO498.out) hb) (Kd.R_base ho0)) (Kd.R_base ho1)) (fun _ h_ => h_.1))
  have n5_ := Aside0.mk (Kd.R_mono (Kd.R_told (Kd.R_told (Kd.R_old (by (with_reducible repeat (fail)); exact HO501.out) hb) (Kd.R_base ho0)) (Kd.R_base ho1)) (fun _ h_ => h_.1))
  have n6_ := Aside0.mk (Kd.R_mono (Kd.R_told (Kd.R_told (Kd.R_old (by (with_reducible repeat (fail)); exact HO504.out) hb) (Kd.R_base ho0)) (Kd.R_base ho1)) (fun _ h_ => h_.1))
  have n7_ := Aside0.mk (Kd.R_mono (Kd.R_told (Kd.R_told (Kd.R_old (by (with_reducible repeat (fail)); exact HO507.out) hb) (Kd.R_base ho0)) (Kd.R_base ho1)) (fun _ h_ => h_.1))
  have n8_ := Aside0.mk (Kd.R_lower (Kd.R_new' (Kd.R_new' (Kd.R_new' (Kd.R_new' (Kd.R_new' (Kd.R_new' (Kd.R_new' (Kd.R_new' ho0 (Kd.R_lt (by (with_reducible repeat (fail)); exact HO485.out))) (Kd.R_lt (by (with_reducible repeat (fail)); exact HO488.out))) (Kd.R_lt (by (with_reducible repeat (fail)); exact HO492.out))) (Kd.R_lt (by (with_reducible repeat (fail)); exact HO495.out))) (Kd.R_lt (by (with_reducible repeat (fail)); exact HO498.out))) (Kd.R_lt (by (with_reducible repeat (fail)); exact HO501.out))) (Kd.R_lt (by (with_reducible repeat (fail)); exact HO504.out))) (Kd.R_lt (by (with_reducible repeat (fail)); exact HO507.out))) (below_size (by repeat ((with_reducible exact HB.out)))))
  have n9_ := Aside0.mk (Kd.R_lower (Kd.R_new' (Kd.R_new' (Kd.R_new' (Kd.R_new' (Kd.R_new' (Kd.R_new' (Kd.R_new' (Kd.R_new' ho1 (Kd.R_lt (by (with_reducible repeat (fail)); exact HO485.out))) (Kd.R_lt (by (with_reducible repeat (fail)); exact HO488.out))) (Kd.R_lt (by (with_reducible repeat (fail)); exact HO492.out))) (Kd.R_lt (by (with_reducible repeat (fail)); exact HO495.out))) (Kd.R_lt (by (with_reducible repeat (fail)); exact HO498.out))) (Kd.R_lt (by (with_reducible repeat (fail)); exact HO501.out))) (Kd.R_lt (by (with_reducible repeat (fail)); exact HO504.out))) (Kd.R_lt (by (with_reducible repeat (fail)); exact HO507.out))) (below_size (by repeat ((with_reducible exact HB.out)))))
  have n10_ := Aside0.mk (blk_below (g := gb479) (o := .cells #[.bool t482, .slice Ao19 t483.length co19, .slice Ao20 t486.length co20] 46 (0, 0)) (by (with_reducible repeat (fail)); exact BK479.out) hb)
  have n11_ := Aside0.mk (blk_below (g := gb480) (o := .cells #[.bool t489, .slice Ao25 t490.length co25, .slice Ao26 t493.length co26] 46 (0, 0)) (by (with_reducible repeat (fail)); exact BK480.out) hb)
  have n12_ := Aside0.mk (blk_below (g := gb481) (o := .cells #[.bool false, .slice none 0 0, .slice none 0 0] 46 (0, 0)) (by (with_reducible repeat (fail)); exact BK481.out) hb)
  have n13_ := Aside0.mk (below_step (by repeat ((with_reducible exact HB.out))) hb)
  clear HO485
  clear HO488
  clear HO492
  clear HO495
  clear HO498
  clear HO501
  clear HO504
  clear HO507
  clear BK479
  clear BK480
  clear BK481
  clear HB
  have HO485 := n0_
  have HO488 := n1_
  have HO492 := n2_
  have HO495 := n3_
  have HO498 := n4_
  have HO501 := n5_
  have HO504 := n6_
  have HO507 := n7_
  have HO511 := n8_
  have HO514 := n9_
  have BK479 := n10_
  have BK480 := n11_
  have BK481 := n12_
  have HB := n13_
  clear n0_ n1_ n2_ n3_ n4_ n5_ n6_ n7_ n8_ n9_ n10_ n11_ n12_ n13_
  (try clear hb)
  (try clear ho0)
  (try clear ho1)
  obtain ⟨Ao45, co45, eo45⟩ := Kd.R_slice HO511.out
  (subst eo45)
  obtain ⟨Ao47, co47, eo47⟩ := Kd.R_slice HO514.out
  (subst eo47)
  refine hK.out _ _ ⟨(blk_cell BK479.out 0).trans rfl, (blk_cell BK479.out 1).trans rfl, (blk_cell BK479.out 2).trans rfl⟩ (fun hHeld => ?_)
  clear hK K
  refine norm_ (a' := ?_) ?_ ?_
  rotate_left
  ·show Act.put _ (some 38) _ = _
   simp only [Act.put, List.setIfInBounds_toArray, List.set_cons_zero, List.set_cons_succ, i64_w, i32_w]
   rfl
  refine one_ (i := 7) (N := none) #[true, true, true, true, true, true, true, true] rfl rfl (one_of HT_.out (by kernel_rfl)) (by decide) (fun K hK => ?_)
  have hs44 : w43.cell? ⟨gb481, 0, none⟩ = some (.bool false) := (blk_cell BK481.out 0).trans rfl
  have hfs44 := blk_frozen BK481.out 0
  have hns44_0 := NB479_481.out
  have hns44_1 := NB480_481.out
  have hms44_0 := NB481_479.out
  have hms44_1 := NB481_480.out
  have hs46 : w43.cell? ⟨gb481, 1, none⟩ = some (.slice none 0 0) := (blk_cell BK481.out 1).trans rfl
  have hfs46 := blk_frozen BK481.out 1
  have hns46_0 := NB479_481.out
  have hns46_1 := NB480_481.out
  have hms46_0 := NB481_479.out
  have hms46_1 := NB481_480.out
  have hs48 : w43.cell? ⟨gb481, 2, none⟩ = some (.slice none 0 0) := (blk_cell BK481.out 2).trans rfl
  have hfs48 := blk_frozen BK481.out 2
  have hns48_0 := NB479_481.out
  have hns48_1 := NB480_481.out
  have hms48_0 := NB481_479.out
  have hms48_1 := NB481_480.out
  refine skip_ (w1 := ?_) (by rfl) rfl ?_ ?_
  rotate_left
  ·go_simp
   rfl
  refine hK.out _ _ ⟨((cell_far (p := ⟨gb481, _, none⟩) NB479_481.out _).trans (((cell_far (p := ⟨gb481, _, none⟩) NB479_481.out _).trans (((cell_far (p := ⟨gb481, _, none⟩) NB479_481.out _).trans (hHeld.1)))))), ((cell_far (p := ⟨gb481, _, none⟩) NB479_481.out _).trans (((cell_far (p := ⟨gb481, _, none⟩) NB479_481.out _).trans (((cell_far (p := ⟨gb481, _, none⟩) NB479_481.out _).trans (hHeld.2.1)))))), ((cell_far (p := ⟨gb481, _, none⟩) NB479_481.out _).trans (((cell_far (p := ⟨gb481, _, none⟩) NB479_481.out _).trans (((cell_far (p := ⟨gb481, _, none⟩) NB479_481.out _).trans (hHeld.2.2))))))⟩ (fun hHeld => ?_)
  clear hK K
  refine done_ (done_of HT_.out (by kernel_rfl)) ?_
  try go_wp2
  refine bodyPost_ret (results_cell_row rfl _ _ gb481 46 #[.bool t508, .slice Ao45 t509.length co45, .slice Ao47 t512.length co47] (0, 0) _ rfl (by (with_reducible repeat (fail)); refine blk_put (cs := #[.bool t508, .slice Ao45 t509.length co45, .slice none 0 0]) ?_ 2 _ rfl; (with_reducible repeat (fail)); refine blk_put (cs := #[.bool t508, .slice none 0 0, .slice none 0 0]) ?_ 1 _ rfl; (with_reducible repeat (fail)); refine blk_put (cs := #[.bool false, .slice none 0 0, .slice none 0 0]) ?_ 0 _ rfl; (with_reducible repeat (fail)); exact BK481.out) Try.underlying46 rfl (by kernel_rfl)) rfl ?_
  exact ⟨_, _, by rfl, by (with_reducible repeat (fail)); exact Kd.R_mono (Kd.R_far (p := ⟨gb481, 2, none⟩) (Kd.R_far (p := ⟨gb481, 1, none⟩) (Kd.R_far (p := ⟨gb481, 0, none⟩) (Kd.R_types HO511.out BK481.out (by decide)) (fun _ hk => hk.2) (.bool t508)) (fun _ hk => hk.2) (.slice Ao45 t509.length co45)) (fun _ hk => hk.2) (.slice Ao47 t512.length co47)) (fun _ hk => hk.1.1.1.1.1.1.1.1.1), by (with_reducible repeat (fail)); exact Kd.R_mono (Kd.R_far (p := ⟨gb481, 2, none⟩) (Kd.R_far (p := ⟨gb481, 1, none⟩) (Kd.R_far (p := ⟨gb481, 0, none⟩) (Kd.R_types HO514.out BK481.out (by decide)) (fun _ hk => hk.2) (.bool t508)) (fun _ hk => hk.2) (.slice Ao45 t509.length co45)) (fun _ hk => hk.2) (.slice Ao47 t512.length co47)) (fun _ hk => hk.1.1.1.1.1.1.1.1.1), by repeat ((with_reducible first | exact HB.out | refine below_set ?_ GE481.out))⟩
 ·rw [if_neg c8] at H
  have c8b0 : (t482 == t489) = false := by simpa using c8
  (try (have c8b1 : decide (t482 = t489) = false := by simpa using c8))
  (try (have c8b2 : (t482 == t489) = false := by simpa using c8))
  (try (have c8b3 : ¬ (t482 = t489) := by simpa using c8))
  clear c8
  replace H := Option.bind_eq_some_iff.mp H
  obtain ⟨t515, A490, H⟩ := H
  replace H : (if t515 ≥ 0 then ((codewrightref01_Sub.f k t496 t499).bind fun t516 => ((codewrightref02_Make.f k t482 t516 t502).bind fun bt519 => (some (bt519.1, bt519.2.1, bt519.2.2)))) else ((codewrightref01_Sub.f k t499 t496).bind fun t526 => ((codewrightref02_Make.f k t489 t526 t502).bind fun bt529 => (some (bt529.1, bt529.2.1, bt529.2.2))))) = some (r1, r2, r3) := H
  have A49 := Aside0.mk A490
  clear A490
  by_cases c50 : t515 ≥ 0
  ·rw [if_pos c50] at H
   have c50b0 : decide (0 ≤ t515) = true := decide_eq_true c50
   clear c50
   replace H := Option.bind_eq_some_iff.mp H
   obtain ⟨t516, A510, H⟩ := H
   replace H : ((codewrightref02_Make.f k t482 t516 t502).bind fun bt519 => (some (bt519.1, bt519.2.1, bt519.2.2))) = some (r1, r2, r3) := H
   have A51 := Aside0.mk A510
   clear A510
   replace H := Option.bind_eq_some_iff.mp H
   obtain ⟨⟨t519, t520, t523⟩, A520, H⟩ := H
   replace H : (some (t519, t520, t523)) = some (r1, r2, r3) := H
   have A52 := Aside0.mk A520
   clear A520
   simp only [Option.some.injEq, Prod.mk.injEq] at H
   obtain ⟨rfl, rfl, rfl⟩ := H
   go_enter Try.func33, Try.ntmps33
   try go_wp2_with (first | ((with_reducible refine gate_dst (N := 2) rfl ?_); refine box_event ?hg (N := 2) ?hd (cs := #[.bool a0_0, .slice A0_1 l0_1.length c0_1, .slice A0_2 l0_2.length c0_2]) (t := 46) ?hr ?_; (case hd => rfl); (case hg => rfl); (case hr => (go_simp; done)); intro gb479 hg w53 hbox hb; have n0_ := Aside0.mk (below_step (by repeat ((with_reducible exact HB.out))) hb); have n1_ := Aside0.mk (hbox); have n2_ := Aside0.mk ((by rw [hg]; exact (below_size (by repeat ((with_reducible exact HB.out)))) : w.heap.size ≤ gb479)); have n3_ := Aside0.mk ((by rw [hg]; exact (below_size (by repeat ((with_reducible exact HB.out)))) : w.heap.size ≤ gb479)); clear HB; have HB := n0_; have BK479 := n1_; have GW479 := n2_; have GE479 := n3_; clear n0_ n1_ n2_ n3_; clear hb hbox hg) | ((with_reducible refine gate_dst (N := 3) rfl ?_); refine box_event ?hg (N := 3) ?hd (cs := #[.bool a1_0, .slice A1_1 l1_1.length c1_1, .slice A1_2 l1_2.length c1_2]) (t := 46) ?hr ?_; (case hd => rfl); (case hg => rfl); (case hr => (go_simp; done)); intro gb480 hg w54 hbox hb; have n0_ := Aside0.mk (blk_below (g := gb479) (o := .cells #[.bool a0_0, .slice A0_1 l0_1.length c0_1, .slice A0_2 l0_2.length c0_2] 46 (0, 0)) (by (with_reducible repeat (fail)); exact BK479.out) hb); have n1_ := Aside0.mk (below_step (by repeat ((with_reducible exact HB.out))) hb); have n2_ := Aside0.mk (hbox); have n3_ := Aside0.mk ((by rw [hg]; exact (below_size (by repeat ((with_reducible exact HB.out)))) : w.heap.size ≤ gb480)); have n4_ := Aside0.mk ((by rw [hg]; exact (below_size (by repeat ((with_reducible exact HB.out)))) : w.heap.size ≤ gb480)); have n5_ := Aside0.mk ((by rw [hg]; exact Nat.ne_of_lt (blk_lt (g := gb479) (o := .cells #[.bool a0_0, .slice A0_1 l0_1.length c0_1, .slice A0_2 l0_2.length c0_2] 46 (0, 0)) (by (with_reducible repeat (fail)); exact BK479.out)) : gb479 ≠ gb480)); have n6_ := Aside0.mk ((by rw [hg]; exact Nat.ne_of_gt (blk_lt (g := gb479) (o := .cells #[.bool a0_0, .slice A0_1 l0_1.length c0_1, .slice A0_2 l0_2.length c0_2] 46 (0, 0)) (by (with_reducible repeat (fail)); exact BK479.out)) : gb480 ≠ gb479)); clear BK479; clear HB; have BK479 := n0_; have HB := n1_; have BK480 := n2_; have GW480 := n3_; have GE480 := n4_; have NB479_480 := n5_; have NB480_479 := n6_; clear n0_ n1_ n2_ n3_ n4_ n5_ n6_; clear hb hbox hg) | ((with_reducible refine gate_dst (N := 4) rfl ?_); refine box_event ?hg (N := 4) ?hd (cs := #[.bool false, .slice none 0 0, .slice none 0 0]) (t := 46) ?hr ?_; (case hd => rfl); (case hg => rfl); (case hr => (go_simp; done)); intro gb481 hg w55 hbox hb; have n0_ := Aside0.mk (blk_below (g := gb479) (o := .cells #[.bool a0_0, .slice A0_1 l0_1.length c0_1, .slice A0_2 l0_2.length c0_2] 46 (0, 0)) (by (with_reducible repeat (fail)); exact BK479.out) hb); have n1_ := Aside0.mk (blk_below (g := gb480) (o := .cells #[.bool a1_0, .slice A1_1 l1_1.length c1_1, .slice A1_2 l1_2.length c1_2] 46 (0, 0)) (by (with_reducible repeat (fail)); exact BK480.out) hb); have n2_ := Aside0.mk (below_step (by repeat ((with_reducible exact HB.out))) hb); have n3_ := Aside0.mk (hbox); have n4_ := Aside0.mk ((by rw [hg]; exact (below_size (by repeat ((with_reducible exact HB.out)))) : w.heap.size ≤ gb481)); have n5_ := Aside0.mk ((by rw [hg]; exact (below_size (by repeat ((with_reducible exact HB.out)))) : w.heap.size ≤ gb481)); have n6_ := Aside0.mk ((by rw [hg]; exact Nat.ne_of_lt (blk_lt (g := gb479) (o := .cells #[.bool a0_0, .slice A0_1 l0_1.length c0_1, .slice A0_2 l0_2.length c0_2] 46 (0, 0)) (by (with_reducible repeat (fail)); exact BK479.out)) : gb479 ≠ gb481)); have n7_ := Aside0.mk ((by rw [hg]; exact Nat.ne_of_gt (blk_lt (g := gb479) (o := .cells #[.bool a0_0, .slice A0_1 l0_1.length c0_1, .slice A0_2 l0_2.length c0_2] 46 (0, 0)) (by (with_reducible repeat (fail)); exact BK479.out)) : gb481 ≠ gb479)); have n8_ := Aside0.mk ((by rw [hg]; exact Nat.ne_of_lt (blk_lt (g := gb480) (o := .cells #[.bool a1_0, .slice A1_1 l1_1.length c1_1, .slice A1_2 l1_2.length c1_2] 46 (0, 0)) (by (with_reducible repeat (fail)); exact BK480.out)) : gb480 ≠ gb481)); have n9_ := Aside0.mk ((by rw [hg]; exact Nat.ne_of_gt (blk_lt (g := gb480) (o := .cells #[.bool a1_0, .slice A1_1 l1_1.length c1_1, .slice A1_2 l1_2.length c1_2] 46 (0, 0)) (by (with_reducible repeat (fail)); exact BK480.out)) : gb481 ≠ gb480)); clear BK479; clear BK480; clear HB; have BK479 := n0_; have BK480 := n1_; have HB := n2_; have BK481 := n3_; have GW481 := n4_; have GE481 := n5_; have NB479_481 := n6_; have NB481_479 := n7_; have NB480_481 := n8_; have NB481_480 := n9_; clear n0_ n1_ n2_ n3_ n4_ n5_ n6_ n7_ n8_ n9_; clear hb hbox hg; have hnb56 := NB479_480.out; have hnc56 := NB480_479.out; have hnb57 := NB479_481.out; have hnc57 := NB481_479.out; have hcz58_0 : w55.cell? ⟨gb479, 0, none⟩ = some (.bool a0_0) := (blk_cell BK479.out 0).trans rfl; have hcz58_1 : w55.cell? ⟨gb479, 1, none⟩ = some (.slice A0_1 l0_1.length c0_1) := (blk_cell BK479.out 1).trans rfl; have hcz58_2 : w55.cell? ⟨gb479, 2, none⟩ = some (.slice A0_2 l0_2.length c0_2) := (blk_cell BK479.out 2).trans rfl; have hfz58_0 := blk_frozen BK479.out 0; have hfz58_1 := blk_frozen BK479.out 1; have hfz58_2 := blk_frozen BK479.out 2) | ((with_reducible refine gate_callee (f := 67) rfl ?_); refine goesL_ (some 9) rfl rfl Try.func67 (by kernel_rfl) rfl #[.agg #[.bool a0_0, .slice A0_1 l0_1.length c0_1, .slice A0_2 l0_2.length c0_2]] rfl (by (try simp only [List.map_toArray, List.map_cons, List.map_nil]); rfl) ?_; (with_reducible refine (codewrightref02_Trim.calls k a0_0 _ _ l0_1 _ _ l0_2 t482 t483 t486 _ ?side1 ?side2 ?side3 ?side4 A3.out).mono ?_); (case side1 => repeat (exact (Kd.C_below HR0_1.out HB.out))); (case side2 => exact HC0_1.out); (case side3 => repeat (exact (Kd.C_below HR0_2.out HB.out))); (case side4 => exact HC0_2.out); rintro e w59 ⟨v484, v487, rfl, ho0, ho1, hb⟩; refine ⟨_, rfl, ?_⟩; have n0_ := Aside0.mk (Kd.R_lower ho0 (below_size (by repeat ((with_reducible exact HB.out))))); have n1_ := Aside0.mk (Kd.R_lower ho1 (below_size (by repeat ((with_reducible exact HB.out))))); have n2_ := Aside0.mk (blk_below (g := gb479) (o := .cells #[.bool a0_0, .slice A0_1 l0_1.length c0_1, .slice A0_2 l0_2.length c0_2] 46 (0, 0)) (by (with_reducible repeat (fail)); exact BK479.out) hb); have n3_ := Aside0.mk (blk_below (g := gb480) (o := .cells #[.bool a1_0, .slice A1_1 l1_1.length c1_1, .slice A1_2 l1_2.length c1_2] 46 (0, 0)) (by (with_reducible repeat (fail)); exact BK480.out) hb); have n4_ := Aside0.mk (blk_below (g := gb481) (o := .cells #[.bool false, .slice none 0 0, .slice none 0 0] 46 (0, 0)) (by (with_reducible repeat (fail)); exact BK481.out) hb); have n5_ := Aside0.mk (below_step (by repeat ((with_reducible exact HB.out))) hb); clear BK479; clear BK480; clear BK481; clear HB; have HO485 := n0_; have HO488 := n1_; have BK479 := n2_; have BK480 := n3_; have BK481 := n4_; have HB := n5_; clear n0_ n1_ n2_ n3_ n4_ n5_; (try clear hb); (try clear ho0); (try clear ho1); have hcz60_0 : w59.cell? ⟨gb479, 0, none⟩ = some (.bool a0_0) := (blk_cell BK479.out 0).trans rfl; have hcz60_1 : w59.cell? ⟨gb479, 1, none⟩ = some (.slice A0_1 l0_1.length c0_1) := (blk_cell BK479.out 1).trans rfl; have hcz60_2 : w59.cell? ⟨gb479, 2, none⟩ = some (.slice A0_2 l0_2.length c0_2) := (blk_cell BK479.out 2).trans rfl; have hfz60_0 := blk_frozen BK479.out 0; have hfz60_1 := blk_frozen BK479.out 1; have hfz60_2 := blk_frozen BK479.out 2; obtain ⟨Ao61, co61, eo61⟩ := Kd.R_slice HO485.out; subst eo61; obtain ⟨Ao62, co62, eo62⟩ := Kd.R_slice HO488.out; subst eo62; have hnb63 := NB480_481.out; have hnc63 := NB481_480.out; have hcz64_0 : w59.cell? ⟨gb480, 0, none⟩ = some (.bool a1_0) := (blk_cell BK480.out 0).trans rfl; have hcz64_1 : w59.cell? ⟨gb480, 1, none⟩ = some (.slice A1_1 l1_1.length c1_1) := (blk_cell BK480.out 1).trans rfl; have hcz64_2 : w59.cell? ⟨gb480, 2, none⟩ = some (.slice A1_2 l1_2.length c1_2) := (blk_cell BK480.out 2).trans rfl; have hfz64_0 := blk_frozen BK480.out 0; have hfz64_1 := blk_frozen BK480.out 1; have hfz64_2 := blk_frozen BK480.out 2) | ((with_reducible refine gate_callee (f := 67) rfl ?_); refine goesL_ (some 11) rfl rfl Try.func67 (by kernel_rfl) rfl #[.agg #[.bool a1_0, .slice A1_1 l1_1.length c1_1, .slice A1_2 l1_2.length c1_2]] rfl (by (try simp only [List.map_toArray, List.map_cons, List.map_nil]); rfl) ?_; (with_reducible refine (codewrightref02_Trim.calls k a1_0 _ _ l1_1 _ _ l1_2 t489 t490 t493 _ ?side1 ?side2 ?side3 ?side4 A4.out).mono ?_); (case side1 => exact Kd.C_below HR1_1.out (by repeat ((with_reducible first | exact HB.out | refine below_set ?_ GE479.out)))); (case side2 => exact HC1_1.out); (case side3 => exact Kd.C_below HR1_2.out (by repeat ((with_reducible first | exact HB.out | refine below_set ?_ GE479.out)))); (case side4 => exact HC1_2.out); rintro e w65 ⟨v491, v494, rfl, ho0, ho1, hb⟩; refine ⟨_, rfl, ?_⟩; have n0_ := Aside0.mk (Kd.R_mono (Kd.R_told (Kd.R_told (Kd.R_old (by (with_reducible repeat (fail)); exact (Kd.R_mono (Kd.R_far (p := ⟨gb479, 2, none⟩) (Kd.R_far (p := ⟨gb479, 1, none⟩) (Kd.R_far (p := ⟨gb479, 0, none⟩) (Kd.R_types HO485.out BK479.out (by decide)) (fun _ hk => hk.2) (.bool t482)) (fun _ hk => hk.2) (.slice Ao61 t483.length co61)) (fun _ hk => hk.2) (.slice Ao62 t486.length co62)) (fun _ h_ => h_.1))) hb) (Kd.R_base ho0)) (Kd.R_base ho1)) (fun _ h_ => h_.1)); have n1_ := Aside0.mk (Kd.R_mono (Kd.R_told (Kd.R_told (Kd.R_old (by (with_reducible repeat (fail)); exact (Kd.R_mono (Kd.R_far (p := ⟨gb479, 2, none⟩) (Kd.R_far (p := ⟨gb479, 1, none⟩) (Kd.R_far (p := ⟨gb479, 0, none⟩) (Kd.R_types HO488.out BK479.out (by decide)) (fun _ hk => hk.2) (.bool t482)) (fun _ hk => hk.2) (.slice Ao61 t483.length co61)) (fun _ hk => hk.2) (.slice Ao62 t486.length co62)) (fun _ h_ => h_.1))) hb) (Kd.R_base ho0)) (Kd.R_base ho1)) (fun _ h_ => h_.1)); have n2_ := Aside0.mk (Kd.R_lower (Kd.R_new' (Kd.R_new' ho0 (Kd.R_lt (by (with_reducible repeat (fail)); exact (Kd.R_mono (Kd.R_far (p := ⟨gb479, 2, none⟩) (Kd.R_far (p := ⟨gb479, 1, none⟩) (Kd.R_far (p := ⟨gb479, 0, none⟩) (Kd.R_types HO485.out BK479.out (by decide)) (fun _ hk => hk.2) (.bool t482)) (fun _ hk => hk.2) (.slice Ao61 t483.length co61)) (fun _ hk => hk.2) (.slice Ao62 t486.length co62)) (fun _ h_ => h_.1))))) (Kd.R_lt (by (with_reducible repeat (fail)); exact (Kd.R_mono (Kd.R_far (p := ⟨gb479, 2, none⟩) (Kd.R_far (p := ⟨gb479, 1, none⟩) (Kd.R_far (p := ⟨gb479, 0, none⟩) (Kd.R_types HO488.out BK479.out (by decide)) (fun _ hk => hk.2) (.bool t482)) (fun _ hk => hk.2) (.slice Ao61 t483.length co61)) (fun _ hk => hk.2) (.slice Ao62 t486.length co62)) (fun _ h_ => h_.1))))) (below_size (by repeat ((with_reducible first | exact HB.out | refine below_set ?_ GE479.out))))); have n3_ := Aside0.mk (Kd.R_lower (Kd.R_new' (Kd.R_new' ho1 (Kd.R_lt (by (with_reducible repeat (fail)); exact (Kd.R_mono (Kd.R_far (p := ⟨gb479, 2, none⟩) (Kd.R_far (p := ⟨gb479, 1, none⟩) (Kd.R_far (p := ⟨gb479, 0, none⟩) (Kd.R_types HO485.out BK479.out (by decide)) (fun _ hk => hk.2) (.bool t482)) (fun _ hk => hk.2) (.slice Ao61 t483.length co61)) (fun _ hk => hk.2) (.slice Ao62 t486.length co62)) (fun _ h_ => h_.1))))) (Kd.R_lt (by (with_reducible repeat (fail)); exact (Kd.R_mono (Kd.R_far (p := ⟨gb479, 2, none⟩) (Kd.R_far (p := ⟨gb479, 1, none⟩) (Kd.R_far (p := ⟨gb479, 0, none⟩) (Kd.R_types HO488.out BK479.out (by decide)) (fun _ hk => hk.2) (.bool t482)) (fun _ hk => hk.2) (.slice Ao61 t483.length co61)) (fun _ hk => hk.2) (.slice Ao62 t486.length co62)) (fun _ h_ => h_.1))))) (below_size (by repeat ((with_reducible first | exact HB.out | refine below_set ?_ GE479.out))))); have n4_ := Aside0.mk (blk_below (g := gb479) (o := .cells #[.bool t482, .slice Ao61 t483.length co61, .slice Ao62 t486.length co62] 46 (0, 0)) (by (with_reducible repeat (fail)); refine blk_put (cs := #[.bool t482, .slice Ao61 t483.length co61, .slice A0_2 l0_2.length c0_2]) ?_ 2 _ rfl; (with_reducible repeat (fail)); refine blk_put (cs := #[.bool t482, .slice A0_1 l0_1.length c0_1, .slice A0_2 l0_2.length c0_2]) ?_ 1 _ rfl; (with_reducible repeat (fail)); refine blk_put (cs := #[.bool a0_0, .slice A0_1 l0_1.length c0_1, .slice A0_2 l0_2.length c0_2]) ?_ 0 _ rfl; (with_reducible repeat (fail)); exact BK479.out) hb); have n5_ := Aside0.mk (blk_below (g := gb480) (o := .cells #[.bool a1_0, .slice A1_1 l1_1.length c1_1, .slice A1_2 l1_2.length c1_2] 46 (0, 0)) (by (with_reducible repeat (fail)); refine blk_far ?_ NB480_479.out _; (with_reducible repeat (fail)); refine blk_far ?_ NB480_479.out _; (with_reducible repeat (fail)); refine blk_far ?_ NB480_479.out _; (with_reducible repeat (fail)); exact BK480.out) hb); have n6_ := Aside0.mk (blk_below (g := gb481) (o := .cells #[.bool false, .slice none 0 0, .slice none 0 0] 46 (0, 0)) (by (with_reducible repeat (fail)); refine blk_far ?_ NB481_479.out _; (with_reducible repeat (fail)); refine blk_far ?_ NB481_479.out _; (with_reducible repeat (fail)); refine blk_far ?_ NB481_479.out _; (with_reducible repeat (fail)); exact BK481.out) hb); have n7_ := Aside0.mk (below_step (by repeat ((with_reducible first | exact HB.out | refine below_set ?_ GE479.out))) hb); clear HO485; clear HO488; clear BK479; clear BK480; clear BK481; clear HB; have HO485 := n0_; have HO488 := n1_; have HO492 := n2_; have HO495 := n3_; have BK479 := n4_; have BK480 := n5_; have BK481 := n6_; have HB := n7_; clear n0_ n1_ n2_ n3_ n4_ n5_ n6_ n7_; (try clear hb); (try clear ho0); (try clear ho1); have hcz66_0 : w65.cell? ⟨gb480, 0, none⟩ = some (.bool a1_0) := (blk_cell BK480.out 0).trans rfl; have hcz66_1 : w65.cell? ⟨gb480, 1, none⟩ = some (.slice A1_1 l1_1.length c1_1) := (blk_cell BK480.out 1).trans rfl; have hcz66_2 : w65.cell? ⟨gb480, 2, none⟩ = some (.slice A1_2 l1_2.length c1_2) := (blk_cell BK480.out 2).trans rfl; have hfz66_0 := blk_frozen BK480.out 0; have hfz66_1 := blk_frozen BK480.out 1; have hfz66_2 := blk_frozen BK480.out 2; obtain ⟨Ao67, co67, eo67⟩ := Kd.R_slice HO492.out; subst eo67; obtain ⟨Ao68, co68, eo68⟩ := Kd.R_slice HO495.out; subst eo68; have hcz69_0 : w65.cell? ⟨gb479, 0, none⟩ = some (.bool t482) := (blk_cell BK479.out 0).trans rfl; have hcz69_1 : w65.cell? ⟨gb479, 1, none⟩ = some (.slice Ao61 t483.length co61) := (blk_cell BK479.out 1).trans rfl; have hcz69_2 : w65.cell? ⟨gb479, 2, none⟩ = some (.slice Ao62 t486.length co62) := (blk_cell BK479.out 2).trans rfl; have hfz69_0 := blk_frozen BK479.out 0; have hfz69_1 := blk_frozen BK479.out 1; have hfz69_2 := blk_frozen BK479.out 2) | ((with_reducible refine gate_callee (f := 68) rfl ?_); refine goesL_ (some 16) rfl rfl Try.func68 (by kernel_rfl) rfl #[.slice Ao61 t483.length co61, .slice Ao68 t493.length co68] rfl (by (try simp only [List.map_toArray, List.map_cons, List.map_nil]); rfl) ?_; (with_reducible refine (codewrightref01_Mul.calls k _ _ t483 _ _ t493 t496 _ ?side1 ?side2 ?side3 ?side4 A5.out).mono ?_); (case side1 => refine (Kd.R_reads' (e := 100) (base := w.heap.size) (ok := fun k_ => ((some k_ ≠ (.slice Ao62 t486.length co62 : Value).ownBlock ∧ some k_ ≠ (.slice Ao67 t490.length co67 : Value).ownBlock) ∧ some k_ ≠ (.slice Ao68 t493.length co68 : Value).ownBlock)) (n := t483.length) (c := co61) ?_).2.2; exact (by (with_reducible repeat (fail)); exact (Kd.R_mono (Kd.R_far (p := ⟨gb480, 2, none⟩) (Kd.R_far (p := ⟨gb480, 1, none⟩) (Kd.R_far (p := ⟨gb480, 0, none⟩) (Kd.R_types HO485.out BK480.out (by decide)) (fun _ hk => hk.2) (.bool t489)) (fun _ hk => hk.2) (.slice Ao67 t490.length co67)) (fun _ hk => hk.2) (.slice Ao68 t493.length co68)) (fun _ h_ => h_.1)))); (case side2 => exact (Kd.R_reads' HO485.out).2.1); (case side3 => refine (Kd.R_reads' (e := 100) (base := w.heap.size) (ok := fun k_ => ((some k_ ≠ (.slice Ao67 t490.length co67 : Value).ownBlock ∧ some k_ ≠ (.slice Ao61 t483.length co61 : Value).ownBlock) ∧ some k_ ≠ (.slice Ao62 t486.length co62 : Value).ownBlock)) (n := t493.length) (c := co68) ?_).2.2; exact (by (with_reducible repeat (fail)); exact (Kd.R_mono (Kd.R_far (p := ⟨gb480, 2, none⟩) (Kd.R_far (p := ⟨gb480, 1, none⟩) (Kd.R_far (p := ⟨gb480, 0, none⟩) (Kd.R_types HO495.out BK480.out (by decide)) (fun _ hk => hk.2) (.bool t489)) (fun _ hk => hk.2) (.slice Ao67 t490.length co67)) (fun _ hk => hk.2) (.slice Ao68 t493.length co68)) (fun _ h_ => h_.1)))); (case side4 => exact (Kd.R_reads' HO495.out).2.1); rintro e w70 ⟨v497, rfl, ho0, hb⟩; refine ⟨_, rfl, ?_⟩; have n0_ := Aside0.mk (Kd.R_elder' (by (with_reducible repeat (fail)); exact (Kd.R_mono (Kd.R_far (p := ⟨gb480, 2, none⟩) (Kd.R_far (p := ⟨gb480, 1, none⟩) (Kd.R_far (p := ⟨gb480, 0, none⟩) (Kd.R_types HO485.out BK480.out (by decide)) (fun _ hk => hk.2) (.bool t489)) (fun _ hk => hk.2) (.slice Ao67 t490.length co67)) (fun _ hk => hk.2) (.slice Ao68 t493.length co68)) (fun _ h_ => h_.1))) (Kd.R_base ho0) hb); have n1_ := Aside0.mk (Kd.R_elder' (by (with_reducible repeat (fail)); exact (Kd.R_mono (Kd.R_far (p := ⟨gb480, 2, none⟩) (Kd.R_far (p := ⟨gb480, 1, none⟩) (Kd.R_far (p := ⟨gb480, 0, none⟩) (Kd.R_types HO488.out BK480.out (by decide)) (fun _ hk => hk.2) (.bool t489)) (fun _ hk => hk.2) (.slice Ao67 t490.length co67)) (fun _ hk => hk.2) (.slice Ao68 t493.length co68)) (fun _ h_ => h_.1))) (Kd.R_base ho0) hb); have n2_ := Aside0.mk (Kd.R_elder' (by (with_reducible repeat (fail)); exact (Kd.R_mono (Kd.R_far (p := ⟨gb480, 2, none⟩) (Kd.R_far (p := ⟨gb480, 1, none⟩) (Kd.R_far (p := ⟨gb480, 0, none⟩) (Kd.R_types HO492.out BK480.out (by decide)) (fun _ hk => hk.2) (.bool t489)) (fun _ hk => hk.2) (.slice Ao67 t490.length co67)) (fun _ hk => hk.2) (.slice Ao68 t493.length co68)) (fun _ h_ => h_.1))) (Kd.R_base ho0) hb); have n3_ := Aside0.mk (Kd.R_elder' (by (with_reducible repeat (fail)); exact (Kd.R_mono (Kd.R_far (p := ⟨gb480, 2, none⟩) (Kd.R_far (p := ⟨gb480, 1, none⟩) (Kd.R_far (p := ⟨gb480, 0, none⟩) (Kd.R_types HO495.out BK480.out (by decide)) (fun _ hk => hk.2) (.bool t489)) (fun _ hk => hk.2) (.slice Ao67 t490.length co67)) (fun _ hk => hk.2) (.slice Ao68 t493.length co68)) (fun _ h_ => h_.1))) (Kd.R_base ho0) hb); have n4_ := Aside0.mk (Kd.R_lower (Kd.R_new' (Kd.R_new' (Kd.R_new' (Kd.R_new' ho0 (Kd.R_lt (by (with_reducible repeat (fail)); exact (Kd.R_mono (Kd.R_far (p := ⟨gb480, 2, none⟩) (Kd.R_far (p := ⟨gb480, 1, none⟩) (Kd.R_far (p := ⟨gb480, 0, none⟩) (Kd.R_types HO485.out BK480.out (by decide)) (fun _ hk => hk.2) (.bool t489)) (fun _ hk => hk.2) (.slice Ao67 t490.length co67)) (fun _ hk => hk.2) (.slice Ao68 t493.length co68)) (fun _ h_ => h_.1))))) (Kd.R_lt (by (with_reducible repeat (fail)); exact (Kd.R_mono (Kd.R_far (p := ⟨gb480, 2, none⟩) (Kd.R_far (p := ⟨gb480, 1, none⟩) (Kd.R_far (p := ⟨gb480, 0, none⟩) (Kd.R_types HO488.out BK480.out (by decide)) (fun _ hk => hk.2) (.bool t489)) (fun _ hk => hk.2) (.slice Ao67 t490.length co67)) (fun _ hk => hk.2) (.slice Ao68 t493.length co68)) (fun _ h_ => h_.1))))) (Kd.R_lt (by (with_reducible repeat (fail)); exact (Kd.R_mono (Kd.R_far (p := ⟨gb480, 2, none⟩) (Kd.R_far (p := ⟨gb480, 1, none⟩) (Kd.R_far (p := ⟨gb480, 0, none⟩) (Kd.R_types HO492.out BK480.out (by decide)) (fun _ hk => hk.2) (.bool t489)) (fun _ hk => hk.2) (.slice Ao67 t490.length co67)) (fun _ hk => hk.2) (.slice Ao68 t493.length co68)) (fun _ h_ => h_.1))))) (Kd.R_lt (by (with_reducible repeat (fail)); exact (Kd.R_mono (Kd.R_far (p := ⟨gb480, 2, none⟩) (Kd.R_far (p := ⟨gb480, 1, none⟩) (Kd.R_far (p := ⟨gb480, 0, none⟩) (Kd.R_types HO495.out BK480.out (by decide)) (fun _ hk => hk.2) (.bool t489)) (fun _ hk => hk.2) (.slice Ao67 t490.length co67)) (fun _ hk => hk.2) (.slice Ao68 t493.length co68)) (fun _ h_ => h_.1))))) (below_size (by repeat ((with_reducible first | exact HB.out | refine below_set ?_ GE480.out))))); have n5_ := Aside0.mk (blk_below (g := gb479) (o := .cells #[.bool t482, .slice Ao61 t483.length co61, .slice Ao62 t486.length co62] 46 (0, 0)) (by (with_reducible repeat (fail)); refine blk_far ?_ NB479_480.out _; (with_reducible repeat (fail)); refine blk_far ?_ NB479_480.out _; (with_reducible repeat (fail)); refine blk_far ?_ NB479_480.out _; (with_reducible repeat (fail)); exact BK479.out) hb); have n6_ := Aside0.mk (blk_below (g := gb480) (o := .cells #[.bool t489, .slice Ao67 t490.length co67, .slice Ao68 t493.length co68] 46 (0, 0)) (by (with_reducible repeat (fail)); refine blk_put (cs := #[.bool t489, .slice Ao67 t490.length co67, .slice A1_2 l1_2.length c1_2]) ?_ 2 _ rfl; (with_reducible repeat (fail)); refine blk_put (cs := #[.bool t489, .slice A1_1 l1_1.length c1_1, .slice A1_2 l1_2.length c1_2]) ?_ 1 _ rfl; (with_reducible repeat (fail)); refine blk_put (cs := #[.bool a1_0, .slice A1_1 l1_1.length c1_1, .slice A1_2 l1_2.length c1_2]) ?_ 0 _ rfl; (with_reducible repeat (fail)); exact BK480.out) hb); have n7_ := Aside0.mk (blk_below (g := gb481) (o := .cells #[.bool false, .slice none 0 0, .slice none 0 0] 46 (0, 0)) (by (with_reducible repeat (fail)); refine blk_far ?_ NB481_480.out _; (with_reducible repeat (fail)); refine blk_far ?_ NB481_480.out _; (with_reducible repeat (fail)); refine blk_far ?_ NB481_480.out _; (with_reducible repeat (fail)); exact BK481.out) hb); have n8_ := Aside0.mk (below_step (by repeat ((with_reducible first | exact HB.out | refine below_set ?_ GE480.out))) hb); clear HO485; clear HO488; clear HO492; clear HO495; clear BK479; clear BK480; clear BK481; clear HB; have HO485 := n0_; have HO488 := n1_; have HO492 := n2_; have HO495 := n3_; have HO498 := n4_; have BK479 := n5_; have BK480 := n6_; have BK481 := n7_; have HB := n8_; clear n0_ n1_ n2_ n3_ n4_ n5_ n6_ n7_ n8_; (try clear hb); (try clear ho0); have hcz71_0 : w70.cell? ⟨gb480, 0, none⟩ = some (.bool t489) := (blk_cell BK480.out 0).trans rfl; have hcz71_1 : w70.cell? ⟨gb480, 1, none⟩ = some (.slice Ao67 t490.length co67) := (blk_cell BK480.out 1).trans rfl; have hcz71_2 : w70.cell? ⟨gb480, 2, none⟩ = some (.slice Ao68 t493.length co68) := (blk_cell BK480.out 2).trans rfl; have hfz71_0 := blk_frozen BK480.out 0; have hfz71_1 := blk_frozen BK480.out 1; have hfz71_2 := blk_frozen BK480.out 2; have hcz72_0 : w70.cell? ⟨gb479, 0, none⟩ = some (.bool t482) := (blk_cell BK479.out 0).trans rfl; have hcz72_1 : w70.cell? ⟨gb479, 1, none⟩ = some (.slice Ao61 t483.length co61) := (blk_cell BK479.out 1).trans rfl; have hcz72_2 : w70.cell? ⟨gb479, 2, none⟩ = some (.slice Ao62 t486.length co62) := (blk_cell BK479.out 2).trans rfl; have hfz72_0 := blk_frozen BK479.out 0; have hfz72_1 := blk_frozen BK479.out 1; have hfz72_2 := blk_frozen BK479.out 2) | ((with_reducible refine gate_callee (f := 68) rfl ?_); refine goesL_ (some 21) rfl rfl Try.func68 (by kernel_rfl) rfl #[.slice Ao67 t490.length co67, .slice Ao62 t486.length co62] rfl (by (try simp only [List.map_toArray, List.map_cons, List.map_nil]); rfl) ?_; (with_reducible refine (codewrightref01_Mul.calls k _ _ t490 _ _ t486 t499 _ ?side1 ?side2 ?side3 ?side4 A6.out).mono ?_); (case side1 => exact (Kd.R_reads' HO492.out).2.2); (case side2 => exact (Kd.R_reads' HO492.out).2.1); (case side3 => exact (Kd.R_reads' HO488.out).2.2); (case side4 => exact (Kd.R_reads' HO488.out).2.1); rintro e w73 ⟨v500, rfl, ho0, hb⟩; refine ⟨_, rfl, ?_⟩; have n0_ := Aside0.mk (Kd.R_elder' (by (with_reducible repeat (fail)); exact HO485.out) (Kd.R_base ho0) hb); have n1_ := Aside0.mk (Kd.R_elder' (by (with_reducible repeat (fail)); exact HO488.out) (Kd.R_base ho0) hb); have n2_ := Aside0.mk (Kd.R_elder' (by (with_reducible repeat (fail)); exact HO492.out) (Kd.R_base ho0) hb); have n3_ := Aside0.mk (Kd.R_elder' (by (with_reducible repeat (fail)); exact HO495.out) (Kd.R_base ho0) hb); have n4_ := Aside0.mk (Kd.R_elder' (by (with_reducible repeat (fail)); exact HO498.out) (Kd.R_base ho0) hb); have n5_ := Aside0.mk (Kd.R_lower (Kd.R_new' (Kd.R_new' (Kd.R_new' (Kd.R_new' (Kd.R_new' ho0 (Kd.R_lt (by (with_reducible repeat (fail)); exact HO485.out))) (Kd.R_lt (by (with_reducible repeat (fail)); exact HO488.out))) (Kd.R_lt (by (with_reducible repeat (fail)); exact HO492.out))) (Kd.R_lt (by (with_reducible repeat (fail)); exact HO495.out))) (Kd.R_lt (by (with_reducible repeat (fail)); exact HO498.out))) (below_size (by repeat ((with_reducible exact HB.out))))); have n6_ := Aside0.mk (blk_below (g := gb479) (o := .cells #[.bool t482, .slice Ao61 t483.length co61, .slice Ao62 t486.length co62] 46 (0, 0)) (by (with_reducible repeat (fail)); exact BK479.out) hb); have n7_ := Aside0.mk (blk_below (g := gb480) (o := .cells #[.bool t489, .slice Ao67 t490.length co67, .slice Ao68 t493.length co68] 46 (0, 0)) (by (with_reducible repeat (fail)); exact BK480.out) hb); have n8_ := Aside0.mk (blk_below (g := gb481) (o := .cells #[.bool false, .slice none 0 0, .slice none 0 0] 46 (0, 0)) (by (with_reducible repeat (fail)); exact BK481.out) hb); have n9_ := Aside0.mk (below_step (by repeat ((with_reducible exact HB.out))) hb); clear HO485; clear HO488; clear HO492; clear HO495; clear HO498; clear BK479; clear BK480; clear BK481; clear HB; have HO485 := n0_; have HO488 := n1_; have HO492 := n2_; have HO495 := n3_; have HO498 := n4_; have HO501 := n5_; have BK479 := n6_; have BK480 := n7_; have BK481 := n8_; have HB := n9_; clear n0_ n1_ n2_ n3_ n4_ n5_ n6_ n7_ n8_ n9_; (try clear hb); (try clear ho0); have hcz74_0 : w73.cell? ⟨gb479, 0, none⟩ = some (.bool t482) := (blk_cell BK479.out 0).trans rfl; have hcz74_1 : w73.cell? ⟨gb479, 1, none⟩ = some (.slice Ao61 t483.length co61) := (blk_cell BK479.out 1).trans rfl; have hcz74_2 : w73.cell? ⟨gb479, 2, none⟩ = some (.slice Ao62 t486.length co62) := (blk_cell BK479.out 2).trans rfl; have hfz74_0 := blk_frozen BK479.out 0; have hfz74_1 := blk_frozen BK479.out 1; have hfz74_2 := blk_frozen BK479.out 2; have hcz75_0 : w73.cell? ⟨gb480, 0, none⟩ = some (.bool t489) := (blk_cell BK480.out 0).trans rfl; have hcz75_1 : w73.cell? ⟨gb480, 1, none⟩ = some (.slice Ao67 t490.length co67) := (blk_cell BK480.out 1).trans rfl; have hcz75_2 : w73.cell? ⟨gb480, 2, none⟩ = some (.slice Ao68 t493.length co68) := (blk_cell BK480.out 2).trans rfl; have hfz75_0 := blk_frozen BK480.out 0; have hfz75_1 := blk_frozen BK480.out 1; have hfz75_2 := blk_frozen BK480.out 2) | ((with_reducible refine gate_callee (f := 68) rfl ?_); refine goesL_ (some 26) rfl rfl Try.func68 (by kernel_rfl) rfl #[.slice Ao62 t486.length co62, .slice Ao68 t493.length co68] rfl (by (try simp only [List.map_toArray, List.map_cons, List.map_nil]); rfl) ?_; (with_reducible refine (codewrightref01_Mul.calls k _ _ t486 _ _ t493 t502 _ ?side1 ?side2 ?side3 ?side4 A7.out).mono ?_); (case side1 => exact (Kd.R_reads' HO488.out).2.2); (case side2 => exact (Kd.R_reads' HO488.out).2.1); (case side3 => exact (Kd.R_reads' HO495.out).2.2); (case side4 => exact (Kd.R_reads' HO495.out).2.1); rintro e w76 ⟨v503, rfl, ho0, hb⟩; refine ⟨_, rfl, ?_⟩; have n0_ := Aside0.mk (Kd.R_elder' (by (with_reducible repeat (fail)); exact HO485.out) (Kd.R_base ho0) hb); have n1_ := Aside0.mk (Kd.R_elder' (by (with_reducible repeat (fail)); exact HO488.out) (Kd.R_base ho0) hb); have n2_ := Aside0.mk (Kd.R_elder' (by (with_reducible repeat (fail)); exact HO492.out) (Kd.R_base ho0) hb); have n3_ := Aside0.mk (Kd.R_elder' (by (with_reducible repeat (fail)); exact HO495.out) (Kd.R_base ho0) hb); have n4_ := Aside0.mk (Kd.R_elder' (by (with_reducible repeat (fail)); exact HO498.out) (Kd.R_base ho0) hb); have n5_ := Aside0.mk (Kd.R_elder' (by (with_reducible repeat (fail)); exact HO501.out) (Kd.R_base ho0) hb); have n6_ := Aside0.mk (Kd.R_lower (Kd.R_new' (Kd.R_new' (Kd.R_new' (Kd.R_new' (Kd.R_new' (Kd.R_new' ho0 (Kd.R_lt (by (with_reducible repeat (fail)); exact HO485.out))) (Kd.R_lt (by (with_reducible repeat (fail)); exact HO488.out))) (Kd.R_lt (by (with_reducible repeat (fail)); exact HO492.out))) (Kd.R_lt (by (with_reducible repeat (fail)); exact HO495.out))) (Kd.R_lt (by (with_reducible repeat (fail)); exact HO498.out))) (Kd.R_lt (by (with_reducible repeat (fail)); exact HO501.out))) (below_size (by repeat ((with_reducible exact HB.out))))); have n7_ := Aside0.mk (blk_below (g := gb479) (o := .cells #[.bool t482, .slice Ao61 t483.length co61, .slice Ao62 t486.length co62] 46 (0, 0)) (by (with_reducible repeat (fail)); exact BK479.out) hb); have n8_ := Aside0.mk (blk_below (g := gb480) (o := .cells #[.bool t489, .slice Ao67 t490.length co67, .slice Ao68 t493.length co68] 46 (0, 0)) (by (with_reducible repeat (fail)); exact BK480.out) hb); have n9_ := Aside0.mk (blk_below (g := gb481) (o := .cells #[.bool false, .slice none 0 0, .slice none 0 0] 46 (0, 0)) (by (with_reducible repeat (fail)); exact BK481.out) hb); have n10_ := Aside0.mk (below_step (by repeat ((with_reducible exact HB.out))) hb); clear HO485; clear HO488; clear HO492; clear HO495; clear HO498; clear HO501; clear BK479; clear BK480; clear BK481; clear HB; have HO485 := n0_; have HO488 := n1_; have HO492 := n2_; have HO495 := n3_; have HO498 := n4_; have HO501 := n5_; have HO504 := n6_; have BK479 := n7_; have BK480 := n8_; have BK481 := n9_; have HB := n10_; clear n0_ n1_ n2_ n3_ n4_ n5_ n6_ n7_ n8_ n9_ n10_; (try clear hb); (try clear ho0); have hcz77_0 : w76.cell? ⟨gb479, 0, none⟩ = some (.bool t482) := (blk_cell BK479.out 0).trans rfl; have hcz77_1 : w76.cell? ⟨gb479, 1, none⟩ = some (.slice Ao61 t483.length co61) := (blk_cell BK479.out 1).trans rfl; have hcz77_2 : w76.cell? ⟨gb479, 2, none⟩ = some (.slice Ao62 t486.length co62) := (blk_cell BK479.out 2).trans rfl; have hfz77_0 := blk_frozen BK479.out 0; have hfz77_1 := blk_frozen BK479.out 1; have hfz77_2 := blk_frozen BK479.out 2; have hcz78_0 : w76.cell? ⟨gb480, 0, none⟩ = some (.bool t489) := (blk_cell BK480.out 0).trans rfl; have hcz78_1 : w76.cell? ⟨gb480, 1, none⟩ = some (.slice Ao67 t490.length co67) := (blk_cell BK480.out 1).trans rfl; have hcz78_2 : w76.cell? ⟨gb480, 2, none⟩ = some (.slice Ao68 t493.length co68) := (blk_cell BK480.out 2).trans rfl; have hfz78_0 := blk_frozen BK480.out 0; have hfz78_1 := blk_frozen BK480.out 1; have hfz78_2 := blk_frozen BK480.out 2; obtain ⟨Ao79, co79, eo79⟩ := Kd.R_slice HO498.out; subst eo79; obtain ⟨Ao80, co80, eo80⟩ := Kd.R_slice HO501.out; subst eo80) | ((with_reducible refine gate_callee (f := 71) rfl ?_); refine goesL_ (some 41) rfl rfl Try.func71 (by kernel_rfl) rfl #[.slice Ao79 t496.length co79, .slice Ao80 t499.length co80] rfl (by (try simp only [List.map_toArray, List.map_cons, List.map_nil]); rfl) ?_; (with_reducible refine (codewrightref01_Cmp.calls k _ _ t496 _ _ t499 t515 _ ?side1 ?side2 ?side3 ?side4 A49.out).mono ?_); (case side1 => exact (Kd.R_reads' HO498.out).2.2); (case side2 => exact (Kd.R_reads' HO498.out).2.1); (case side3 => exact (Kd.R_reads' HO501.out).2.2); (case side4 => exact (Kd.R_reads' HO501.out).2.1); rintro e w81 ⟨rfl, hb⟩; refine ⟨_, rfl, ?_⟩; have n0_ := Aside0.mk (Kd.R_below (by (with_reducible repeat (fail)); exact HO485.out) hb); have n1_ := Aside0.mk (Kd.R_below (by (with_reducible repeat (fail)); exact HO488.out) hb); have n2_ := Aside0.mk (Kd.R_below (by (with_reducible repeat (fail)); exact HO492.out) hb); have n3_ := Aside0.mk (Kd.R_below (by (with_reducible repeat (fail)); exact HO495.out) hb); have n4_ := Aside0.mk (Kd.R_below (by (with_reducible repeat (fail)); exact HO498.out) hb); have n5_ := Aside0.mk (Kd.R_below (by (with_reducible repeat (fail)); exact HO501.out) hb); have n6_ := Aside0.mk (Kd.R_below (by (with_reducible repeat (fail)); exact HO504.out) hb); have n7_ := Aside0.mk (blk_below (g := gb479) (o := .cells #[.bool t482, .slice Ao61 t483.length co61, .slice Ao62 t486.length co62] 46 (0, 0)) (by (with_reducible repeat (fail)); exact BK479.out) hb); have n8_ := Aside0.mk (blk_below (g := gb480) (o := .cells #[.bool t489, .slice Ao67 t490.length co67, .slice Ao68 t493.length co68] 46 (0, 0)) (by (with_reducible repeat (fail)); exact BK480.out) hb); have n9_ := Aside0.mk (blk_below (g := gb481) (o := .cells #[.bool false, .slice none 0 0, .slice none 0 0] 46 (0, 0)) (by (with_reducible repeat (fail)); exact BK481.out) hb); have n10_ := Aside0.mk (below_step (by repeat ((with_reducible exact HB.out))) hb); clear HO485; clear HO488; clear HO492; clear HO495; clear HO498; clear HO501; clear HO504; clear BK479; clear BK480; clear BK481; clear HB; have HO485 := n0_; have HO488 := n1_; have HO492 := n2_; have HO495 := n3_; have HO498 := n4_; have HO501 := n5_; have HO504 := n6_; have BK479 := n7_; have BK480 := n8_; have BK481 := n9_; have HB := n10_; clear n0_ n1_ n2_ n3_ n4_ n5_ n6_ n7_ n8_ n9_ n10_; (try clear hb)))
   have n0_ := Aside0.mk (Kd.R_drew HO485.out)
   have n1_ := Aside0.mk (Kd.R_drew HO488.out)
   have n2_ := Aside0.mk (Kd.R_drew HO492.out)
   have n3_ := Aside0.mk (Kd.R_drew HO495.out)
   have n4_ := Aside0.mk (Kd.R_drew HO498.out)
   have n5_ := Aside0.mk (Kd.R_drew HO501.out)
   have n6_ := Aside0.mk (Kd.R_drew HO504.out)
   have n7_ := Aside0.mk (blk_drew BK479.out)
   have n8_ := Aside0.mk (blk_drew BK480.out)
   have n9_ := Aside0.mk (blk_drew BK481.out)
   have n10_ := Aside0.mk (below_drew1 HB.out)
   clear HO485
   clear HO488
   clear HO492
   clear HO495
   clear HO498
   clear HO501
   clear HO504
   clear BK479
   clear BK480
   clear BK481
   clear HB
   have HO485 := n0_
   have HO488 := n1_
   have HO492 := n2_
   have HO495 := n3_
   have HO498 := n4_
   have HO501 := n5_
   have HO504 := n6_
   have BK479 := n7_
   have BK480 := n8_
   have BK481 := n9_
   have HB := n10_
   clear n0_ n1_ n2_ n3_ n4_ n5_ n6_ n7_ n8_ n9_ n10_
   refine start_ (n := 8) (S := fun w' => w'.cell? ⟨gb479, 0, none⟩ = some (.bool t482) ∧ w'.cell? ⟨gb479, 1, none⟩ = some (.slice Ao61 t483.length co61) ∧ w'.cell? ⟨gb479, 2, none⟩ = some (.slice Ao62 t486.length co62)) (ds := []) #[false, false, false, false, false, false, false, false] (by kernel_rfl) rfl rfl ⟨(blk_cell BK479.out 0).trans rfl, (blk_cell BK479.out 1).trans rfl, (blk_cell BK479.out 2).trans rfl⟩ (fun hHeld => ?_); refine with_tabW codewrightref02_Add.tab9 codewrightref02_Add.bits9 (fun HT_ HW_ => ?_)
   generalize w81.drew = w82 at HO485 HO488 HO492 HO495 HO498 HO501 HO504 BK479 BK480 BK481 HB hHeld ⊢
   refine pure_ (i := 0) (N := some 43) (v := ?_) (a' := ?_) #[true, false, false, false, false, false, false, false] rfl rfl (any_of HT_.out (by kernel_rfl)) (fun _ _ _ h => h) (Or.inl ⟨by rfl, ?_⟩) ?_ ?_
   rotate_left
   ·intro w'
    go_simp
    with_reducible rfl
   rotate_left
   ·simp only [Act.put, List.setIfInBounds_toArray, List.set_cons_zero, List.set_cons_succ, i64_w, i32_w]
    rfl
   refine pure_ (i := 2) (N := some 45) (v := ?_) (a' := ?_) #[true, false, true, false, false, false, false, false] rfl rfl (any_of HT_.out (by kernel_rfl)) (fun _ _ _ h => h) (Or.inl ⟨by rfl, ?_⟩) ?_ ?_
   rotate_left
   ·intro w'
    go_simp
    with_reducible rfl
   rotate_left
   ·simp only [Act.put, List.setIfInBounds_toArray, List.set_cons_zero, List.set_cons_succ, i64_w, i32_w]
    rfl
   refine pure_ (i := 3) (N := some 46) (v := ?_) (a' := ?_) #[true, false, true, true, false, false, false, false] rfl rfl (any_of HT_.out (by kernel_rfl)) (fun _ _ _ h => h) (Or.inl ⟨by rfl, ?_⟩) ?_ ?_
   rotate_left
   ·intro w'
    go_simp
    with_reducible rfl
   rotate_left
   ·simp only [Act.put, List.setIfInBounds_toArray, List.set_cons_zero, List.set_cons_succ, i64_w, i32_w]
    rfl
   refine pure_ (i := 5) (N := some 48) (v := ?_) (a' := ?_) #[true, false, true, true, false, true, false, false] rfl rfl (any_of HT_.out (by kernel_rfl)) (fun _ _ _ h => h) (Or.inl ⟨by rfl, ?_⟩) ?_ ?_
   rotate_left
   ·intro w'
    go_simp
    with_reducible rfl
   rotate_left
   ·simp only [Act.put, List.setIfInBounds_toArray, List.set_cons_zero, List.set_cons_succ, i64_w, i32_w]
    rfl
   refine take_ (i := 1) (N := some 44) (v := ?_) (a' := ?_) #[true, true, true, true, false, true, false, false] rfl rfl (take_ofW HT_.out HW_.out (by kernel_rfl)) (fun _ _ _ h => h) (Or.inl ⟨by rfl, ?_⟩) hHeld ?_ ?_
   rotate_left
   ·rintro w' ⟨s0, s1, s2⟩
    go_simp
    with_reducible rfl
   rotate_left
   ·simp only [Act.put, List.setIfInBounds_toArray, List.set_cons_zero, List.set_cons_succ, i64_w, i32_w]
    rfl
   refine one_ (i := 4) (N := some 47) #[true, true, true, true, true, true, false, false] rfl rfl (one_of HT_.out (by kernel_rfl)) (by decide) (fun K hK => ?_)
   refine goes_ Try.func72 (by kernel_rfl) rfl #[.slice Ao79 t496.length co79, .slice Ao80 t499.length co80] (by rfl) rfl rfl (by (try simp only [List.map_toArray, List.map_cons, List.map_nil]); rfl) ?_
   with_reducible refine (codewrightref01_Sub.calls k _ _ t496 _ _ t499 t516 _ ?side1 ?side2 ?side3 ?side4 A51.out).mono ?_
   (case side1 => exact (Kd.R_reads' HO498.out).2.2)
   (case side2 => exact (Kd.R_reads' HO498.out).2.1)
   (case side3 => exact (Kd.R_reads' HO501.out).2.2)
   (case side4 => exact (Kd.R_reads' HO501.out).2.1)
   rintro e w83 ⟨v517, rfl, ho0, hb⟩
   refine ⟨_, rfl, ?_⟩
   have n0_ := Aside0.mk (Kd.R_elder' (by (with_reducible repeat (fail)); exact HO485.out) (Kd.R_base ho0) hb)
   have n1_ := Aside0.mk (Kd.R_elder' (by (with_reducible repeat (fail)); exact HO488.out) (Kd.R_base ho0) hb)
   have n2_ := Aside0.mk (Kd.R_elder' (by (with_reducible repeat (fail)); exact HO492.out) (Kd.R_base ho0) hb)
   have n3_ := Aside0.mk (Kd.R_elder' (by (with_reducible repeat (fail)); exact HO495.out) (Kd.R_base ho0) hb)
   have n4_ := Aside0.mk (Kd.R_elder' (by (with_reducible repeat (fail)); exact HO498.out) (Kd.R_base ho0) hb)
   have n5_ := Aside0.mk (Kd.R_elder' (by (with_reducible repeat (fail)); exact HO501.out) (Kd.R_base ho0) hb)
   have n6_ := Aside0.mk (Kd.R_elder' (by (with_reducible repeat (fail)); exact HO504.out) (Kd.R_base ho0) hb)
   have n7_ := Aside0.mk (Kd.R_lower (Kd.R_new' (Kd.R_new' (Kd.R_new' (Kd.R_new' (Kd.R_new' (Kd.R_new' (Kd.R_new' ho0 (Kd.R_lt (by (with_reducible repeat (fail)); exact HO485.out))) (Kd.R_lt (by (with_reducible repeat (fail)); exact HO488.out))) (Kd.R_lt (by (with_reducible repeat (fail)); exact HO492.out))) (Kd.R_lt (by (with_reducible repeat (fail)); exact HO495.out))) (Kd.R_lt (by (with_reducible repeat (fail)); exact HO498.out))) (Kd.R_lt (by (with_reducible repeat (fail)); exact HO501.out))) (Kd.R_lt (by (with_reducible repeat (fail)); exact HO504.out))) (below_size (by repeat ((with_reducible exact HB.out)))))
   have n8_ := Aside0.mk (blk_below (g := gb479) (o := .cells #[.bool t482, .slice Ao61 t483.length co61, .slice Ao62 t486.length co62] 46 (0, 0)) (by (with_reducible repeat (fail)); exact BK479.out) hb)
   have n9_ := Aside0.mk (blk_below (g := gb480) (o := .cells #[.bool t489, .slice Ao67 t490.length co67, .slice Ao68 t493.length co68] 46 (0, 0)) (by (with_reducible repeat (fail)); exact BK480.out) hb)
   have n10_ := Aside0.mk (blk_below (g := gb481) (o := .cells #[.bool false, .slice none 0 0, .slice none 0 0] 46 (0, 0)) (by (with_reducible repeat (fail)); exact BK481.out) hb)
   have n11_ := Aside0.mk (below_step (by repeat ((with_reducible exact HB.out))) hb)
   clear HO485
   clear HO488
   clear HO492
   clear HO495
   clear HO498
   clear HO501
   clear HO504
   clear BK479
   clear BK480
   clear BK481
   clear HB
   have HO485 := n0_
   have HO488 := n1_
   have HO492 := n2_
   have HO495 := n3_
   have HO498 := n4_
   have HO501 := n5_
   have HO504 := n6_
   have HO518 := n7_
   have BK479 := n8_
   have BK480 := n9_
   have BK481 := n10_
   have HB := n11_
   clear n0_ n1_ n2_ n3_ n4_ n5_ n6_ n7_ n8_ n9_ n10_ n11_
   (try clear hb)
   (try clear ho0)
   obtain ⟨Ao84, co84, eo84⟩ := Kd.R_slice HO518.out
   (subst eo84)
   obtain ⟨Ao85, co85, eo85⟩ := Kd.R_slice HO504.out
   (subst eo85)
   refine hK.out _ _ ⟨(blk_cell BK479.out 0).trans rfl, (blk_cell BK479.out 1).trans rfl, (blk_cell BK479.out 2).trans rfl⟩ (fun hHeld => ?_)
   clear hK K
   refine norm_ (a' := ?_) ?_ ?_
   rotate_left
   ·show Act.put _ (some 47) _ = _
    simp only [Act.put, List.setIfInBounds_toArray, List.set_cons_zero, List.set_cons_succ, i64_w, i32_w]
    rfl
   refine one_ (i := 6) (N := some 49) #[true, true, true, true, true, true, true, false] rfl rfl (one_of HT_.out (by kernel_rfl)) (by decide) (fun K hK => ?_)
   refine goes_ Try.func69 (by kernel_rfl) rfl #[.bool t482, .slice Ao84 t516.length co84, .slice Ao85 t502.length co85] (by rfl) rfl rfl (by (try simp only [List.map_toArray, List.map_cons, List.map_nil]); rfl) ?_
   with_reducible refine (codewrightref02_Make.calls k t482 _ _ t516 _ _ t502 t519 t520 t523 _ ?side1 ?side2 ?side3 ?side4 A52.out).mono ?_
   (case side1 => exact (Kd.R_reads' HO518.out).2.2)
   (case side2 => exact (Kd.R_reads' HO518.out).2.1)
   (case side3 => exact (Kd.R_reads' HO504.out).2.2)
   (case side4 => exact (Kd.R_reads' HO504.out).2.1)
   rintro e w86 ⟨v521, v524, rfl, ho0, ho1, hb⟩
   refine ⟨_, rfl, ?_⟩
   have n0_ := Aside0.mk (Kd.R_mono (Kd.R_told (Kd.R_told (Kd.R_old (by (with_reducible repeat (fail)); exact HO485.out) hb) (Kd.R_base ho0)) (Kd.R_base ho1)) (fun _ h_ => h_.1))
   have n1_ := Aside0.mk (Kd.R_mono (Kd.R_told (Kd.R_told (Kd.R_old (by (with_reducible repeat (fail)); exact HO488.out) hb) (Kd.R_base ho0)) (Kd.R_base ho1)) (fun _ h_ => h_.1))
   have n2_ := Aside0.mk (Kd.R_mono (Kd.R_told (Kd.R_told (Kd.R_old (by (with_reducible repeat (fail)); exact HO492.out) hb) (Kd.R_base ho0)) (Kd.R_base ho1)) (fun _ h_ => h_.1))
   have n3_ := Aside0.mk (Kd.R_mono (Kd.R_told (Kd.R_told (Kd.R_old (by (with_reducible repeat (fail)); exact HO495.out) hb) (Kd.R_base ho0)) (Kd.R_base ho1)) (fun _ h_ => h_.1))
   have n4_ := Aside0.mk (Kd.R_mono (Kd.R_told (Kd.R_told (Kd.R_old (by (with_reducible repeat (fail)); exact HO498.out) hb) (Kd.R_base ho0)) (Kd.R_base ho1)) (fun _ h_ => h_.1))
   have n5_ := Aside0.mk (Kd.R_mono (Kd.R_told (Kd.R_told (Kd.R_old (by (with_reducible repeat (fail)); exact HO501.out) hb) (Kd.R_base ho0)) (Kd.R_base ho1)) (fun _ h_ => h_.1))
   have n6_ := Aside0.mk (Kd.R_mono (Kd.R_told (Kd.R_told (Kd.R_old (by (with_reducible repeat (fail)); exact HO504.out) hb) (Kd.R_base ho0)) (Kd.R_base ho1)) (fun _ h_ => h_.1))
   have n7_ := Aside0.mk (Kd.R_mono (Kd.R_told (Kd.R_told (Kd.R_old (by (with_reducible repeat (fail)); exact HO518.out) hb) (Kd.R_base ho0)) (Kd.R_base ho1)) (fun _ h_ => h_.1))
   have n8_ := Aside0.mk (Kd.R_lower (Kd.R_new' (Kd.R_new' (Kd.R_new' (Kd.R_new' (Kd.R_new' (Kd.R_new' (Kd.R_new' (Kd.R_new' ho0 (Kd.R_lt (by (with_reducible repeat (fail)); exact HO485.out))) (Kd.R_lt (by (with_reducible repeat (fail)); exact HO488.out))) (Kd.R_lt (by (with_reducible repeat (fail)); exact HO492.out))) (Kd.R_lt (by (with_reducible repeat (fail)); exact HO495.out))) (Kd.R_lt (by (with_reducible repeat (fail)); exact HO498.out))) (Kd.R_lt (by (with_reducible repeat (fail)); exact HO501.out))) (Kd.R_lt (by (with_reducible repeat (fail)); exact HO504.out))) (Kd.R_lt (by (with_reducible repeat (fail)); exact HO518.out))) (below_size (by repeat ((with_reducible exact HB.out)))))
   have n9_ := Aside0.mk (Kd.R_lower (Kd.R_new' (Kd.R_new' (Kd.R_new' (Kd.R_new' (Kd.R_new' (Kd.R_new' (Kd.R_new' (Kd.R_new' ho1 (Kd.R_lt (by (with_reducible repeat (fail)); exact HO485.out))) (Kd.R_lt (by (with_reducible repeat (fail)); exact HO488.out))) (Kd.R_lt (by (with_reducible repeat (fail)); exact HO492.out))) (Kd.R_lt (by (with_reducible repeat (fail)); exact HO495.out))) (Kd.R_lt (by (with_reducible repeat (fail)); exact HO498.out))) (Kd.R_lt (by (with_reducible repeat (fail)); exact HO501.out))) (Kd.R_lt (by (with_reducible repeat (fail)); exact HO504.out))) (Kd.R_lt (by (with_reducible repeat (fail)); exact HO518.out))) (below_size (by repeat ((with_reducible exact HB.out)))))
   have n10_ := Aside0.mk (blk_below (g := gb479) (o := .cells #[.bool t482, .slice Ao61 t483.length co61, .slice Ao62 t486.length co62] 46 (0, 0)) (by (with_reducible repeat (fail)); exact BK479.out) hb)
   have n11_ := Aside0.mk (blk_below (g := gb480) (o := .cells #[.bool t489, .slice Ao67 t490.length co67, .slice Ao68 t493.length co68] 46 (0, 0)) (by (with_reducible repeat (fail)); exact BK480.out) hb)
   have n12_ := Aside0.mk (blk_below (g := gb481) (o := .cells #[.bool false, .slice none 0 0, .slice none 0 0] 46 (0, 0)) (by (with_reducible repeat (fail)); exact BK481.out) hb)
   have n13_ := Aside0.mk (below_step (by repeat ((with_reducible exact HB.out))) hb)
   clear HO485
   clear HO488
   clear HO492
   clear HO495
   clear HO498
   clear HO501
   clear HO504
   clear HO518
   clear BK479
   clear BK480
   clear BK481
   clear HB
   have HO485 := n0_
   have HO488 := n1_
   have HO492 := n2_
   have HO495 := n3_
   have HO498 := n4_
   have HO501 := n5_
   have HO504 := n6_
   have HO518 := n7_
   have HO522 := n8_
   have HO525 := n9_
   have BK479 := n10_
   have BK480 := n11_
   have BK481 := n12_
   have HB := n13_
   clear n0_ n1_ n2_ n3_ n4_ n5_ n6_ n7_ n8_ n9_ n10_ n11_ n12_ n13_
   (try clear hb)
   (try clear ho0)
   (try clear ho1)
   obtain ⟨Ao88, co88, eo88⟩ := Kd.R_slice HO522.out
   (subst eo88)
   obtain ⟨Ao90, co90, eo90⟩ := Kd.R_slice HO525.out
   (subst eo90)
   refine hK.out _ _ ⟨(blk_cell BK479.out 0).trans rfl, (blk_cell BK479.out 1).trans rfl, (blk_cell BK479.out 2).trans rfl⟩ (fun hHeld => ?_)
   clear hK K
   refine norm_ (a' := ?_) ?_ ?_
   rotate_left
   ·show Act.put _ (some 49) _ = _
    simp only [Act.put, List.setIfInBounds_toArray, List.set_cons_zero, List.set_cons_succ, i64_w, i32_w]
    rfl
   refine one_ (i := 7) (N := none) #[true, true, true, true, true, true, true, true] rfl rfl (one_of HT_.out (by kernel_rfl)) (by decide) (fun K hK => ?_)
   have hs87 : w86.cell? ⟨gb481, 0, none⟩ = some (.bool false) := (blk_cell BK481.out 0).trans rfl
   have hfs87 := blk_frozen BK481.out 0
   have hns87_0 := NB479_481.out
   have hns87_1 := NB480_481.out
   have hms87_0 := NB481_479.out
   have hms87_1 := NB481_480.out
   have hs89 : w86.cell? ⟨gb481, 1, none⟩ = some (.slice none 0 0) := (blk_cell BK481.out 1).trans rfl
   have hfs89 := blk_frozen BK481.out 1
   have hns89_0 := NB479_481.out
   have hns89_1 := NB480_481.out
   have hms89_0 := NB481_479.out
   have hms89_1 := NB481_480.out
   have hs91 : w86.cell? ⟨gb481, 2, none⟩ = some (.slice none 0 0) := (blk_cell BK481.out 2).trans rfl
   have hfs91 := blk_frozen BK481.out 2
   have hns91_0 := NB479_481.out
   have hns91_1 := NB480_481.out
   have hms91_0 := NB481_479.out
   have hms91_1 := NB481_480.out
   refine skip_ (w1 := ?_) (by rfl) rfl ?_ ?_
   rotate_left
   ·go_simp
    rfl
   refine hK.out _ _ ⟨((cell_far (p := ⟨gb481, _, none⟩) NB479_481.out _).trans (((cell_far (p := ⟨gb481, _, none⟩) NB479_481.out _).trans (((cell_far (p := ⟨gb481, _, none⟩) NB479_481.out _).trans (hHeld.1)))))), ((cell_far (p := ⟨gb481, _, none⟩) NB479_481.out _).trans (((cell_far (p := ⟨gb481, _, none⟩) NB479_481.out _).trans (((cell_far (p := ⟨gb481, _, none⟩) NB479_481.out _).trans (hHeld.2.1)))))), ((cell_far (p := ⟨gb481, _, none⟩) NB479_481.out _).trans (((cell_far (p := ⟨gb481, _, none⟩) NB479_481.out _).trans (((cell_far (p := ⟨gb481, _, none⟩) NB479_481.out _).trans (hHeld.2.2))))))⟩ (fun hHeld => ?_)
   clear hK K
   refine done_ (done_of HT_.out (by kernel_rfl)) ?_
   try go_wp2
   refine bodyPost_ret (results_cell_row rfl _ _ gb481 46 #[.bool t519, .slice Ao88 t520.length co88, .slice Ao90 t523.length co90] (0, 0) _ rfl (by (with_reducible repeat (fail)); refine blk_put (cs := #[.bool t519, .slice Ao88 t520.length co88, .slice none 0 0]) ?_ 2 _ rfl; (with_reducible repeat (fail)); refine blk_put (cs := #[.bool t519, .slice none 0 0, .slice none 0 0]) ?_ 1 _ rfl; (with_reducible repeat (fail)); refine blk_put (cs := #[.bool false, .slice none 0 0, .slice none 0 0]) ?_ 0 _ rfl; (with_reducible repeat (fail)); exact BK481.out) Try.underlying46 rfl (by kernel_rfl)) rfl ?_
   exact ⟨_, _, by rfl, by (with_reducible repeat (fail)); exact Kd.R_mono (Kd.R_far (p := ⟨gb481, 2, none⟩) (Kd.R_far (p := ⟨gb481, 1, none⟩) (Kd.R_far (p := ⟨gb481, 0, none⟩) (Kd.R_types HO522.out BK481.out (by decide)) (fun _ hk => hk.2) (.bool t519)) (fun _ hk => hk.2) (.slice Ao88 t520.length co88)) (fun _ hk => hk.2) (.slice Ao90 t523.length co90)) (fun _ hk => hk.1.1.1.1.1.1.1.1.1), by (with_reducible repeat (fail)); exact Kd.R_mono (Kd.R_far (p := ⟨gb481, 2, none⟩) (Kd.R_far (p := ⟨gb481, 1, none⟩) (Kd.R_far (p := ⟨gb481, 0, none⟩) (Kd.R_types HO525.out BK481.out (by decide)) (fun _ hk => hk.2) (.bool t519)) (fun _ hk => hk.2) (.slice Ao88 t520.length co88)) (fun _ hk => hk.2) (.slice Ao90 t523.length co90)) (fun _ hk => hk.1.1.1.1.1.1.1.1.1), by repeat ((with_reducible first | exact HB.out | refine below_set ?_ GE481.out))⟩
  ·rw [if_neg c50] at H
   have c50b0 : decide (0 ≤ t515) = false := decide_eq_false c50
   clear c50
   replace H := Option.bind_eq_some_iff.mp H
   obtain ⟨t526, A920, H⟩ := H
   replace H : ((codewrightref02_Make.f k t489 t526 t502).bind fun bt529 => (some (bt529.1, bt529.2.1, bt529.2.2))) = some (r1, r2, r3) := H
   have A92 := Aside0.mk A920
   clear A920
   replace H := Option.bind_eq_some_iff.mp H
   obtain ⟨⟨t529, t530, t533⟩, A930, H⟩ := H
   replace H : (some (t529, t530, t533)) = some (r1, r2, r3) := H
   have A93 := Aside0.mk A930
   clear A930
   simp only [Option.some.injEq, Prod.mk.injEq] at H
   obtain ⟨rfl, rfl, rfl⟩ := H
   go_enter Try.func33, Try.ntmps33
   try go_wp2_with (first | ((with_reducible refine gate_dst (N := 2) rfl ?_); refine box_event ?hg (N := 2) ?hd (cs := #[.bool a0_0, .slice A0_1 l0_1.length c0_1, .slice A0_2 l0_2.length c0_2]) (t := 46) ?hr ?_; (case hd => rfl); (case hg => rfl); (case hr => (go_simp; done)); intro gb479 hg w94 hbox hb; have n0_ := Aside0.mk (below_step (by repeat ((with_reducible exact HB.out))) hb); have n1_ := Aside0.mk (hbox); have n2_ := Aside0.mk ((by rw [hg]; exact (below_size (by repeat ((with_reducible exact HB.out)))) : w.heap.size ≤ gb479)); have n3_ := Aside0.mk ((by rw [hg]; exact (below_size (by repeat ((with_reducible exact HB.out)))) : w.heap.size ≤ gb479)); clear HB; have HB := n0_; have BK479 := n1_; have GW479 := n2_; have GE479 := n3_; clear n0_ n1_ n2_ n3_; clear hb hbox hg) | ((with_reducible refine gate_dst (N := 3) rfl ?_); refine box_event ?hg (N := 3) ?hd (cs := #[.bool a1_0, .slice A1_1 l1_1.length c1_1, .slice A1_2 l1_2.length c1_2]) (t := 46) ?hr ?_; (case hd => rfl); (case hg => rfl); (case hr => (go_simp; done)); intro gb480 hg w95 hbox hb; have n0_ := Aside0.mk (blk_below (g := gb479) (o := .cells #[.bool a0_0, .slice A0_1 l0_1.length c0_1, .slice A0_2 l0_2.length c0_2] 46 (0, 0)) (by (with_reducible repeat (fail)); exact BK479.out) hb); have n1_ := Aside0.mk (below_step (by repeat ((with_reducible exact HB.out))) hb); have n2_ := Aside0.mk (hbox); have n3_ := Aside0.mk ((by rw [hg]; exact (below_size (by repeat ((with_reducible exact HB.out)))) : w.heap.size ≤ gb480)); have n4_ := Aside0.mk ((by rw [hg]; exact (below_size (by repeat ((with_reducible exact HB.out)))) : w.heap.size ≤ gb480)); have n5_ := Aside0.mk ((by rw [hg]; exact Nat.ne_of_lt (blk_lt (g := gb479) (o := .cells #[.bool a0_0, .slice A0_1 l0_1.length c0_1, .slice A0_2 l0_2.length c0_2] 46 (0, 0)) (by (with_reducible repeat (fail)); exact BK479.out)) : gb479 ≠ gb480)); have n6_ := Aside0.mk ((by rw [hg]; exact Nat.ne_of_gt (blk_lt (g := gb479) (o := .cells #[.bool a0_0, .slice A0_1 l0_1.length c0_1, .slice A0_2 l0_2.length c0_2] 46 (0, 0)) (by (with_reducible repeat (fail)); exact BK479.out)) : gb480 ≠ gb479)); clear BK479; clear HB; have BK479 := n0_; have HB := n1_; have BK480 := n2_; have GW480 := n3_; have GE480 := n4_; have NB479_480 := n5_; have NB480_479 := n6_; clear n0_ n1_ n2_ n3_ n4_ n5_ n6_; clear hb hbox hg) | ((with_reducible refine gate_dst (N := 4) rfl ?_); refine box_event ?hg (N := 4) ?hd (cs := #[.bool false, .slice none 0 0, .slice none 0 0]) (t := 46) ?hr ?_; (case hd => rfl); (case hg => rfl); (case hr => (go_simp; done)); intro gb481 hg w96 hbox hb; have n0_ := Aside0.mk (blk_below (g := gb479) (o := .cells #[.bool a0_0, .slice A0_1 l0_1.length c0_1, .slice A0_2 l0_2.length c0_2] 46 (0, 0)) (by (with_reducible repeat (fail)); exact BK479.out) hb); have n1_ := Aside0.mk (blk_below (g := gb480) (o := .cells #[.bool a1_0, .slice A1_1 l1_1.length c1_1, .slice A1_2 l1_2.length c1_2] 46 (0, 0)) (by (with_reducible repeat (fail)); exact BK480.out) hb); have n2_ := Aside0.mk (below_step (by repeat ((with_reducible exact HB.out))) hb); have n3_ := Aside0.mk (hbox); have n4_ := Aside0.mk ((by rw [hg]; exact (below_size (by repeat ((with_reducible exact HB.out)))) : w.heap.size ≤ gb481)); have n5_ := Aside0.mk ((by rw [hg]; exact (below_size (by repeat ((with_reducible exact HB.out)))) : w.heap.size ≤ gb481)); have n6_ := Aside0.mk ((by rw [hg]; exact Nat.ne_of_lt (blk_lt (g := gb479) (o := .cells #[.bool a0_0, .slice A0_1 l0_1.length c0_1, .slice A0_2 l0_2.length c0_2] 46 (0, 0)) (by (with_reducible repeat (fail)); exact BK479.out)) : gb479 ≠ gb481)); have n7_ := Aside0.mk ((by rw [hg]; exact Nat.ne_of_gt (blk_lt (g := gb479) (o := .cells #[.bool a0_0, .slice A0_1 l0_1.length c0_1, .slice A0_2 l0_2.length c0_2] 46 (0, 0)) (by (with_reducible repeat (fail)); exact BK479.out)) : gb481 ≠ gb479)); have n8_ := Aside0.mk ((by rw [hg]; exact Nat.ne_of_lt (blk_lt (g := gb480) (o := .cells #[.bool a1_0, .slice A1_1 l1_1.length c1_1, .slice A1_2 l1_2.length c1_2] 46 (0, 0)) (by (with_reducible repeat (fail)); exact BK480.out)) : gb480 ≠ gb481)); have n9_ := Aside0.mk ((by rw [hg]; exact Nat.ne_of_gt (blk_lt (g := gb480) (o := .cells #[.bool a1_0, .slice A1_1 l1_1.length c1_1, .slice A1_2 l1_2.length c1_2] 46 (0, 0)) (by (with_reducible repeat (fail)); exact BK480.out)) : gb481 ≠ gb480)); clear BK479; clear BK480; clear HB; have BK479 := n0_; have BK480 := n1_; have HB := n2_; have BK481 := n3_; have GW481 := n4_; have GE481 := n5_; have NB479_481 := n6_; have NB481_479 := n7_; have NB480_481 := n8_; have NB481_480 := n9_; clear n0_ n1_ n2_ n3_ n4_ n5_ n6_ n7_ n8_ n9_; clear hb hbox hg; have hnb97 := NB479_480.out; have hnc97 := NB480_479.out; have hnb98 := NB479_481.out; have hnc98 := NB481_479.out; have hcz99_0 : w96.cell? ⟨gb479, 0, none⟩ = some (.bool a0_0) := (blk_cell BK479.out 0).trans rfl; have hcz99_1 : w96.cell? ⟨gb479, 1, none⟩ = some (.slice A0_1 l0_1.length c0_1) := (blk_cell BK479.out 1).trans rfl; have hcz99_2 : w96.cell? ⟨gb479, 2, none⟩ = some (.slice A0_2 l0_2.length c0_2) := (blk_cell BK479.out 2).trans rfl; have hfz99_0 := blk_frozen BK479.out 0; have hfz99_1 := blk_frozen BK479.out 1; have hfz99_2 := blk_frozen BK479.out 2) | ((with_reducible refine gate_callee (f := 67) rfl ?_); refine goesL_ (some 9) rfl rfl Try.func67 (by kernel_rfl) rfl #[.agg #[.bool a0_0, .slice A0_1 l0_1.length c0_1, .slice A0_2 l0_2.length c0_2]] rfl (by (try simp only [List.map_toArray, List.map_cons, List.map_nil]); rfl) ?_; (with_reducible refine (codewrightref02_Trim.calls k a0_0 _ _ l0_1 _ _ l0_2 t482 t483 t486 _ ?side1 ?side2 ?side3 ?side4 A3.out).mono ?_); (case side1 => repeat (exact (Kd.C_below HR0_1.out HB.out))); (case side2 => exact HC0_1.out); (case side3 => repeat (exact (Kd.C_below HR0_2.out HB.out))); (case side4 => exact HC0_2.out); rintro e w100 ⟨v484, v487, rfl, ho0, ho1, hb⟩; refine ⟨_, rfl, ?_⟩; have n0_ := Aside0.mk (Kd.R_lower ho0 (below_size (by repeat ((with_reducible exact HB.out))))); have n1_ := Aside0.mk (Kd.R_lower ho1 (below_size (by repeat ((with_reducible exact HB.out))))); have n2_ := Aside0.mk (blk_below (g := gb479) (o := .cells #[.bool a0_0, .slice A0_1 l0_1.length c0_1, .slice A0_2 l0_2.length c0_2] 46 (0, 0)) (by (with_reducible repeat (fail)); exact BK479.out) hb); have n3_ := Aside0.mk (blk_below (g := gb480) (o := .cells #[.bool a1_0, .slice A1_1 l1_1.length c1_1, .slice A1_2 l1_2.length c1_2] 46 (0, 0)) (by (with_reducible repeat (fail)); exact BK480.out) hb); have n4_ := Aside0.mk (blk_below (g := gb481) (o := .cells #[.bool false, .slice none 0 0, .slice none 0 0] 46 (0, 0)) (by (with_reducible repeat (fail)); exact BK481.out) hb); have n5_ := Aside0.mk (below_step (by repeat ((with_reducible exact HB.out))) hb); clear BK479; clear BK480; clear BK481; clear HB; have HO485 := n0_; have HO488 := n1_; have BK479 := n2_; have BK480 := n3_; have BK481 := n4_; have HB := n5_; clear n0_ n1_ n2_ n3_ n4_ n5_; (try clear hb); (try clear ho0); (try clear ho1); have hcz101_0 : w100.cell? ⟨gb479, 0, none⟩ = some (.bool a0_0) := (blk_cell BK479.out 0).trans rfl; have hcz101_1 : w100.cell? ⟨gb479, 1, none⟩ = some (.slice A0_1 l0_1.length c0_1) := (blk_cell BK479.out 1).trans rfl; have hcz101_2 : w100.cell? ⟨gb479, 2, none⟩ = some (.slice A0_2 l0_2.length c0_2) := (blk_cell BK479.out 2).trans rfl; have hfz101_0 := blk_frozen BK479.out 0; have hfz101_1 := blk_frozen BK479.out 1; have hfz101_2 := blk_frozen BK479.out 2; obtain ⟨Ao102, co102, eo102⟩ := Kd.R_slice HO485.out; subst eo102; obtain ⟨Ao103, co103, eo103⟩ := Kd.R_slice HO488.out; subst eo103; have hnb104 := NB480_481.out; have hnc104 := NB481_480.out; have hcz105_0 : w100.cell? ⟨gb480, 0, none⟩ = some (.bool a1_0) := (blk_cell BK480.out 0).trans rfl; have hcz105_1 : w100.cell? ⟨gb480, 1, none⟩ = some (.slice A1_1 l1_1.length c1_1) := (blk_cell BK480.out 1).trans rfl; have hcz105_2 : w100.cell? ⟨gb480, 2, none⟩ = some (.slice A1_2 l1_2.length c1_2) := (blk_cell BK480.out 2).trans rfl; have hfz105_0 := blk_frozen BK480.out 0; have hfz105_1 := blk_frozen BK480.out 1; have hfz105_2 := blk_frozen BK480.out 2) | ((with_reducible refine gate_callee (f := 67) rfl ?_); refine goesL_ (some 11) rfl rfl Try.func67 (by kernel_rfl) rfl #[.agg #[.bool a1_0, .slice A1_1 l1_1.length c1_1, .slice A1_2 l1_2.length c1_2]] rfl (by (try simp only [List.map_toArray, List.map_cons, List.map_nil]); rfl) ?_; (with_reducible refine (codewrightref02_Trim.calls k a1_0 _ _ l1_1 _ _ l1_2 t489 t490 t493 _ ?side1 ?side2 ?side3 ?side4 A4.out).mono ?_); (case side1 => exact Kd.C_below HR1_1.out (by repeat ((with_reducible first | exact HB.out | refine below_set ?_ GE479.out)))); (case side2 => exact HC1_1.out); (case side3 => exact Kd.C_below HR1_2.out (by repeat ((with_reducible first | exact HB.out | refine below_set ?_ GE479.out)))); (case side4 => exact HC1_2.out); rintro e w106 ⟨v491, v494, rfl, ho0, ho1, hb⟩; refine ⟨_, rfl, ?_⟩; have n0_ := Aside0.mk (Kd.R_mono (Kd.R_told (Kd.R_told (Kd.R_old (by (with_reducible repeat (fail)); exact (Kd.R_mono (Kd.R_far (p := ⟨gb479, 2, none⟩) (Kd.R_far (p := ⟨gb479, 1, none⟩) (Kd.R_far (p := ⟨gb479, 0, none⟩) (Kd.R_types HO485.out BK479.out (by decide)) (fun _ hk => hk.2) (.bool t482)) (fun _ hk => hk.2) (.slice Ao102 t483.length co102)) (fun _ hk => hk.2) (.slice Ao103 t486.length co103)) (fun _ h_ => h_.1))) hb) (Kd.R_base ho0)) (Kd.R_base ho1)) (fun _ h_ => h_.1)); have n1_ := Aside0.mk (Kd.R_mono (Kd.R_told (Kd.R_told (Kd.R_old (by (with_reducible repeat (fail)); exact (Kd.R_mono (Kd.R_far (p := ⟨gb479, 2, none⟩) (Kd.R_far (p := ⟨gb479, 1, none⟩) (Kd.R_far (p := ⟨gb479, 0, none⟩) (Kd.R_types HO488.out BK479.out (by decide)) (fun _ hk => hk.2) (.bool t482)) (fun _ hk => hk.2) (.slice Ao102 t483.length co102)) (fun _ hk => hk.2) (.slice Ao103 t486.length co103)) (fun _ h_ => h_.1))) hb) (Kd.R_base ho0)) (Kd.R_base ho1)) (fun _ h_ => h_.1)); have n2_ := Aside0.mk (Kd.R_lower (Kd.R_new' (Kd.R_new' ho0 (Kd.R_lt (by (with_reducible repeat (fail)); exact (Kd.R_mono (Kd.R_far (p := ⟨gb479, 2, none⟩) (Kd.R_far (p := ⟨gb479, 1, none⟩) (Kd.R_far (p := ⟨gb479, 0, none⟩) (Kd.R_types HO485.out BK479.out (by decide)) (fun _ hk => hk.2) (.bool t482)) (fun _ hk => hk.2) (.slice Ao102 t483.length co102)) (fun _ hk => hk.2) (.slice Ao103 t486.length co103)) (fun _ h_ => h_.1))))) (Kd.R_lt (by (with_reducible repeat (fail)); exact (Kd.R_mono (Kd.R_far (p := ⟨gb479, 2, none⟩) (Kd.R_far (p := ⟨gb479, 1, none⟩) (Kd.R_far (p := ⟨gb479, 0, none⟩) (Kd.R_types HO488.out BK479.out (by decide)) (fun _ hk => hk.2) (.bool t482)) (fun _ hk => hk.2) (.slice Ao102 t483.length co102)) (fun _ hk => hk.2) (.slice Ao103 t486.length co103)) (fun _ h_ => h_.1))))) (below_size (by repeat ((with_reducible first | exact HB.out | refine below_set ?_ GE479.out))))); have n3_ := Aside0.mk (Kd.R_lower (Kd.R_new' (Kd.R_new' ho1 (Kd.R_lt (by (with_reducible repeat (fail)); exact (Kd.R_mono (Kd.R_far (p := ⟨gb479, 2, none⟩) (Kd.R_far (p := ⟨gb479, 1, none⟩) (Kd.R_far (p := ⟨gb479, 0, none⟩) (Kd.R_types HO485.out BK479.out (by decide)) (fun _ hk => hk.2) (.bool t482)) (fun _ hk => hk.2) (.slice Ao102 t483.length co102)) (fun _ hk => hk.2) (.slice Ao103 t486.length co103)) (fun _ h_ => h_.1))))) (Kd.R_lt (by (with_reducible repeat (fail)); exact (Kd.R_mono (Kd.R_far (p := ⟨gb479, 2, none⟩) (Kd.R_far (p := ⟨gb479, 1, none⟩) (Kd.R_far (p := ⟨gb479, 0, none⟩) (Kd.R_types HO488.out BK479.out (by decide)) (fun _ hk => hk.2) (.bool t482)) (fun _ hk => hk.2) (.slice Ao102 t483.length co102)) (fun _ hk => hk.2) (.slice Ao103 t486.length co103)) (fun _ h_ => h_.1))))) (below_size (by repeat ((with_reducible first | exact HB.out | refine below_set ?_ GE479.out))))); have n4_ := Aside0.mk (blk_below (g := gb479) (o := .cells #[.bool t482, .slice Ao102 t483.length co102, .slice Ao103 t486.length co103] 46 (0, 0)) (by (with_reducible repeat (fail)); refine blk_put (cs := #[.bool t482, .slice Ao102 t483.length co102, .slice A0_2 l0_2.length c0_2]) ?_ 2 _ rfl; (with_reducible repeat (fail)); refine blk_put (cs := #[.bool t482, .slice A0_1 l0_1.length c0_1, .slice A0_2 l0_2.length c0_2]) ?_ 1 _ rfl; (with_reducible repeat (fail)); refine blk_put (cs := #[.bool a0_0, .slice A0_1 l0_1.length c0_1, .slice A0_2 l0_2.length c0_2]) ?_ 0 _ rfl; (with_reducible repeat (fail)); exact BK479.out) hb); have n5_ := Aside0.mk (blk_below (g := gb480) (o := .cells #[.bool a1_0, .slice A1_1 l1_1.length c1_1, .slice A1_2 l1_2.length c1_2] 46 (0, 0)) (by (with_reducible repeat (fail)); refine blk_far ?_ NB480_479.out _; (with_reducible repeat (fail)); refine blk_far ?_ NB480_479.out _; (with_reducible repeat (fail)); refine blk_far ?_ NB480_479.out _; (with_reducible repeat (fail)); exact BK480.out) hb); have n6_ := Aside0.mk (blk_below (g := gb481) (o := .cells #[.bool false, .slice none 0 0, .slice none 0 0] 46 (0, 0)) (by (with_reducible repeat (fail)); refine blk_far ?_ NB481_479.out _; (with_reducible repeat (fail)); refine blk_far ?_ NB481_479.out _; (with_reducible repeat (fail)); refine blk_far ?_ NB481_479.out _; (with_reducible repeat (fail)); exact BK481.out) hb); have n7_ := Aside0.mk (below_step (by repeat ((with_reducible first | exact HB.out | refine below_set ?_ GE479.out))) hb); clear HO485; clear HO488; clear BK479; clear BK480; clear BK481; clear HB; have HO485 := n0_; have HO488 := n1_; have HO492 := n2_; have HO495 := n3_; have BK479 := n4_; have BK480 := n5_; have BK481 := n6_; have HB := n7_; clear n0_ n1_ n2_ n3_ n4_ n5_ n6_ n7_; (try clear hb); (try clear ho0); (try clear ho1); have hcz107_0 : w106.cell? ⟨gb480, 0, none⟩ = some (.bool a1_0) := (blk_cell BK480.out 0).trans rfl; have hcz107_1 : w106.cell? ⟨gb480, 1, none⟩ = some (.slice A1_1 l1_1.length c1_1) := (blk_cell BK480.out 1).trans rfl; have hcz107_2 : w106.cell? ⟨gb480, 2, none⟩ = some (.slice A1_2 l1_2.length c1_2) := (blk_cell BK480.out 2).trans rfl; have hfz107_0 := blk_frozen BK480.out 0; have hfz107_1 := blk_frozen BK480.out 1; have hfz107_2 := blk_frozen BK480.out 2; obtain ⟨Ao108, co108, eo108⟩ := Kd.R_slice HO492.out; subst eo108; obtain ⟨Ao109, co109, eo109⟩ := Kd.R_slice HO495.out; subst eo109; have hcz110_0 : w106.cell? ⟨gb479, 0, none⟩ = some (.bool t482) := (blk_cell BK479.out 0).trans rfl; have hcz110_1 : w106.cell? ⟨gb479, 1, none⟩ = some (.slice Ao102 t483.length co102) := (blk_cell BK479.out 1).trans rfl; have hcz110_2 : w106.cell? ⟨gb479, 2, none⟩ = some (.slice Ao103 t486.length co103) := (blk_cell BK479.out 2).trans rfl; have hfz110_0 := blk_frozen BK479.out 0; have hfz110_1 := blk_frozen BK479.out 1; have hfz110_2 := blk_frozen BK479.out 2) | ((with_reducible refine gate_callee (f := 68) rfl ?_); refine goesL_ (some 16) rfl rfl Try.func68 (by kernel_rfl) rfl #[.slice Ao102 t483.length co102, .slice Ao109 t493.length co109] rfl (by (try simp only [List.map_toArray, List.map_cons, List.map_nil]); rfl) ?_; (with_reducible refine (codewrightref01_Mul.calls k _ _ t483 _ _ t493 t496 _ ?side1 ?side2 ?side3 ?side4 A5.out).mono ?_); (case side1 => refine (Kd.R_reads' (e := 100) (base := w.heap.size) (ok := fun k_ => ((some k_ ≠ (.slice Ao103 t486.length co103 : Value).ownBlock ∧ some k_ ≠ (.slice Ao108 t490.length co108 : Value).ownBlock) ∧ some k_ ≠ (.slice Ao109 t493.length co109 : Value).ownBlock)) (n := t483.length) (c := co102) ?_).2.2; exact (by (with_reducible repeat (fail)); exact (Kd.R_mono (Kd.R_far (p := ⟨gb480, 2, none⟩) (Kd.R_far (p := ⟨gb480, 1, none⟩) (Kd.R_far (p := ⟨gb480, 0, none⟩) (Kd.R_types HO485.out BK480.out (by decide)) (fun _ hk => hk.2) (.bool t489)) (fun _ hk => hk.2) (.slice Ao108 t490.length co108)) (fun _ hk => hk.2) (.slice Ao109 t493.length co109)) (fun _ h_ => h_.1)))); (case side2 => exact (Kd.R_reads' HO485.out).2.1); (case side3 => refine (Kd.R_reads' (e := 100) (base := w.heap.size) (ok := fun k_ => ((some k_ ≠ (.slice Ao108 t490.length co108 : Value).ownBlock ∧ some k_ ≠ (.slice Ao102 t483.length co102 : Value).ownBlock) ∧ some k_ ≠ (.slice Ao103 t486.length co103 : Value).ownBlock)) (n := t493.length) (c := co109) ?_).2.2; exact (by (with_reducible repeat (fail)); exact (Kd.R_mono (Kd.R_far (p := ⟨gb480, 2, none⟩) (Kd.R_far (p := ⟨gb480, 1, none⟩) (Kd.R_far (p := ⟨gb480, 0, none⟩) (Kd.R_types HO495.out BK480.out (by decide)) (fun _ hk => hk.2) (.bool t489)) (fun _ hk => hk.2) (.slice Ao108 t490.length co108)) (fun _ hk => hk.2) (.slice Ao109 t493.length co109)) (fun _ h_ => h_.1)))); (case side4 => exact (Kd.R_reads' HO495.out).2.1); rintro e w111 ⟨v497, rfl, ho0, hb⟩; refine ⟨_, rfl, ?_⟩; have n0_ := Aside0.mk (Kd.R_elder' (by (with_reducible repeat (fail)); exact (Kd.R_mono (Kd.R_far (p := ⟨gb480, 2, none⟩) (Kd.R_far (p := ⟨gb480, 1, none⟩) (Kd.R_far (p := ⟨gb480, 0, none⟩) (Kd.R_types HO485.out BK480.out (by decide)) (fun _ hk => hk.2) (.bool t489)) (fun _ hk => hk.2) (.slice Ao108 t490.length co108)) (fun _ hk => hk.2) (.slice Ao109 t493.length co109)) (fun _ h_ => h_.1))) (Kd.R_base ho0) hb); have n1_ := Aside0.mk (Kd.R_elder' (by (with_reducible repeat (fail)); exact (Kd.R_mono (Kd.R_far (p := ⟨gb480, 2, none⟩) (Kd.R_far (p := ⟨gb480, 1, none⟩) (Kd.R_far (p := ⟨gb480, 0, none⟩) (Kd.R_types HO488.out BK480.out (by decide)) (fun _ hk => hk.2) (.bool t489)) (fun _ hk => hk.2) (.slice Ao108 t490.length co108)) (fun _ hk => hk.2) (.slice Ao109 t493.length co109)) (fun _ h_ => h_.1))) (Kd.R_base ho0) hb); have n2_ := Aside0.mk (Kd.R_elder' (by (with_reducible repeat (fail)); exact (Kd.R_mono (Kd.R_far (p := ⟨gb480, 2, none⟩) (Kd.R_far (p := ⟨gb480, 1, none⟩) (Kd.R_far (p := ⟨gb480, 0, none⟩) (Kd.R_types HO492.out BK480.out (by decide)) (fun _ hk => hk.2) (.bool t489)) (fun _ hk => hk.2) (.slice Ao108 t490.length co108)) (fun _ hk => hk.2) (.slice Ao109 t493.length co109)) (fun _ h_ => h_.1))) (Kd.R_base ho0) hb); have n3_ := Aside0.mk (Kd.R_elder' (by (with_reducible repeat (fail)); exact (Kd.R_mono (Kd.R_far (p := ⟨gb480, 2, none⟩) (Kd.R_far (p := ⟨gb480, 1, none⟩) (Kd.R_far (p := ⟨gb480, 0, none⟩) (Kd.R_types HO495.out BK480.out (by decide)) (fun _ hk => hk.2) (.bool t489)) (fun _ hk => hk.2) (.slice Ao108 t490.length co108)) (fun _ hk => hk.2) (.slice Ao109 t493.length co109)) (fun _ h_ => h_.1))) (Kd.R_base ho0) hb); have n4_ := Aside0.mk (Kd.R_lower (Kd.R_new' (Kd.R_new' (Kd.R_new' (Kd.R_new' ho0 (Kd.R_lt (by (with_reducible repeat (fail)); exact (Kd.R_mono (Kd.R_far (p := ⟨gb480, 2, none⟩) (Kd.R_far (p := ⟨gb480, 1, none⟩) (Kd.R_far (p := ⟨gb480, 0, none⟩) (Kd.R_types HO485.out BK480.out (by decide)) (fun _ hk => hk.2) (.bool t489)) (fun _ hk => hk.2) (.slice Ao108 t490.length co108)) (fun _ hk => hk.2) (.slice Ao109 t493.length co109)) (fun _ h_ => h_.1))))) (Kd.R_lt (by (with_reducible repeat (fail)); exact (Kd.R_mono (Kd.R_far (p := ⟨gb480, 2, none⟩) (Kd.R_far (p := ⟨gb480, 1, none⟩) (Kd.R_far (p := ⟨gb480, 0, none⟩) (Kd.R_types HO488.out BK480.out (by decide)) (fun _ hk => hk.2) (.bool t489)) (fun _ hk => hk.2) (.slice Ao108 t490.length co108)) (fun _ hk => hk.2) (.slice Ao109 t493.length co109)) (fun _ h_ => h_.1))))) (Kd.R_lt (by (with_reducible repeat (fail)); exact (Kd.R_mono (Kd.R_far (p := ⟨gb480, 2, none⟩) (Kd.R_far (p := ⟨gb480, 1, none⟩) (Kd.R_far (p := ⟨gb480, 0, none⟩) (Kd.R_types HO492.out BK480.out (by decide)) (fun _ hk => hk.2) (.bool t489)) (fun _ hk => hk.2) (.slice Ao108 t490.length co108)) (fun _ hk => hk.2) (.slice Ao109 t493.length co109)) (fun _ h_ => h_.1))))) (Kd.R_lt (by (with_reducible repeat (fail)); exact (Kd.R_mono (Kd.R_far (p := ⟨gb480, 2, none⟩) (Kd.R_far (p := ⟨gb480, 1, none⟩) (Kd.R_far (p := ⟨gb480, 0, none⟩) (Kd.R_types HO495.out BK480.out (by decide)) (fun _ hk => hk.2) (.bool t489)) (fun _ hk => hk.2) (.slice Ao108 t490.length co108)) (fun _ hk => hk.2) (.slice Ao109 t493.length co109)) (fun _ h_ => h_.1))))) (below_size (by repeat ((with_reducible first | exact HB.out | refine below_set ?_ GE480.out))))); have n5_ := Aside0.mk (blk_below (g := gb479) (o := .cells #[.bool t482, .slice Ao102 t483.length co102, .slice Ao103 t486.length co103] 46 (0, 0)) (by (with_reducible repeat (fail)); refine blk_far ?_ NB479_480.out _; (with_reducible repeat (fail)); refine blk_far ?_ NB479_480.out _; (with_reducible repeat (fail)); refine blk_far ?_ NB479_480.out _; (with_reducible repeat (fail)); exact BK479.out) hb); have n6_ := Aside0.mk (blk_below (g := gb480) (o := .cells #[.bool t489, .slice Ao108 t490.length co108, .slice Ao109 t493.length co109] 46 (0, 0)) (by (with_reducible repeat (fail)); refine blk_put (cs := #[.bool t489, .slice Ao108 t490.length co108, .slice A1_2 l1_2.length c1_2]) ?_ 2 _ rfl; (with_reducible repeat (fail)); refine blk_put (cs := #[.bool t489, .slice A1_1 l1_1.length c1_1, .slice A1_2 l1_2.length c1_2]) ?_ 1 _ rfl; (with_reducible repeat (fail)); refine blk_put (cs := #[.bool a1_0, .slice A1_1 l1_1.length c1_1, .slice A1_2 l1_2.length c1_2]) ?_ 0 _ rfl; (with_reducible repeat (fail)); exact BK480.out) hb); have n7_ := Aside0.mk (blk_below (g := gb481) (o := .cells #[.bool false, .slice none 0 0, .slice none 0 0] 46 (0, 0)) (by (with_reducible repeat (fail)); refine blk_far ?_ NB481_480.out _; (with_reducible repeat (fail)); refine blk_far ?_ NB481_480.out _; (with_reducible repeat (fail)); refine blk_far ?_ NB481_480.out _; (with_reducible repeat (fail)); exact BK481.out) hb); have n8_ := Aside0.mk (below_step (by repeat ((with_reducible first | exact HB.out | refine below_set ?_ GE480.out))) hb); clear HO485; clear HO488; clear HO492; clear HO495; clear BK479; clear BK480; clear BK481; clear HB; have HO485 := n0_; have HO488 := n1_; have HO492 := n2_; have HO495 := n3_; have HO498 := n4_; have BK479 := n5_; have BK480 := n6_; have BK481 := n7_; have HB := n8_; clear n0_ n1_ n2_ n3_ n4_ n5_ n6_ n7_ n8_; (try clear hb); (try clear ho0); have hcz112_0 : w111.cell? ⟨gb480, 0, none⟩ = some (.bool t489) := (blk_cell BK480.out 0).trans rfl; have hcz112_1 : w111.cell? ⟨gb480, 1, none⟩ = some (.slice Ao108 t490.length co108) := (blk_cell BK480.out 1).trans rfl; have hcz112_2 : w111.cell? ⟨gb480, 2, none⟩ = some (.slice Ao109 t493.length co109) := (blk_cell BK480.out 2).trans rfl; have hfz112_0 := blk_frozen BK480.out 0; have hfz112_1 := blk_frozen BK480.out 1; have hfz112_2 := blk_frozen BK480.out 2; have hcz113_0 : w111.cell? ⟨gb479, 0, none⟩ = some (.bool t482) := (blk_cell BK479.out 0).trans rfl; have hcz113_1 : w111.cell? ⟨gb479, 1, none⟩ = some (.slice Ao102 t483.length co102) := (blk_cell BK479.out 1).trans rfl; have hcz113_2 : w111.cell? ⟨gb479, 2, none⟩ = some (.slice Ao103 t486.length co103) := (blk_cell BK479.out 2).trans rfl; have hfz113_0 := blk_frozen BK479.out 0; have hfz113_1 := blk_frozen BK479.out 1; have hfz113_2 := blk_frozen BK479.out 2) | ((with_reducible refine gate_callee (f := 68) rfl ?_); refine goesL_ (some 21) rfl rfl Try.func68 (by kernel_rfl) rfl #[.slice Ao108 t490.length co108, .slice Ao103 t486.length co103] rfl (by (try simp only [List.map_toArray, List.map_cons, List.map_nil]); rfl) ?_; (with_reducible refine (codewrightref01_Mul.calls k _ _ t490 _ _ t486 t499 _ ?side1 ?side2 ?side3 ?side4 A6.out).mono ?_); (case side1 => exact (Kd.R_reads' HO492.out).2.2); (case side2 => exact (Kd.R_reads' HO492.out).2.1); (case side3 => exact (Kd.R_reads' HO488.out).2.2); (case side4 => exact (Kd.R_reads' HO488.out).2.1); rintro e w114 ⟨v500, rfl, ho0, hb⟩; refine ⟨_, rfl, ?_⟩; have n0_ := Aside0.mk (Kd.R_elder' (by (with_reducible repeat (fail)); exact HO485.out) (Kd.R_base ho0) hb); have n1_ := Aside0.mk (Kd.R_elder' (by (with_reducible repeat (fail)); exact HO488.out) (Kd.R_base ho0) hb); have n2_ := Aside0.mk (Kd.R_elder' (by (with_reducible repeat (fail)); exact HO492.out) (Kd.R_base ho0) hb); have n3_ := Aside0.mk (Kd.R_elder' (by (with_reducible repeat (fail)); exact HO495.out) (Kd.R_base ho0) hb); have n4_ := Aside0.mk (Kd.R_elder' (by (with_reducible repeat (fail)); exact HO498.out) (Kd.R_base ho0) hb); have n5_ := Aside0.mk (Kd.R_lower (Kd.R_new' (Kd.R_new' (Kd.R_new' (Kd.R_new' (Kd.R_new' ho0 (Kd.R_lt (by (with_reducible repeat (fail)); exact HO485.out))) (Kd.R_lt (by (with_reducible repeat (fail)); exact HO488.out))) (Kd.R_lt (by (with_reducible repeat (fail)); exact HO492.out))) (Kd.R_lt (by (with_reducible repeat (fail)); exact HO495.out))) (Kd.R_lt (by (with_reducible repeat (fail)); exact HO498.out))) (below_size (by repeat ((with_reducible exact HB.out))))); have n6_ := Aside0.mk (blk_below (g := gb479) (o := .cells #[.bool t482, .slice Ao102 t483.length co102, .slice Ao103 t486.length co103] 46 (0, 0)) (by (with_reducible repeat (fail)); exact BK479.out) hb); have n7_ := Aside0.mk (blk_below (g := gb480) (o := .cells #[.bool t489, .slice Ao108 t490.length co108, .slice Ao109 t493.length co109] 46 (0, 0)) (by (with_reducible repeat (fail)); exact BK480.out) hb); have n8_ := Aside0.mk (blk_below (g := gb481) (o := .cells #[.bool false, .slice none 0 0, .slice none 0 0] 46 (0, 0)) (by (with_reducible repeat (fail)); exact BK481.out) hb); have n9_ := Aside0.mk (below_step (by repeat ((with_reducible exact HB.out))) hb); clear HO485; clear HO488; clear HO492; clear HO495; clear HO498; clear BK479; clear BK480; clear BK481; clear HB; have HO485 := n0_; have HO488 := n1_; have HO492 := n2_; have HO495 := n3_; have HO498 := n4_; have HO501 := n5_; have BK479 := n6_; have BK480 := n7_; have BK481 := n8_; have HB := n9_; clear n0_ n1_ n2_ n3_ n4_ n5_ n6_ n7_ n8_ n9_; (try clear hb); (try clear ho0); have hcz115_0 : w114.cell? ⟨gb479, 0, none⟩ = some (.bool t482) := (blk_cell BK479.out 0).trans rfl; have hcz115_1 : w114.cell? ⟨gb479, 1, none⟩ = some (.slice Ao102 t483.length co102) := (blk_cell BK479.out 1).trans rfl; have hcz115_2 : w114.cell? ⟨gb479, 2, none⟩ = some (.slice Ao103 t486.length co103) := (blk_cell BK479.out 2).trans rfl; have hfz115_0 := blk_frozen BK479.out 0; have hfz115_1 := blk_frozen BK479.out 1; have hfz115_2 := blk_frozen BK479.out 2; have hcz116_0 : w114.cell? ⟨gb480, 0, none⟩ = some (.bool t489) := (blk_cell BK480.out 0).trans rfl; have hcz116_1 : w114.cell? ⟨gb480, 1, none⟩ = some (.slice Ao108 t490.length co108) := (blk_cell BK480.out 1).trans rfl; have hcz116_2 : w114.cell? ⟨gb480, 2, none⟩ = some (.slice Ao109 t493.length co109) := (blk_cell BK480.out 2).trans rfl; have hfz116_0 := blk_frozen BK480.out 0; have hfz116_1 := blk_frozen BK480.out 1; have hfz116_2 := blk_frozen BK480.out 2) | ((with_reducible refine gate_callee (f := 68) rfl ?_); refine goesL_ (some 26) rfl rfl Try.func68 (by kernel_rfl) rfl #[.slice Ao103 t486.length co103, .slice Ao109 t493.length co109] rfl (by (try simp only [List.map_toArray, List.map_cons, List.map_nil]); rfl) ?_; (with_reducible refine (codewrightref01_Mul.calls k _ _ t486 _ _ t493 t502 _ ?side1 ?side2 ?side3 ?side4 A7.out).mono ?_); (case side1 => exact (Kd.R_reads' HO488.out).2.2); (case side2 => exact (Kd.R_reads' HO488.out).2.1); (case side3 => exact (Kd.R_reads' HO495.out).2.2); (case side4 => exact (Kd.R_reads' HO495.out).2.1); rintro e w117 ⟨v503, rfl, ho0, hb⟩; refine ⟨_, rfl, ?_⟩; have n0_ := Aside0.mk (Kd.R_elder' (by (with_reducible repeat (fail)); exact HO485.out) (Kd.R_base ho0) hb); have n1_ := Aside0.mk (Kd.R_elder' (by (with_reducible repeat (fail)); exact HO488.out) (Kd.R_base ho0) hb); have n2_ := Aside0.mk (Kd.R_elder' (by (with_reducible repeat (fail)); exact HO492.out) (Kd.R_base ho0) hb); have n3_ := Aside0.mk (Kd.R_elder' (by (with_reducible repeat (fail)); exact HO495.out) (Kd.R_base ho0) hb); have n4_ := Aside0.mk (Kd.R_elder' (by (with_reducible repeat (fail)); exact HO498.out) (Kd.R_base ho0) hb); have n5_ := Aside0.mk (Kd.R_elder' (by (with_reducible repeat (fail)); exact HO501.out) (Kd.R_base ho0) hb); have n6_ := Aside0.mk (Kd.R_lower (Kd.R_new' (Kd.R_new' (Kd.R_new' (Kd.R_new' (Kd.R_new' (Kd.R_new' ho0 (Kd.R_lt (by (with_reducible repeat (fail)); exact HO485.out))) (Kd.R_lt (by (with_reducible repeat (fail)); exact HO488.out))) (Kd.R_lt (by (with_reducible repeat (fail)); exact HO492.out))) (Kd.R_lt (by (with_reducible repeat (fail)); exact HO495.out))) (Kd.R_lt (by (with_reducible repeat (fail)); exact HO498.out))) (Kd.R_lt (by (with_reducible repeat (fail)); exact HO501.out))) (below_size (by repeat ((with_reducible exact HB.out))))); have n7_ := Aside0.mk (blk_below (g := gb479) (o := .cells #[.bool t482, .slice Ao102 t483.length co102, .slice Ao103 t486.length co103] 46 (0, 0)) (by (with_reducible repeat (fail)); exact BK479.out) hb); have n8_ := Aside0.mk (blk_below (g := gb480) (o := .cells #[.bool t489, .slice Ao108 t490.length co108, .slice Ao109 t493.length co109] 46 (0, 0)) (by (with_reducible repeat (fail)); exact BK480.out) hb); have n9_ := Aside0.mk (blk_below (g := gb481) (o := .cells #[.bool false, .slice none 0 0, .slice none 0 0] 46 (0, 0)) (by (with_reducible repeat (fail)); exact BK481.out) hb); have n10_ := Aside0.mk (below_step (by repeat ((with_reducible exact HB.out))) hb); clear HO485; clear HO488; clear HO492; clear HO495; clear HO498; clear HO501; clear BK479; clear BK480; clear BK481; clear HB; have HO485 := n0_; have HO488 := n1_; have HO492 := n2_; have HO495 := n3_; have HO498 := n4_; have HO501 := n5_; have HO504 := n6_; have BK479 := n7_; have BK480 := n8_; have BK481 := n9_; have HB := n10_; clear n0_ n1_ n2_ n3_ n4_ n5_ n6_ n7_ n8_ n9_ n10_; (try clear hb); (try clear ho0); have hcz118_0 : w117.cell? ⟨gb479, 0, none⟩ = some (.bool t482) := (blk_cell BK479.out 0).trans rfl; have hcz118_1 : w117.cell? ⟨gb479, 1, none⟩ = some (.slice Ao102 t483.length co102) := (blk_cell BK479.out 1).trans rfl; have hcz118_2 : w117.cell? ⟨gb479, 2, none⟩ = some (.slice Ao103 t486.length co103) := (blk_cell BK479.out 2).trans rfl; have hfz118_0 := blk_frozen BK479.out 0; have hfz118_1 := blk_frozen BK479.out 1; have hfz118_2 := blk_frozen BK479.out 2; have hcz119_0 : w117.cell? ⟨gb480, 0, none⟩ = some (.bool t489) := (blk_cell BK480.out 0).trans rfl; have hcz119_1 : w117.cell? ⟨gb480, 1, none⟩ = some (.slice Ao108 t490.length co108) := (blk_cell BK480.out 1).trans rfl; have hcz119_2 : w117.cell? ⟨gb480, 2, none⟩ = some (.slice Ao109 t493.length co109) := (blk_cell BK480.out 2).trans rfl; have hfz119_0 := blk_frozen BK480.out 0; have hfz119_1 := blk_frozen BK480.out 1; have hfz119_2 := blk_frozen BK480.out 2; obtain ⟨Ao120, co120, eo120⟩ := Kd.R_slice HO498.out; subst eo120; obtain ⟨Ao121, co121, eo121⟩ := Kd.R_slice HO501.out; subst eo121) | ((with_reducible refine gate_callee (f := 71) rfl ?_); refine goesL_ (some 41) rfl rfl Try.func71 (by kernel_rfl) rfl #[.slice Ao120 t496.length co120, .slice Ao121 t499.length co121] rfl (by (try simp only [List.map_toArray, List.map_cons, List.map_nil]); rfl) ?_; (with_reducible refine (codewrightref01_Cmp.calls k _ _ t496 _ _ t499 t515 _ ?side1 ?side2 ?side3 ?side4 A49.out).mono ?_); (case side1 => exact (Kd.R_reads' HO498.out).2.2); (case side2 => exact (Kd.R_reads' HO498.out).2.1); (case side3 => exact (Kd.R_reads' HO501.out).2.2); (case side4 => exact (Kd.R_reads' HO501.out).2.1); rintro e w122 ⟨rfl, hb⟩; refine ⟨_, rfl, ?_⟩; have n0_ := Aside0.mk (Kd.R_below (by (with_reducible repeat (fail)); exact HO485.out) hb); have n1_ := Aside0.mk (Kd.R_below (by (with_reducible repeat (fail)); exact HO488.out) hb); have n2_ := Aside0.mk (Kd.R_below (by (with_reducible repeat (fail)); exact HO492.out) hb); have n3_ := Aside0.mk (Kd.R_below (by (with_reducible repeat (fail)); exact HO495.out) hb); have n4_ := Aside0.mk (Kd.R_below (by (with_reducible repeat (fail)); exact HO498.out) hb); have n5_ := Aside0.mk (Kd.R_below (by (with_reducible repeat (fail)); exact HO501.out) hb); have n6_ := Aside0.mk (Kd.R_below (by (with_reducible repeat (fail)); exact HO504.out) hb); have n7_ := Aside0.mk (blk_below (g := gb479) (o := .cells #[.bool t482, .slice Ao102 t483.length co102, .slice Ao103 t486.length co103] 46 (0, 0)) (by (with_reducible repeat (fail)); exact BK479.out) hb); have n8_ := Aside0.mk (blk_below (g := gb480) (o := .cells #[.bool t489, .slice Ao108 t490.length co108, .slice Ao109 t493.length co109] 46 (0, 0)) (by (with_reducible repeat (fail)); exact BK480.out) hb); have n9_ := Aside0.mk (blk_below (g := gb481) (o := .cells #[.bool false, .slice none 0 0, .slice none 0 0] 46 (0, 0)) (by (with_reducible repeat (fail)); exact BK481.out) hb); have n10_ := Aside0.mk (below_step (by repeat ((with_reducible exact HB.out))) hb); clear HO485; clear HO488; clear HO492; clear HO495; clear HO498; clear HO501; clear HO504; clear BK479; clear BK480; clear BK481; clear HB; have HO485 := n0_; have HO488 := n1_; have HO492 := n2_; have HO495 := n3_; have HO498 := n4_; have HO501 := n5_; have HO504 := n6_; have BK479 := n7_; have BK480 := n8_; have BK481 := n9_; have HB := n10_; clear n0_ n1_ n2_ n3_ n4_ n5_ n6_ n7_ n8_ n9_ n10_; (try clear hb)))
   have n0_ := Aside0.mk (Kd.R_drew HO485.out)
   have n1_ := Aside0.mk (Kd.R_drew HO488.out)
   have n2_ := Aside0.mk (Kd.R_drew HO492.out)
   have n3_ := Aside0.mk (Kd.R_drew HO495.out)
   have n4_ := Aside0.mk (Kd.R_drew HO498.out)
   have n5_ := Aside0.mk (Kd.R_drew HO501.out)
   have n6_ := Aside0.mk (Kd.R_drew HO504.out)
   have n7_ := Aside0.mk (blk_drew BK479.out)
   have n8_ := Aside0.mk (blk_drew BK480.out)
   have n9_ := Aside0.mk (blk_drew BK481.out)
   have n10_ := Aside0.mk (below_drew1 HB.out)
   clear HO485
   clear HO488
   clear HO492
   clear HO495
   clear HO498
   clear HO501
   clear HO504
   clear BK479
   clear BK480
   clear BK481
   clear HB
   have HO485 := n0_
   have HO488 := n1_
   have HO492 := n2_
   have HO495 := n3_
   have HO498 := n4_
   have HO501 := n5_
   have HO504 := n6_
   have BK479 := n7_
   have BK480 := n8_
   have BK481 := n9_
   have HB := n10_
   clear n0_ n1_ n2_ n3_ n4_ n5_ n6_ n7_ n8_ n9_ n10_
   refine start_ (n := 8) (S := fun w' => w'.cell? ⟨gb480, 0, none⟩ = some (.bool t489) ∧ w'.cell? ⟨gb480, 1, none⟩ = some (.slice Ao108 t490.length co108) ∧ w'.cell? ⟨gb480, 2, none⟩ = some (.slice Ao109 t493.length co109)) (ds := []) #[false, false, false, false, false, false, false, false] (by kernel_rfl) rfl rfl ⟨(blk_cell BK480.out 0).trans rfl, (blk_cell BK480.out 1).trans rfl, (blk_cell BK480.out 2).trans rfl⟩ (fun hHeld => ?_); refine with_tabW codewrightref02_Add.tab10 codewrightref02_Add.bits10 (fun HT_ HW_ => ?_)
   generalize w122.drew = w123 at HO485 HO488 HO492 HO495 HO498 HO501 HO504 BK479 BK480 BK481 HB hHeld ⊢
   refine pure_ (i := 0) (N := some 50) (v := ?_) (a' := ?_) #[true, false, false, false, false, false, false, false] rfl rfl (any_of HT_.out (by kernel_rfl)) (fun _ _ _ h => h) (Or.inl ⟨by rfl, ?_⟩) ?_ ?_
   rotate_left
   ·intro w'
    go_simp
    with_reducible rfl
   rotate_left
   ·simp only [Act.put, List.setIfInBounds_toArray, List.set_cons_zero, List.set_cons_succ, i64_w, i32_w]
    rfl
   refine pure_ (i := 2) (N := some 52) (v := ?_) (a' := ?_) #[true, false, true, false, false, false, false, false] rfl rfl (any_of HT_.out (by kernel_rfl)) (fun _ _ _ h => h) (Or.inl ⟨by rfl, ?_⟩) ?_ ?_
   rotate_left
   ·intro w'
    go_simp
    with_reducible rfl
   rotate_left
   ·simp only [Act.put, List.setIfInBounds_toArray, List.set_cons_zero, List.set_cons_succ, i64_w, i32_w]
    rfl
   refine pure_ (i := 3) (N := some 53) (v := ?_) (a' := ?_) #[true, false, true, true, false, false, false, false] rfl rfl (any_of HT_.out (by kernel_rfl)) (fun _ _ _ h => h) (Or.inl ⟨by rfl, ?_⟩) ?_ ?_
   rotate_left
   ·intro w'
    go_simp
    with_reducible rfl
   rotate_left
   ·simp only [Act.put, List.setIfInBounds_toArray, List.set_cons_zero, List.set_cons_succ, i64_w, i32_w]
    rfl
   refine pure_ (i := 5) (N := some 55) (v := ?_) (a' := ?_) #[true, false, true, true, false, true, false, false] rfl rfl (any_of HT_.out (by kernel_rfl)) (fun _ _ _ h => h) (Or.inl ⟨by rfl, ?_⟩) ?_ ?_
   rotate_left
   ·intro w'
    go_simp
    with_reducible rfl
   rotate_left
   ·simp only [Act.put, List.setIfInBounds_toArray, List.set_cons_zero, List.set_cons_succ, i64_w, i32_w]
    rfl
   refine take_ (i := 1) (N := some 51) (v := ?_) (a' := ?_) #[true, true, true, true, false, true, false, false] rfl rfl (take_ofW HT_.out HW_.out (by kernel_rfl)) (fun _ _ _ h => h) (Or.inl ⟨by rfl, ?_⟩) hHeld ?_ ?_
   rotate_left
   ·rintro w' ⟨s0, s1, s2⟩
    go_simp
    with_reducible rfl
   rotate_left
   ·simp only [Act.put, List.setIfInBounds_toArray, List.set_cons_zero, List.set_cons_succ, i64_w, i32_w]
    rfl
   refine one_ (i := 4) (N := some 54) #[true, true, true, true, true, true, false, false] rfl rfl (one_of HT_.out (by kernel_rfl)) (by decide) (fun K hK => ?_)
   refine goes_ Try.func72 (by kernel_rfl) rfl #[.slice Ao121 t499.length co121, .slice Ao120 t496.length co120] (by rfl) rfl rfl (by (try simp only [List.map_toArray, List.map_cons, List.map_nil]); rfl) ?_
   with_reducible refine (codewrightref01_Sub.calls k _ _ t499 _ _ t496 t526 _ ?side1 ?side2 ?side3 ?side4 A92.out).mono ?_
   (case side1 => exact (Kd.R_reads' HO501.out).2.2)
   (case side2 => exact (Kd.R_reads' HO501.out).2.1)
   (case side3 => exact (Kd.R_reads' HO498.out).2.2)
   (case side4 => exact (Kd.R_reads' HO498.out).2.1)
   rintro e w124 ⟨v527, rfl, ho0, hb⟩
   refine ⟨_, rfl, ?_⟩
   have n0_ := Aside0.mk (Kd.R_elder' (by (with_reducible repeat (fail)); exact HO485.out) (Kd.R_base ho0) hb)
   have n1_ := Aside0.mk (Kd.R_elder' (by (with_reducible repeat (fail)); exact HO488.out) (Kd.R_base ho0) hb)
   have n2_ := Aside0.mk (Kd.R_elder' (by (with_reducible repeat (fail)); exact HO492.out) (Kd.R_base ho0) hb)
   have n3_ := Aside0.mk (Kd.R_elder' (by (with_reducible repeat (fail)); exact HO495.out) (Kd.R_base ho0) hb)
   have n4_ := Aside0.mk (Kd.R_elder' (by (with_reducible repeat (fail)); exact HO498.out) (Kd.R_base ho0) hb)
   have n5_ := Aside0.mk (Kd.R_elder' (by (with_reducible repeat (fail)); exact HO501.out) (Kd.R_base ho0) hb)
   have n6_ := Aside0.mk (Kd.R_elder' (by (with_reducible repeat (fail)); exact HO504.out) (Kd.R_base ho0) hb)
   have n7_ := Aside0.mk (Kd.R_lower (Kd.R_new' (Kd.R_new' (Kd.R_new' (Kd.R_new' (Kd.R_new' (Kd.R_new' (Kd.R_new' ho0 (Kd.R_lt (by (with_reducible repeat (fail)); exact HO485.out))) (Kd.R_lt (by (with_reducible repeat (fail)); exact HO488.out))) (Kd.R_lt (by (with_reducible repeat (fail)); exact HO492.out))) (Kd.R_lt (by (with_reducible repeat (fail)); exact HO495.out))) (Kd.R_lt (by (with_reducible repeat (fail)); exact HO498.out))) (Kd.R_lt (by (with_reducible repeat (fail)); exact HO501.out))) (Kd.R_lt (by (with_reducible repeat (fail)); exact HO504.out))) (below_size (by repeat ((with_reducible exact HB.out)))))
   have n8_ := Aside0.mk (blk_below (g := gb479) (o := .cells #[.bool t482, .slice Ao102 t483.length co102, .slice Ao103 t486.length co103] 46 (0, 0)) (by (with_reducible repeat (fail)); exact BK479.out) hb)
   have n9_ := Aside0.mk (blk_below (g := gb480) (o := .cells #[.bool t489, .slice Ao108 t490.length co108, .slice Ao109 t493.length co109] 46 (0, 0)) (by (with_reducible repeat (fail)); exact BK480.out) hb)
   have n10_ := Aside0.mk (blk_below (g := gb481) (o := .cells #[.bool false, .slice none 0 0, .slice none 0 0] 46 (0, 0)) (by (with_reducible repeat (fail)); exact BK481.out) hb)
   have n11_ := Aside0.mk (below_step (by repeat ((with_reducible exact HB.out))) hb)
   clear HO485
   clear HO488
   clear HO492
   clear HO495
   clear HO498
   clear HO501
   clear HO504
   clear BK479
   clear BK480
   clear BK481
   clear HB
   have HO485 := n0_
   have HO488 := n1_
   have HO492 := n2_
   have HO495 := n3_
   have HO498 := n4_
   have HO501 := n5_
   have HO504 := n6_
   have HO528 := n7_
   have BK479 := n8_
   have BK480 := n9_
   have BK481 := n10_
   have HB := n11_
   clear n0_ n1_ n2_ n3_ n4_ n5_ n6_ n7_ n8_ n9_ n10_ n11_
   (try clear hb)
   (try clear ho0)
   obtain ⟨Ao125, co125, eo125⟩ := Kd.R_slice HO528.out
   (subst eo125)
   obtain ⟨Ao126, co126, eo126⟩ := Kd.R_slice HO504.out
   (subst eo126)
   refine hK.out _ _ ⟨(blk_cell BK480.out 0).trans rfl, (blk_cell BK480.out 1).trans rfl, (blk_cell BK480.out 2).trans rfl⟩ (fun hHeld => ?_)
   clear hK K
   refine norm_ (a' := ?_) ?_ ?_
   rotate_left
   ·show Act.put _ (some 54) _ = _
    simp only [Act.put, List.setIfInBounds_toArray, List.set_cons_zero, List.set_cons_succ, i64_w, i32_w]
    rfl
   refine one_ (i := 6) (N := some 56) #[true, true, true, true, true, true, true, false] rfl rfl (one_of HT_.out (by kernel_rfl)) (by decide) (fun K hK => ?_)
   refine goes_ Try.func69 (by kernel_rfl) rfl #[.bool t489, .slice Ao125 t526.length co125, .slice Ao126 t502.length co126] (by rfl) rfl rfl (by (try simp only [List.map_toArray, List.map_cons, List.map_nil]); rfl) ?_
   with_reducible refine (codewrightref02_Make.calls k t489 _ _ t526 _ _ t502 t529 t530 t533 _ ?side1 ?side2 ?side3 ?side4 A93.out).mono ?_
   (case side1 => exact (Kd.R_reads' HO528.out).2.2)
   (case side2 => exact (Kd.R_reads' HO528.out).2.1)
   (case side3 => exact (Kd.R_reads' HO504.out).2.2)
   (case side4 => exact (Kd.R_reads' HO504.out).2.1)
   rintro e w127 ⟨v531, v534, rfl, ho0, ho1, hb⟩
   refine ⟨_, rfl, ?_⟩
   have n0_ := Aside0.mk (Kd.R_mono (Kd.R_told (Kd.R_told (Kd.R_old (by (with_reducible repeat (fail)); exact HO485.out) hb) (Kd.R_base ho0)) (Kd.R_base ho1)) (fun _ h_ => h_.1))
   have n1_ := Aside0.mk (Kd.R_mono (Kd.R_told (Kd.R_told (Kd.R_old (by (with_reducible repeat (fail)); exact HO488.out) hb) (Kd.R_base ho0)) (Kd.R_base ho1)) (fun _ h_ => h_.1))
   have n2_ := Aside0.mk (Kd.R_mono (Kd.R_told (Kd.R_told (Kd.R_old (by (with_reducible repeat (fail)); exact HO492.out) hb) (Kd.R_base ho0)) (Kd.R_base ho1)) (fun _ h_ => h_.1))
   have n3_ := Aside0.mk (Kd.R_mono (Kd.R_told (Kd.R_told (Kd.R_old (by (with_reducible repeat (fail)); exact HO495.out) hb) (Kd.R_base ho0)) (Kd.R_base ho1)) (fun _ h_ => h_.1))
   have n4_ := Aside0.mk (Kd.R_mono (Kd.R_told (Kd.R_told (Kd.R_old (by (with_reducible repeat (fail)); exact HO498.out) hb) (Kd.R_base ho0)) (Kd.R_base ho1)) (fun _ h_ => h_.1))
   have n5_ := Aside0.mk (Kd.R_mono (Kd.R_told (Kd.R_told (Kd.R_old (by (with_reducible repeat (fail)); exact HO501.out) hb) (Kd.R_base ho0)) (Kd.R_base ho1)) (fun _ h_ => h_.1))
   have n6_ := Aside0.mk (Kd.R_mono (Kd.R_told (Kd.R_told (Kd.R_old (by (with_reducible repeat (fail)); exact HO504.out) hb) (Kd.R_base ho0)) (Kd.R_base ho1)) (fun _ h_ => h_.1))
   have n7_ := Aside0.mk (Kd.R_mono (Kd.R_told (Kd.R_told (Kd.R_old (by (with_reducible repeat (fail)); exact HO528.out) hb) (Kd.R_base ho0)) (Kd.R_base ho1)) (fun _ h_ => h_.1))
   have n8_ := Aside0.mk (Kd.R_lower (Kd.R_new' (Kd.R_new' (Kd.R_new' (Kd.R_new' (Kd.R_new' (Kd.R_new' (Kd.R_new' (Kd.R_new' ho0 (Kd.R_lt (by (with_reducible repeat (fail)); exact HO485.out))) (Kd.R_lt (by (with_reducible repeat (fail)); exact HO488.out))) (Kd.R_lt (by (with_reducible repeat (fail)); exact HO492.out))) (Kd.R_lt (by (with_reducible repeat (fail)); exact HO495.out))) (Kd.R_lt (by (with_reducible repeat (fail)); exact HO498.out))) (Kd.R_lt (by (with_reducible repeat (fail)); exact HO501.out))) (Kd.R_lt (by (with_reducible repeat (fail)); exact HO504.out))) (Kd.R_lt (by (with_reducible repeat (fail)); exact HO528.out))) (below_size (by repeat ((with_reducible exact HB.out)))))
   have n9_ := Aside0.mk (Kd.R_lower (Kd.R_new' (Kd.R_new' (Kd.R_new' (Kd.R_new' (Kd.R_new' (Kd.R_new' (Kd.R_new' (Kd.R_new' ho1 (Kd.R_lt (by (with_reducible repeat (fail)); exact HO485.out))) (Kd.R_lt (by (with_reducible repeat (fail)); exact HO488.out))) (Kd.R_lt (by (with_reducible repeat (fail)); exact HO492.out))) (Kd.R_lt (by (with_reducible repeat (fail)); exact HO495.out))) (Kd.R_lt (by (with_reducible repeat (fail)); exact HO498.out))) (Kd.R_lt (by (with_reducible repeat (fail)); exact HO501.out))) (Kd.R_lt (by (with_reducible repeat (fail)); exact HO504.out))) (Kd.R_lt (by (with_reducible repeat (fail)); exact HO528.out))) (below_size (by repeat ((with_reducible exact HB.out)))))
   have n10_ := Aside0.mk (blk_below (g := gb479) (o := .cells #[.bool t482, .slice Ao102 t483.length co102, .slice Ao103 t486.length co103] 46 (0, 0)) (by (with_reducible repeat (fail)); exact BK479.out) hb)
   have n11_ := Aside0.mk (blk_below (g := gb480) (o := .cells #[.bool t489, .slice Ao108 t490.length co108, .slice Ao109 t493.length co109] 46 (0, 0)) (by (with_reducible repeat (fail)); exact BK480.out) hb)
   have n12_ := Aside0.mk (blk_below (g := gb481) (o := .cells #[.bool false, .slice none 0 0, .slice none 0 0] 46 (0, 0)) (by (with_reducible repeat (fail)); exact BK481.out) hb)
   have n13_ := Aside0.mk (below_step (by repeat ((with_reducible exact HB.out))) hb)
   clear HO485
   clear HO488
   clear HO492
   clear HO495
   clear HO498
   clear HO501
   clear HO504
   clear HO528
   clear BK479
   clear BK480
   clear BK481
   clear HB
   have HO485 := n0_
   have HO488 := n1_
   have HO492 := n2_
   have HO495 := n3_
   have HO498 := n4_
   have HO501 := n5_
   have HO504 := n6_
   have HO528 := n7_
   have HO532 := n8_
   have HO535 := n9_
   have BK479 := n10_
   have BK480 := n11_
   have BK481 := n12_
   have HB := n13_
   clear n0_ n1_ n2_ n3_ n4_ n5_ n6_ n7_ n8_ n9_ n10_ n11_ n12_ n13_
   (try clear hb)
   (try clear ho0)
   (try clear ho1)
   obtain ⟨Ao129, co129, eo129⟩ := Kd.R_slice HO532.out
   (subst eo129)
   obtain ⟨Ao131, co131, eo131⟩ := Kd.R_slice HO535.out
   (subst eo131)
   refine hK.out _ _ ⟨(blk_cell BK480.out 0).trans rfl, (blk_cell BK480.out 1).trans rfl, (blk_cell BK480.out 2).trans rfl⟩ (fun hHeld => ?_)
   clear hK K
   refine norm_ (a' := ?_) ?_ ?_
   rotate_left
   ·show Act.put _ (some 56) _ = _
    simp only [Act.put, List.setIfInBounds_toArray, List.set_cons_zero, List.set_cons_succ, i64_w, i32_w]
    rfl
   refine one_ (i := 7) (N := none) #[true, true, true, true, true, true, true, true] rfl rfl (one_of HT_.out (by kernel_rfl)) (by decide) (fun K hK => ?_)
   have hs128 : w127.cell? ⟨gb481, 0, none⟩ = some (.bool false) := (blk_cell BK481.out 0).trans rfl
   have hfs128 := blk_frozen BK481.out 0
   have hns128_0 := NB479_481.out
   have hns128_1 := NB480_481.out
   have hms128_0 := NB481_479.out
   have hms128_1 := NB481_480.out
   have hs130 : w127.cell? ⟨gb481, 1, none⟩ = some (.slice none 0 0) := (blk_cell BK481.out 1).trans rfl
   have hfs130 := blk_frozen BK481.out 1
   have hns130_0 := NB479_481.out
   have hns130_1 := NB480_481.out
   have hms130_0 := NB481_479.out
   have hms130_1 := NB481_480.out
   have hs132 : w127.cell? ⟨gb481, 2, none⟩ = some (.slice none 0 0) := (blk_cell BK481.out 2).trans rfl
   have hfs132 := blk_frozen BK481.out 2
   have hns132_0 := NB479_481.out
   have hns132_1 := NB480_481.out
   have hms132_0 := NB481_479.out
   have hms132_1 := NB481_480.out
   refine skip_ (w1 := ?_) (by rfl) rfl ?_ ?_
   rotate_left
   ·go_simp
    rfl
   refine hK.out _ _ ⟨((cell_far (p := ⟨gb481, _, none⟩) NB480_481.out _).trans (((cell_far (p := ⟨gb481, _, none⟩) NB480_481.out _).trans (((cell_far (p := ⟨gb481, _, none⟩) NB480_481.out _).trans (hHeld.1)))))), ((cell_far (p := ⟨gb481, _, none⟩) NB480_481.out _).trans (((cell_far (p := ⟨gb481, _, none⟩) NB480_481.out _).trans (((cell_far (p := ⟨gb481, _, none⟩) NB480_481.out _).trans (hHeld.2.1)))))), ((cell_far (p := ⟨gb481, _, none⟩) NB480_481.out _).trans (((cell_far (p := ⟨gb481, _, none⟩) NB480_481.out _).trans (((cell_far (p := ⟨gb481, _, none⟩) NB480_481.out _).trans (hHeld.2.2))))))⟩ (fun hHeld => ?_)
   clear hK K
   refine done_ (done_of HT_.out (by kernel_rfl)) ?_
   try go_wp2
   refine bodyPost_ret (results_cell_row rfl _ _ gb481 46 #[.bool t529, .slice Ao129 t530.length co129, .slice Ao131 t533.length co131] (0, 0) _ rfl (by (with_reducible repeat (fail)); refine blk_put (cs := #[.bool t529, .slice Ao129 t530.length co129, .slice none 0 0]) ?_ 2 _ rfl; (with_reducible repeat (fail)); refine blk_put (cs := #[.bool t529, .slice none 0 0, .slice none 0 0]) ?_ 1 _ rfl; (with_reducible repeat (fail)); refine blk_put (cs := #[.bool false, .slice none 0 0, .slice none 0 0]) ?_ 0 _ rfl; (with_reducible repeat (fail)); exact BK481.out) Try.underlying46 rfl (by kernel_rfl)) rfl ?_
   exact ⟨_, _, by rfl, by (with_reducible repeat (fail)); exact Kd.R_mono (Kd.R_far (p := ⟨gb481, 2, none⟩) (Kd.R_far (p := ⟨gb481, 1, none⟩) (Kd.R_far (p := ⟨gb481, 0, none⟩) (Kd.R_types HO532.out BK481.out (by decide)) (fun _ hk => hk.2) (.bool t529)) (fun _ hk => hk.2) (.slice Ao129 t530.length co129)) (fun _ hk => hk.2) (.slice Ao131 t533.length co131)) (fun _ hk => hk.1.1.1.1.1.1.1.1.1), by (with_reducible repeat (fail)); exact Kd.R_mono (Kd.R_far (p := ⟨gb481, 2, none⟩) (Kd.R_far (p := ⟨gb481, 1, none⟩) (Kd.R_far (p := ⟨gb481, 0, none⟩) (Kd.R_types HO535.out BK481.out (by decide)) (fun _ hk => hk.2) (.bool t529)) (fun _ hk => hk.2) (.slice Ao129 t530.length co129)) (fun _ hk => hk.2) (.slice Ao131 t533.length co131)) (fun _ hk => hk.1.1.1.1.1.1.1.1.1), by repeat ((with_reducible first | exact HB.out | refine below_set ?_ GE481.out))⟩
end Go.Proofs.Ythheakfgmombdaa.F
end
