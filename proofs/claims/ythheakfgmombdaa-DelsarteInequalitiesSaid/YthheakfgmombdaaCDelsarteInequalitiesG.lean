import Derived.Test.YthheakfgmombdaaCDelsarteInequalitiesF
/- Part G of the proof: FRef02Add, FRef02Neg, FRef02Sub, FRef02Cmp, FRef01Of, FRef02zabs, FRef02Of, FRef02Int, FRef02Mul, FRef02Nat, FRef01zsmall, FRef01Choose. -/
section
namespace Go.Proofs.Ythheakfgmombdaa.F
open Go.RowKit Go.Proofs.YthheakfgmombdaaX.PrintWords Go.Proofs.YthheakfgmombdaaX.PrintLast Go.Proofs.YthheakfgmombdaaX.PrintMore
attribute [local go_sem] max2_int min2_int max_two min_two max_three min_three max_four min_four   -- for this text's walks alone
set_option linter.unusedVariables false
set_option linter.unusedSimpArgs false
def codewrightref02_Add.T7 : Bool × List (List Nat × List Nat) := (true, [([], []), ([0], [0]), ([], []), ([], []), ([2, 3], [2, 3]), ([], []), ([1, 4, 5, 4], [1, 4, 5]), ([6, 6, 0, 1, 2, 3, 4, 5, 6], [6])])
def codewrightref02_Add.B7 : List Nat := [0, 1, 0, 0, 12, 0, 63, 127]
theorem codewrightref02_Add.tab7 : rtab .any (opsOf Try.f33 7) = codewrightref02_Add.T7 := by kernel_rfl
theorem codewrightref02_Add.bits7 : waitsOk codewrightref02_Add.T7.2 codewrightref02_Add.B7 = true := by kernel_rfl
def codewrightref02_Add.T9 : Bool × List (List Nat × List Nat) := (true, [([], []), ([0], [0]), ([], []), ([], []), ([2, 3], [2, 3]), ([], []), ([1, 4, 5, 4], [1, 4, 5]), ([6, 6, 0, 1, 2, 3, 4, 5, 6], [6])])
def codewrightref02_Add.B9 : List Nat := [0, 1, 0, 0, 12, 0, 63, 127]
theorem codewrightref02_Add.tab9 : rtab .any (opsOf Try.f33 9) = codewrightref02_Add.T9 := by kernel_rfl
theorem codewrightref02_Add.bits9 : waitsOk codewrightref02_Add.T9.2 codewrightref02_Add.B9 = true := by kernel_rfl
def codewrightref02_Add.T10 : Bool × List (List Nat × List Nat) := (true, [([], []), ([0], [0]), ([], []), ([], []), ([2, 3], [2, 3]), ([], []), ([1, 4, 5, 4], [1, 4, 5]), ([6, 6, 0, 1, 2, 3, 4, 5, 6], [6])])
def codewrightref02_Add.B10 : List Nat := [0, 1, 0, 0, 12, 0, 63, 127]
theorem codewrightref02_Add.tab10 : rtab .any (opsOf Try.f33 10) = codewrightref02_Add.T10 := by kernel_rfl
theorem codewrightref02_Add.bits10 : waitsOk codewrightref02_Add.T10.2 codewrightref02_Add.B10 = true := by kernel_rfl
set_option maxHeartbeats 8000000 in
set_option maxRecDepth 100000 in
theorem codewrightref02_Add.calls (k : Nat) (a0_0 : Bool) (A0_1 : Option Addr) (c0_1 : Nat) (l0_1 : List Int) (A0_2 : Option Addr) (c0_2 : Nat) (l0_2 : List Int) (a1_0 : Bool) (A1_1 : Option Addr) (c1_1 : Nat) (l1_1 : List Int) (A1_2 : Option Addr) (c1_2 : Nat) (l1_2 : List Int) (r1 : Bool) (r2 : List Int) (r3 : List Int) (w : World) (hr0_1 : Kd.C (Kd.int .u32) w A0_1 l0_1.length l0_1) (hc0_1 : l0_1.length ≤ c0_1) (hr0_2 : Kd.C (Kd.int .u32) w A0_2 l0_2.length l0_2) (hc0_2 : l0_2.length ≤ c0_2) (hr1_1 : Kd.C (Kd.int .u32) w A1_1 l1_1.length l1_1) (hc1_1 : l1_1.length ≤ c1_1) (hr1_2 : Kd.C (Kd.int .u32) w A1_2 l1_2.length l1_2) (hc1_2 : l1_2.length ≤ c1_2) (h : codewrightref02_Add.f k a0_0 l0_1 l0_2 a1_0 l1_1 l1_2 = some (r1, r2, r3)) :
  Calls Try.prog 33 #[.agg #[.bool a0_0, .slice A0_1 l0_1.length c0_1, .slice A0_2 l0_2.length c0_2], .agg #[.bool a1_0, .slice A1_1 l1_1.length c1_1, .slice A1_2 l1_2.length c1_2]] w fun e w' => ∃ v1_ v2_ : Value, e = .returned (.agg #[.bool r1, v1_, v2_]) ∧ Kd.R (Kd.int .u32) 100 w' w.heap.size (fun k_ => some k_ ≠ (v2_ : Value).ownBlock) v1_ r2 ∧ Kd.R (Kd.int .u32) 100 w' w.heap.size (fun k_ => some k_ ≠ (v1_ : Value).ownBlock) v2_ r3 ∧ Below w.heap.size w w' := by
 have hu46 := Try.underlying46
 have HR0_1 := Aside0.mk hr0_1
 have HC0_1 := Aside0.mk hc0_1
 clear hr0_1 hc0_1
 have HR0_2 := Aside0.mk hr0_2
 have HC0_2 := Aside0.mk hc0_2
 clear hr0_2 hc0_2
 have HR1_1 := Aside0.mk hr1_1
 have HC1_1 := Aside0.mk hc1_1
 clear hr1_1 hc1_1
 have HR1_2 := Aside0.mk hr1_2
 have HC1_2 := Aside0.mk hc1_2
 clear hr1_2 hc1_2
 have HB := Aside0.mk (Below.refl w.heap.size w)
 have H : ((codewrightref02_Trim.f k a0_0 l0_1 l0_2).bind fun bt482 => ((codewrightref02_Trim.f k a1_0 l1_1 l1_2).bind fun bt489 => ((codewrightref01_Mul.f k bt482.2.1 bt489.2.2).bind fun t496 => ((codewrightref01_Mul.f k bt489.2.1 bt482.2.2).bind fun t499 => ((codewrightref01_Mul.f k bt482.2.2 bt489.2.2).bind fun t502 => (if (bt482.1 == bt489.1) = true then ((codewrightref01_Add.f k t496 t499).bind fun t505 => ((codewrightref02_Make.f k bt482.1 t505 t502).bind fun bt508 => (some (bt508.1, bt508.2.1, bt508.2.2)))) else ((codewrightref01_Cmp.f k t496 t499).bind fun t515 => (if t515 ≥ 0 then ((codewrightref01_Sub.f k t496 t499).bind fun t516 => ((codewrightref02_Make.f k bt482.1 t516 t502).bind fun bt519 => (some (bt519.1, bt519.2.1, bt519.2.2)))) else ((codewrightref01_Sub.f k t499 t496).bind fun t526 => ((codewrightref02_Make.f k bt489.1 t526 t502).bind fun bt529 => (some (bt529.1, bt529.2.1, bt529.2.2)))))))))))) = some (r1, r2, r3) := h
 clear h
 replace H := Option.bind_eq_some_iff.mp H
 obtain ⟨⟨t482, t483, t486⟩, A30, H⟩ := H
 replace H : ((codewrightref02_Trim.f k a1_0 l1_1 l1_2).bind fun bt489 => ((codewrightref01_Mul.f k t483 bt489.2.2).bind fun t496 => ((codewrightref01_Mul.f k bt489.2.1 t486).bind fun t499 => ((codewrightref01_Mul.f k t486 bt489.2.2).bind fun t502 => (if (t482 == bt489.1) = true then ((codewrightref01_Add.f k t496 t499).bind fun t505 => ((codewrightref02_Make.f k t482 t505 t502).bind fun bt508 => (some (bt508.1, bt508.2.1, bt508.2.2)))) else ((codewrightref01_Cmp.f k t496 t499).bind fun t515 => (if t515 ≥ 0 then ((codewrightref01_Sub.f k t496 t499).bind fun t516 => ((codewrightref02_Make.f k t482 t516 t502).bind fun bt519 => (some (bt519.1, bt519.2.1, bt519.2.2)))) else ((codewrightref01_Sub.f k t499 t496).bind fun t526 => ((codewrightref02_Make.f k bt489.1 t526 t502).bind fun bt529 => (some (bt529.1, bt529.2.1, bt529.2.2))))))))))) = some (r1, r2, r3) := H
 have A3 := Aside0.mk A30
 clear A30
 replace H := Option.bind_eq_some_iff.mp H
 obtain ⟨⟨t489, t490, t493⟩, A40, H⟩ := H
 replace H : ((codewrightref01_Mul.f k t483 t493).bind fun t496 => ((codewrightref01_Mul.f k t490 t486).bind fun t499 => ((codewrightref01_Mul.f k t486 t493).bind fun t502 => (if (t482 == t489) = true then ((codewrightref01_Add.f k t496 t499).bind fun t505 => ((codewrightref02_Make.f k t482 t505 t502).bind fun bt508 => (some (bt508.1, bt508.2.1, bt508.2.2)))) else ((codewrightref01_Cmp.f k t496 t499).bind fun t515 => (if t515 ≥ 0 then ((codewrightref01_Sub.f k t496 t499).bind fun t516 => ((codewrightref02_Make.f k t482 t516 t502).bind fun bt519 => (some (bt519.1, bt519.2.1, bt519.2.2)))) else ((codewrightref01_Sub.f k t499 t496).bind fun t526 => ((codewrightref02_Make.f k t489 t526 t502).bind fun bt529 => (some (bt529.1, bt529.2.1, bt529.2.2)))))))))) = some (r1, r2, r3) := H
 have A4 := Aside0.mk A40
 clear A40
 replace H := Option.bind_eq_some_iff.mp H
 obtain ⟨t496, A50, H⟩ := H
 replace H : ((codewrightref01_Mul.f k t490 t486).bind fun t499 => ((codewrightref01_Mul.f k t486 t493).bind fun t502 => (if (t482 == t489) = true then ((codewrightref01_Add.f k t496 t499).bind fun t505 => ((codewrightref02_Make.f k t482 t505 t502).bind fun bt508 => (some (bt508.1, bt508.2.1, bt508.2.2)))) else ((codewrightref01_Cmp.f k t496 t499).bind fun t515 => (if t515 ≥ 0 then ((codewrightref01_Sub.f k t496 t499).bind fun t516 => ((codewrightref02_Make.f k t482 t516 t502).bind fun bt519 => (some (bt519.1, bt519.2.1, bt519.2.2)))) else ((codewrightref01_Sub.f k t499 t496).bind fun t526 => ((codewrightref02_Make.f k t489 t526 t502).bind fun bt529 => (some (bt529.1, bt529.2.1, bt529.2.2))))))))) = some (r1, r2, r3) := H
 have A5 := Aside0.mk A50
 clear A50
 replace H := Option.bind_eq_some_iff.mp H
 obtain ⟨t499, A60, H⟩ := H
 replace H : ((codewrightref01_Mul.f k t486 t493).bind fun t502 => (if (t482 == t489) = true then ((codewrightref01_Add.f k t496 t499).bind fun t505 => ((codewrightref02_Make.f k t482 t505 t502).bind fun bt508 => (some (bt508.1, bt508.2.1, bt508.2.2)))) else ((codewrightref01_Cmp.f k t496 t499).bind fun t515 => (if t515 ≥ 0 then ((codewrightref01_Sub.f k t496 t499).bind fun t516 => ((codewrightref02_Make.f k t482 t516 t502).bind fun bt519 => (some (bt519.1, bt519.2.1, bt519.2.2)))) else ((codewrightref01_Sub.f k t499 t496).bind fun t526 => ((codewrightref02_Make.f k t489 t526 t502).bind fun bt529 => (some (bt529.1, bt529.2.1, bt529.2.2)))))))) = some (r1, r2, r3) := H
 have A6 := Aside0.mk A60
 clear A60
 replace H := Option.bind_eq_some_iff.mp H
 obtain ⟨t502, A70, H⟩ := H
 replace H : (if (t482 == t489) = true then ((codewrightref01_Add.f k t496 t499).bind fun t505 => ((codewrightref02_Make.f k t482 t505 t502).bind fun bt508 => (some (bt508.1, bt508.2.1, bt508.2.2)))) else ((codewrightref01_Cmp.f k t496 t499).bind fun t515 => (if t515 ≥ 0 then ((codewrightref01_Sub.f k t496 t499).bind fun t516 => ((codewrightref02_Make.f k t482 t516 t502).bind fun bt519 => (some (bt519.1, bt519.2.1, bt519.2.2)))) else ((codewrightref01_Sub.f k t499 t496).bind fun t526 => ((codewrightref02_Make.f k t489 t526 t502).bind fun bt529 => (some (bt529.1, bt529.2.1, bt529.2.2))))))) = some (r1, r2, r3) := H
 have A7 := Aside0.mk A70
 clear A70
 by_cases c8 : (t482 == t489) = true
 ·rw [if_pos c8] at H
  have c8b0 : (t482 == t489) = true := c8
  (try (have c8b1 : decide (t482 = t489) = true := by simpa using c8))
  (try (have c8b2 : (t482 == t489) = true := by simpa using c8))
  clear c8
  replace H := Option.bind_eq_some_iff.mp H
  obtain ⟨t505, A90, H⟩ := H
  replace H : ((codewrightref02_Make.f k t482 t505 t502).bind fun bt508 => (some (bt508.1, bt508.2.1, bt508.2.2))) = some (r1, r2, r3) := H
  have A9 := Aside0.mk A90
  clear A90
  replace H := Option.bind_eq_some_iff.mp H
  obtain ⟨⟨t508, t509, t512⟩, A100, H⟩ := H
  replace H : (some (t508, t509, t512)) = some (r1, r2, r3) := H
  have A10 := Aside0.mk A100
  clear A100
  simp only [Option.some.injEq, Prod.mk.injEq] at H
  obtain ⟨rfl, rfl, rfl⟩ := H
  go_enter Try.func33, Try.ntmps33
  try go_wp2_with (first | ((with_reducible refine gate_dst (N := 2) rfl ?_); refine box_event ?hg (N := 2) ?hd (cs := #[.bool a0_0, .slice A0_1 l0_1.length c0_1, .slice A0_2 l0_2.length c0_2]) (t := 46) ?hr ?_; (case hd => rfl); (case hg => rfl); (case hr => (go_simp; done)); intro gb479 hg w11 hbox hb; have n0_ := Aside0.mk (below_step (by repeat ((with_reducible exact HB.out))) hb); have n1_ := Aside0.mk (hbox); have n2_ := Aside0.mk ((by rw [hg]; exact (below_size (by repeat ((with_reducible exact HB.out)))) : w.heap.size ≤ gb479)); have n3_ := Aside0.mk ((by rw [hg]; exact (below_size (by repeat ((with_reducible exact HB.out)))) : w.heap.size ≤ gb479)); clear HB; have HB := n0_; have BK479 := n1_; have GW479 := n2_; have GE479 := n3_; clear n0_ n1_ n2_ n3_; clear hb hbox hg) | ((with_reducible refine gate_dst (N := 3) rfl ?_); refine box_event ?hg (N := 3) ?hd (cs := #[.bool a1_0, .slice A1_1 l1_1.length c1_1, .slice A1_2 l1_2.length c1_2]) (t := 46) ?hr ?_; (case hd => rfl); (case hg => rfl); (case hr => (go_simp; done)); intro gb480 hg w12 hbox hb; have n0_ := Aside0.mk (blk_below (g := gb479) (o := .cells #[.bool a0_0, .slice A0_1 l0_1.length c0_1, .slice A0_2 l0_2.length c0_2] 46 (0, 0)) (by (with_reducible repeat (fail)); exact BK479.out) hb); have n1_ := Aside0.mk (below_step (by repeat ((with_reducible exact HB.out))) hb); have n2_ := Aside0.mk (hbox); have n3_ := Aside0.mk ((by rw [hg]; exact (below_size (by repeat ((with_reducible exact HB.out)))) : w.heap.size ≤ gb480)); have n4_ := Aside0.mk ((by rw [hg]; exact (below_size (by repeat ((with_reducible exact HB.out)))) : w.heap.size ≤ gb480)); have n5_ := Aside0.mk ((by rw [hg]; exact Nat.ne_of_lt (blk_lt (g := gb479) (o := .cells #[.bool a0_0, .slice A0_1 l0_1.length c0_1, .slice A0_2 l0_2.length c0_2] 46 (0, 0)) (by (with_reducible repeat (fail)); exact BK479.out)) : gb479 ≠ gb480)); have n6_ := Aside0.mk ((by rw [hg]; exact Nat.ne_of_gt (blk_lt (g := gb479) (o := .cells #[.bool a0_0, .slice A0_1 l0_1.length c0_1, .slice A0_2 l0_2.length c0_2] 46 (0, 0)) (by (with_reducible repeat (fail)); exact BK479.out)) : gb480 ≠ gb479)); clear BK479; clear HB; have BK479 := n0_; have HB := n1_; have BK480 := n2_; have GW480 := n3_; have GE480 := n4_; have NB479_480 := n5_; have NB480_479 := n6_; clear n0_ n1_ n2_ n3_ n4_ n5_ n6_; clear hb hbox hg) | ((with_reducible refine gate_dst (N := 4) rfl ?_); refine box_event ?hg (N := 4) ?hd (cs := #[.bool false, .slice none 0 0, .slice none 0 0]) (t := 46) ?hr ?_; (case hd => rfl); (case hg => rfl); (case hr => (go_simp; done)); intro gb481 hg w13 hbox hb; have n0_ := Aside0.mk (blk_below (g := gb479) (o := .cells #[.bool a0_0, .slice A0_1 l0_1.length c0_1, .slice A0_2 l0_2.length c0_2] 46 (0, 0)) (by (with_reducible repeat (fail)); exact BK479.out) hb); have n1_ := Aside0.mk (blk_below (g := gb480) (o := .cells #[.bool a1_0, .slice A1_1 l1_1.length c1_1, .slice A1_2 l1_2.length c1_2] 46 (0, 0)) (by (with_reducible repeat (fail)); exact BK480.out) hb); have n2_ := Aside0.mk (below_step (by repeat ((with_reducible exact HB.out))) hb); have n3_ := Aside0.mk (hbox); have n4_ := Aside0.mk ((by rw [hg]; exact (below_size (by repeat ((with_reducible exact HB.out)))) : w.heap.size ≤ gb481)); have n5_ := Aside0.mk ((by rw [hg]; exact (below_size (by repeat ((with_reducible exact HB.out)))) : w.heap.size ≤ gb481)); have n6_ := Aside0.mk ((by rw [hg]; exact Nat.ne_of_lt (blk_lt (g := gb479) (o := .cells #[.bool a0_0, .slice A0_1 l0_1.length c0_1, .slice A0_2 l0_2.length c0_2] 46 (0, 0)) (by (with_reducible repeat (fail)); exact BK479.out)) : gb479 ≠ gb481)); have n7_ := Aside0.mk ((by rw [hg]; exact Nat.ne_of_gt (blk_lt (g := gb479) (o := .cells #[.bool a0_0, .slice A0_1 l0_1.length c0_1, .slice A0_2 l0_2.length c0_2] 46 (0, 0)) (by (with_reducible repeat (fail)); exact BK479.out)) : gb481 ≠ gb479)); have n8_ := Aside0.mk ((by rw [hg]; exact Nat.ne_of_lt (blk_lt (g := gb480) (o := .cells #[.bool a1_0, .slice A1_1 l1_1.length c1_1, .slice A1_2 l1_2.length c1_2] 46 (0, 0)) (by (with_reducible repeat (fail)); exact BK480.out)) : gb480 ≠ gb481)); have n9_ := Aside0.mk ((by rw [hg]; exact Nat.ne_of_gt (blk_lt (g := gb480) (o := .cells #[.bool a1_0, .slice A1_1 l1_1.length c1_1, .slice A1_2 l1_2.length c1_2] 46 (0, 0)) (by (with_reducible repeat (fail)); exact BK480.out)) : gb481 ≠ gb480)); clear BK479; clear BK480; clear HB; have BK479 := n0_; have BK480 := n1_; have HB := n2_; have BK481 := n3_; have GW481 := n4_; have GE481 := n5_; have NB479_481 := n6_; have NB481_479 := n7_; have NB480_481 := n8_; have NB481_480 := n9_; clear n0_ n1_ n2_ n3_ n4_ n5_ n6_ n7_ n8_ n9_; clear hb hbox hg; have hnb14 := NB479_480.out; have hnc14 := NB480_479.out; have hnb15 := NB479_481.out; have hnc15 := NB481_479.out; have hcz16_0 : w13.cell? ⟨gb479, 0, none⟩ = some (.bool a0_0) := (blk_cell BK479.out 0).trans rfl; have hcz16_1 : w13.cell? ⟨gb479, 1, none⟩ = some (.slice A0_1 l0_1.length c0_1) := (blk_cell BK479.out 1).trans rfl; have hcz16_2 : w13.cell? ⟨gb479, 2, none⟩ = some (.slice A0_2 l0_2.length c0_2) := (blk_cell BK479.out 2).trans rfl; have hfz16_0 := blk_frozen BK479.out 0; have hfz16_1 := blk_frozen BK479.out 1; have hfz16_2 := blk_frozen BK479.out 2) | ((with_reducible refine gate_callee (f := 67) rfl ?_); refine goesL_ (some 9) rfl rfl Try.func67 (by kernel_rfl) rfl #[.agg #[.bool a0_0, .slice A0_1 l0_1.length c0_1, .slice A0_2 l0_2.length c0_2]] rfl (by (try simp only [List.map_toArray, List.map_cons, List.map_nil]); rfl) ?_; (with_reducible refine (codewrightref02_Trim.calls k a0_0 _ _ l0_1 _ _ l0_2 t482 t483 t486 _ ?side1 ?side2 ?side3 ?side4 A3.out).mono ?_); (case side1 => repeat (exact (Kd.C_below HR0_1.out HB.out))); (case side2 => exact HC0_1.out); (case side3 => repeat (exact (Kd.C_below HR0_2.out HB.out))); (case side4 => exact HC0_2.out); rintro e w17 ⟨v484, v487, rfl, ho0, ho1, hb⟩; refine ⟨_, rfl, ?_⟩; have n0_ := Aside0.mk (Kd.R_lower ho0 (below_size (by repeat ((with_reducible exact HB.out))))); have n1_ := Aside0.mk (Kd.R_lower ho1 (below_size (by repeat ((with_reducible exact HB.out))))); have n2_ := Aside0.mk (blk_below (g := gb479) (o := .cells #[.bool a0_0, .slice A0_1 l0_1.length c0_1, .slice A0_2 l0_2.length c0_2] 46 (0, 0)) (by (with_reducible repeat (fail)); exact BK479.out) hb); have n3_ := Aside0.mk (blk_below (g := gb480) (o := .cells #[.bool a1_0, .slice A1_1 l1_1.length c1_1, .slice A1_2 l1_2.length c1_2] 46 (0, 0)) (by (with_reducible repeat (fail)); exact BK480.out) hb); have n4_ := Aside0.mk (blk_below (g := gb481) (o := .cells #[.bool false, .slice none 0 0, .slice none 0 0] 46 (0, 0)) (by (with_reducible repeat (fail)); exact BK481.out) hb); have n5_ := Aside0.mk (below_step (by repeat ((with_reducible exact HB.out))) hb); clear BK479; clear BK480; clear BK481; clear HB; have HO485 := n0_; have HO488 := n1_; have BK479 := n2_; have BK480 := n3_; have BK481 := n4_; have HB := n5_; clear n0_ n1_ n2_ n3_ n4_ n5_; (try clear hb); (try clear ho0); (try clear ho1); have hcz18_0 : w17.cell? ⟨gb479, 0, none⟩ = some (.bool a0_0) := (blk_cell BK479.out 0).trans rfl; have hcz18_1 : w17.cell? ⟨gb479, 1, none⟩ = some (.slice A0_1 l0_1.length c0_1) := (blk_cell BK479.out 1).trans rfl; have hcz18_2 : w17.cell? ⟨gb479, 2, none⟩ = some (.slice A0_2 l0_2.length c0_2) := (blk_cell BK479.out 2).trans rfl; have hfz18_0 := blk_frozen BK479.out 0; have hfz18_1 := blk_frozen BK479.out 1; have hfz18_2 := blk_frozen BK479.out 2; obtain ⟨Ao19, co19, eo19⟩ := Kd.R_slice HO485.out; subst eo19; obtain ⟨Ao20, co20, eo20⟩ := Kd.R_slice HO488.out; subst eo20; have hnb21 := NB480_481.out; have hnc21 := NB481_480.out; have hcz22_0 : w17.cell? ⟨gb480, 0, none⟩ = some (.bool a1_0) := (blk_cell BK480.out 0).trans rfl; have hcz22_1 : w17.cell? ⟨gb480, 1, none⟩ = some (.slice A1_1 l1_1.length c1_1) := (blk_cell BK480.out 1).trans rfl; have hcz22_2 : w17.cell? ⟨gb480, 2, none⟩ = some (.slice A1_2 l1_2.length c1_2) := (blk_cell BK480.out 2).trans rfl; have hfz22_0 := blk_frozen BK480.out 0; have hfz22_1 := blk_frozen BK480.out 1; have hfz22_2 := blk_frozen BK480.out 2) | ((with_reducible refine gate_callee (f := 67) rfl ?_); refine goesL_ (some 11) rfl rfl Try.func67 (by kernel_rfl) rfl #[.agg #[.bool a1_0, .slice A1_1 l1_1.length c1_1, .slice A1_2 l1_2.length c1_2]] rfl (by (try simp only [List.map_toArray, List.map_cons, List.map_nil]); rfl) ?_; (with_reducible refine (codewrightref02_Trim.calls k a1_0 _ _ l1_1 _ _ l1_2 t489 t490 t493 _ ?side1 ?side2 ?side3 ?side4 A4.out).mono ?_); (case side1 => exact Kd.C_below HR1_1.out (by repeat ((with_reducible first | exact HB.out | refine below_set ?_ GE479.out)))); (case side2 => exact HC1_1.out); (case side3 => exact Kd.C_below HR1_2.out (by repeat ((with_reducible first | exact HB.out | refine below_set ?_ GE479.out)))); (case side4 => exact HC1_2.out); rintro e w23 ⟨v491, v494, rfl, ho0, ho1, hb⟩; refine ⟨_, rfl, ?_⟩; have n0_ := Aside0.mk (Kd.R_mono (Kd.R_told (Kd.R_told (Kd.R_old (by (with_reducible repeat (fail)); exact (Kd.R_mono (Kd.R_far (p := ⟨gb479, 2, none⟩) (Kd.R_far (p := ⟨gb479, 1, none⟩) (Kd.R_far (p := ⟨gb479, 0, none⟩) (Kd.R_types HO485.out BK479.out (by decide)) (fun _ hk => hk.2) (.bool t482)) (fun _ hk => hk.2) (.slice Ao19 t483.length co19)) (fun _ hk => hk.2) (.slice Ao20 t486.length co20)) (fun _ h_ => h_.1))) hb) (Kd.R_base ho0)) (Kd.R_base ho1)) (fun _ h_ => h_.1)); have n1_ := Aside0.mk (Kd.R_mono (Kd.R_told (Kd.R_told (Kd.R_old (by (with_reducible repeat (fail)); exact (Kd.R_mono (Kd.R_far (p := ⟨gb479, 2, none⟩) (Kd.R_far (p := ⟨gb479, 1, none⟩) (Kd.R_far (p := ⟨gb479, 0, none⟩) (Kd.R_types HO488.out BK479.out (by decide)) (fun _ hk => hk.2) (.bool t482)) (fun _ hk => hk.2) (.slice Ao19 t483.length co19)) (fun _ hk => hk.2) (.slice Ao20 t486.length co20)) (fun _ h_ => h_.1))) hb) (Kd.R_base ho0)) (Kd.R_base ho1)) (fun _ h_ => h_.1)); have n2_ := Aside0.mk (Kd.R_lower (Kd.R_new' (Kd.R_new' ho0 (Kd.R_lt (by (with_reducible repeat (fail)); exact (Kd.R_mono (Kd.R_far (p := ⟨gb479, 2, none⟩) (Kd.R_far (p := ⟨gb479, 1, none⟩) (Kd.R_far (p := ⟨gb479, 0, none⟩) (Kd.R_types HO485.out BK479.out (by decide)) (fun _ hk => hk.2) (.bool t482)) (fun _ hk => hk.2) (.slice Ao19 t483.length co19)) (fun _ hk => hk.2) (.slice Ao20 t486.length co20)) (fun _ h_ => h_.1))))) (Kd.R_lt (by (with_reducible repeat (fail)); exact (Kd.R_mono (Kd.R_far (p := ⟨gb479, 2, none⟩) (Kd.R_far (p := ⟨gb479, 1, none⟩) (Kd.R_far (p := ⟨gb479, 0, none⟩) (Kd.R_types HO488.out BK479.out (by decide)) (fun _ hk => hk.2) (.bool t482)) (fun _ hk => hk.2) (.slice Ao19 t483.length co19)) (fun _ hk => hk.2) (.slice Ao20 t486.length co20)) (fun _ h_ => h_.1))))) (below_size (by repeat ((with_reducible first | exact HB.out | refine below_set ?_ GE479.out))))); have n3_ := Aside0.mk (Kd.R_lower (Kd.R_new' (Kd.R_new' ho1 (Kd.R_lt (by (with_reducible repeat (fail)); exact (Kd.R_mono (Kd.R_far (p := ⟨gb479, 2, none⟩) (Kd.R_far (p := ⟨gb479, 1, none⟩) (Kd.R_far (p := ⟨gb479, 0, none⟩) (Kd.R_types HO485.out BK479.out (by decide)) (fun _ hk => hk.2) (.bool t482)) (fun _ hk => hk.2) (.slice Ao19 t483.length co19)) (fun _ hk => hk.2) (.slice Ao20 t486.length co20)) (fun _ h_ => h_.1))))) (Kd.R_lt (by (with_reducible repeat (fail)); exact (Kd.R_mono (Kd.R_far (p := ⟨gb479, 2, none⟩) (Kd.R_far (p := ⟨gb479, 1, none⟩) (Kd.R_far (p := ⟨gb479, 0, none⟩) (Kd.R_types HO488.out BK479.out (by decide)) (fun _ hk => hk.2) (.bool t482)) (fun _ hk => hk.2) (.slice Ao19 t483.length co19)) (fun _ hk => hk.2) (.slice Ao20 t486.length co20)) (fun _ h_ => h_.1))))) (below_size (by repeat ((with_reducible first | exact HB.out | refine below_set ?_ GE479.out))))); have n4_ := Aside0.mk (blk_below (g := gb479) (o := .cells #[.bool t482, .slice Ao19 t483.length co19, .slice Ao20 t486.length co20] 46 (0, 0)) (by (with_reducible repeat (fail)); refine blk_put (cs := #[.bool t482, .slice Ao19 t483.length co19, .slice A0_2 l0_2.length c0_2]) ?_ 2 _ rfl; (with_reducible repeat (fail)); refine blk_put (cs := #[.bool t482, .slice A0_1 l0_1.length c0_1, .slice A0_2 l0_2.length c0_2]) ?_ 1 _ rfl; (with_reducible repeat (fail)); refine blk_put (cs := #[.bool a0_0, .slice A0_1 l0_1.length c0_1, .slice A0_2 l0_2.length c0_2]) ?_ 0 _ rfl; (with_reducible repeat (fail)); exact BK479.out) hb); have n5_ := Aside0.mk (blk_below (g := gb480) (o := .cells #[.bool a1_0, .slice A1_1 l1_1.length c1_1, .slice A1_2 l1_2.length c1_2] 46 (0, 0)) (by (with_reducible repeat (fail)); refine blk_far ?_ NB480_479.out _; (with_reducible repeat (fail)); refine blk_far ?_ NB480_479.out _; (with_reducible repeat (fail)); refine blk_far ?_ NB480_479.out _; (with_reducible repeat (fail)); exact BK480.out) hb); have n6_ := Aside0.mk (blk_below (g := gb481) (o := .cells #[.bool false, .slice none 0 0, .slice none 0 0] 46 (0, 0)) (by (with_reducible repeat (fail)); refine blk_far ?_ NB481_479.out _; (with_reducible repeat (fail)); refine blk_far ?_ NB481_479.out _; (with_reducible repeat (fail)); refine blk_far ?_ NB481_479.out _; (with_reducible repeat (fail)); exact BK481.out) hb); have n7_ := Aside0.mk (below_step (by repeat ((with_reducible first | exact HB.out | refine below_set ?_ GE479.out))) hb); clear HO485; clear HO488; clear BK479; clear BK480; clear BK481; clear HB; have HO485 := n0_; have HO488 := n1_; have HO492 := n2_; have HO495 := n3_; have BK479 := n4_; have BK480 := n5_; have BK481 := n6_; have HB := n7_; clear n0_ n1_ n2_ n3_ n4_ n5_ n6_ n7_; (try clear hb); (try clear ho0); (try clear ho1); have hcz24_0 : w23.cell? ⟨gb480, 0, none⟩ = some (.bool a1_0) := (blk_cell BK480.out 0).trans rfl; have hcz24_1 : w23.cell? ⟨gb480, 1, none⟩ = some (.slice A1_1 l1_1.length c1_1) := (blk_cell BK480.out 1).trans rfl; have hcz24_2 : w23.cell? ⟨gb480, 2, none⟩ = some (.slice A1_2 l1_2.length c1_2) := (blk_cell BK480.out 2).trans rfl; have hfz24_0 := blk_frozen BK480.out 0; have hfz24_1 := blk_frozen BK480.out 1; have hfz24_2 := blk_frozen BK480.out 2; obtain ⟨Ao25, co25, eo25⟩ := Kd.R_slice HO492.out; subst eo25; obtain ⟨Ao26, co26, eo26⟩ := Kd.R_slice HO495.out; subst eo26; have hcz27_0 : w23.cell? ⟨gb479, 0, none⟩ = some (.bool t482) := (blk_cell BK479.out 0).trans rfl; have hcz27_1 : w23.cell? ⟨gb479, 1, none⟩ = some (.slice Ao19 t483.length co19) := (blk_cell BK479.out 1).trans rfl; have hcz27_2 : w23.cell? ⟨gb479, 2, none⟩ = some (.slice Ao20 t486.length co20) := (blk_cell BK479.out 2).trans rfl; have hfz27_0 := blk_frozen BK479.out 0; have hfz27_1 := blk_frozen BK479.out 1; have hfz27_2 := blk_frozen BK479.out 2) | ((with_reducible refine gate_callee (f := 68) rfl ?_); refine goesL_ (some 16) rfl rfl Try.func68 (by kernel_rfl) rfl #[.slice Ao19 t483.length co19, .slice Ao26 t493.length co26] rfl (by (try simp only [List.map_toArray, List.map_cons, List.map_nil]); rfl) ?_; (with_reducible refine (codewrightref01_Mul.calls k _ _ t483 _ _ t493 t496 _ ?side1 ?side2 ?side3 ?side4 A5.out).mono ?_); (case side1 => refine (Kd.R_reads' (e := 100) (base := w.heap.size) (ok := fun k_ => ((some k_ ≠ (.slice Ao20 t486.length co20 : Value).ownBlock ∧ some k_ ≠ (.slice Ao25 t490.length co25 : Value).ownBlock) ∧ some k_ ≠ (.slice Ao26 t493.length co26 : Value).ownBlock)) (n := t483.length) (c := co19) ?_).2.2; exact (by (with_reducible repeat (fail)); exact (Kd.R_mono (Kd.R_far (p := ⟨gb480, 2, none⟩) (Kd.R_far (p := ⟨gb480, 1, none⟩) (Kd.R_far (p := ⟨gb480, 0, none⟩) (Kd.R_types HO485.out BK480.out (by decide)) (fun _ hk => hk.2) (.bool t489)) (fun _ hk => hk.2) (.slice Ao25 t490.length co25)) (fun _ hk => hk.2) (.slice Ao26 t493.length co26)) (fun _ h_ => h_.1)))); (case side2 => exact (Kd.R_reads' HO485.out).2.1); (case side3 => refine (Kd.R_reads' (e := 100) (base := w.heap.size) (ok := fun k_ => ((some k_ ≠ (.slice Ao25 t490.length co25 : Value).ownBlock ∧ some k_ ≠ (.slice Ao19 t483.length co19 : Value).ownBlock) ∧ some k_ ≠ (.slice Ao20 t486.length co20 : Value).ownBlock)) (n := t493.length) (c := co26) ?_).2.2; exact (by (with_reducible repeat (fail)); exact (Kd.R_mono (Kd.R_far (p := ⟨gb480, 2, none⟩) (Kd.R_far (p := ⟨gb480, 1, none⟩) (Kd.R_far (p := ⟨gb480, 0, none⟩) (Kd.R_types HO495.out BK480.out (by decide)) (fun _ hk => hk.2) (.bool t489)) (fun _ hk => hk.2) (.slice Ao25 t490.length co25)) (fun _ hk => hk.2) (.slice Ao26 t493.length co26)) (fun _ h_ => h_.1)))); (case side4 => exact (Kd.R_reads' HO495.out).2.1); rintro e w28 ⟨v497, rfl, ho0, hb⟩; refine ⟨_, rfl, ?_⟩; have n0_ := Aside0.mk (Kd.R_elder' (by (with_reducible repeat (fail)); exact (Kd.R_mono (Kd.R_far (p := ⟨gb480, 2, none⟩) (Kd.R_far (p := ⟨gb480, 1, none⟩) (Kd.R_far (p := ⟨gb480, 0, none⟩) (Kd.R_types HO485.out BK480.out (by decide)) (fun _ hk => hk.2) (.bool t489)) (fun _ hk => hk.2) (.slice Ao25 t490.length co25)) (fun _ hk => hk.2) (.slice Ao26 t493.length co26)) (fun _ h_ => h_.1))) (Kd.R_base ho0) hb); have n1_ := Aside0.mk (Kd.R_elder' (by (with_reducible repeat (fail)); exact (Kd.R_mono (Kd.R_far (p := ⟨gb480, 2, none⟩) (Kd.R_far (p := ⟨gb480, 1, none⟩) (Kd.R_far (p := ⟨gb480, 0, none⟩) (Kd.R_types HO488.out BK480.out (by decide)) (fun _ hk => hk.2) (.bool t489)) (fun _ hk => hk.2) (.slice Ao25 t490.length co25)) (fun _ hk => hk.2) (.slice Ao26 t493.length co26)) (fun _ h_ => h_.1))) (Kd.R_base ho0) hb); have n2_ := Aside0.mk (Kd.R_elder' (by (with_reducible repeat (fail)); exact (Kd.R_mono (Kd.R_far (p := ⟨gb480, 2, none⟩) (Kd.R_far (p := ⟨gb480, 1, none⟩) (Kd.R_far (p := ⟨gb480, 0, none⟩) (Kd.R_types HO492.out BK480.out (by decide)) (fun _ hk => hk.2) (.bool t489)) (fun _ hk => hk.2) (.slice Ao25 t490.length co25)) (fun _ hk => hk.2) (.slice Ao26 t493.length co26)) (fun _ h_ => h_.1))) (Kd.R_base ho0) hb); have n3_ := Aside0.mk (Kd.R_elder' (by (with_reducible repeat (fail)); exact (Kd.R_mono (Kd.R_far (p := ⟨gb480, 2, none⟩) (Kd.R_far (p := ⟨gb480, 1, none⟩) (Kd.R_far (p := ⟨gb480, 0, none⟩) (Kd.R_types HO495.out BK480.out (by decide)) (fun _ hk => hk.2) (.bool t489)) (fun _ hk => hk.2) (.slice Ao25 t490.length co25)) (fun _ hk => hk.2) (.slice Ao26 t493.length co26)) (fun _ h_ => h_.1))) (Kd.R_base ho0) hb); have n4_ := Aside0.mk (Kd.R_lower (Kd.R_new' (Kd.R_new' (Kd.R_new' (Kd.R_new' ho0 (Kd.R_lt (by (with_reducible repeat (fail)); exact (Kd.R_mono (Kd.R_far (p := ⟨gb480, 2, none⟩) (Kd.R_far (p := ⟨gb480, 1, none⟩) (Kd.R_far (p := ⟨gb480, 0, none⟩) (Kd.R_types HO485.out BK480.out (by decide)) (fun _ hk => hk.2) (.bool t489)) (fun _ hk => hk.2) (.slice Ao25 t490.length co25)) (fun _ hk => hk.2) (.slice Ao26 t493.length co26)) (fun _ h_ => h_.1))))) (Kd.R_lt (by (with_reducible repeat (fail)); exact (Kd.R_mono (Kd.R_far (p := ⟨gb480, 2, none⟩) (Kd.R_far (p := ⟨gb480, 1, none⟩) (Kd.R_far (p := ⟨gb480, 0, none⟩) (Kd.R_types HO488.out BK480.out (by decide)) (fun _ hk => hk.2) (.bool t489)) (fun _ hk => hk.2) (.slice Ao25 t490.length co25)) (fun _ hk => hk.2) (.slice Ao26 t493.length co26)) (fun _ h_ => h_.1))))) (Kd.R_lt (by (with_reducible repeat (fail)); exact (Kd.R_mono (Kd.R_far (p := ⟨gb480, 2, none⟩) (Kd.R_far (p := ⟨gb480, 1, none⟩) (Kd.R_far (p := ⟨gb480, 0, none⟩) (Kd.R_types HO492.out BK480.out (by decide)) (fun _ hk => hk.2) (.bool t489)) (fun _ hk => hk.2) (.slice Ao25 t490.length co25)) (fun _ hk => hk.2) (.slice Ao26 t493.length co26)) (fun _ h_ => h_.1))))) (Kd.R_lt (by (with_reducible repeat (fail)); exact (Kd.R_mono (Kd.R_far (p := ⟨gb480, 2, none⟩) (Kd.R_far (p := ⟨gb480, 1, none⟩) (Kd.R_far (p := ⟨gb480, 0, none⟩) (Kd.R_types HO495.out BK480.out (by decide)) (fun _ hk => hk.2) (.bool t489)) (fun _ hk => hk.2) (.slice Ao25 t490.length co25)) (fun _ hk => hk.2) (.slice Ao26 t493.length co26)) (fun _ h_ => h_.1))))) (below_size (by repeat ((with_reducible first | exact HB.out | refine below_set ?_ GE480.out))))); have n5_ := Aside0.mk (blk_below (g := gb479) (o := .cells #[.bool t482, .slice Ao19 t483.length co19, .slice Ao20 t486.length co20] 46 (0, 0)) (by (with_reducible repeat (fail)); refine blk_far ?_ NB479_480.out _; (with_reducible repeat (fail)); refine blk_far ?_ NB479_480.out _; (with_reducible repeat (fail)); refine blk_far ?_ NB479_480.out _; (with_reducible repeat (fail)); exact BK479.out) hb); have n6_ := Aside0.mk (blk_below (g := gb480) (o := .cells #[.bool t489, .slice Ao25 t490.length co25, .slice Ao26 t493.length co26] 46 (0, 0)) (by (with_reducible repeat (fail)); refine blk_put (cs := #[.bool t489, .slice Ao25 t490.length co25, .slice A1_2 l1_2.length c1_2]) ?_ 2 _ rfl; (with_reducible repeat (fail)); refine blk_put (cs := #[.bool t489, .slice A1_1 l1_1.length c1_1, .slice A1_2 l1_2.length c1_2]) ?_ 1 _ rfl; (with_reducible repeat (fail)); refine blk_put (cs := #[.bool a1_0, .slice A1_1 l1_1.length c1_1, .slice A1_2 l1_2.length c1_2]) ?_ 0 _ rfl; (with_reducible repeat (fail)); exact BK480.out) hb); have n7_ := Aside0.mk (blk_below (g := gb481) (o := .cells #[.bool false, .slice none 0 0, .slice none 0 0] 46 (0, 0)) (by (with_reducible repeat (fail)); refine blk_far ?_ NB481_480.out _; (with_reducible repeat (fail)); refine blk_far ?_ NB481_480.out _; (with_reducible repeat (fail)); refine blk_far ?_ NB481_480.out _; (with_reducible repeat (fail)); exact BK481.out) hb); have n8_ := Aside0.mk (below_step (by repeat ((with_reducible first | exact HB.out | refine below_set ?_ GE480.out))) hb); clear HO485; clear HO488; clear HO492; clear HO495; clear BK479; clear BK480; clear BK481; clear HB; have HO485 := n0_; have HO488 := n1_; have HO492 := n2_; have HO495 := n3_; have HO498 := n4_; have BK479 := n5_; have BK480 := n6_; have BK481 := n7_; have HB := n8_; clear n0_ n1_ n2_ n3_ n4_ n5_ n6_ n7_ n8_; (try clear hb); (try clear ho0); have hcz29_0 : w28.cell? ⟨gb480, 0, none⟩ = some (.bool t489) := (blk_cell BK480.out 0).trans rfl; have hcz29_1 : w28.cell? ⟨gb480, 1, none⟩ = some (.slice Ao25 t490.length co25) := (blk_cell BK480.out 1).trans rfl; have hcz29_2 : w28.cell? ⟨gb480, 2, none⟩ = some (.slice Ao26 t493.length co26) := (blk_cell BK480.out 2).trans rfl; have hfz29_0 := blk_frozen BK480.out 0; have hfz29_1 := blk_frozen BK480.out 1; have hfz29_2 := blk_frozen BK480.out 2; have hcz30_0 : w28.cell? ⟨gb479, 0, none⟩ = some (.bool t482) := (blk_cell BK479.out 0).trans rfl; have hcz30_1 : w28.cell? ⟨gb479, 1, none⟩ = some (.slice Ao19 t483.length co19) := (blk_cell BK479.out 1).trans rfl; have hcz30_2 : w28.cell? ⟨gb479, 2, none⟩ = some (.slice Ao20 t486.length co20) := (blk_cell BK479.out 2).trans rfl; have hfz30_0 := blk_frozen BK479.out 0; have hfz30_1 := blk_frozen BK479.out 1; have hfz30_2 := blk_frozen BK479.out 2) | ((with_reducible refine gate_callee (f := 68) rfl ?_); refine goesL_ (some 21) rfl rfl Try.func68 (by kernel_rfl) rfl #[.slice Ao25 t490.length co25, .slice Ao20 t486.length co20] rfl (by (try simp only [List.map_toArray, List.map_cons, List.map_nil]); rfl) ?_; (with_reducible refine (codewrightref01_Mul.calls k _ _ t490 _ _ t486 t499 _ ?side1 ?side2 ?side3 ?side4 A6.out).mono ?_); (case side1 => exact (Kd.R_reads' HO492.out).2.2); (case side2 => exact (Kd.R_reads' HO492.out).2.1); (case side3 => exact (Kd.R_reads' HO488.out).2.2); (case side4 => exact (Kd.R_reads' HO488.out).2.1); rintro e w31 ⟨v500, rfl, ho0, hb⟩; refine ⟨_, rfl, ?_⟩; have n0_ := Aside0.mk (Kd.R_elder' (by (with_reducible repeat (fail)); exact HO485.out) (Kd.R_base ho0) hb); have n1_ := Aside0.mk (Kd.R_elder' (by (with_reducible repeat (fail)); exact HO488.out) (Kd.R_base ho0) hb); have n2_ := Aside0.mk (Kd.R_elder' (by (with_reducible repeat (fail)); exact HO492.out) (Kd.R_base ho0) hb); have n3_ := Aside0.mk (Kd.R_elder' (by (with_reducible repeat (fail)); exact HO495.out) (Kd.R_base ho0) hb); have n4_ := Aside0.mk (Kd.R_elder' (by (with_reducible repeat (fail)); exact HO498.out) (Kd.R_base ho0) hb); have n5_ := Aside0.mk (Kd.R_lower (Kd.R_new' (Kd.R_new' (Kd.R_new' (Kd.R_new' (Kd.R_new' ho0 (Kd.R_lt (by (with_reducible repeat (fail)); exact HO485.out))) (Kd.R_lt (by (with_reducible repeat (fail)); exact HO488.out))) (Kd.R_lt (by (with_reducible repeat (fail)); exact HO492.out))) (Kd.R_lt (by (with_reducible repeat (fail)); exact HO495.out))) (Kd.R_lt (by (with_reducible repeat (fail)); exact HO498.out))) (below_size (by repeat ((with_reducible exact HB.out))))); have n6_ := Aside0.mk (blk_below (g := gb479) (o := .cells #[.bool t482, .slice Ao19 t483.length co19, .slice Ao20 t486.length co20] 46 (0, 0)) (by (with_reducible repeat (fail)); exact BK479.out) hb); have n7_ := Aside0.mk (blk_below (g := gb480) (o := .cells #[.bool t489, .slice Ao25 t490.length co25, .slice Ao26 t493.length co26] 46 (0, 0)) (by (with_reducible repeat (fail)); exact BK480.out) hb); have n8_ := Aside0.mk (blk_below (g := gb481) (o := .cells #[.bool false, .slice none 0 0, .slice none 0 0] 46 (0, 0)) (by (with_reducible repeat (fail)); exact BK481.out) hb); have n9_ := Aside0.mk (below_step (by repeat ((with_reducible exact HB.out))) hb); clear HO485; clear HO488; clear HO492; clear HO495; clear HO498; clear BK479; clear BK480; clear BK481; clear HB; have HO485 := n0_; have HO488 := n1_; have HO492 := n2_; have HO495 := n3_; have HO498 := n4_; have HO501 := n5_; have BK479 := n6_; have BK480 := n7_; have BK481 := n8_; have HB := n9_; clear n0_ n1_ n2_ n3_ n4_ n5_ n6_ n7_ n8_ n9_; (try clear hb); (try clear ho0); have hcz32_0 : w31.cell? ⟨gb479, 0, none⟩ = some (.bool t482) := (blk_cell BK479.out 0).trans rfl; have hcz32_1 : w31.cell? ⟨gb479, 1, none⟩ = some (.slice Ao19 t483.length co19) := (blk_cell BK479.out 1).trans rfl; have hcz32_2 : w31.cell? ⟨gb479, 2, none⟩ = some (.slice Ao20 t486.length co20) := (blk_cell BK479.out 2).trans rfl; have hfz32_0 := blk_frozen BK479.out 0; have hfz32_1 := blk_frozen BK479.out 1; have hfz32_2 := blk_frozen BK479.out 2; have hcz33_0 : w31.cell? ⟨gb480, 0, none⟩ = some (.bool t489) := (blk_cell BK480.out 0).trans rfl; have hcz33_1 : w31.cell? ⟨gb480, 1, none⟩ = some (.slice Ao25 t490.length co25) := (blk_cell BK480.out 1).trans rfl; have hcz33_2 : w31.cell? ⟨gb480, 2, none⟩ = some (.slice Ao26 t493.length co26) := (blk_cell BK480.out 2).trans rfl; have hfz33_0 := blk_frozen BK480.out 0; have hfz33_1 := blk_frozen BK480.out 1; have hfz33_2 := blk_frozen BK480.out 2) | ((with_reducible refine gate_callee (f := 68) rfl ?_); refine goesL_ (some 26) rfl rfl Try.func68 (by kernel_rfl) rfl #[.slice Ao20 t486.length co20, .slice Ao26 t493.length co26] rfl (by (try simp only [List.map_toArray, List.map_cons, List.map_nil]); rfl) ?_; (with_reducible refine (codewrightref01_Mul.calls k _ _ t486 _ _ t493 t502 _ ?side1 ?side2 ?side3 ?side4 A7.out).mono ?_); (case side1 => exact (Kd.R_reads' HO488.out).2.2); (case side2 => exact (Kd.R_reads' HO488.out).2.1); (case side3 => exact (Kd.R_reads' HO495.out).2.2); (case side4 => exact (Kd.R_reads' HO495.out).2.1); rintro e w34 ⟨v503, rfl, ho0, hb⟩; refine ⟨_, rfl, ?_⟩; have n0_ := Aside0.mk (Kd.R_elder' (by (with_reducible repeat (fail)); exact HO485.out) (Kd.R_base ho0) hb); have n1_ := Aside0.mk (Kd.R_elder' (by (with_reducible repeat (fail)); exact HO488.out) (Kd.R_base ho0) hb); have n2_ := Aside0.mk (Kd.R_elder' (by (with_reducible repeat (fail)); exact HO492.out) (Kd.R_base ho0) hb); have n3_ := Aside0.mk (Kd.R_elder' (by (with_reducible repeat (fail)); exact HO495.out) (Kd.R_base ho0) hb); have n4_ := Aside0.mk (Kd.R_elder' (by (with_reducible repeat (fail)); exact HO498.out) (Kd.R_base ho0) hb); have n5_ := Aside0.mk (Kd.R_elder' (by (with_reducible repeat (fail)); exact HO501.out) (Kd.R_base ho0) hb); have n6_ := Aside0.mk (Kd.R_lower (Kd.R_new' (Kd.R_new' (Kd.R_new' (Kd.R_new' (Kd.R_new' (Kd.R_new' ho0 (Kd.R_lt (by (with_reducible repeat (fail)); exact HO485.out))) (Kd.R_lt (by (with_reducible repeat (fail)); exact HO488.out))) (Kd.R_lt (by (with_reducible repeat (fail)); exact HO492.out))) (Kd.R_lt (by (with_reducible repeat (fail)); exact HO495.out))) (Kd.R_lt (by (with_reducible repeat (fail)); exact HO498.out))) (Kd.R_lt (by (with_reducible repeat (fail)); exact HO501.out))) (below_size (by repeat ((with_reducible exact HB.out))))); have n7_ := Aside0.mk (blk_below (g := gb479) (o := .cells #[.bool t482, .slice Ao19 t483.length co19, .slice Ao20 t486.length co20] 46 (0, 0)) (by (with_reducible repeat (fail)); exact BK479.out) hb); have n8_ := Aside0.mk (blk_below (g := gb480) (o := .cells #[.bool t489, .slice Ao25 t490.length co25, .slice Ao26 t493.length co26] 46 (0, 0)) (by (with_reducible repeat (fail)); exact BK480.out) hb); have n9_ := Aside0.mk (blk_below (g := gb481) (o := .cells #[.bool false, .slice none 0 0, .slice none 0 0] 46 (0, 0)) (by (with_reducible repeat (fail)); exact BK481.out) hb); have n10_ := Aside0.mk (below_step (by repeat ((with_reducible exact HB.out))) hb); clear HO485; clear HO488; clear HO492; clear HO495; clear HO498; clear HO501; clear BK479; clear BK480; clear BK481; clear HB; have HO485 := n0_; have HO488 := n1_; have HO492 := n2_; have HO495 := n3_; have HO498 := n4_; have HO501 := n5_; have HO504 := n6_; have BK479 := n7_; have BK480 := n8_; have BK481 := n9_; have HB := n10_; clear n0_ n1_ n2_ n3_ n4_ n5_ n6_ n7_ n8_ n9_ n10_; (try clear hb); (try clear ho0); have hcz35_0 : w34.cell? ⟨gb479, 0, none⟩ = some (.bool t482) := (blk_cell BK479.out 0).trans rfl; have hcz35_1 : w34.cell? ⟨gb479, 1, none⟩ = some (.slice Ao19 t483.length co19) := (blk_cell BK479.out 1).trans rfl; have hcz35_2 : w34.cell? ⟨gb479, 2, none⟩ = some (.slice Ao20 t486.length co20) := (blk_cell BK479.out 2).trans rfl; have hfz35_0 := blk_frozen BK479.out 0; have hfz35_1 := blk_frozen BK479.out 1; have hfz35_2 := blk_frozen BK479.out 2; have hcz36_0 : w34.cell? ⟨gb480, 0, none⟩ = some (.bool t489) := (blk_cell BK480.out 0).trans rfl; have hcz36_1 : w34.cell? ⟨gb480, 1, none⟩ = some (.slice Ao25 t490.length co25) := (blk_cell BK480.out 1).trans rfl; have hcz36_2 : w34.cell? ⟨gb480, 2, none⟩ = some (.slice Ao26 t493.length co26) := (blk_cell BK480.out 2).trans rfl; have hfz36_0 := blk_frozen BK480.out 0; have hfz36_1 := blk_frozen BK480.out 1; have hfz36_2 := blk_frozen BK480.out 2))
  have n0_ := Aside0.mk (Kd.R_drew HO485.out)
  have n1_ := Aside0.mk (Kd.R_drew HO488.out)
  have n2_ := Aside0.mk (Kd.R_drew HO492.out)
  have n3_ := Aside0.mk (Kd.R_drew HO495.out)
  have n4_ := Aside0.mk (Kd.R_drew HO498.out)
  have n5_ := Aside0.mk (Kd.R_drew HO501.out)
  have n6_ := Aside0.mk (Kd.R_drew HO504.out)
  have n7_ := Aside0.mk (blk_drew BK479.out)
  have n8_ := Aside0.mk (blk_drew BK480.out)
  have n9_ := Aside0.mk (blk_drew BK481.out)
  have n10_ := Aside0.mk (below_drew1 HB.out)
  clear HO485
  clear HO488
  clear HO492
  clear HO495
  clear HO498
  clear HO501
  clear HO504
  clear BK479
  clear BK480
  clear BK481
  clear HB
  have HO485 := n0_
  have HO488 := n1_
  have HO492 := n2_
  have HO495 := n3_
  have HO498 := n4_
  have HO501 := n5_
  have HO504 := n6_
  have BK479 := n7_
  have BK480 := n8_
  have BK481 := n9_
  have HB := n10_
  clear n0_ n1_ n2_ n3_ n4_ n5_ n6_ n7_ n8_ n9_ n10_
  obtain ⟨Ao38, co38, eo38⟩ := Kd.R_slice HO498.out
  (subst eo38)
  obtain ⟨Ao39, co39, eo39⟩ := Kd.R_slice HO501.out
  (subst eo39)
  refine start_ (n := 8) (S := fun w' => w'.cell? ⟨gb479, 0, none⟩ = some (.bool t482) ∧ w'.cell? ⟨gb479, 1, none⟩ = some (.slice Ao19 t483.length co19) ∧ w'.cell? ⟨gb479, 2, none⟩ = some (.slice Ao20 t486.length co20)) (ds := []) #[false, false, false, false, false, false, false, false] (by kernel_rfl) rfl rfl ⟨(blk_cell BK479.out 0).trans rfl, (blk_cell BK479.out 1).trans rfl, (blk_cell BK479.out 2).trans rfl⟩ (fun hHeld => ?_); refine with_tabW codewrightref02_Add.tab7 codewrightref02_Add.bits7 (fun HT_ HW_ => ?_)
  generalize w34.drew = w37 at HO485 HO488 HO492 HO495 HO498 HO501 HO504 BK479 BK480 BK481 HB hHeld ⊢
  refine pure_ (i := 0) (N := some 32) (v := ?_) (a' := ?_) #[true, false, false, false, false, false, false, false] rfl rfl (any_of HT_.out (by kernel_rfl)) (fun _ _ _ h => h) (Or.inl ⟨by rfl, ?_⟩) ?_ ?_
  rotate_left
  ·intro w'
   go_simp
   with_reducible rfl
  rotate_left
  ·simp only [Act.put, List.setIfInBounds_toArray, List.set_cons_zero, List.set_cons_succ, i64_w, i32_w]
   rfl
  refine pure_ (i := 2) (N := some 34) (v := ?_) (a' := ?_) #[true, false, true, false, false, false, false, false] rfl rfl (any_of HT_.out (by kernel_rfl)) (fun _ _ _ h => h) (Or.inl ⟨by rfl, ?_⟩) ?_ ?_
  rotate_left
  ·intro w'
   go_simp
   with_reducible rfl
  rotate_left
  ·simp only [Act.put, List.setIfInBounds_toArray, List.set_cons_zero, List.set_cons_succ, i64_w, i32_w]
   rfl
  refine pure_ (i := 3) (N := some 35) (v := ?_) (a' := ?_) #[true, false, true, true, false, false, false, false] rfl rfl (any_of HT_.out (by kernel_rfl)) (fun _ _ _ h => h) (Or.inl ⟨by rfl, ?_⟩) ?_ ?_
  rotate_left
  ·intro w'
   go_simp
   with_reducible rfl
  rotate_left
  ·simp only [Act.put, List.setIfInBounds_toArray, List.set_cons_zero, List.set_cons_succ, i64_w, i32_w]
   rfl
  refine pure_ (i := 5) (N := some 37) (v := ?_) (a' := ?_) #[true, false, true, true, false, true, false, false] rfl rfl (any_of HT_.out (by kernel_rfl)) (fun _ _ _ h => h) (Or.inl ⟨by rfl, ?_⟩) ?_ ?_
  rotate_left
  ·intro w'
   go_simp
   with_reducible rfl
  rotate_left
  ·simp only [Act.put, List.setIfInBounds_toArray, List.set_cons_zero, List.set_cons_succ, i64_w, i32_w]
   rfl
  refine take_ (i := 1) (N := some 33) (v := ?_) (a' := ?_) #[true, true, true, true, false, true, false, false] rfl rfl (take_ofW HT_.out HW_.out (by kernel_rfl)) (fun _ _ _ h => h) (Or.inl ⟨by rfl, ?_⟩) hHeld ?_ ?_
  rotate_left
  ·rintro w' ⟨s0, s1, s2⟩
   go_simp
   with_reducible rfl
  rotate_left
  ·simp only [Act.put, List.setIfInBounds_toArray, List.set_cons_zero, List.set_cons_succ, i64_w, i32_w]
   rfl
  refine one_ (i := 4) (N := some 36) #[true, true, true, true, true, true, false, false] rfl rfl (one_of HT_.out (by kernel_rfl)) (by decide) (fun K hK => ?_)
  refine goes_ Try.func70 (by kernel_rfl) rfl #[.slice Ao38 t496.length co38, .slice Ao39 t499.length co39] (by rfl) rfl rfl (by (try simp only [List.map_toArray, List.map_cons, List.map_nil]); rfl) ?_
  with_reducible refine (codewrightref01_Add.calls k _ _ t496 _ _ t499 t505 _ ?side1 ?side2 ?side3 ?side4 A9.out).mono ?_
  (case side1 => exact (Kd.R_reads' HO498.out).2.2)
  (case side2 => exact (Kd.R_reads' HO498.out).2.1)
  (case side3 => exact (Kd.R_reads' HO501.out).2.2)
  (case side4 => exact (Kd.R_reads' HO501.out).2.1)
  rintro e w40 ⟨v506, rfl, ho0, hb⟩
  refine ⟨_, rfl, ?_⟩
  have n0_ := Aside0.mk (Kd.R_elder' (by (with_reducible repeat (fail)); exact HO485.out) (Kd.R_base ho0) hb)
  have n1_ := Aside0.mk (Kd.R_elder' (by (with_reducible repeat (fail)); exact HO488.out) (Kd.R_base ho0) hb)
  have n2_ := Aside0.mk (Kd.R_elder' (by (with_reducible repeat (fail)); exact HO492.out) (Kd.R_base ho0) hb)
  have n3_ := Aside0.mk (Kd.R_elder' (by (with_reducible repeat (fail)); exact HO495.out) (Kd.R_base ho0) hb)
  have n4_ := Aside0.mk (Kd.R_elder' (by (with_reducible repeat (fail)); exact HO498.out) (Kd.R_base ho0) hb)
  have n5_ := Aside0.mk (Kd.R_elder' (by (with_reducible repeat (fail)); exact HO501.out) (Kd.R_base ho0) hb)
  have n6_ := Aside0.mk (Kd.R_elder' (by (with_reducible repeat (fail)); exact HO504.out) (Kd.R_base ho0) hb)
  have n7_ := Aside0.mk (Kd.R_lower (Kd.R_new' (Kd.R_new' (Kd.R_new' (Kd.R_new' (Kd.R_new' (Kd.R_new' (Kd.R_new' ho0 (Kd.R_lt (by (with_reducible repeat (fail)); exact HO485.out))) (Kd.R_lt (by (with_reducible repeat (fail)); exact HO488.out))) (Kd.R_lt (by (with_reducible repeat (fail)); exact HO492.out))) (Kd.R_lt (by (with_reducible repeat (fail)); exact HO495.out))) (Kd.R_lt (by (with_reducible repeat (fail)); exact HO498.out))) (Kd.R_lt (by (with_reducible repeat (fail)); exact HO501.out))) (Kd.R_lt (by (with_reducible repeat (fail)); exact HO504.out))) (below_size (by repeat ((with_reducible exact HB.out)))))
  have n8_ := Aside0.mk (blk_below (g := gb479) (o := .cells #[.bool t482, .slice Ao19 t483.length co19, .slice Ao20 t486.length co20] 46 (0, 0)) (by (with_reducible repeat (fail)); exact BK479.out) hb)
  have n9_ := Aside0.mk (blk_below (g := gb480) (o := .cells #[.bool t489, .slice Ao25 t490.length co25, .slice Ao26 t493.length co26] 46 (0, 0)) (by (with_reducible repeat (fail)); exact BK480.out) hb)
  have n10_ := Aside0.mk (blk_below (g := gb481) (o := .cells #[.bool false, .slice none 0 0, .slice none 0 0] 46 (0, 0)) (by (with_reducible repeat (fail)); exact BK481.out) hb)
  have n11_ := Aside0.mk (below_step (by repeat ((with_reducible exact HB.out))) hb)
  clear HO485
  clear HO488
  clear HO492
  clear HO495
  clear HO498
  clear HO501
  clear HO504
  clear BK479
  clear BK480
  clear BK481
  clear HB
  have HO485 := n0_
  have HO488 := n1_
  have HO492 := n2_
  have HO495 := n3_
  have HO498 := n4_
  have HO501 := n5_
  have HO504 := n6_
  have HO507 := n7_
  have BK479 := n8_
  have BK480 := n9_
  have BK481 := n10_
  have HB := n11_
  clear n0_ n1_ n2_ n3_ n4_ n5_ n6_ n7_ n8_ n9_ n10_ n11_
  (try clear hb)
  (try clear ho0)
  obtain ⟨Ao41, co41, eo41⟩ := Kd.R_slice HO507.out
  (subst eo41)
  obtain ⟨Ao42, co42, eo42⟩ := Kd.R_slice HO504.out
  (subst eo42)
  refine hK.out _ _ ⟨(blk_cell BK479.out 0).trans rfl, (blk_cell BK479.out 1).trans rfl, (blk_cell BK479.out 2).trans rfl⟩ (fun hHeld => ?_)
  clear hK K
  refine norm_ (a' := ?_) ?_ ?_
  rotate_left
  ·show Act.put _ (some 36) _ = _
   simp only [Act.put, List.setIfInBounds_toArray, List.set_cons_zero, List.set_cons_succ, i64_w, i32_w]
   rfl
  refine one_ (i := 6) (N := some 38) #[true, true, true, true, true, true, true, false] rfl rfl (one_of HT_.out (by kernel_rfl)) (by decide) (fun K hK => ?_)
  refine goes_ Try.func69 (by kernel_rfl) rfl #[.bool t482, .slice Ao41 t505.length co41, .slice Ao42 t502.length co42] (by rfl) rfl rfl (by (try simp only [List.map_toArray, List.map_cons, List.map_nil]); rfl) ?_
  with_reducible refine (codewrightref02_Make.calls k t482 _ _ t505 _ _ t502 t508 t509 t512 _ ?side1 ?side2 ?side3 ?side4 A10.out).mono ?_
  (case side1 => exact (Kd.R_reads' HO507.out).2.2)
  (case side2 => exact (Kd.R_reads' HO507.out).2.1)
  (case side3 => exact (Kd.R_reads' HO504.out).2.2)
  (case side4 => exact (Kd.R_reads' HO504.out).2.1)
  rintro e w43 ⟨v510, v513, rfl, ho0, ho1, hb⟩
  refine ⟨_, rfl, ?_⟩
  have n0_ := Aside0.mk (Kd.R_mono (Kd.R_told (Kd.R_told (Kd.R_old (by (with_reducible repeat (fail)); exact HO485.out) hb) (Kd.R_base ho0)) (Kd.R_base ho1)) (fun _ h_ => h_.1))
  have n1_ := Aside0.mk (Kd.R_mono (Kd.R_told (Kd.R_told (Kd.R_old (by (with_reducible repeat (fail)); exact HO488.out) hb) (Kd.R_base ho0)) (Kd.R_base ho1)) (fun _ h_ => h_.1))
  have n2_ := Aside0.mk (Kd.R_mono (Kd.R_told (Kd.R_told (Kd.R_old (by (with_reducible repeat (fail)); exact HO492.out) hb) (Kd.R_base ho0)) (Kd.R_base ho1)) (fun _ h_ => h_.1))
  have n3_ := Aside0.mk (Kd.R_mono (Kd.R_told (Kd.R_told (Kd.R_old (by (with_reducible repeat (fail)); exact HO495.out) hb) (Kd.R_base ho0)) (Kd.R_base ho1)) (fun _ h_ => h_.1))
  have n4_ := Aside0.mk (Kd.R_mono (Kd.R_told (Kd.R_told (Kd.R_old (by (with_reducible repeat (fail)); exact HO498.out) hb) (Kd.R_base ho0)) (Kd.R_base ho1)) (fun _ h_ => h_.1))
  have n5_ := Aside0.mk (Kd.R_mono (Kd.R_told (Kd.R_told (Kd.R_old (by (with_reducible repeat (fail)); exact HO501.out) hb) (Kd.R_base ho0)) (Kd.R_base ho1)) (fun _ h_ => h_.1))
  have n6_ := Aside0.mk (Kd.R_mono (Kd.R_told (Kd.R_told (Kd.R_old (by (with_reducible repeat (fail)); exact HO504.out) hb) (Kd.R_base ho0)) (Kd.R_base ho1)) (fun _ h_ => h_.1))
  have n7_ := Aside0.mk (Kd.R_mono (Kd.R_told (Kd.R_told (Kd.R_old (by (with_reducible repeat (fail)); exact HO507.out) hb) (Kd.R_base ho0)) (Kd.R_base ho1)) (fun _ h_ => h_.1))
  have n8_ := Aside0.mk (Kd.R_lower (Kd.R_new' (Kd.R_new' (Kd.R_new' (Kd.R_new' (Kd.R_new' (Kd.R_new' (Kd.R_new' (Kd.R_new' ho0 (Kd.R_lt (by (with_reducible repeat (fail)); exact HO485.out))) (Kd.R_lt (by (with_reducible repeat (fail)); exact HO488.out))) (Kd.R_lt (by (with_reducible repeat (fail)); exact HO492.out))) (Kd.R_lt (by (with_reducible repeat (fail)); exact HO495.out))) (Kd.R_lt (by (with_reducible repeat (fail)); exact HO498.out))) (Kd.R_lt (by (with_reducible repeat (fail)); exact HO501.out))) (Kd.R_lt (by (with_reducible repeat (fail)); exact HO504.out))) (Kd.R_lt (by (with_reducible repeat (fail)); exact HO507.out))) (below_size (by repeat ((with_reducible exact HB.out)))))
  have n9_ := Aside0.mk (Kd.R_lower (Kd.R_new' (Kd.R_new' (Kd.R_new' (Kd.R_new' (Kd.R_new' (Kd.R_new' (Kd.R_new' (Kd.R_new' ho1 (Kd.R_lt (by (with_reducible repeat (fail)); exact HO485.out))) (Kd.R_lt (by (with_reducible repeat (fail)); exact HO488.out))) (Kd.R_lt (by (with_reducible repeat (fail)); exact HO492.out))) (Kd.R_lt (by (with_reducible repeat (fail)); exact HO495.out))) (Kd.R_lt (by (with_reducible repeat (fail)); exact HO498.out))) (Kd.R_lt (by (with_reducible repeat (fail)); exact HO501.out))) (Kd.R_lt (by (with_reducible repeat (fail)); exact HO504.out))) (Kd.R_lt (by (with_reducible repeat (fail)); exact HO507.out))) (below_size (by repeat ((with_reducible exact HB.out)))))
  have n10_ := Aside0.mk (blk_below (g := gb479) (o := .cells #[.bool t482, .slice Ao19 t483.length co19, .slice Ao20 t486.length co20] 46 (0, 0)) (by (with_reducible repeat (fail)); exact BK479.out) hb)
  have n11_ := Aside0.mk (blk_below (g := gb480) (o := .cells #[.bool t489, .slice Ao25 t490.length co25, .slice Ao26 t493.length co26] 46 (0, 0)) (by (with_reducible repeat (fail)); exact BK480.out) hb)
  have n12_ := Aside0.mk (blk_below (g := gb481) (o := .cells #[.bool false, .slice none 0 0, .slice none 0 0] 46 (0, 0)) (by (with_reducible repeat (fail)); exact BK481.out) hb)
  have n13_ := Aside0.mk (below_step (by repeat ((with_reducible exact HB.out))) hb)
  clear HO485
  clear HO488
  clear HO492
  clear HO495
  clear HO498
  clear HO501
  clear HO504
  clear HO507
  clear BK479
  clear BK480
  clear BK481
  clear HB
  have HO485 := n0_
  have HO488 := n1_
  have HO492 := n2_
  have HO495 := n3_
  have HO498 := n4_
  have HO501 := n5_
  have HO504 := n6_
  have HO507 := n7_
  have HO511 := n8_
  have HO514 := n9_
  have BK479 := n10_
  have BK480 := n11_
  have BK481 := n12_
  have HB := n13_
  clear n0_ n1_ n2_ n3_ n4_ n5_ n6_ n7_ n8_ n9_ n10_ n11_ n12_ n13_
  (try clear hb)
  (try clear ho0)
  (try clear ho1)
  obtain ⟨Ao45, co45, eo45⟩ := Kd.R_slice HO511.out
  (subst eo45)
  obtain ⟨Ao47, co47, eo47⟩ := Kd.R_slice HO514.out
  (subst eo47)
  refine hK.out _ _ ⟨(blk_cell BK479.out 0).trans rfl, (blk_cell BK479.out 1).trans rfl, (blk_cell BK479.out 2).trans rfl⟩ (fun hHeld => ?_)
  clear hK K
  refine norm_ (a' := ?_) ?_ ?_
  rotate_left
  ·show Act.put _ (some 38) _ = _
   simp only [Act.put, List.setIfInBounds_toArray, List.set_cons_zero, List.set_cons_succ, i64_w, i32_w]
   rfl
  refine one_ (i := 7) (N := none) #[true, true, true, true, true, true, true, true] rfl rfl (one_of HT_.out (by kernel_rfl)) (by decide) (fun K hK => ?_)
  have hs44 : w43.cell? ⟨gb481, 0, none⟩ = some (.bool false) := (blk_cell BK481.out 0).trans rfl
  have hfs44 := blk_frozen BK481.out 0
  have hns44_0 := NB479_481.out
  have hns44_1 := NB480_481.out
  have hms44_0 := NB481_479.out
  have hms44_1 := NB481_480.out
  have hs46 : w43.cell? ⟨gb481, 1, none⟩ = some (.slice none 0 0) := (blk_cell BK481.out 1).trans rfl
  have hfs46 := blk_frozen BK481.out 1
  have hns46_0 := NB479_481.out
  have hns46_1 := NB480_481.out
  have hms46_0 := NB481_479.out
  have hms46_1 := NB481_480.out
  have hs48 : w43.cell? ⟨gb481, 2, none⟩ = some (.slice none 0 0) := (blk_cell BK481.out 2).trans rfl
  have hfs48 := blk_frozen BK481.out 2
  have hns48_0 := NB479_481.out
  have hns48_1 := NB480_481.out
  have hms48_0 := NB481_479.out
  have hms48_1 := NB481_480.out
  refine skip_ (w1 := ?_) (by rfl) rfl ?_ ?_
  rotate_left
  ·go_simp
   rfl
  refine hK.out _ _ ⟨((cell_far (p := ⟨gb481, _, none⟩) NB479_481.out _).trans (((cell_far (p := ⟨gb481, _, none⟩) NB479_481.out _).trans (((cell_far (p := ⟨gb481, _, none⟩) NB479_481.out _).trans (hHeld.1)))))), ((cell_far (p := ⟨gb481, _, none⟩) NB479_481.out _).trans (((cell_far (p := ⟨gb481, _, none⟩) NB479_481.out _).trans (((cell_far (p := ⟨gb481, _, none⟩) NB479_481.out _).trans (hHeld.2.1)))))), ((cell_far (p := ⟨gb481, _, none⟩) NB479_481.out _).trans (((cell_far (p := ⟨gb481, _, none⟩) NB479_481.out _).trans (((cell_far (p := ⟨gb481, _, none⟩) NB479_481.out _).trans (hHeld.2.2))))))⟩ (fun hHeld => ?_)
  clear hK K
  refine done_ (done_of HT_.out (by kernel_rfl)) ?_
  try go_wp2
  refine bodyPost_ret (results_cell_row rfl _ _ gb481 46 #[.bool t508, .slice Ao45 t509.length co45, .slice Ao47 t512.length co47] (0, 0) _ rfl (by (with_reducible repeat (fail)); refine blk_put (cs := #[.bool t508, .slice Ao45 t509.length co45, .slice none 0 0]) ?_ 2 _ rfl; (with_reducible repeat (fail)); refine blk_put (cs := #[.bool t508, .slice none 0 0, .slice none 0 0]) ?_ 1 _ rfl; (with_reducible repeat (fail)); refine blk_put (cs := #[.bool false, .slice none 0 0, .slice none 0 0]) ?_ 0 _ rfl; (with_reducible repeat (fail)); exact BK481.out) Try.underlying46 rfl (by kernel_rfl)) rfl ?_
  exact ⟨_, _, by rfl, by (with_reducible repeat (fail)); exact Kd.R_mono (Kd.R_far (p := ⟨gb481, 2, none⟩) (Kd.R_far (p := ⟨gb481, 1, none⟩) (Kd.R_far (p := ⟨gb481, 0, none⟩) (Kd.R_types HO511.out BK481.out (by decide)) (fun _ hk => hk.2) (.bool t508)) (fun _ hk => hk.2) (.slice Ao45 t509.length co45)) (fun _ hk => hk.2) (.slice Ao47 t512.length co47)) (fun _ hk => hk.1.1.1.1.1.1.1.1.1), by (with_reducible repeat (fail)); exact Kd.R_mono (Kd.R_far (p := ⟨gb481, 2, none⟩) (Kd.R_far (p := ⟨gb481, 1, none⟩) (Kd.R_far (p := ⟨gb481, 0, none⟩) (Kd.R_types HO514.out BK481.out (by decide)) (fun _ hk => hk.2) (.bool t508)) (fun _ hk => hk.2) (.slice Ao45 t509.length co45)) (fun _ hk => hk.2) (.slice Ao47 t512.length co47)) (fun _ hk => hk.1.1.1.1.1.1.1.1.1), by repeat ((with_reducible first | exact HB.out | refine below_set ?_ GE481.out))⟩
 ·rw [if_neg c8] at H
  have c8b0 : (t482 == t489) = false := by simpa using c8
  (try (have c8b1 : decide (t482 = t489) = false := by simpa using c8))
  (try (have c8b2 : (t482 == t489) = false := by simpa using c8))
  (try (have c8b3 : ¬ (t482 = t489) := by simpa using c8))
  clear c8
  replace H := Option.bind_eq_some_iff.mp H
  obtain ⟨t515, A490, H⟩ := H
  replace H : (if t515 ≥ 0 then ((codewrightref01_Sub.f k t496 t499).bind fun t516 => ((codewrightref02_Make.f k t482 t516 t502).bind fun bt519 => (some (bt519.1, bt519.2.1, bt519.2.2)))) else ((codewrightref01_Sub.f k t499 t496).bind fun t526 => ((codewrightref02_Make.f k t489 t526 t502).bind fun bt529 => (some (bt529.1, bt529.2.1, bt529.2.2))))) = some (r1, r2, r3) := H
  have A49 := Aside0.mk A490
  clear A490
  by_cases c50 : t515 ≥ 0
  ·rw [if_pos c50] at H
   have c50b0 : decide (0 ≤ t515) = true := decide_eq_true c50
   clear c50
   replace H := Option.bind_eq_some_iff.mp H
   obtain ⟨t516, A510, H⟩ := H
   replace H : ((codewrightref02_Make.f k t482 t516 t502).bind fun bt519 => (some (bt519.1, bt519.2.1, bt519.2.2))) = some (r1, r2, r3) := H
   have A51 := Aside0.mk A510
   clear A510
   replace H := Option.bind_eq_some_iff.mp H
   obtain ⟨⟨t519, t520, t523⟩, A520, H⟩ := H
   replace H : (some (t519, t520, t523)) = some (r1, r2, r3) := H
   have A52 := Aside0.mk A520
   clear A520
   simp only [Option.some.injEq, Prod.mk.injEq] at H
   obtain ⟨rfl, rfl, rfl⟩ := H
   go_enter Try.func33, Try.ntmps33
   try go_wp2_with (first | ((with_reducible refine gate_dst (N := 2) rfl ?_); refine box_event ?hg (N := 2) ?hd (cs := #[.bool a0_0, .slice A0_1 l0_1.length c0_1, .slice A0_2 l0_2.length c0_2]) (t := 46) ?hr ?_; (case hd => rfl); (case hg => rfl); (case hr => (go_simp; done)); intro gb479 hg w53 hbox hb; have n0_ := Aside0.mk (below_step (by repeat ((with_reducible exact HB.out))) hb); have n1_ := Aside0.mk (hbox); have n2_ := Aside0.mk ((by rw [hg]; exact (below_size (by repeat ((with_reducible exact HB.out)))) : w.heap.size ≤ gb479)); have n3_ := Aside0.mk ((by rw [hg]; exact (below_size (by repeat ((with_reducible exact HB.out)))) : w.heap.size ≤ gb479)); clear HB; have HB := n0_; have BK479 := n1_; have GW479 := n2_; have GE479 := n3_; clear n0_ n1_ n2_ n3_; clear hb hbox hg) | ((with_reducible refine gate_dst (N := 3) rfl ?_); refine box_event ?hg (N := 3) ?hd (cs := #[.bool a1_0, .slice A1_1 l1_1.length c1_1, .slice A1_2 l1_2.length c1_2]) (t := 46) ?hr ?_; (case hd => rfl); (case hg => rfl); (case hr => (go_simp; done)); intro gb480 hg w54 hbox hb; have n0_ := Aside0.mk (blk_below (g := gb479) (o := .cells #[.bool a0_0, .slice A0_1 l0_1.length c0_1, .slice A0_2 l0_2.length c0_2] 46 (0, 0)) (by (with_reducible repeat (fail)); exact BK479.out) hb); have n1_ := Aside0.mk (below_step (by repeat ((with_reducible exact HB.out))) hb); have n2_ := Aside0.mk (hbox); have n3_ := Aside0.mk ((by rw [hg]; exact (below_size (by repeat ((with_reducible exact HB.out)))) : w.heap.size ≤ gb480)); have n4_ := Aside0.mk ((by rw [hg]; exact (below_size (by repeat ((with_reducible exact HB.out)))) : w.heap.size ≤ gb480)); have n5_ := Aside0.mk ((by rw [hg]; exact Nat.ne_of_lt (blk_lt (g := gb479) (o := .cells #[.bool a0_0, .slice A0_1 l0_1.length c0_1, .slice A0_2 l0_2.length c0_2] 46 (0, 0)) (by (with_reducible repeat (fail)); exact BK479.out)) : gb479 ≠ gb480)); have n6_ := Aside0.mk ((by rw [hg]; exact Nat.ne_of_gt (blk_lt (g := gb479) (o := .cells #[.bool a0_0, .slice A0_1 l0_1.length c0_1, .slice A0_2 l0_2.length c0_2] 46 (0, 0)) (by (with_reducible repeat (fail)); exact BK479.out)) : gb480 ≠ gb479)); clear BK479; clear HB; have BK479 := n0_; have HB := n1_; have BK480 := n2_; have GW480 := n3_; have GE480 := n4_; have NB479_480 := n5_; have NB480_479 := n6_; clear n0_ n1_ n2_ n3_ n4_ n5_ n6_; clear hb hbox hg) | ((with_reducible refine gate_dst (N := 4) rfl ?_); refine box_event ?hg (N := 4) ?hd (cs := #[.bool false, .slice none 0 0, .slice none 0 0]) (t := 46) ?hr ?_; (case hd => rfl); (case hg => rfl); (case hr => (go_simp; done)); intro gb481 hg w55 hbox hb; have n0_ := Aside0.mk (blk_below (g := gb479) (o := .cells #[.bool a0_0, .slice A0_1 l0_1.length c0_1, .slice A0_2 l0_2.length c0_2] 46 (0, 0)) (by (with_reducible repeat (fail)); exact BK479.out) hb); have n1_ := Aside0.mk (blk_below (g := gb480) (o := .cells #[.bool a1_0, .slice A1_1 l1_1.length c1_1, .slice A1_2 l1_2.length c1_2] 46 (0, 0)) (by (with_reducible repeat (fail)); exact BK480.out) hb); have n2_ := Aside0.mk (below_step (by repeat ((with_reducible exact HB.out))) hb); have n3_ := Aside0.mk (hbox); have n4_ := Aside0.mk ((by rw [hg]; exact (below_size (by repeat ((with_reducible exact HB.out)))) : w.heap.size ≤ gb481)); have n5_ := Aside0.mk ((by rw [hg]; exact (below_size (by repeat ((with_reducible exact HB.out)))) : w.heap.size ≤ gb481)); have n6_ := Aside0.mk ((by rw [hg]; exact Nat.ne_of_lt (blk_lt (g := gb479) (o := .cells #[.bool a0_0, .slice A0_1 l0_1.length c0_1, .slice A0_2 l0_2.length c0_2] 46 (0, 0)) (by (with_reducible repeat (fail)); exact BK479.out)) : gb479 ≠ gb481)); have n7_ := Aside0.mk ((by rw [hg]; exact Nat.ne_of_gt (blk_lt (g := gb479) (o := .cells #[.bool a0_0, .slice A0_1 l0_1.length c0_1, .slice A0_2 l0_2.length c0_2] 46 (0, 0)) (by (with_reducible repeat (fail)); exact BK479.out)) : gb481 ≠ gb479)); have n8_ := Aside0.mk ((by rw [hg]; exact Nat.ne_of_lt (blk_lt (g := gb480) (o := .cells #[.bool a1_0, .slice A1_1 l1_1.length c1_1, .slice A1_2 l1_2.length c1_2] 46 (0, 0)) (by (with_reducible repeat (fail)); exact BK480.out)) : gb480 ≠ gb481)); have n9_ := Aside0.mk ((by rw [hg]; exact Nat.ne_of_gt (blk_lt (g := gb480) (o := .cells #[.bool a1_0, .slice A1_1 l1_1.length c1_1, .slice A1_2 l1_2.length c1_2] 46 (0, 0)) (by (with_reducible repeat (fail)); exact BK480.out)) : gb481 ≠ gb480)); clear BK479; clear BK480; clear HB; have BK479 := n0_; have BK480 := n1_; have HB := n2_; have BK481 := n3_; have GW481 := n4_; have GE481 := n5_; have NB479_481 := n6_; have NB481_479 := n7_; have NB480_481 := n8_; have NB481_480 := n9_; clear n0_ n1_ n2_ n3_ n4_ n5_ n6_ n7_ n8_ n9_; clear hb hbox hg; have hnb56 := NB479_480.out; have hnc56 := NB480_479.out; have hnb57 := NB479_481.out; have hnc57 := NB481_479.out; have hcz58_0 : w55.cell? ⟨gb479, 0, none⟩ = some (.bool a0_0) := (blk_cell BK479.out 0).trans rfl; have hcz58_1 : w55.cell? ⟨gb479, 1, none⟩ = some (.slice A0_1 l0_1.length c0_1) := (blk_cell BK479.out 1).trans rfl; have hcz58_2 : w55.cell? ⟨gb479, 2, none⟩ = some (.slice A0_2 l0_2.length c0_2) := (blk_cell BK479.out 2).trans rfl; have hfz58_0 := blk_frozen BK479.out 0; have hfz58_1 := blk_frozen BK479.out 1; have hfz58_2 := blk_frozen BK479.out 2) | ((with_reducible refine gate_callee (f := 67) rfl ?_); refine goesL_ (some 9) rfl rfl Try.func67 (by kernel_rfl) rfl #[.agg #[.bool a0_0, .slice A0_1 l0_1.length c0_1, .slice A0_2 l0_2.length c0_2]] rfl (by (try simp only [List.map_toArray, List.map_cons, List.map_nil]); rfl) ?_; (with_reducible refine (codewrightref02_Trim.calls k a0_0 _ _ l0_1 _ _ l0_2 t482 t483 t486 _ ?side1 ?side2 ?side3 ?side4 A3.out).mono ?_); (case side1 => repeat (exact (Kd.C_below HR0_1.out HB.out))); (case side2 => exact HC0_1.out); (case side3 => repeat (exact (Kd.C_below HR0_2.out HB.out))); (case side4 => exact HC0_2.out); rintro e w59 ⟨v484, v487, rfl, ho0, ho1, hb⟩; refine ⟨_, rfl, ?_⟩; have n0_ := Aside0.mk (Kd.R_lower ho0 (below_size (by repeat ((with_reducible exact HB.out))))); have n1_ := Aside0.mk (Kd.R_lower ho1 (below_size (by repeat ((with_reducible exact HB.out))))); have n2_ := Aside0.mk (blk_below (g := gb479) (o := .cells #[.bool a0_0, .slice A0_1 l0_1.length c0_1, .slice A0_2 l0_2.length c0_2] 46 (0, 0)) (by (with_reducible repeat (fail)); exact BK479.out) hb); have n3_ := Aside0.mk (blk_below (g := gb480) (o := .cells #[.bool a1_0, .slice A1_1 l1_1.length c1_1, .slice A1_2 l1_2.length c1_2] 46 (0, 0)) (by (with_reducible repeat (fail)); exact BK480.out) hb); have n4_ := Aside0.mk (blk_below (g := gb481) (o := .cells #[.bool false, .slice none 0 0, .slice none 0 0] 46 (0, 0)) (by (with_reducible repeat (fail)); exact BK481.out) hb); have n5_ := Aside0.mk (below_step (by repeat ((with_reducible exact HB.out))) hb); clear BK479; clear BK480; clear BK481; clear HB; have HO485 := n0_; have HO488 := n1_; have BK479 := n2_; have BK480 := n3_; have BK481 := n4_; have HB := n5_; clear n0_ n1_ n2_ n3_ n4_ n5_; (try clear hb); (try clear ho0); (try clear ho1); have hcz60_0 : w59.cell? ⟨gb479, 0, none⟩ = some (.bool a0_0) := (blk_cell BK479.out 0).trans rfl; have hcz60_1 : w59.cell? ⟨gb479, 1, none⟩ = some (.slice A0_1 l0_1.length c0_1) := (blk_cell BK479.out 1).trans rfl; have hcz60_2 : w59.cell? ⟨gb479, 2, none⟩ = some (.slice A0_2 l0_2.length c0_2) := (blk_cell BK479.out 2).trans rfl; have hfz60_0 := blk_frozen BK479.out 0; have hfz60_1 := blk_frozen BK479.out 1; have hfz60_2 := blk_frozen BK479.out 2; obtain ⟨Ao61, co61, eo61⟩ := Kd.R_slice HO485.out; subst eo61; obtain ⟨Ao62, co62, eo62⟩ := Kd.R_slice HO488.out; subst eo62; have hnb63 := NB480_481.out; have hnc63 := NB481_480.out; have hcz64_0 : w59.cell? ⟨gb480, 0, none⟩ = some (.bool a1_0) := (blk_cell BK480.out 0).trans rfl; have hcz64_1 : w59.cell? ⟨gb480, 1, none⟩ = some (.slice A1_1 l1_1.length c1_1) := (blk_cell BK480.out 1).trans rfl; have hcz64_2 : w59.cell? ⟨gb480, 2, none⟩ = some (.slice A1_2 l1_2.length c1_2) := (blk_cell BK480.out 2).trans rfl; have hfz64_0 := blk_frozen BK480.out 0; have hfz64_1 := blk_frozen BK480.out 1; have hfz64_2 := blk_frozen BK480.out 2) | ((with_reducible refine gate_callee (f := 67) rfl ?_); refine goesL_ (some 11) rfl rfl Try.func67 (by kernel_rfl) rfl #[.agg #[.bool a1_0, .slice A1_1 l1_1.length c1_1, .slice A1_2 l1_2.length c1_2]] rfl (by (try simp only [List.map_toArray, List.map_cons, List.map_nil]); rfl) ?_; (with_reducible refine (codewrightref02_Trim.calls k a1_0 _ _ l1_1 _ _ l1_2 t489 t490 t493 _ ?side1 ?side2 ?side3 ?side4 A4.out).mono ?_); (case side1 => exact Kd.C_below HR1_1.out (by repeat ((with_reducible first | exact HB.out | refine below_set ?_ GE479.out)))); (case side2 => exact HC1_1.out); (case side3 => exact Kd.C_below HR1_2.out (by repeat ((with_reducible first | exact HB.out | refine below_set ?_ GE479.out)))); (case side4 => exact HC1_2.out); rintro e w65 ⟨v491, v494, rfl, ho0, ho1, hb⟩; refine ⟨_, rfl, ?_⟩; have n0_ := Aside0.mk (Kd.R_mono (Kd.R_told (Kd.R_told (Kd.R_old (by (with_reducible repeat (fail)); exact (Kd.R_mono (Kd.R_far (p := ⟨gb479, 2, none⟩) (Kd.R_far (p := ⟨gb479, 1, none⟩) (Kd.R_far (p := ⟨gb479, 0, none⟩) (Kd.R_types HO485.out BK479.out (by decide)) (fun _ hk => hk.2) (.bool t482)) (fun _ hk => hk.2) (.slice Ao61 t483.length co61)) (fun _ hk => hk.2) (.slice Ao62 t486.length co62)) (fun _ h_ => h_.1))) hb) (Kd.R_base ho0)) (Kd.R_base ho1)) (fun _ h_ => h_.1)); have n1_ := Aside0.mk (Kd.R_mono (Kd.R_told (Kd.R_told (Kd.R_old (by (with_reducible repeat (fail)); exact (Kd.R_mono (Kd.R_far (p := ⟨gb479, 2, none⟩) (Kd.R_far (p := ⟨gb479, 1, none⟩) (Kd.R_far (p := ⟨gb479, 0, none⟩) (Kd.R_types HO488.out BK479.out (by decide)) (fun _ hk => hk.2) (.bool t482)) (fun _ hk => hk.2) (.slice Ao61 t483.length co61)) (fun _ hk => hk.2) (.slice Ao62 t486.length co62)) (fun _ h_ => h_.1))) hb) (Kd.R_base ho0)) (Kd.R_base ho1)) (fun _ h_ => h_.1)); have n2_ := Aside0.mk (Kd.R_lower (Kd.R_new' (Kd.R_new' ho0 (Kd.R_lt (by (with_reducible repeat (fail)); exact (Kd.R_mono (Kd.R_far (p := ⟨gb479, 2, none⟩) (Kd.R_far (p := ⟨gb479, 1, none⟩) (Kd.R_far (p := ⟨gb479, 0, none⟩) (Kd.R_types HO485.out BK479.out (by decide)) (fun _ hk => hk.2) (.bool t482)) (fun _ hk => hk.2) (.slice Ao61 t483.length co61)) (fun _ hk => hk.2) (.slice Ao62 t486.length co62)) (fun _ h_ => h_.1))))) (Kd.R_lt (by (with_reducible repeat (fail)); exact (Kd.R_mono (Kd.R_far (p := ⟨gb479, 2, none⟩) (Kd.R_far (p := ⟨gb479, 1, none⟩) (Kd.R_far (p := ⟨gb479, 0, none⟩) (Kd.R_types HO488.out BK479.out (by decide)) (fun _ hk => hk.2) (.bool t482)) (fun _ hk => hk.2) (.slice Ao61 t483.length co61)) (fun _ hk => hk.2) (.slice Ao62 t486.length co62)) (fun _ h_ => h_.1))))) (below_size (by repeat ((with_reducible first | exact HB.out | refine below_set ?_ GE479.out))))); have n3_ := Aside0.mk (Kd.R_lower (Kd.R_new' (Kd.R_new' ho1 (Kd.R_lt (by (with_reducible repeat (fail)); exact (Kd.R_mono (Kd.R_far (p := ⟨gb479, 2, none⟩) (Kd.R_far (p := ⟨gb479, 1, none⟩) (Kd.R_far (p := ⟨gb479, 0, none⟩) (Kd.R_types HO485.out BK479.out (by decide)) (fun _ hk => hk.2) (.bool t482)) (fun _ hk => hk.2) (.slice Ao61 t483.length co61)) (fun _ hk => hk.2) (.slice Ao62 t486.length co62)) (fun _ h_ => h_.1))))) (Kd.R_lt (by (with_reducible repeat (fail)); exact (Kd.R_mono (Kd.R_far (p := ⟨gb479, 2, none⟩) (Kd.R_far (p := ⟨gb479, 1, none⟩) (Kd.R_far (p := ⟨gb479, 0, none⟩) (Kd.R_types HO488.out BK479.out (by decide)) (fun _ hk => hk.2) (.bool t482)) (fun _ hk => hk.2) (.slice Ao61 t483.length co61)) (fun _ hk => hk.2) (.slice Ao62 t486.length co62)) (fun _ h_ => h_.1))))) (below_size (by repeat ((with_reducible first | exact HB.out | refine below_set ?_ GE479.out))))); have n4_ := Aside0.mk (blk_below (g := gb479) (o := .cells #[.bool t482, .slice Ao61 t483.length co61, .slice Ao62 t486.length co62] 46 (0, 0)) (by (with_reducible repeat (fail)); refine blk_put (cs := #[.bool t482, .slice Ao61 t483.length co61, .slice A0_2 l0_2.length c0_2]) ?_ 2 _ rfl; (with_reducible repeat (fail)); refine blk_put (cs := #[.bool t482, .slice A0_1 l0_1.length c0_1, .slice A0_2 l0_2.length c0_2]) ?_ 1 _ rfl; (with_reducible repeat (fail)); refine blk_put (cs := #[.bool a0_0, .slice A0_1 l0_1.length c0_1, .slice A0_2 l0_2.length c0_2]) ?_ 0 _ rfl; (with_reducible repeat (fail)); exact BK479.out) hb); have n5_ := Aside0.mk (blk_below (g := gb480) (o := .cells #[.bool a1_0, .slice A1_1 l1_1.length c1_1, .slice A1_2 l1_2.length c1_2] 46 (0, 0)) (by (with_reducible repeat (fail)); refine blk_far ?_ NB480_479.out _; (with_reducible repeat (fail)); refine blk_far ?_ NB480_479.out _; (with_reducible repeat (fail)); refine blk_far ?_ NB480_479.out _; (with_reducible repeat (fail)); exact BK480.out) hb); have n6_ := Aside0.mk (blk_below (g := gb481) (o := .cells #[.bool false, .slice none 0 0, .slice none 0 0] 46 (0, 0)) (by (with_reducible repeat (fail)); refine blk_far ?_ NB481_479.out _; (with_reducible repeat (fail)); refine blk_far ?_ NB481_479.out _; (with_reducible repeat (fail)); refine blk_far ?_ NB481_479.out _; (with_reducible repeat (fail)); exact BK481.out) hb); have n7_ := Aside0.mk (below_step (by repeat ((with_reducible first | exact HB.out | refine below_set ?_ GE479.out))) hb); clear HO485; clear HO488; clear BK479; clear BK480; clear BK481; clear HB; have HO485 := n0_; have HO488 := n1_; have HO492 := n2_; have HO495 := n3_; have BK479 := n4_; have BK480 := n5_; have BK481 := n6_; have HB := n7_; clear n0_ n1_ n2_ n3_ n4_ n5_ n6_ n7_; (try clear hb); (try clear ho0); (try clear ho1); have hcz66_0 : w65.cell? ⟨gb480, 0, none⟩ = some (.bool a1_0) := (blk_cell BK480.out 0).trans rfl; have hcz66_1 : w65.cell? ⟨gb480, 1, none⟩ = some (.slice A1_1 l1_1.length c1_1) := (blk_cell BK480.out 1).trans rfl; have hcz66_2 : w65.cell? ⟨gb480, 2, none⟩ = some (.slice A1_2 l1_2.length c1_2) := (blk_cell BK480.out 2).trans rfl; have hfz66_0 := blk_frozen BK480.out 0; have hfz66_1 := blk_frozen BK480.out 1; have hfz66_2 := blk_frozen BK480.out 2; obtain ⟨Ao67, co67, eo67⟩ := Kd.R_slice HO492.out; subst eo67; obtain ⟨Ao68, co68, eo68⟩ := Kd.R_slice HO495.out; subst eo68; have hcz69_0 : w65.cell? ⟨gb479, 0, none⟩ = some (.bool t482) := (blk_cell BK479.out 0).trans rfl; have hcz69_1 : w65.cell? ⟨gb479, 1, none⟩ = some (.slice Ao61 t483.length co61) := (blk_cell BK479.out 1).trans rfl; have hcz69_2 : w65.cell? ⟨gb479, 2, none⟩ = some (.slice Ao62 t486.length co62) := (blk_cell BK479.out 2).trans rfl; have hfz69_0 := blk_frozen BK479.out 0; have hfz69_1 := blk_frozen BK479.out 1; have hfz69_2 := blk_frozen BK479.out 2) | ((with_reducible refine gate_callee (f := 68) rfl ?_); refine goesL_ (some 16) rfl rfl Try.func68 (by kernel_rfl) rfl #[.slice Ao61 t483.length co61, .slice Ao68 t493.length co68] rfl (by (try simp only [List.map_toArray, List.map_cons, List.map_nil]); rfl) ?_; (with_reducible refine (codewrightref01_Mul.calls k _ _ t483 _ _ t493 t496 _ ?side1 ?side2 ?side3 ?side4 A5.out).mono ?_); (case side1 => refine (Kd.R_reads' (e := 100) (base := w.heap.size) (ok := fun k_ => ((some k_ ≠ (.slice Ao62 t486.length co62 : Value).ownBlock ∧ some k_ ≠ (.slice Ao67 t490.length co67 : Value).ownBlock) ∧ some k_ ≠ (.slice Ao68 t493.length co68 : Value).ownBlock)) (n := t483.length) (c := co61) ?_).2.2; exact (by (with_reducible repeat (fail)); exact (Kd.R_mono (Kd.R_far (p := ⟨gb480, 2, none⟩) (Kd.R_far (p := ⟨gb480, 1, none⟩) (Kd.R_far (p := ⟨gb480, 0, none⟩) (Kd.R_types HO485.out BK480.out (by decide)) (fun _ hk => hk.2) (.bool t489)) (fun _ hk => hk.2) (.slice Ao67 t490.length co67)) (fun _ hk => hk.2) (.slice Ao68 t493.length co68)) (fun _ h_ => h_.1)))); (case side2 => exact (Kd.R_reads' HO485.out).2.1); (case side3 => refine (Kd.R_reads' (e := 100) (base := w.heap.size) (ok := fun k_ => ((some k_ ≠ (.slice Ao67 t490.length co67 : Value).ownBlock ∧ some k_ ≠ (.slice Ao61 t483.length co61 : Value).ownBlock) ∧ some k_ ≠ (.slice Ao62 t486.length co62 : Value).ownBlock)) (n := t493.length) (c := co68) ?_).2.2; exact (by (with_reducible repeat (fail)); exact (Kd.R_mono (Kd.R_far (p := ⟨gb480, 2, none⟩) (Kd.R_far (p := ⟨gb480, 1, none⟩) (Kd.R_far (p := ⟨gb480, 0, none⟩) (Kd.R_types HO495.out BK480.out (by decide)) (fun _ hk => hk.2) (.bool t489)) (fun _ hk => hk.2) (.slice Ao67 t490.length co67)) (fun _ hk => hk.2) (.slice Ao68 t493.length co68)) (fun _ h_ => h_.1)))); (case side4 => exact (Kd.R_reads' HO495.out).2.1); rintro e w70 ⟨v497, rfl, ho0, hb⟩; refine ⟨_, rfl, ?_⟩; have n0_ := Aside0.mk (Kd.R_elder' (by (with_reducible repeat (fail)); exact (Kd.R_mono (Kd.R_far (p := ⟨gb480, 2, none⟩) (Kd.R_far (p := ⟨gb480, 1, none⟩) (Kd.R_far (p := ⟨gb480, 0, none⟩) (Kd.R_types HO485.out BK480.out (by decide)) (fun _ hk => hk.2) (.bool t489)) (fun _ hk => hk.2) (.slice Ao67 t490.length co67)) (fun _ hk => hk.2) (.slice Ao68 t493.length co68)) (fun _ h_ => h_.1))) (Kd.R_base ho0) hb); have n1_ := Aside0.mk (Kd.R_elder' (by (with_reducible repeat (fail)); exact (Kd.R_mono (Kd.R_far (p := ⟨gb480, 2, none⟩) (Kd.R_far (p := ⟨gb480, 1, none⟩) (Kd.R_far (p := ⟨gb480, 0, none⟩) (Kd.R_types HO488.out BK480.out (by decide)) (fun _ hk => hk.2) (.bool t489)) (fun _ hk => hk.2) (.slice Ao67 t490.length co67)) (fun _ hk => hk.2) (.slice Ao68 t493.length co68)) (fun _ h_ => h_.1))) (Kd.R_base ho0) hb); have n2_ := Aside0.mk (Kd.R_elder' (by (with_reducible repeat (fail)); exact (Kd.R_mono (Kd.R_far (p := ⟨gb480, 2, none⟩) (Kd.R_far (p := ⟨gb480, 1, none⟩) (Kd.R_far (p := ⟨gb480, 0, none⟩) (Kd.R_types HO492.out BK480.out (by decide)) (fun _ hk => hk.2) (.bool t489)) (fun _ hk => hk.2) (.slice Ao67 t490.length co67)) (fun _ hk => hk.2) (.slice Ao68 t493.length co68)) (fun _ h_ => h_.1))) (Kd.R_base ho0) hb); have n3_ := Aside0.mk (Kd.R_elder' (by (with_reducible repeat (fail)); exact (Kd.R_mono (Kd.R_far (p := ⟨gb480, 2, none⟩) (Kd.R_far (p := ⟨gb480, 1, none⟩) (Kd.R_far (p := ⟨gb480, 0, none⟩) (Kd.R_types HO495.out BK480.out (by decide)) (fun _ hk => hk.2) (.bool t489)) (fun _ hk => hk.2) (.slice Ao67 t490.length co67)) (fun _ hk => hk.2) (.slice Ao68 t493.length co68)) (fun _ h_ => h_.1))) (Kd.R_base ho0) hb); have n4_ := Aside0.mk (Kd.R_lower (Kd.R_new' (Kd.R_new' (Kd.R_new' (Kd.R_new' ho0 (Kd.R_lt (by (with_reducible repeat (fail)); exact (Kd.R_mono (Kd.R_far (p := ⟨gb480, 2, none⟩) (Kd.R_far (p := ⟨gb480, 1, none⟩) (Kd.R_far (p := ⟨gb480, 0, none⟩) (Kd.R_types HO485.out BK480.out (by decide)) (fun _ hk => hk.2) (.bool t489)) (fun _ hk => hk.2) (.slice Ao67 t490.length co67)) (fun _ hk => hk.2) (.slice Ao68 t493.length co68)) (fun _ h_ => h_.1))))) (Kd.R_lt (by (with_reducible repeat (fail)); exact (Kd.R_mono (Kd.R_far (p := ⟨gb480, 2, none⟩) (Kd.R_far (p := ⟨gb480, 1, none⟩) (Kd.R_far (p := ⟨gb480, 0, none⟩) (Kd.R_types HO488.out BK480.out (by decide)) (fun _ hk => hk.2) (.bool t489)) (fun _ hk => hk.2) (.slice Ao67 t490.length co67)) (fun _ hk => hk.2) (.slice Ao68 t493.length co68)) (fun _ h_ => h_.1))))) (Kd.R_lt (by (with_reducible repeat (fail)); exact (Kd.R_mono (Kd.R_far (p := ⟨gb480, 2, none⟩) (Kd.R_far (p := ⟨gb480, 1, none⟩) (Kd.R_far (p := ⟨gb480, 0, none⟩) (Kd.R_types HO492.out BK480.out (by decide)) (fun _ hk => hk.2) (.bool t489)) (fun _ hk => hk.2) (.slice Ao67 t490.length co67)) (fun _ hk => hk.2) (.slice Ao68 t493.length co68)) (fun _ h_ => h_.1))))) (Kd.R_lt (by (with_reducible repeat (fail)); exact (Kd.R_mono (Kd.R_far (p := ⟨gb480, 2, none⟩) (Kd.R_far (p := ⟨gb480, 1, none⟩) (Kd.R_far (p := ⟨gb480, 0, none⟩) (Kd.R_types HO495.out BK480.out (by decide)) (fun _ hk => hk.2) (.bool t489)) (fun _ hk => hk.2) (.slice Ao67 t490.length co67)) (fun _ hk => hk.2) (.slice Ao68 t493.length co68)) (fun _ h_ => h_.1))))) (below_size (by repeat ((with_reducible first | exact HB.out | refine below_set ?_ GE480.out))))); have n5_ := Aside0.mk (blk_below (g := gb479) (o := .cells #[.bool t482, .slice Ao61 t483.length co61, .slice Ao62 t486.length co62] 46 (0, 0)) (by (with_reducible repeat (fail)); refine blk_far ?_ NB479_480.out _; (with_reducible repeat (fail)); refine blk_far ?_ NB479_480.out _; (with_reducible repeat (fail)); refine blk_far ?_ NB479_480.out _; (with_reducible repeat (fail)); exact BK479.out) hb); have n6_ := Aside0.mk (blk_below (g := gb480) (o := .cells #[.bool t489, .slice Ao67 t490.length co67, .slice Ao68 t493.length co68] 46 (0, 0)) (by (with_reducible repeat (fail)); refine blk_put (cs := #[.bool t489, .slice Ao67 t490.length co67, .slice A1_2 l1_2.length c1_2]) ?_ 2 _ rfl; (with_reducible repeat (fail)); refine blk_put (cs := #[.bool t489, .slice A1_1 l1_1.length c1_1, .slice A1_2 l1_2.length c1_2]) ?_ 1 _ rfl; (with_reducible repeat (fail)); refine blk_put (cs := #[.bool a1_0, .slice A1_1 l1_1.length c1_1, .slice A1_2 l1_2.length c1_2]) ?_ 0 _ rfl; (with_reducible repeat (fail)); exact BK480.out) hb); have n7_ := Aside0.mk (blk_below (g := gb481) (o := .cells #[.bool false, .slice none 0 0, .slice none 0 0] 46 (0, 0)) (by (with_reducible repeat (fail)); refine blk_far ?_ NB481_480.out _; (with_reducible repeat (fail)); refine blk_far ?_ NB481_480.out _; (with_reducible repeat (fail)); refine blk_far ?_ NB481_480.out _; (with_reducible repeat (fail)); exact BK481.out) hb); have n8_ := Aside0.mk (below_step (by repeat ((with_reducible first | exact HB.out | refine below_set ?_ GE480.out))) hb); clear HO485; clear HO488; clear HO492; clear HO495; clear BK479; clear BK480; clear BK481; clear HB; have HO485 := n0_; have HO488 := n1_; have HO492 := n2_; have HO495 := n3_; have HO498 := n4_; have BK479 := n5_; have BK480 := n6_; have BK481 := n7_; have HB := n8_; clear n0_ n1_ n2_ n3_ n4_ n5_ n6_ n7_ n8_; (try clear hb); (try clear ho0); have hcz71_0 : w70.cell? ⟨gb480, 0, none⟩ = some (.bool t489) := (blk_cell BK480.out 0).trans rfl; have hcz71_1 : w70.cell? ⟨gb480, 1, none⟩ = some (.slice Ao67 t490.length co67) := (blk_cell BK480.out 1).trans rfl; have hcz71_2 : w70.cell? ⟨gb480, 2, none⟩ = some (.slice Ao68 t493.length co68) := (blk_cell BK480.out 2).trans rfl; have hfz71_0 := blk_frozen BK480.out 0; have hfz71_1 := blk_frozen BK480.out 1; have hfz71_2 := blk_frozen BK480.out 2; have hcz72_0 : w70.cell? ⟨gb479, 0, none⟩ = some (.bool t482) := (blk_cell BK479.out 0).trans rfl; have hcz72_1 : w70.cell? ⟨gb479, 1, none⟩ = some (.slice Ao61 t483.length co61) := (blk_cell BK479.out 1).trans rfl; have hcz72_2 : w70.cell? ⟨gb479, 2, none⟩ = some (.slice Ao62 t486.length co62) := (blk_cell BK479.out 2).trans rfl; have hfz72_0 := blk_frozen BK479.out 0; have hfz72_1 := blk_frozen BK479.out 1; have hfz72_2 := blk_frozen BK479.out 2) | ((with_reducible refine gate_callee (f := 68) rfl ?_); refine goesL_ (some 21) rfl rfl Try.func68 (by kernel_rfl) rfl #[.slice Ao67 t490.length co67, .slice Ao62 t486.length co62] rfl (by (try simp only [List.map_toArray, List.map_cons, List.map_nil]); rfl) ?_; (with_reducible refine (codewrightref01_Mul.calls k _ _ t490 _ _ t486 t499 _ ?side1 ?side2 ?side3 ?side4 A6.out).mono ?_); (case side1 => exact (Kd.R_reads' HO492.out).2.2); (case side2 => exact (Kd.R_reads' HO492.out).2.1); (case side3 => exact (Kd.R_reads' HO488.out).2.2); (case side4 => exact (Kd.R_reads' HO488.out).2.1); rintro e w73 ⟨v500, rfl, ho0, hb⟩; refine ⟨_, rfl, ?_⟩; have n0_ := Aside0.mk (Kd.R_elder' (by (with_reducible repeat (fail)); exact HO485.out) (Kd.R_base ho0) hb); have n1_ := Aside0.mk (Kd.R_elder' (by (with_reducible repeat (fail)); exact HO488.out) (Kd.R_base ho0) hb); have n2_ := Aside0.mk (Kd.R_elder' (by (with_reducible repeat (fail)); exact HO492.out) (Kd.R_base ho0) hb); have n3_ := Aside0.mk (Kd.R_elder' (by (with_reducible repeat (fail)); exact HO495.out) (Kd.R_base ho0) hb); have n4_ := Aside0.mk (Kd.R_elder' (by (with_reducible repeat (fail)); exact HO498.out) (Kd.R_base ho0) hb); have n5_ := Aside0.mk (Kd.R_lower (Kd.R_new' (Kd.R_new' (Kd.R_new' (Kd.R_new' (Kd.R_new' ho0 (Kd.R_lt (by (with_reducible repeat (fail)); exact HO485.out))) (Kd.R_lt (by (with_reducible repeat (fail)); exact HO488.out))) (Kd.R_lt (by (with_reducible repeat (fail)); exact HO492.out))) (Kd.R_lt (by (with_reducible repeat (fail)); exact HO495.out))) (Kd.R_lt (by (with_reducible repeat (fail)); exact HO498.out))) (below_size (by repeat ((with_reducible exact HB.out))))); have n6_ := Aside0.mk (blk_below (g := gb479) (o := .cells #[.bool t482, .slice Ao61 t483.length co61, .slice Ao62 t486.length co62] 46 (0, 0)) (by (with_reducible repeat (fail)); exact BK479.out) hb); have n7_ := Aside0.mk (blk_below (g := gb480) (o := .cells #[.bool t489, .slice Ao67 t490.length co67, .slice Ao68 t493.length co68] 46 (0, 0)) (by (with_reducible repeat (fail)); exact BK480.out) hb); have n8_ := Aside0.mk (blk_below (g := gb481) (o := .cells #[.bool false, .slice none 0 0, .slice none 0 0] 46 (0, 0)) (by (with_reducible repeat (fail)); exact BK481.out) hb); have n9_ := Aside0.mk (below_step (by repeat ((with_reducible exact HB.out))) hb); clear HO485; clear HO488; clear HO492; clear HO495; clear HO498; clear BK479; clear BK480; clear BK481; clear HB; have HO485 := n0_; have HO488 := n1_; have HO492 := n2_; have HO495 := n3_; have HO498 := n4_; have HO501 := n5_; have BK479 := n6_; have BK480 := n7_; have BK481 := n8_; have HB := n9_; clear n0_ n1_ n2_ n3_ n4_ n5_ n6_ n7_ n8_ n9_; (try clear hb); (try clear ho0); have hcz74_0 : w73.cell? ⟨gb479, 0, none⟩ = some (.bool t482) := (blk_cell BK479.out 0).trans rfl; have hcz74_1 : w73.cell? ⟨gb479, 1, none⟩ = some (.slice Ao61 t483.length co61) := (blk_cell BK479.out 1).trans rfl; have hcz74_2 : w73.cell? ⟨gb479, 2, none⟩ = some (.slice Ao62 t486.length co62) := (blk_cell BK479.out 2).trans rfl; have hfz74_0 := blk_frozen BK479.out 0; have hfz74_1 := blk_frozen BK479.out 1; have hfz74_2 := blk_frozen BK479.out 2; have hcz75_0 : w73.cell? ⟨gb480, 0, none⟩ = some (.bool t489) := (blk_cell BK480.out 0).trans rfl; have hcz75_1 : w73.cell? ⟨gb480, 1, none⟩ = some (.slice Ao67 t490.length co67) := (blk_cell BK480.out 1).trans rfl; have hcz75_2 : w73.cell? ⟨gb480, 2, none⟩ = some (.slice Ao68 t493.length co68) := (blk_cell BK480.out 2).trans rfl; have hfz75_0 := blk_frozen BK480.out 0; have hfz75_1 := blk_frozen BK480.out 1; have hfz75_2 := blk_frozen BK480.out 2) | ((with_reducible refine gate_callee (f := 68) rfl ?_); refine goesL_ (some 26) rfl rfl Try.func68 (by kernel_rfl) rfl #[.slice Ao62 t486.length co62, .slice Ao68 t493.length co68] rfl (by (try simp only [List.map_toArray, List.map_cons, List.map_nil]); rfl) ?_; (with_reducible refine (codewrightref01_Mul.calls k _ _ t486 _ _ t493 t502 _ ?side1 ?side2 ?side3 ?side4 A7.out).mono ?_); (case side1 => exact (Kd.R_reads' HO488.out).2.2); (case side2 => exact (Kd.R_reads' HO488.out).2.1); (case side3 => exact (Kd.R_reads' HO495.out).2.2); (case side4 => exact (Kd.R_reads' HO495.out).2.1); rintro e w76 ⟨v503, rfl, ho0, hb⟩; refine ⟨_, rfl, ?_⟩; have n0_ := Aside0.mk (Kd.R_elder' (by (with_reducible repeat (fail)); exact HO485.out) (Kd.R_base ho0) hb); have n1_ := Aside0.mk (Kd.R_elder' (by (with_reducible repeat (fail)); exact HO488.out) (Kd.R_base ho0) hb); have n2_ := Aside0.mk (Kd.R_elder' (by (with_reducible repeat (fail)); exact HO492.out) (Kd.R_base ho0) hb); have n3_ := Aside0.mk (Kd.R_elder' (by (with_reducible repeat (fail)); exact HO495.out) (Kd.R_base ho0) hb); have n4_ := Aside0.mk (Kd.R_elder' (by (with_reducible repeat (fail)); exact HO498.out) (Kd.R_base ho0) hb); have n5_ := Aside0.mk (Kd.R_elder' (by (with_reducible repeat (fail)); exact HO501.out) (Kd.R_base ho0) hb); have n6_ := Aside0.mk (Kd.R_lower (Kd.R_new' (Kd.R_new' (Kd.R_new' (Kd.R_new' (Kd.R_new' (Kd.R_new' ho0 (Kd.R_lt (by (with_reducible repeat (fail)); exact HO485.out))) (Kd.R_lt (by (with_reducible repeat (fail)); exact HO488.out))) (Kd.R_lt (by (with_reducible repeat (fail)); exact HO492.out))) (Kd.R_lt (by (with_reducible repeat (fail)); exact HO495.out))) (Kd.R_lt (by (with_reducible repeat (fail)); exact HO498.out))) (Kd.R_lt (by (with_reducible repeat (fail)); exact HO501.out))) (below_size (by repeat ((with_reducible exact HB.out))))); have n7_ := Aside0.mk (blk_below (g := gb479) (o := .cells #[.bool t482, .slice Ao61 t483.length co61, .slice Ao62 t486.length co62] 46 (0, 0)) (by (with_reducible repeat (fail)); exact BK479.out) hb); have n8_ := Aside0.mk (blk_below (g := gb480) (o := .cells #[.bool t489, .slice Ao67 t490.length co67, .slice Ao68 t493.length co68] 46 (0, 0)) (by (with_reducible repeat (fail)); exact BK480.out) hb); have n9_ := Aside0.mk (blk_below (g := gb481) (o := .cells #[.bool false, .slice none 0 0, .slice none 0 0] 46 (0, 0)) (by (with_reducible repeat (fail)); exact BK481.out) hb); have n10_ := Aside0.mk (below_step (by repeat ((with_reducible exact HB.out))) hb); clear HO485; clear HO488; clear HO492; clear HO495; clear HO498; clear HO501; clear BK479; clear BK480; clear BK481; clear HB; have HO485 := n0_; have HO488 := n1_; have HO492 := n2_; have HO495 := n3_; have HO498 := n4_; have HO501 := n5_; have HO504 := n6_; have BK479 := n7_; have BK480 := n8_; have BK481 := n9_; have HB := n10_; clear n0_ n1_ n2_ n3_ n4_ n5_ n6_ n7_ n8_ n9_ n10_; (try clear hb); (try clear ho0); have hcz77_0 : w76.cell? ⟨gb479, 0, none⟩ = some (.bool t482) := (blk_cell BK479.out 0).trans rfl; have hcz77_1 : w76.cell? ⟨gb479, 1, none⟩ = some (.slice Ao61 t483.length co61) := (blk_cell BK479.out 1).trans rfl; have hcz77_2 : w76.cell? ⟨gb479, 2, none⟩ = some (.slice Ao62 t486.length co62) := (blk_cell BK479.out 2).trans rfl; have hfz77_0 := blk_frozen BK479.out 0; have hfz77_1 := blk_frozen BK479.out 1; have hfz77_2 := blk_frozen BK479.out 2; have hcz78_0 : w76.cell? ⟨gb480, 0, none⟩ = some (.bool t489) := (blk_cell BK480.out 0).trans rfl; have hcz78_1 : w76.cell? ⟨gb480, 1, none⟩ = some (.slice Ao67 t490.length co67) := (blk_cell BK480.out 1).trans rfl; have hcz78_2 : w76.cell? ⟨gb480, 2, none⟩ = some (.slice Ao68 t493.length co68) := (blk_cell BK480.out 2).trans rfl; have hfz78_0 := blk_frozen BK480.out 0; have hfz78_1 := blk_frozen BK480.out 1; have hfz78_2 := blk_frozen BK480.out 2; obtain ⟨Ao79, co79, eo79⟩ := Kd.R_slice HO498.out; subst eo79; obtain ⟨Ao80, co80, eo80⟩ := Kd.R_slice HO501.out; subst eo80) | ((with_reducible refine gate_callee (f := 71) rfl ?_); refine goesL_ (some 41) rfl rfl Try.func71 (by kernel_rfl) rfl #[.slice Ao79 t496.length co79, .slice Ao80 t499.length co80] rfl (by (try simp only [List.map_toArray, List.map_cons, List.map_nil]); rfl) ?_; (with_reducible refine (codewrightref01_Cmp.calls k _ _ t496 _ _ t499 t515 _ ?side1 ?side2 ?side3 ?side4 A49.out).mono ?_); (case side1 => exact (Kd.R_reads' HO498.out).2.2); (case side2 => exact (Kd.R_reads' HO498.out).2.1); (case side3 => exact (Kd.R_reads' HO501.out).2.2); (case side4 => exact (Kd.R_reads' HO501.out).2.1); rintro e w81 ⟨rfl, hb⟩; refine ⟨_, rfl, ?_⟩; have n0_ := Aside0.mk (Kd.R_below (by (with_reducible repeat (fail)); exact HO485.out) hb); have n1_ := Aside0.mk (Kd.R_below (by (with_reducible repeat (fail)); exact HO488.out) hb); have n2_ := Aside0.mk (Kd.R_below (by (with_reducible repeat (fail)); exact HO492.out) hb); have n3_ := Aside0.mk (Kd.R_below (by (with_reducible repeat (fail)); exact HO495.out) hb); have n4_ := Aside0.mk (Kd.R_below (by (with_reducible repeat (fail)); exact HO498.out) hb); have n5_ := Aside0.mk (Kd.R_below (by (with_reducible repeat (fail)); exact HO501.out) hb); have n6_ := Aside0.mk (Kd.R_below (by (with_reducible repeat (fail)); exact HO504.out) hb); have n7_ := Aside0.mk (blk_below (g := gb479) (o := .cells #[.bool t482, .slice Ao61 t483.length co61, .slice Ao62 t486.length co62] 46 (0, 0)) (by (with_reducible repeat (fail)); exact BK479.out) hb); have n8_ := Aside0.mk (blk_below (g := gb480) (o := .cells #[.bool t489, .slice Ao67 t490.length co67, .slice Ao68 t493.length co68] 46 (0, 0)) (by (with_reducible repeat (fail)); exact BK480.out) hb); have n9_ := Aside0.mk (blk_below (g := gb481) (o := .cells #[.bool false, .slice none 0 0, .slice none 0 0] 46 (0, 0)) (by (with_reducible repeat (fail)); exact BK481.out) hb); have n10_ := Aside0.mk (below_step (by repeat ((with_reducible exact HB.out))) hb); clear HO485; clear HO488; clear HO492; clear HO495; clear HO498; clear HO501; clear HO504; clear BK479; clear BK480; clear BK481; clear HB; have HO485 := n0_; have HO488 := n1_; have HO492 := n2_; have HO495 := n3_; have HO498 := n4_; have HO501 := n5_; have HO504 := n6_; have BK479 := n7_; have BK480 := n8_; have BK481 := n9_; have HB := n10_; clear n0_ n1_ n2_ n3_ n4_ n5_ n6_ n7_ n8_ n9_ n10_; (try clear hb)))
   have n0_ := Aside0.mk (Kd.R_drew HO485.out)
   have n1_ := Aside0.mk (Kd.R_drew HO488.out)
   have n2_ := Aside0.mk (Kd.R_drew HO492.out)
   have n3_ := Aside0.mk (Kd.R_drew HO495.out)
   have n4_ := Aside0.mk (Kd.R_drew HO498.out)
   have n5_ := Aside0.mk (Kd.R_drew HO501.out)
   have n6_ := Aside0.mk (Kd.R_drew HO504.out)
   have n7_ := Aside0.mk (blk_drew BK479.out)
   have n8_ := Aside0.mk (blk_drew BK480.out)
   have n9_ := Aside0.mk (blk_drew BK481.out)
   have n10_ := Aside0.mk (below_drew1 HB.out)
   clear HO485
   clear HO488
   clear HO492
   clear HO495
   clear HO498
   clear HO501
   clear HO504
   clear BK479
   clear BK480
   clear BK481
   clear HB
   have HO485 := n0_
   have HO488 := n1_
   have HO492 := n2_
   have HO495 := n3_
   have HO498 := n4_
   have HO501 := n5_
   have HO504 := n6_
   have BK479 := n7_
   have BK480 := n8_
   have BK481 := n9_
   have HB := n10_
   clear n0_ n1_ n2_ n3_ n4_ n5_ n6_ n7_ n8_ n9_ n10_
   refine start_ (n := 8) (S := fun w' => w'.cell? ⟨gb479, 0, none⟩ = some (.bool t482) ∧ w'.cell? ⟨gb479, 1, none⟩ = some (.slice Ao61 t483.length co61) ∧ w'.cell? ⟨gb479, 2, none⟩ = some (.slice Ao62 t486.length co62)) (ds := []) #[false, false, false, false, false, false, false, false] (by kernel_rfl) rfl rfl ⟨(blk_cell BK479.out 0).trans rfl, (blk_cell BK479.out 1).trans rfl, (blk_cell BK479.out 2).trans rfl⟩ (fun hHeld => ?_); refine with_tabW codewrightref02_Add.tab9 codewrightref02_Add.bits9 (fun HT_ HW_ => ?_)
   generalize w81.drew = w82 at HO485 HO488 HO492 HO495 HO498 HO501 HO504 BK479 BK480 BK481 HB hHeld ⊢
   refine pure_ (i := 0) (N := some 43) (v := ?_) (a' := ?_) #[true, false, false, false, false, false, false, false] rfl rfl (any_of HT_.out (by kernel_rfl)) (fun _ _ _ h => h) (Or.inl ⟨by rfl, ?_⟩) ?_ ?_
   rotate_left
   ·intro w'
    go_simp
    with_reducible rfl
   rotate_left
   ·simp only [Act.put, List.setIfInBounds_toArray, List.set_cons_zero, List.set_cons_succ, i64_w, i32_w]
    rfl
   refine pure_ (i := 2) (N := some 45) (v := ?_) (a' := ?_) #[true, false, true, false, false, false, false, false] rfl rfl (any_of HT_.out (by kernel_rfl)) (fun _ _ _ h => h) (Or.inl ⟨by rfl, ?_⟩) ?_ ?_
   rotate_left
   ·intro w'
    go_simp
    with_reducible rfl
   rotate_left
   ·simp only [Act.put, List.setIfInBounds_toArray, List.set_cons_zero, List.set_cons_succ, i64_w, i32_w]
    rfl
   refine pure_ (i := 3) (N := some 46) (v := ?_) (a' := ?_) #[true, false, true, true, false, false, false, false] rfl rfl (any_of HT_.out (by kernel_rfl)) (fun _ _ _ h => h) (Or.inl ⟨by rfl, ?_⟩) ?_ ?_
   rotate_left
   ·intro w'
    go_simp
    with_reducible rfl
   rotate_left
   ·simp only [Act.put, List.setIfInBounds_toArray, List.set_cons_zero, List.set_cons_succ, i64_w, i32_w]
    rfl
   refine pure_ (i := 5) (N := some 48) (v := ?_) (a' := ?_) #[true, false, true, true, false, true, false, false] rfl rfl (any_of HT_.out (by kernel_rfl)) (fun _ _ _ h => h) (Or.inl ⟨by rfl, ?_⟩) ?_ ?_
   rotate_left
   ·intro w'
    go_simp
    with_reducible rfl
   rotate_left
   ·simp only [Act.put, List.setIfInBounds_toArray, List.set_cons_zero, List.set_cons_succ, i64_w, i32_w]
    rfl
   refine take_ (i := 1) (N := some 44) (v := ?_) (a' := ?_) #[true, true, true, true, false, true, false, false] rfl rfl (take_ofW HT_.out HW_.out (by kernel_rfl)) (fun _ _ _ h => h) (Or.inl ⟨by rfl, ?_⟩) hHeld ?_ ?_
   rotate_left
   ·rintro w' ⟨s0, s1, s2⟩
    go_simp
    with_reducible rfl
   rotate_left
   ·simp only [Act.put, List.setIfInBounds_toArray, List.set_cons_zero, List.set_cons_succ, i64_w, i32_w]
    rfl
   refine one_ (i := 4) (N := some 47) #[true, true, true, true, true, true, false, false] rfl rfl (one_of HT_.out (by kernel_rfl)) (by decide) (fun K hK => ?_)
   refine goes_ Try.func72 (by kernel_rfl) rfl #[.slice Ao79 t496.length co79, .slice Ao80 t499.length co80] (by rfl) rfl rfl (by (try simp only [List.map_toArray, List.map_cons, List.map_nil]); rfl) ?_
   with_reducible refine (codewrightref01_Sub.calls k _ _ t496 _ _ t499 t516 _ ?side1 ?side2 ?side3 ?side4 A51.out).mono ?_
   (case side1 => exact (Kd.R_reads' HO498.out).2.2)
   (case side2 => exact (Kd.R_reads' HO498.out).2.1)
   (case side3 => exact (Kd.R_reads' HO501.out).2.2)
   (case side4 => exact (Kd.R_reads' HO501.out).2.1)
   rintro e w83 ⟨v517, rfl, ho0, hb⟩
   refine ⟨_, rfl, ?_⟩
   have n0_ := Aside0.mk (Kd.R_elder' (by (with_reducible repeat (fail)); exact HO485.out) (Kd.R_base ho0) hb)
   have n1_ := Aside0.mk (Kd.R_elder' (by (with_reducible repeat (fail)); exact HO488.out) (Kd.R_base ho0) hb)
   have n2_ := Aside0.mk (Kd.R_elder' (by (with_reducible repeat (fail)); exact HO492.out) (Kd.R_base ho0) hb)
   have n3_ := Aside0.mk (Kd.R_elder' (by (with_reducible repeat (fail)); exact HO495.out) (Kd.R_base ho0) hb)
   have n4_ := Aside0.mk (Kd.R_elder' (by (with_reducible repeat (fail)); exact HO498.out) (Kd.R_base ho0) hb)
   have n5_ := Aside0.mk (Kd.R_elder' (by (with_reducible repeat (fail)); exact HO501.out) (Kd.R_base ho0) hb)
   have n6_ := Aside0.mk (Kd.R_elder' (by (with_reducible repeat (fail)); exact HO504.out) (Kd.R_base ho0) hb)
   have n7_ := Aside0.mk (Kd.R_lower (Kd.R_new' (Kd.R_new' (Kd.R_new' (Kd.R_new' (Kd.R_new' (Kd.R_new' (Kd.R_new' ho0 (Kd.R_lt (by (with_reducible repeat (fail)); exact HO485.out))) (Kd.R_lt (by (with_reducible repeat (fail)); exact HO488.out))) (Kd.R_lt (by (with_reducible repeat (fail)); exact HO492.out))) (Kd.R_lt (by (with_reducible repeat (fail)); exact HO495.out))) (Kd.R_lt (by (with_reducible repeat (fail)); exact HO498.out))) (Kd.R_lt (by (with_reducible repeat (fail)); exact HO501.out))) (Kd.R_lt (by (with_reducible repeat (fail)); exact HO504.out))) (below_size (by repeat ((with_reducible exact HB.out)))))
   have n8_ := Aside0.mk (blk_below (g := gb479) (o := .cells #[.bool t482, .slice Ao61 t483.length co61, .slice Ao62 t486.length co62] 46 (0, 0)) (by (with_reducible repeat (fail)); exact BK479.out) hb)
   have n9_ := Aside0.mk (blk_below (g := gb480) (o := .cells #[.bool t489, .slice Ao67 t490.length co67, .slice Ao68 t493.length co68] 46 (0, 0)) (by (with_reducible repeat (fail)); exact BK480.out) hb)
   have n10_ := Aside0.mk (blk_below (g := gb481) (o := .cells #[.bool false, .slice none 0 0, .slice none 0 0] 46 (0, 0)) (by (with_reducible repeat (fail)); exact BK481.out) hb)
   have n11_ := Aside0.mk (below_step (by repeat ((with_reducible exact HB.out))) hb)
   clear HO485
   clear HO488
   clear HO492
   clear HO495
   clear HO498
   clear HO501
   clear HO504
   clear BK479
   clear BK480
   clear BK481
   clear HB
   have HO485 := n0_
   have HO488 := n1_
   have HO492 := n2_
   have HO495 := n3_
   have HO498 := n4_
   have HO501 := n5_
   have HO504 := n6_
   have HO518 := n7_
   have BK479 := n8_
   have BK480 := n9_
   have BK481 := n10_
   have HB := n11_
   clear n0_ n1_ n2_ n3_ n4_ n5_ n6_ n7_ n8_ n9_ n10_ n11_
   (try clear hb)
   (try clear ho0)
   obtain ⟨Ao84, co84, eo84⟩ := Kd.R_slice HO518.out
   (subst eo84)
   obtain ⟨Ao85, co85, eo85⟩ := Kd.R_slice HO504.out
   (subst eo85)
   refine hK.out _ _ ⟨(blk_cell BK479.out 0).trans rfl, (blk_cell BK479.out 1).trans rfl, (blk_cell BK479.out 2).trans rfl⟩ (fun hHeld => ?_)
   clear hK K
   refine norm_ (a' := ?_) ?_ ?_
   rotate_left
   ·show Act.put _ (some 47) _ = _
    simp only [Act.put, List.setIfInBounds_toArray, List.set_cons_zero, List.set_cons_succ, i64_w, i32_w]
    rfl
   refine one_ (i := 6) (N := some 49) #[true, true, true, true, true, true, true, false] rfl rfl (one_of HT_.out (by kernel_rfl)) (by decide) (fun K hK => ?_)
   refine goes_ Try.func69 (by kernel_rfl) rfl #[.bool t482, .slice Ao84 t516.length co84, .slice Ao85 t502.length co85] (by rfl) rfl rfl (by (try simp only [List.map_toArray, List.map_cons, List.map_nil]); rfl) ?_
   with_reducible refine (codewrightref02_Make.calls k t482 _ _ t516 _ _ t502 t519 t520 t523 _ ?side1 ?side2 ?side3 ?side4 A52.out).mono ?_
   (case side1 => exact (Kd.R_reads' HO518.out).2.2)
   (case side2 => exact (Kd.R_reads' HO518.out).2.1)
   (case side3 => exact (Kd.R_reads' HO504.out).2.2)
   (case side4 => exact (Kd.R_reads' HO504.out).2.1)
   rintro e w86 ⟨v521, v524, rfl, ho0, ho1, hb⟩
   refine ⟨_, rfl, ?_⟩
   have n0_ := Aside0.mk (Kd.R_mono (Kd.R_told (Kd.R_told (Kd.R_old (by (with_reducible repeat (fail)); exact HO485.out) hb) (Kd.R_base ho0)) (Kd.R_base ho1)) (fun _ h_ => h_.1))
   have n1_ := Aside0.mk (Kd.R_mono (Kd.R_told (Kd.R_told (Kd.R_old (by (with_reducible repeat (fail)); exact HO488.out) hb) (Kd.R_base ho0)) (Kd.R_base ho1)) (fun _ h_ => h_.1))
   have n2_ := Aside0.mk (Kd.R_mono (Kd.R_told (Kd.R_told (Kd.R_old (by (with_reducible repeat (fail)); exact HO492.out) hb) (Kd.R_base ho0)) (Kd.R_base ho1)) (fun _ h_ => h_.1))
   have n3_ := Aside0.mk (Kd.R_mono (Kd.R_told (Kd.R_told (Kd.R_old (by (with_reducible repeat (fail)); exact HO495.out) hb) (Kd.R_base ho0)) (Kd.R_base ho1)) (fun _ h_ => h_.1))
   have n4_ := Aside0.mk (Kd.R_mono (Kd.R_told (Kd.R_told (Kd.R_old (by (with_reducible repeat (fail)); exact HO498.out) hb) (Kd.R_base ho0)) (Kd.R_base ho1)) (fun _ h_ => h_.1))
   have n5_ := Aside0.mk (Kd.R_mono (Kd.R_told (Kd.R_told (Kd.R_old (by (with_reducible repeat (fail)); exact HO501.out) hb) (Kd.R_base ho0)) (Kd.R_base ho1)) (fun _ h_ => h_.1))
   have n6_ := Aside0.mk (Kd.R_mono (Kd.R_told (Kd.R_told (Kd.R_old (by (with_reducible repeat (fail)); exact HO504.out) hb) (Kd.R_base ho0)) (Kd.R_base ho1)) (fun _ h_ => h_.1))
   have n7_ := Aside0.mk (Kd.R_mono (Kd.R_told (Kd.R_told (Kd.R_old (by (with_reducible repeat (fail)); exact HO518.out) hb) (Kd.R_base ho0)) (Kd.R_base ho1)) (fun _ h_ => h_.1))
   have n8_ := Aside0.mk (Kd.R_lower (Kd.R_new' (Kd.R_new' (Kd.R_new' (Kd.R_new' (Kd.R_new' (Kd.R_new' (Kd.R_new' (Kd.R_new' ho0 (Kd.R_lt (by (with_reducible repeat (fail)); exact HO485.out))) (Kd.R_lt (by (with_reducible repeat (fail)); exact HO488.out))) (Kd.R_lt (by (with_reducible repeat (fail)); exact HO492.out))) (Kd.R_lt (by (with_reducible repeat (fail)); exact HO495.out))) (Kd.R_lt (by (with_reducible repeat (fail)); exact HO498.out))) (Kd.R_lt (by (with_reducible repeat (fail)); exact HO501.out))) (Kd.R_lt (by (with_reducible repeat (fail)); exact HO504.out))) (Kd.R_lt (by (with_reducible repeat (fail)); exact HO518.out))) (below_size (by repeat ((with_reducible exact HB.out)))))
   have n9_ := Aside0.mk (Kd.R_lower (Kd.R_new' (Kd.R_new' (Kd.R_new' (Kd.R_new' (Kd.R_new' (Kd.R_new' (Kd.R_new' (Kd.R_new' ho1 (Kd.R_lt (by (with_reducible repeat (fail)); exact HO485.out))) (Kd.R_lt (by (with_reducible repeat (fail)); exact HO488.out))) (Kd.R_lt (by (with_reducible repeat (fail)); exact HO492.out))) (Kd.R_lt (by (with_reducible repeat (fail)); exact HO495.out))) (Kd.R_lt (by (with_reducible repeat (fail)); exact HO498.out))) (Kd.R_lt (by (with_reducible repeat (fail)); exact HO501.out))) (Kd.R_lt (by (with_reducible repeat (fail)); exact HO504.out))) (Kd.R_lt (by (with_reducible repeat (fail)); exact HO518.out))) (below_size (by repeat ((with_reducible exact HB.out)))))
   have n10_ := Aside0.mk (blk_below (g := gb479) (o := .cells #[.bool t482, .slice Ao61 t483.length co61, .slice Ao62 t486.length co62] 46 (0, 0)) (by (with_reducible repeat (fail)); exact BK479.out) hb)
   have n11_ := Aside0.mk (blk_below (g := gb480) (o := .cells #[.bool t489, .slice Ao67 t490.length co67, .slice Ao68 t493.length co68] 46 (0, 0)) (by (with_reducible repeat (fail)); exact BK480.out) hb)
   have n12_ := Aside0.mk (blk_below (g := gb481) (o := .cells #[.bool false, .slice none 0 0, .slice none 0 0] 46 (0, 0)) (by (with_reducible repeat (fail)); exact BK481.out) hb)
   have n13_ := Aside0.mk (below_step (by repeat ((with_reducible exact HB.out))) hb)
   clear HO485
   clear HO488
   clear HO492
   clear HO495
   clear HO498
   clear HO501
   clear HO504
   clear HO518
   clear BK479
   clear BK480
   clear BK481
   clear HB
   have HO485 := n0_
   have HO488 := n1_
   have HO492 := n2_
   have HO495 := n3_
   have HO498 := n4_
   have HO501 := n5_
   have HO504 := n6_
   have HO518 := n7_
   have HO522 := n8_
   have HO525 := n9_
   have BK479 := n10_
   have BK480 := n11_
   have BK481 := n12_
   have HB := n13_
   clear n0_ n1_ n2_ n3_ n4_ n5_ n6_ n7_ n8_ n9_ n10_ n11_ n12_ n13_
   (try clear hb)
   (try clear ho0)
   (try clear ho1)
   obtain ⟨Ao88, co88, eo88⟩ := Kd.R_slice HO522.out
   (subst eo88)
   obtain ⟨Ao90, co90, eo90⟩ := Kd.R_slice HO525.out
   (subst eo90)
   refine hK.out _ _ ⟨(blk_cell BK479.out 0).trans rfl, (blk_cell BK479.out 1).trans rfl, (blk_cell BK479.out 2).trans rfl⟩ (fun hHeld => ?_)
   clear hK K
   refine norm_ (a' := ?_) ?_ ?_
   rotate_left
   ·show Act.put _ (some 49) _ = _
    simp only [Act.put, List.setIfInBounds_toArray, List.set_cons_zero, List.set_cons_succ, i64_w, i32_w]
    rfl
   refine one_ (i := 7) (N := none) #[true, true, true, true, true, true, true, true] rfl rfl (one_of HT_.out (by kernel_rfl)) (by decide) (fun K hK => ?_)
   have hs87 : w86.cell? ⟨gb481, 0, none⟩ = some (.bool false) := (blk_cell BK481.out 0).trans rfl
   have hfs87 := blk_frozen BK481.out 0
   have hns87_0 := NB479_481.out
   have hns87_1 := NB480_481.out
   have hms87_0 := NB481_479.out
   have hms87_1 := NB481_480.out
   have hs89 : w86.cell? ⟨gb481, 1, none⟩ = some (.slice none 0 0) := (blk_cell BK481.out 1).trans rfl
   have hfs89 := blk_frozen BK481.out 1
   have hns89_0 := NB479_481.out
   have hns89_1 := NB480_481.out
   have hms89_0 := NB481_479.out
   have hms89_1 := NB481_480.out
   have hs91 : w86.cell? ⟨gb481, 2, none⟩ = some (.slice none 0 0) := (blk_cell BK481.out 2).trans rfl
   have hfs91 := blk_frozen BK481.out 2
   have hns91_0 := NB479_481.out
   have hns91_1 := NB480_481.out
   have hms91_0 := NB481_479.out
   have hms91_1 := NB481_480.out
   refine skip_ (w1 := ?_) (by rfl) rfl ?_ ?_
   rotate_left
   ·go_simp
    rfl
   refine hK.out _ _ ⟨((cell_far (p := ⟨gb481, _, none⟩) NB479_481.out _).trans (((cell_far (p := ⟨gb481, _, none⟩) NB479_481.out _).trans (((cell_far (p := ⟨gb481, _, none⟩) NB479_481.out _).trans (hHeld.1)))))), ((cell_far (p := ⟨gb481, _, none⟩) NB479_481.out _).trans (((cell_far (p := ⟨gb481, _, none⟩) NB479_481.out _).trans (((cell_far (p := ⟨gb481, _, none⟩) NB479_481.out _).trans (hHeld.2.1)))))), ((cell_far (p := ⟨gb481, _, none⟩) NB479_481.out _).trans (((cell_far (p := ⟨gb481, _, none⟩) NB479_481.out _).trans (((cell_far (p := ⟨gb481, _, none⟩) NB479_481.out _).trans (hHeld.2.2))))))⟩ (fun hHeld => ?_)
   clear hK K
   refine done_ (done_of HT_.out (by kernel_rfl)) ?_
   try go_wp2
   refine bodyPost_ret (results_cell_row rfl _ _ gb481 46 #[.bool t519, .slice Ao88 t520.length co88, .slice Ao90 t523.length co90] (0, 0) _ rfl (by (with_reducible repeat (fail)); refine blk_put (cs := #[.bool t519, .slice Ao88 t520.length co88, .slice none 0 0]) ?_ 2 _ rfl; (with_reducible repeat (fail)); refine blk_put (cs := #[.bool t519, .slice none 0 0, .slice none 0 0]) ?_ 1 _ rfl; (with_reducible repeat (fail)); refine blk_put (cs := #[.bool false, .slice none 0 0, .slice none 0 0]) ?_ 0 _ rfl; (with_reducible repeat (fail)); exact BK481.out) Try.underlying46 rfl (by kernel_rfl)) rfl ?_
   exact ⟨_, _, by rfl, by (with_reducible repeat (fail)); exact Kd.R_mono (Kd.R_far (p := ⟨gb481, 2, none⟩) (Kd.R_far (p := ⟨gb481, 1, none⟩) (Kd.R_far (p := ⟨gb481, 0, none⟩) (Kd.R_types HO522.out BK481.out (by decide)) (fun _ hk => hk.2) (.bool t519)) (fun _ hk => hk.2) (.slice Ao88 t520.length co88)) (fun _ hk => hk.2) (.slice Ao90 t523.length co90)) (fun _ hk => hk.1.1.1.1.1.1.1.1.1), by (with_reducible repeat (fail)); exact Kd.R_mono (Kd.R_far (p := ⟨gb481, 2, none⟩) (Kd.R_far (p := ⟨gb481, 1, none⟩) (Kd.R_far (p := ⟨gb481, 0, none⟩) (Kd.R_types HO525.out BK481.out (by decide)) (fun _ hk => hk.2) (.bool t519)) (fun _ hk => hk.2) (.slice Ao88 t520.length co88)) (fun _ hk => hk.2) (.slice Ao90 t523.length co90)) (fun _ hk => hk.1.1.1.1.1.1.1.1.1), by repeat ((with_reducible first | exact HB.out | refine below_set ?_ GE481.out))⟩
  ·rw [if_neg c50] at H
   have c50b0 : decide (0 ≤ t515) = false := decide_eq_false c50
   clear c50
   replace H := Option.bind_eq_some_iff.mp H
   obtain ⟨t526, A920, H⟩ := H
   replace H : ((codewrightref02_Make.f k t489 t526 t502).bind fun bt529 => (some (bt529.1, bt529.2.1, bt529.2.2))) = some (r1, r2, r3) := H
   have A92 := Aside0.mk A920
   clear A920
   replace H := Option.bind_eq_some_iff.mp H
   obtain ⟨⟨t529, t530, t533⟩, A930, H⟩ := H
   replace H : (some (t529, t530, t533)) = some (r1, r2, r3) := H
   have A93 := Aside0.mk A930
   clear A930
   simp only [Option.some.injEq, Prod.mk.injEq] at H
   obtain ⟨rfl, rfl, rfl⟩ := H
   go_enter Try.func33, Try.ntmps33
   try go_wp2_with (first | ((with_reducible refine gate_dst (N := 2) rfl ?_); refine box_event ?hg (N := 2) ?hd (cs := #[.bool a0_0, .slice A0_1 l0_1.length c0_1, .slice A0_2 l0_2.length c0_2]) (t := 46) ?hr ?_; (case hd => rfl); (case hg => rfl); (case hr => (go_simp; done)); intro gb479 hg w94 hbox hb; have n0_ := Aside0.mk (below_step (by repeat ((with_reducible exact HB.out))) hb); have n1_ := Aside0.mk (hbox); have n2_ := Aside0.mk ((by rw [hg]; exact (below_size (by repeat ((with_reducible exact HB.out)))) : w.heap.size ≤ gb479)); have n3_ := Aside0.mk ((by rw [hg]; exact (below_size (by repeat ((with_reducible exact HB.out)))) : w.heap.size ≤ gb479)); clear HB; have HB := n0_; have BK479 := n1_; have GW479 := n2_; have GE479 := n3_; clear n0_ n1_ n2_ n3_; clear hb hbox hg) | ((with_reducible refine gate_dst (N := 3) rfl ?_); refine box_event ?hg (N := 3) ?hd (cs := #[.bool a1_0, .slice A1_1 l1_1.length c1_1, .slice A1_2 l1_2.length c1_2]) (t := 46) ?hr ?_; (case hd => rfl); (case hg => rfl); (case hr => (go_simp; done)); intro gb480 hg w95 hbox hb; have n0_ := Aside0.mk (blk_below (g := gb479) (o := .cells #[.bool a0_0, .slice A0_1 l0_1.length c0_1, .slice A0_2 l0_2.length c0_2] 46 (0, 0)) (by (with_reducible repeat (fail)); exact BK479.out) hb); have n1_ := Aside0.mk (below_step (by repeat ((with_reducible exact HB.out))) hb); have n2_ := Aside0.mk (hbox); have n3_ := Aside0.mk ((by rw [hg]; exact (below_size (by repeat ((with_reducible exact HB.out)))) : w.heap.size ≤ gb480)); have n4_ := Aside0.mk ((by rw [hg]; exact (below_size (by repeat ((with_reducible exact HB.out)))) : w.heap.size ≤ gb480)); have n5_ := Aside0.mk ((by rw [hg]; exact Nat.ne_of_lt (blk_lt (g := gb479) (o := .cells #[.bool a0_0, .slice A0_1 l0_1.length c0_1, .slice A0_2 l0_2.length c0_2] 46 (0, 0)) (by (with_reducible repeat (fail)); exact BK479.out)) : gb479 ≠ gb480)); have n6_ := Aside0.mk ((by rw [hg]; exact Nat.ne_of_gt (blk_lt (g := gb479) (o := .cells #[.bool a0_0, .slice A0_1 l0_1.length c0_1, .slice A0_2 l0_2.length c0_2] 46 (0, 0)) (by (with_reducible repeat (fail)); exact BK479.out)) : gb480 ≠ gb479)); clear BK479; clear HB; have BK479 := n0_; have HB := n1_; have BK480 := n2_; have GW480 := n3_; have GE480 := n4_; have NB479_480 := n5_; have NB480_479 := n6_; clear n0_ n1_ n2_ n3_ n4_ n5_ n6_; clear hb hbox hg) | ((with_reducible refine gate_dst (N := 4) rfl ?_); refine box_event ?hg (N := 4) ?hd (cs := #[.bool false, .slice none 0 0, .slice none 0 0]) (t := 46) ?hr ?_; (case hd => rfl); (case hg => rfl); (case hr => (go_simp; done)); intro gb481 hg w96 hbox hb; have n0_ := Aside0.mk (blk_below (g := gb479) (o := .cells #[.bool a0_0, .slice A0_1 l0_1.length c0_1, .slice A0_2 l0_2.length c0_2] 46 (0, 0)) (by (with_reducible repeat (fail)); exact BK479.out) hb); have n1_ := Aside0.mk (blk_below (g := gb480) (o := .cells #[.bool a1_0, .slice A1_1 l1_1.length c1_1, .slice A1_2 l1_2.length c1_2] 46 (0, 0)) (by (with_reducible repeat (fail)); exact BK480.out) hb); have n2_ := Aside0.mk (below_step (by repeat ((with_reducible exact HB.out))) hb); have n3_ := Aside0.mk (hbox); have n4_ := Aside0.mk ((by rw [hg]; exact (below_size (by repeat ((with_reducible exact HB.out)))) : w.heap.size ≤ gb481)); have n5_ := Aside0.mk ((by rw [hg]; exact (below_size (by repeat ((with_reducible exact HB.out)))) : w.heap.size ≤ gb481)); have n6_ := Aside0.mk ((by rw [hg]; exact Nat.ne_of_lt (blk_lt (g := gb479) (o := .cells #[.bool a0_0, .slice A0_1 l0_1.length c0_1, .slice A0_2 l0_2.length c0_2] 46 (0, 0)) (by (with_reducible repeat (fail)); exact BK479.out)) : gb479 ≠ gb481)); have n7_ := Aside0.mk ((by rw [hg]; exact Nat.ne_of_gt (blk_lt (g := gb479) (o := .cells #[.bool a0_0, .slice A0_1 l0_1.length c0_1, .slice A0_2 l0_2.length c0_2] 46 (0, 0)) (by (with_reducible repeat (fail)); exact BK479.out)) : gb481 ≠ gb479)); have n8_ := Aside0.mk ((by rw [hg]; exact Nat.ne_of_lt (blk_lt (g := gb480) (o := .cells #[.bool a1_0, .slice A1_1 l1_1.length c1_1, .slice A1_2 l1_2.length c1_2] 46 (0, 0)) (by (with_reducible repeat (fail)); exact BK480.out)) : gb480 ≠ gb481)); have n9_ := Aside0.mk ((by rw [hg]; exact Nat.ne_of_gt (blk_lt (g := gb480) (o := .cells #[.bool a1_0, .slice A1_1 l1_1.length c1_1, .slice A1_2 l1_2.length c1_2] 46 (0, 0)) (by (with_reducible repeat (fail)); exact BK480.out)) : gb481 ≠ gb480)); clear BK479; clear BK480; clear HB; have BK479 := n0_; have BK480 := n1_; have HB := n2_; have BK481 := n3_; have GW481 := n4_; have GE481 := n5_; have NB479_481 := n6_; have NB481_479 := n7_; have NB480_481 := n8_; have NB481_480 := n9_; clear n0_ n1_ n2_ n3_ n4_ n5_ n6_ n7_ n8_ n9_; clear hb hbox hg; have hnb97 := NB479_480.out; have hnc97 := NB480_479.out; have hnb98 := NB479_481.out; have hnc98 := NB481_479.out; have hcz99_0 : w96.cell? ⟨gb479, 0, none⟩ = some (.bool a0_0) := (blk_cell BK479.out 0).trans rfl; have hcz99_1 : w96.cell? ⟨gb479, 1, none⟩ = some (.slice A0_1 l0_1.length c0_1) := (blk_cell BK479.out 1).trans rfl; have hcz99_2 : w96.cell? ⟨gb479, 2, none⟩ = some (.slice A0_2 l0_2.length c0_2) := (blk_cell BK479.out 2).trans rfl; have hfz99_0 := blk_frozen BK479.out 0; have hfz99_1 := blk_frozen BK479.out 1; have hfz99_2 := blk_frozen BK479.out 2) | ((with_reducible refine gate_callee (f := 67) rfl ?_); refine goesL_ (some 9) rfl rfl Try.func67 (by kernel_rfl) rfl #[.agg #[.bool a0_0, .slice A0_1 l0_1.length c0_1, .slice A0_2 l0_2.length c0_2]] rfl (by (try simp only [List.map_toArray, List.map_cons, List.map_nil]); rfl) ?_; (with_reducible refine (codewrightref02_Trim.calls k a0_0 _ _ l0_1 _ _ l0_2 t482 t483 t486 _ ?side1 ?side2 ?side3 ?side4 A3.out).mono ?_); (case side1 => repeat (exact (Kd.C_below HR0_1.out HB.out))); (case side2 => exact HC0_1.out); (case side3 => repeat (exact (Kd.C_below HR0_2.out HB.out))); (case side4 => exact HC0_2.out); rintro e w100 ⟨v484, v487, rfl, ho0, ho1, hb⟩; refine ⟨_, rfl, ?_⟩; have n0_ := Aside0.mk (Kd.R_lower ho0 (below_size (by repeat ((with_reducible exact HB.out))))); have n1_ := Aside0.mk (Kd.R_lower ho1 (below_size (by repeat ((with_reducible exact HB.out))))); have n2_ := Aside0.mk (blk_below (g := gb479) (o := .cells #[.bool a0_0, .slice A0_1 l0_1.length c0_1, .slice A0_2 l0_2.length c0_2] 46 (0, 0)) (by (with_reducible repeat (fail)); exact BK479.out) hb); have n3_ := Aside0.mk (blk_below (g := gb480) (o := .cells #[.bool a1_0, .slice A1_1 l1_1.length c1_1, .slice A1_2 l1_2.length c1_2] 46 (0, 0)) (by (with_reducible repeat (fail)); exact BK480.out) hb); have n4_ := Aside0.mk (blk_below (g := gb481) (o := .cells #[.bool false, .slice none 0 0, .slice none 0 0] 46 (0, 0)) (by (with_reducible repeat (fail)); exact BK481.out) hb); have n5_ := Aside0.mk (below_step (by repeat ((with_reducible exact HB.out))) hb); clear BK479; clear BK480; clear BK481; clear HB; have HO485 := n0_; have HO488 := n1_; have BK479 := n2_; have BK480 := n3_; have BK481 := n4_; have HB := n5_; clear n0_ n1_ n2_ n3_ n4_ n5_; (try clear hb); (try clear ho0); (try clear ho1); have hcz101_0 : w100.cell? ⟨gb479, 0, none⟩ = some (.bool a0_0) := (blk_cell BK479.out 0).trans rfl; have hcz101_1 : w100.cell? ⟨gb479, 1, none⟩ = some (.slice A0_1 l0_1.length c0_1) := (blk_cell BK479.out 1).trans rfl; have hcz101_2 : w100.cell? ⟨gb479, 2, none⟩ = some (.slice A0_2 l0_2.length c0_2) := (blk_cell BK479.out 2).trans rfl; have hfz101_0 := blk_frozen BK479.out 0; have hfz101_1 := blk_frozen BK479.out 1; have hfz101_2 := blk_frozen BK479.out 2; obtain ⟨Ao102, co102, eo102⟩ := Kd.R_slice HO485.out; subst eo102; obtain ⟨Ao103, co103, eo103⟩ := Kd.R_slice HO488.out; subst eo103; have hnb104 := NB480_481.out; have hnc104 := NB481_480.out; have hcz105_0 : w100.cell? ⟨gb480, 0, none⟩ = some (.bool a1_0) := (blk_cell BK480.out 0).trans rfl; have hcz105_1 : w100.cell? ⟨gb480, 1, none⟩ = some (.slice A1_1 l1_1.length c1_1) := (blk_cell BK480.out 1).trans rfl; have hcz105_2 : w100.cell? ⟨gb480, 2, none⟩ = some (.slice A1_2 l1_2.length c1_2) := (blk_cell BK480.out 2).trans rfl; have hfz105_0 := blk_frozen BK480.out 0; have hfz105_1 := blk_frozen BK480.out 1; have hfz105_2 := blk_frozen BK480.out 2) | ((with_reducible refine gate_callee (f := 67) rfl ?_); refine goesL_ (some 11) rfl rfl Try.func67 (by kernel_rfl) rfl #[.agg #[.bool a1_0, .slice A1_1 l1_1.length c1_1, .slice A1_2 l1_2.length c1_2]] rfl (by (try simp only [List.map_toArray, List.map_cons, List.map_nil]); rfl) ?_; (with_reducible refine (codewrightref02_Trim.calls k a1_0 _ _ l1_1 _ _ l1_2 t489 t490 t493 _ ?side1 ?side2 ?side3 ?side4 A4.out).mono ?_); (case side1 => exact Kd.C_below HR1_1.out (by repeat ((with_reducible first | exact HB.out | refine below_set ?_ GE479.out)))); (case side2 => exact HC1_1.out); (case side3 => exact Kd.C_below HR1_2.out (by repeat ((with_reducible first | exact HB.out | refine below_set ?_ GE479.out)))); (case side4 => exact HC1_2.out); rintro e w106 ⟨v491, v494, rfl, ho0, ho1, hb⟩; refine ⟨_, rfl, ?_⟩; have n0_ := Aside0.mk (Kd.R_mono (Kd.R_told (Kd.R_told (Kd.R_old (by (with_reducible repeat (fail)); exact (Kd.R_mono (Kd.R_far (p := ⟨gb479, 2, none⟩) (Kd.R_far (p := ⟨gb479, 1, none⟩) (Kd.R_far (p := ⟨gb479, 0, none⟩) (Kd.R_types HO485.out BK479.out (by decide)) (fun _ hk => hk.2) (.bool t482)) (fun _ hk => hk.2) (.slice Ao102 t483.length co102)) (fun _ hk => hk.2) (.slice Ao103 t486.length co103)) (fun _ h_ => h_.1))) hb) (Kd.R_base ho0)) (Kd.R_base ho1)) (fun _ h_ => h_.1)); have n1_ := Aside0.mk (Kd.R_mono (Kd.R_told (Kd.R_told (Kd.R_old (by (with_reducible repeat (fail)); exact (Kd.R_mono (Kd.R_far (p := ⟨gb479, 2, none⟩) (Kd.R_far (p := ⟨gb479, 1, none⟩) (Kd.R_far (p := ⟨gb479, 0, none⟩) (Kd.R_types HO488.out BK479.out (by decide)) (fun _ hk => hk.2) (.bool t482)) (fun _ hk => hk.2) (.slice Ao102 t483.length co102)) (fun _ hk => hk.2) (.slice Ao103 t486.length co103)) (fun _ h_ => h_.1))) hb) (Kd.R_base ho0)) (Kd.R_base ho1)) (fun _ h_ => h_.1)); have n2_ := Aside0.mk (Kd.R_lower (Kd.R_new' (Kd.R_new' ho0 (Kd.R_lt (by (with_reducible repeat (fail)); exact (Kd.R_mono (Kd.R_far (p := ⟨gb479, 2, none⟩) (Kd.R_far (p := ⟨gb479, 1, none⟩) (Kd.R_far (p := ⟨gb479, 0, none⟩) (Kd.R_types HO485.out BK479.out (by decide)) (fun _ hk => hk.2) (.bool t482)) (fun _ hk => hk.2) (.slice Ao102 t483.length co102)) (fun _ hk => hk.2) (.slice Ao103 t486.length co103)) (fun _ h_ => h_.1))))) (Kd.R_lt (by (with_reducible repeat (fail)); exact (Kd.R_mono (Kd.R_far (p := ⟨gb479, 2, none⟩) (Kd.R_far (p := ⟨gb479, 1, none⟩) (Kd.R_far (p := ⟨gb479, 0, none⟩) (Kd.R_types HO488.out BK479.out (by decide)) (fun _ hk => hk.2) (.bool t482)) (fun _ hk => hk.2) (.slice Ao102 t483.length co102)) (fun _ hk => hk.2) (.slice Ao103 t486.length co103)) (fun _ h_ => h_.1))))) (below_size (by repeat ((with_reducible first | exact HB.out | refine below_set ?_ GE479.out))))); have n3_ := Aside0.mk (Kd.R_lower (Kd.R_new' (Kd.R_new' ho1 (Kd.R_lt (by (with_reducible repeat (fail)); exact (Kd.R_mono (Kd.R_far (p := ⟨gb479, 2, none⟩) (Kd.R_far (p := ⟨gb479, 1, none⟩) (Kd.R_far (p := ⟨gb479, 0, none⟩) (Kd.R_types HO485.out BK479.out (by decide)) (fun _ hk => hk.2) (.bool t482)) (fun _ hk => hk.2) (.slice Ao102 t483.length co102)) (fun _ hk => hk.2) (.slice Ao103 t486.length co103)) (fun _ h_ => h_.1))))) (Kd.R_lt (by (with_reducible repeat (fail)); exact (Kd.R_mono (Kd.R_far (p := ⟨gb479, 2, none⟩) (Kd.R_far (p := ⟨gb479, 1, none⟩) (Kd.R_far (p := ⟨gb479, 0, none⟩) (Kd.R_types HO488.out BK479.out (by decide)) (fun _ hk => hk.2) (.bool t482)) (fun _ hk => hk.2) (.slice Ao102 t483.length co102)) (fun _ hk => hk.2) (.slice Ao103 t486.length co103)) (fun _ h_ => h_.1))))) (below_size (by repeat ((with_reducible first | exact HB.out | refine below_set ?_ GE479.out))))); have n4_ := Aside0.mk (blk_below (g := gb479) (o := .cells #[.bool t482, .slice Ao102 t483.length co102, .slice Ao103 t486.length co103] 46 (0, 0)) (by (with_reducible repeat (fail)); refine blk_put (cs := #[.bool t482, .slice Ao102 t483.length co102, .slice A0_2 l0_2.length c0_2]) ?_ 2 _ rfl; (with_reducible repeat (fail)); refine blk_put (cs := #[.bool t482, .slice A0_1 l0_1.length c0_1, .slice A0_2 l0_2.length c0_2]) ?_ 1 _ rfl; (with_reducible repeat (fail)); refine blk_put (cs := #[.bool a0_0, .slice A0_1 l0_1.length c0_1, .slice A0_2 l0_2.length c0_2]) ?_ 0 _ rfl; (with_reducible repeat (fail)); exact BK479.out) hb); have n5_ := Aside0.mk (blk_below (g := gb480) (o := .cells #[.bool a1_0, .slice A1_1 l1_1.length c1_1, .slice A1_2 l1_2.length c1_2] 46 (0, 0)) (by (with_reducible repeat (fail)); refine blk_far ?_ NB480_479.out _; (with_reducible repeat (fail)); refine blk_far ?_ NB480_479.out _; (with_reducible repeat (fail)); refine blk_far ?_ NB480_479.out _; (with_reducible repeat (fail)); exact BK480.out) hb); have n6_ := Aside0.mk (blk_below (g := gb481) (o := .cells #[.bool false, .slice none 0 0, .slice none 0 0] 46 (0, 0)) (by (with_reducible repeat (fail)); refine blk_far ?_ NB481_479.out _; (with_reducible repeat (fail)); refine blk_far ?_ NB481_479.out _; (with_reducible repeat (fail)); refine blk_far ?_ NB481_479.out _; (with_reducible repeat (fail)); exact BK481.out) hb); have n7_ := Aside0.mk (below_step (by repeat ((with_reducible first | exact HB.out | refine below_set ?_ GE479.out))) hb); clear HO485; clear HO488; clear BK479; clear BK480; clear BK481; clear HB; have HO485 := n0_; have HO488 := n1_; have HO492 := n2_; have HO495 := n3_; have BK479 := n4_; have BK480 := n5_; have BK481 := n6_; have HB := n7_; clear n0_ n1_ n2_ n3_ n4_ n5_ n6_ n7_; (try clear hb); (try clear ho0); (try clear ho1); have hcz107_0 : w106.cell? ⟨gb480, 0, none⟩ = some (.bool a1_0) := (blk_cell BK480.out 0).trans rfl; have hcz107_1 : w106.cell? ⟨gb480, 1, none⟩ = some (.slice A1_1 l1_1.length c1_1) := (blk_cell BK480.out 1).trans rfl; have hcz107_2 : w106.cell? ⟨gb480, 2, none⟩ = some (.slice A1_2 l1_2.length c1_2) := (blk_cell BK480.out 2).trans rfl; have hfz107_0 := blk_frozen BK480.out 0; have hfz107_1 := blk_frozen BK480.out 1; have hfz107_2 := blk_frozen BK480.out 2; obtain ⟨Ao108, co108, eo108⟩ := Kd.R_slice HO492.out; subst eo108; obtain ⟨Ao109, co109, eo109⟩ := Kd.R_slice HO495.out; subst eo109; have hcz110_0 : w106.cell? ⟨gb479, 0, none⟩ = some (.bool t482) := (blk_cell BK479.out 0).trans rfl; have hcz110_1 : w106.cell? ⟨gb479, 1, none⟩ = some (.slice Ao102 t483.length co102) := (blk_cell BK479.out 1).trans rfl; have hcz110_2 : w106.cell? ⟨gb479, 2, none⟩ = some (.slice Ao103 t486.length co103) := (blk_cell BK479.out 2).trans rfl; have hfz110_0 := blk_frozen BK479.out 0; have hfz110_1 := blk_frozen BK479.out 1; have hfz110_2 := blk_frozen BK479.out 2) | ((with_reducible refine gate_callee (f := 68) rfl ?_); refine goesL_ (some 16) rfl rfl Try.func68 (by kernel_rfl) rfl #[.slice Ao102 t483.length co102, .slice Ao109 t493.length co109] rfl (by (try simp only [List.map_toArray, List.map_cons, List.map_nil]); rfl) ?_; (with_reducible refine (codewrightref01_Mul.calls k _ _ t483 _ _ t493 t496 _ ?side1 ?side2 ?side3 ?side4 A5.out).mono ?_); (case side1 => refine (Kd.R_reads' (e := 100) (base := w.heap.size) (ok := fun k_ => ((some k_ ≠ (.slice Ao103 t486.length co103 : Value).ownBlock ∧ some k_ ≠ (.slice Ao108 t490.length co108 : Value).ownBlock) ∧ some k_ ≠ (.slice Ao109 t493.length co109 : Value).ownBlock)) (n := t483.length) (c := co102) ?_).2.2; exact (by (with_reducible repeat (fail)); exact (Kd.R_mono (Kd.R_far (p := ⟨gb480, 2, none⟩) (Kd.R_far (p := ⟨gb480, 1, none⟩) (Kd.R_far (p := ⟨gb480, 0, none⟩) (Kd.R_types HO485.out BK480.out (by decide)) (fun _ hk => hk.2) (.bool t489)) (fun _ hk => hk.2) (.slice Ao108 t490.length co108)) (fun _ hk => hk.2) (.slice Ao109 t493.length co109)) (fun _ h_ => h_.1)))); (case side2 => exact (Kd.R_reads' HO485.out).2.1); (case side3 => refine (Kd.R_reads' (e := 100) (base := w.heap.size) (ok := fun k_ => ((some k_ ≠ (.slice Ao108 t490.length co108 : Value).ownBlock ∧ some k_ ≠ (.slice Ao102 t483.length co102 : Value).ownBlock) ∧ some k_ ≠ (.slice Ao103 t486.length co103 : Value).ownBlock)) (n := t493.length) (c := co109) ?_).2.2; exact (by (with_reducible repeat (fail)); exact (Kd.R_mono (Kd.R_far (p := ⟨gb480, 2, none⟩) (Kd.R_far (p := ⟨gb480, 1, none⟩) (Kd.R_far (p := ⟨gb480, 0, none⟩) (Kd.R_types HO495.out BK480.out (by decide)) (fun _ hk => hk.2) (.bool t489)) (fun _ hk => hk.2) (.slice Ao108 t490.length co108)) (fun _ hk => hk.2) (.slice Ao109 t493.length co109)) (fun _ h_ => h_.1)))); (case side4 => exact (Kd.R_reads' HO495.out).2.1); rintro e w111 ⟨v497, rfl, ho0, hb⟩; refine ⟨_, rfl, ?_⟩; have n0_ := Aside0.mk (Kd.R_elder' (by (with_reducible repeat (fail)); exact (Kd.R_mono (Kd.R_far (p := ⟨gb480, 2, none⟩) (Kd.R_far (p := ⟨gb480, 1, none⟩) (Kd.R_far (p := ⟨gb480, 0, none⟩) (Kd.R_types HO485.out BK480.out (by decide)) (fun _ hk => hk.2) (.bool t489)) (fun _ hk => hk.2) (.slice Ao108 t490.length co108)) (fun _ hk => hk.2) (.slice Ao109 t493.length co109)) (fun _ h_ => h_.1))) (Kd.R_base ho0) hb); have n1_ := Aside0.mk (Kd.R_elder' (by (with_reducible repeat (fail)); exact (Kd.R_mono (Kd.R_far (p := ⟨gb480, 2, none⟩) (Kd.R_far (p := ⟨gb480, 1, none⟩) (Kd.R_far (p := ⟨gb480, 0, none⟩) (Kd.R_types HO488.out BK480.out (by decide)) (fun _ hk => hk.2) (.bool t489)) (fun _ hk => hk.2) (.slice Ao108 t490.length co108)) (fun _ hk => hk.2) (.slice Ao109 t493.length co109)) (fun _ h_ => h_.1))) (Kd.R_base ho0) hb); have n2_ := Aside0.mk (Kd.R_elder' (by (with_reducible repeat (fail)); exact (Kd.R_mono (Kd.R_far (p := ⟨gb480, 2, none⟩) (Kd.R_far (p := ⟨gb480, 1, none⟩) (Kd.R_far (p := ⟨gb480, 0, none⟩) (Kd.R_types HO492.out BK480.out (by decide)) (fun _ hk => hk.2) (.bool t489)) (fun _ hk => hk.2) (.slice Ao108 t490.length co108)) (fun _ hk => hk.2) (.slice Ao109 t493.length co109)) (fun _ h_ => h_.1))) (Kd.R_base ho0) hb); have n3_ := Aside0.mk (Kd.R_elder' (by (with_reducible repeat (fail)); exact (Kd.R_mono (Kd.R_far (p := ⟨gb480, 2, none⟩) (Kd.R_far (p := ⟨gb480, 1, none⟩) (Kd.R_far (p := ⟨gb480, 0, none⟩) (Kd.R_types HO495.out BK480.out (by decide)) (fun _ hk => hk.2) (.bool t489)) (fun _ hk => hk.2) (.slice Ao108 t490.length co108)) (fun _ hk => hk.2) (.slice Ao109 t493.length co109)) (fun _ h_ => h_.1))) (Kd.R_base ho0) hb); have n4_ := Aside0.mk (Kd.R_lower (Kd.R_new' (Kd.R_new' (Kd.R_new' (Kd.R_new' ho0 (Kd.R_lt (by (with_reducible repeat (fail)); exact (Kd.R_mono (Kd.R_far (p := ⟨gb480, 2, none⟩) (Kd.R_far (p := ⟨gb480, 1, none⟩) (Kd.R_far (p := ⟨gb480, 0, none⟩) (Kd.R_types HO485.out BK480.out (by decide)) (fun _ hk => hk.2) (.bool t489)) (fun _ hk => hk.2) (.slice Ao108 t490.length co108)) (fun _ hk => hk.2) (.slice Ao109 t493.length co109)) (fun _ h_ => h_.1))))) (Kd.R_lt (by (with_reducible repeat (fail)); exact (Kd.R_mono (Kd.R_far (p := ⟨gb480, 2, none⟩) (Kd.R_far (p := ⟨gb480, 1, none⟩) (Kd.R_far (p := ⟨gb480, 0, none⟩) (Kd.R_types HO488.out BK480.out (by decide)) (fun _ hk => hk.2) (.bool t489)) (fun _ hk => hk.2) (.slice Ao108 t490.length co108)) (fun _ hk => hk.2) (.slice Ao109 t493.length co109)) (fun _ h_ => h_.1))))) (Kd.R_lt (by (with_reducible repeat (fail)); exact (Kd.R_mono (Kd.R_far (p := ⟨gb480, 2, none⟩) (Kd.R_far (p := ⟨gb480, 1, none⟩) (Kd.R_far (p := ⟨gb480, 0, none⟩) (Kd.R_types HO492.out BK480.out (by decide)) (fun _ hk => hk.2) (.bool t489)) (fun _ hk => hk.2) (.slice Ao108 t490.length co108)) (fun _ hk => hk.2) (.slice Ao109 t493.length co109)) (fun _ h_ => h_.1))))) (Kd.R_lt (by (with_reducible repeat (fail)); exact (Kd.R_mono (Kd.R_far (p := ⟨gb480, 2, none⟩) (Kd.R_far (p := ⟨gb480, 1, none⟩) (Kd.R_far (p := ⟨gb480, 0, none⟩) (Kd.R_types HO495.out BK480.out (by decide)) (fun _ hk => hk.2) (.bool t489)) (fun _ hk => hk.2) (.slice Ao108 t490.length co108)) (fun _ hk => hk.2) (.slice Ao109 t493.length co109)) (fun _ h_ => h_.1))))) (below_size (by repeat ((with_reducible first | exact HB.out | refine below_set ?_ GE480.out))))); have n5_ := Aside0.mk (blk_below (g := gb479) (o := .cells #[.bool t482, .slice Ao102 t483.length co102, .slice Ao103 t486.length co103] 46 (0, 0)) (by (with_reducible repeat (fail)); refine blk_far ?_ NB479_480.out _; (with_reducible repeat (fail)); refine blk_far ?_ NB479_480.out _; (with_reducible repeat (fail)); refine blk_far ?_ NB479_480.out _; (with_reducible repeat (fail)); exact BK479.out) hb); have n6_ := Aside0.mk (blk_below (g := gb480) (o := .cells #[.bool t489, .slice Ao108 t490.length co108, .slice Ao109 t493.length co109] 46 (0, 0)) (by (with_reducible repeat (fail)); refine blk_put (cs := #[.bool t489, .slice Ao108 t490.length co108, .slice A1_2 l1_2.length c1_2]) ?_ 2 _ rfl; (with_reducible repeat (fail)); refine blk_put (cs := #[.bool t489, .slice A1_1 l1_1.length c1_1, .slice A1_2 l1_2.length c1_2]) ?_ 1 _ rfl; (with_reducible repeat (fail)); refine blk_put (cs := #[.bool a1_0, .slice A1_1 l1_1.length c1_1, .slice A1_2 l1_2.length c1_2]) ?_ 0 _ rfl; (with_reducible repeat (fail)); exact BK480.out) hb); have n7_ := Aside0.mk (blk_below (g := gb481) (o := .cells #[.bool false, .slice none 0 0, .slice none 0 0] 46 (0, 0)) (by (with_reducible repeat (fail)); refine blk_far ?_ NB481_480.out _; (with_reducible repeat (fail)); refine blk_far ?_ NB481_480.out _; (with_reducible repeat (fail)); refine blk_far ?_ NB481_480.out _; (with_reducible repeat (fail)); exact BK481.out) hb); have n8_ := Aside0.mk (below_step (by repeat ((with_reducible first | exact HB.out | refine below_set ?_ GE480.out))) hb); clear HO485; clear HO488; clear HO492; clear HO495; clear BK479; clear BK480; clear BK481; clear HB; have HO485 := n0_; have HO488 := n1_; have HO492 := n2_; have HO495 := n3_; have HO498 := n4_; have BK479 := n5_; have BK480 := n6_; have BK481 := n7_; have HB := n8_; clear n0_ n1_ n2_ n3_ n4_ n5_ n6_ n7_ n8_; (try clear hb); (try clear ho0); have hcz112_0 : w111.cell? ⟨gb480, 0, none⟩ = some (.bool t489) := (blk_cell BK480.out 0).trans rfl; have hcz112_1 : w111.cell? ⟨gb480, 1, none⟩ = some (.slice Ao108 t490.length co108) := (blk_cell BK480.out 1).trans rfl; have hcz112_2 : w111.cell? ⟨gb480, 2, none⟩ = some (.slice Ao109 t493.length co109) := (blk_cell BK480.out 2).trans rfl; have hfz112_0 := blk_frozen BK480.out 0; have hfz112_1 := blk_frozen BK480.out 1; have hfz112_2 := blk_frozen BK480.out 2; have hcz113_0 : w111.cell? ⟨gb479, 0, none⟩ = some (.bool t482) := (blk_cell BK479.out 0).trans rfl; have hcz113_1 : w111.cell? ⟨gb479, 1, none⟩ = some (.slice Ao102 t483.length co102) := (blk_cell BK479.out 1).trans rfl; have hcz113_2 : w111.cell? ⟨gb479, 2, none⟩ = some (.slice Ao103 t486.length co103) := (blk_cell BK479.out 2).trans rfl; have hfz113_0 := blk_frozen BK479.out 0; have hfz113_1 := blk_frozen BK479.out 1; have hfz113_2 := blk_frozen BK479.out 2) | ((with_reducible refine gate_callee (f := 68) rfl ?_); refine goesL_ (some 21) rfl rfl Try.func68 (by kernel_rfl) rfl #[.slice Ao108 t490.length co108, .slice Ao103 t486.length co103] rfl (by (try simp only [List.map_toArray, List.map_cons, List.map_nil]); rfl) ?_; (with_reducible refine (codewrightref01_Mul.calls k _ _ t490 _ _ t486 t499 _ ?side1 ?side2 ?side3 ?side4 A6.out).mono ?_); (case side1 => exact (Kd.R_reads' HO492.out).2.2); (case side2 => exact (Kd.R_reads' HO492.out).2.1); (case side3 => exact (Kd.R_reads' HO488.out).2.2); (case side4 => exact (Kd.R_reads' HO488.out).2.1); rintro e w114 ⟨v500, rfl, ho0, hb⟩; refine ⟨_, rfl, ?_⟩; have n0_ := Aside0.mk (Kd.R_elder' (by (with_reducible repeat (fail)); exact HO485.out) (Kd.R_base ho0) hb); have n1_ := Aside0.mk (Kd.R_elder' (by (with_reducible repeat (fail)); exact HO488.out) (Kd.R_base ho0) hb); have n2_ := Aside0.mk (Kd.R_elder' (by (with_reducible repeat (fail)); exact HO492.out) (Kd.R_base ho0) hb); have n3_ := Aside0.mk (Kd.R_elder' (by (with_reducible repeat (fail)); exact HO495.out) (Kd.R_base ho0) hb); have n4_ := Aside0.mk (Kd.R_elder' (by (with_reducible repeat (fail)); exact HO498.out) (Kd.R_base ho0) hb); have n5_ := Aside0.mk (Kd.R_lower (Kd.R_new' (Kd.R_new' (Kd.R_new' (Kd.R_new' (Kd.R_new' ho0 (Kd.R_lt (by (with_reducible repeat (fail)); exact HO485.out))) (Kd.R_lt (by (with_reducible repeat (fail)); exact HO488.out))) (Kd.R_lt (by (with_reducible repeat (fail)); exact HO492.out))) (Kd.R_lt (by (with_reducible repeat (fail)); exact HO495.out))) (Kd.R_lt (by (with_reducible repeat (fail)); exact HO498.out))) (below_size (by repeat ((with_reducible exact HB.out))))); have n6_ := Aside0.mk (blk_below (g := gb479) (o := .cells #[.bool t482, .slice Ao102 t483.length co102, .slice Ao103 t486.length co103] 46 (0, 0)) (by (with_reducible repeat (fail)); exact BK479.out) hb); have n7_ := Aside0.mk (blk_below (g := gb480) (o := .cells #[.bool t489, .slice Ao108 t490.length co108, .slice Ao109 t493.length co109] 46 (0, 0)) (by (with_reducible repeat (fail)); exact BK480.out) hb); have n8_ := Aside0.mk (blk_below (g := gb481) (o := .cells #[.bool false, .slice none 0 0, .slice none 0 0] 46 (0, 0)) (by (with_reducible repeat (fail)); exact BK481.out) hb); have n9_ := Aside0.mk (below_step (by repeat ((with_reducible exact HB.out))) hb); clear HO485; clear HO488; clear HO492; clear HO495; clear HO498; clear BK479; clear BK480; clear BK481; clear HB; have HO485 := n0_; have HO488 := n1_; have HO492 := n2_; have HO495 := n3_; have HO498 := n4_; have HO501 := n5_; have BK479 := n6_; have BK480 := n7_; have BK481 := n8_; have HB := n9_; clear n0_ n1_ n2_ n3_ n4_ n5_ n6_ n7_ n8_ n9_; (try clear hb); (try clear ho0); have hcz115_0 : w114.cell? ⟨gb479, 0, none⟩ = some (.bool t482) := (blk_cell BK479.out 0).trans rfl; have hcz115_1 : w114.cell? ⟨gb479, 1, none⟩ = some (.slice Ao102 t483.length co102) := (blk_cell BK479.out 1).trans rfl; have hcz115_2 : w114.cell? ⟨gb479, 2, none⟩ = some (.slice Ao103 t486.length co103) := (blk_cell BK479.out 2).trans rfl; have hfz115_0 := blk_frozen BK479.out 0; have hfz115_1 := blk_frozen BK479.out 1; have hfz115_2 := blk_frozen BK479.out 2; have hcz116_0 : w114.cell? ⟨gb480, 0, none⟩ = some (.bool t489) := (blk_cell BK480.out 0).trans rfl; have hcz116_1 : w114.cell? ⟨gb480, 1, none⟩ = some (.slice Ao108 t490.length co108) := (blk_cell BK480.out 1).trans rfl; have hcz116_2 : w114.cell? ⟨gb480, 2, none⟩ = some (.slice Ao109 t493.length co109) := (blk_cell BK480.out 2).trans rfl; have hfz116_0 := blk_frozen BK480.out 0; have hfz116_1 := blk_frozen BK480.out 1; have hfz116_2 := blk_frozen BK480.out 2) | ((with_reducible refine gate_callee (f := 68) rfl ?_); refine goesL_ (some 26) rfl rfl Try.func68 (by kernel_rfl) rfl #[.slice Ao103 t486.length co103, .slice Ao109 t493.length co109] rfl (by (try simp only [List.map_toArray, List.map_cons, List.map_nil]); rfl) ?_; (with_reducible refine (codewrightref01_Mul.calls k _ _ t486 _ _ t493 t502 _ ?side1 ?side2 ?side3 ?side4 A7.out).mono ?_); (case side1 => exact (Kd.R_reads' HO488.out).2.2); (case side2 => exact (Kd.R_reads' HO488.out).2.1); (case side3 => exact (Kd.R_reads' HO495.out).2.2); (case side4 => exact (Kd.R_reads' HO495.out).2.1); rintro e w117 ⟨v503, rfl, ho0, hb⟩; refine ⟨_, rfl, ?_⟩; have n0_ := Aside0.mk (Kd.R_elder' (by (with_reducible repeat (fail)); exact HO485.out) (Kd.R_base ho0) hb); have n1_ := Aside0.mk (Kd.R_elder' (by (with_reducible repeat (fail)); exact HO488.out) (Kd.R_base ho0) hb); have n2_ := Aside0.mk (Kd.R_elder' (by (with_reducible repeat (fail)); exact HO492.out) (Kd.R_base ho0) hb); have n3_ := Aside0.mk (Kd.R_elder' (by (with_reducible repeat (fail)); exact HO495.out) (Kd.R_base ho0) hb); have n4_ := Aside0.mk (Kd.R_elder' (by (with_reducible repeat (fail)); exact HO498.out) (Kd.R_base ho0) hb); have n5_ := Aside0.mk (Kd.R_elder' (by (with_reducible repeat (fail)); exact HO501.out) (Kd.R_base ho0) hb); have n6_ := Aside0.mk (Kd.R_lower (Kd.R_new' (Kd.R_new' (Kd.R_new' (Kd.R_new' (Kd.R_new' (Kd.R_new' ho0 (Kd.R_lt (by (with_reducible repeat (fail)); exact HO485.out))) (Kd.R_lt (by (with_reducible repeat (fail)); exact HO488.out))) (Kd.R_lt (by (with_reducible repeat (fail)); exact HO492.out))) (Kd.R_lt (by (with_reducible repeat (fail)); exact HO495.out))) (Kd.R_lt (by (with_reducible repeat (fail)); exact HO498.out))) (Kd.R_lt (by (with_reducible repeat (fail)); exact HO501.out))) (below_size (by repeat ((with_reducible exact HB.out))))); have n7_ := Aside0.mk (blk_below (g := gb479) (o := .cells #[.bool t482, .slice Ao102 t483.length co102, .slice Ao103 t486.length co103] 46 (0, 0)) (by (with_reducible repeat (fail)); exact BK479.out) hb); have n8_ := Aside0.mk (blk_below (g := gb480) (o := .cells #[.bool t489, .slice Ao108 t490.length co108, .slice Ao109 t493.length co109] 46 (0, 0)) (by (with_reducible repeat (fail)); exact BK480.out) hb); have n9_ := Aside0.mk (blk_below (g := gb481) (o := .cells #[.bool false, .slice none 0 0, .slice none 0 0] 46 (0, 0)) (by (with_reducible repeat (fail)); exact BK481.out) hb); have n10_ := Aside0.mk (below_step (by repeat ((with_reducible exact HB.out))) hb); clear HO485; clear HO488; clear HO492; clear HO495; clear HO498; clear HO501; clear BK479; clear BK480; clear BK481; clear HB; have HO485 := n0_; have HO488 := n1_; have HO492 := n2_; have HO495 := n3_; have HO498 := n4_; have HO501 := n5_; have HO504 := n6_; have BK479 := n7_; have BK480 := n8_; have BK481 := n9_; have HB := n10_; clear n0_ n1_ n2_ n3_ n4_ n5_ n6_ n7_ n8_ n9_ n10_; (try clear hb); (try clear ho0); have hcz118_0 : w117.cell? ⟨gb479, 0, none⟩ = some (.bool t482) := (blk_cell BK479.out 0).trans rfl; have hcz118_1 : w117.cell? ⟨gb479, 1, none⟩ = some (.slice Ao102 t483.length co102) := (blk_cell BK479.out 1).trans rfl; have hcz118_2 : w117.cell? ⟨gb479, 2, none⟩ = some (.slice Ao103 t486.length co103) := (blk_cell BK479.out 2).trans rfl; have hfz118_0 := blk_frozen BK479.out 0; have hfz118_1 := blk_frozen BK479.out 1; have hfz118_2 := blk_frozen BK479.out 2; have hcz119_0 : w117.cell? ⟨gb480, 0, none⟩ = some (.bool t489) := (blk_cell BK480.out 0).trans rfl; have hcz119_1 : w117.cell? ⟨gb480, 1, none⟩ = some (.slice Ao108 t490.length co108) := (blk_cell BK480.out 1).trans rfl; have hcz119_2 : w117.cell? ⟨gb480, 2, none⟩ = some (.slice Ao109 t493.length co109) := (blk_cell BK480.out 2).trans rfl; have hfz119_0 := blk_frozen BK480.out 0; have hfz119_1 := blk_frozen BK480.out 1; have hfz119_2 := blk_frozen BK480.out 2; obtain ⟨Ao120, co120, eo120⟩ := Kd.R_slice HO498.out; subst eo120; obtain ⟨Ao121, co121, eo121⟩ := Kd.R_slice HO501.out; subst eo121) | ((with_reducible refine gate_callee (f := 71) rfl ?_); refine goesL_ (some 41) rfl rfl Try.func71 (by kernel_rfl) rfl #[.slice Ao120 t496.length co120, .slice Ao121 t499.length co121] rfl (by (try simp only [List.map_toArray, List.map_cons, List.map_nil]); rfl) ?_; (with_reducible refine (codewrightref01_Cmp.calls k _ _ t496 _ _ t499 t515 _ ?side1 ?side2 ?side3 ?side4 A49.out).mono ?_); (case side1 => exact (Kd.R_reads' HO498.out).2.2); (case side2 => exact (Kd.R_reads' HO498.out).2.1); (case side3 => exact (Kd.R_reads' HO501.out).2.2); (case side4 => exact (Kd.R_reads' HO501.out).2.1); rintro e w122 ⟨rfl, hb⟩; refine ⟨_, rfl, ?_⟩; have n0_ := Aside0.mk (Kd.R_below (by (with_reducible repeat (fail)); exact HO485.out) hb); have n1_ := Aside0.mk (Kd.R_below (by (with_reducible repeat (fail)); exact HO488.out) hb); have n2_ := Aside0.mk (Kd.R_below (by (with_reducible repeat (fail)); exact HO492.out) hb); have n3_ := Aside0.mk (Kd.R_below (by (with_reducible repeat (fail)); exact HO495.out) hb); have n4_ := Aside0.mk (Kd.R_below (by (with_reducible repeat (fail)); exact HO498.out) hb); have n5_ := Aside0.mk (Kd.R_below (by (with_reducible repeat (fail)); exact HO501.out) hb); have n6_ := Aside0.mk (Kd.R_below (by (with_reducible repeat (fail)); exact HO504.out) hb); have n7_ := Aside0.mk (blk_below (g := gb479) (o := .cells #[.bool t482, .slice Ao102 t483.length co102, .slice Ao103 t486.length co103] 46 (0, 0)) (by (with_reducible repeat (fail)); exact BK479.out) hb); have n8_ := Aside0.mk (blk_below (g := gb480) (o := .cells #[.bool t489, .slice Ao108 t490.length co108, .slice Ao109 t493.length co109] 46 (0, 0)) (by (with_reducible repeat (fail)); exact BK480.out) hb); have n9_ := Aside0.mk (blk_below (g := gb481) (o := .cells #[.bool false, .slice none 0 0, .slice none 0 0] 46 (0, 0)) (by (with_reducible repeat (fail)); exact BK481.out) hb); have n10_ := Aside0.mk (below_step (by repeat ((with_reducible exact HB.out))) hb); clear HO485; clear HO488; clear HO492; clear HO495; clear HO498; clear HO501; clear HO504; clear BK479; clear BK480; clear BK481; clear HB; have HO485 := n0_; have HO488 := n1_; have HO492 := n2_; have HO495 := n3_; have HO498 := n4_; have HO501 := n5_; have HO504 := n6_; have BK479 := n7_; have BK480 := n8_; have BK481 := n9_; have HB := n10_; clear n0_ n1_ n2_ n3_ n4_ n5_ n6_ n7_ n8_ n9_ n10_; (try clear hb)))
   have n0_ := Aside0.mk (Kd.R_drew HO485.out)
   have n1_ := Aside0.mk (Kd.R_drew HO488.out)
   have n2_ := Aside0.mk (Kd.R_drew HO492.out)
   have n3_ := Aside0.mk (Kd.R_drew HO495.out)
   have n4_ := Aside0.mk (Kd.R_drew HO498.out)
   have n5_ := Aside0.mk (Kd.R_drew HO501.out)
   have n6_ := Aside0.mk (Kd.R_drew HO504.out)
   have n7_ := Aside0.mk (blk_drew BK479.out)
   have n8_ := Aside0.mk (blk_drew BK480.out)
   have n9_ := Aside0.mk (blk_drew BK481.out)
   have n10_ := Aside0.mk (below_drew1 HB.out)
   clear HO485
   clear HO488
   clear HO492
   clear HO495
   clear HO498
   clear HO501
   clear HO504
   clear BK479
   clear BK480
   clear BK481
   clear HB
   have HO485 := n0_
   have HO488 := n1_
   have HO492 := n2_
   have HO495 := n3_
   have HO498 := n4_
   have HO501 := n5_
   have HO504 := n6_
   have BK479 := n7_
   have BK480 := n8_
   have BK481 := n9_
   have HB := n10_
   clear n0_ n1_ n2_ n3_ n4_ n5_ n6_ n7_ n8_ n9_ n10_
   refine start_ (n := 8) (S := fun w' => w'.cell? ⟨gb480, 0, none⟩ = some (.bool t489) ∧ w'.cell? ⟨gb480, 1, none⟩ = some (.slice Ao108 t490.length co108) ∧ w'.cell? ⟨gb480, 2, none⟩ = some (.slice Ao109 t493.length co109)) (ds := []) #[false, false, false, false, false, false, false, false] (by kernel_rfl) rfl rfl ⟨(blk_cell BK480.out 0).trans rfl, (blk_cell BK480.out 1).trans rfl, (blk_cell BK480.out 2).trans rfl⟩ (fun hHeld => ?_); refine with_tabW codewrightref02_Add.tab10 codewrightref02_Add.bits10 (fun HT_ HW_ => ?_)
   generalize w122.drew = w123 at HO485 HO488 HO492 HO495 HO498 HO501 HO504 BK479 BK480 BK481 HB hHeld ⊢
   refine pure_ (i := 0) (N := some 50) (v := ?_) (a' := ?_) #[true, false, false, false, false, false, false, false] rfl rfl (any_of HT_.out (by kernel_rfl)) (fun _ _ _ h => h) (Or.inl ⟨by rfl, ?_⟩) ?_ ?_
   rotate_left
   ·intro w'
    go_simp
    with_reducible rfl
   rotate_left
   ·simp only [Act.put, List.setIfInBounds_toArray, List.set_cons_zero, List.set_cons_succ, i64_w, i32_w]
    rfl
   refine pure_ (i := 2) (N := some 52) (v := ?_) (a' := ?_) #[true, false, true, false, false, false, false, false] rfl rfl (any_of HT_.out (by kernel_rfl)) (fun _ _ _ h => h) (Or.inl ⟨by rfl, ?_⟩) ?_ ?_
   rotate_left
   ·intro w'
    go_simp
    with_reducible rfl
   rotate_left
   ·simp only [Act.put, List.setIfInBounds_toArray, List.set_cons_zero, List.set_cons_succ, i64_w, i32_w]
    rfl
   refine pure_ (i := 3) (N := some 53) (v := ?_) (a' := ?_) #[true, false, true, true, false, false, false, false] rfl rfl (any_of HT_.out (by kernel_rfl)) (fun _ _ _ h => h) (Or.inl ⟨by rfl, ?_⟩) ?_ ?_
   rotate_left
   ·intro w'
    go_simp
    with_reducible rfl
   rotate_left
   ·simp only [Act.put, List.setIfInBounds_toArray, List.set_cons_zero, List.set_cons_succ, i64_w, i32_w]
    rfl
   refine pure_ (i := 5) (N := some 55) (v := ?_) (a' := ?_) #[true, false, true, true, false, true, false, false] rfl rfl (any_of HT_.out (by kernel_rfl)) (fun _ _ _ h => h) (Or.inl ⟨by rfl, ?_⟩) ?_ ?_
   rotate_left
   ·intro w'
    go_simp
    with_reducible rfl
   rotate_left
   ·simp only [Act.put, List.setIfInBounds_toArray, List.set_cons_zero, List.set_cons_succ, i64_w, i32_w]
    rfl
   refine take_ (i := 1) (N := some 51) (v := ?_) (a' := ?_) #[true, true, true, true, false, true, false, false] rfl rfl (take_ofW HT_.out HW_.out (by kernel_rfl)) (fun _ _ _ h => h) (Or.inl ⟨by rfl, ?_⟩) hHeld ?_ ?_
   rotate_left
   ·rintro w' ⟨s0, s1, s2⟩
    go_simp
    with_reducible rfl
   rotate_left
   ·simp only [Act.put, List.setIfInBounds_toArray, List.set_cons_zero, List.set_cons_succ, i64_w, i32_w]
    rfl
   refine one_ (i := 4) (N := some 54) #[true, true, true, true, true, true, false, false] rfl rfl (one_of HT_.out (by kernel_rfl)) (by decide) (fun K hK => ?_)
   refine goes_ Try.func72 (by kernel_rfl) rfl #[.slice Ao121 t499.length co121, .slice Ao120 t496.length co120] (by rfl) rfl rfl (by (try simp only [List.map_toArray, List.map_cons, List.map_nil]); rfl) ?_
   with_reducible refine (codewrightref01_Sub.calls k _ _ t499 _ _ t496 t526 _ ?side1 ?side2 ?side3 ?side4 A92.out).mono ?_
   (case side1 => exact (Kd.R_reads' HO501.out).2.2)
   (case side2 => exact (Kd.R_reads' HO501.out).2.1)
   (case side3 => exact (Kd.R_reads' HO498.out).2.2)
   (case side4 => exact (Kd.R_reads' HO498.out).2.1)
   rintro e w124 ⟨v527, rfl, ho0, hb⟩
   refine ⟨_, rfl, ?_⟩
   have n0_ := Aside0.mk (Kd.R_elder' (by (with_reducible repeat (fail)); exact HO485.out) (Kd.R_base ho0) hb)
   have n1_ := Aside0.mk (Kd.R_elder' (by (with_reducible repeat (fail)); exact HO488.out) (Kd.R_base ho0) hb)
   have n2_ := Aside0.mk (Kd.R_elder' (by (with_reducible repeat (fail)); exact HO492.out) (Kd.R_base ho0) hb)
   have n3_ := Aside0.mk (Kd.R_elder' (by (with_reducible repeat (fail)); exact HO495.out) (Kd.R_base ho0) hb)
   have n4_ := Aside0.mk (Kd.R_elder' (by (with_reducible repeat (fail)); exact HO498.out) (Kd.R_base ho0) hb)
   have n5_ := Aside0.mk (Kd.R_elder' (by (with_reducible repeat (fail)); exact HO501.out) (Kd.R_base ho0) hb)
   have n6_ := Aside0.mk (Kd.R_elder' (by (with_reducible repeat (fail)); exact HO504.out) (Kd.R_base ho0) hb)
   have n7_ := Aside0.mk (Kd.R_lower (Kd.R_new' (Kd.R_new' (Kd.R_new' (Kd.R_new' (Kd.R_new' (Kd.R_new' (Kd.R_new' ho0 (Kd.R_lt (by (with_reducible repeat (fail)); exact HO485.out))) (Kd.R_lt (by (with_reducible repeat (fail)); exact HO488.out))) (Kd.R_lt (by (with_reducible repeat (fail)); exact HO492.out))) (Kd.R_lt (by (with_reducible repeat (fail)); exact HO495.out))) (Kd.R_lt (by (with_reducible repeat (fail)); exact HO498.out))) (Kd.R_lt (by (with_reducible repeat (fail)); exact HO501.out))) (Kd.R_lt (by (with_reducible repeat (fail)); exact HO504.out))) (below_size (by repeat ((with_reducible exact HB.out)))))
   have n8_ := Aside0.mk (blk_below (g := gb479) (o := .cells #[.bool t482, .slice Ao102 t483.length co102, .slice Ao103 t486.length co103] 46 (0, 0)) (by (with_reducible repeat (fail)); exact BK479.out) hb)
   have n9_ := Aside0.mk (blk_below (g := gb480) (o := .cells #[.bool t489, .slice Ao108 t490.length co108, .slice Ao109 t493.length co109] 46 (0, 0)) (by (with_reducible repeat (fail)); exact BK480.out) hb)
   have n10_ := Aside0.mk (blk_below (g := gb481) (o := .cells #[.bool false, .slice none 0 0, .slice none 0 0] 46 (0, 0)) (by (with_reducible repeat (fail)); exact BK481.out) hb)
   have n11_ := Aside0.mk (below_step (by repeat ((with_reducible exact HB.out))) hb)
   clear HO485
   clear HO488
   clear HO492
   clear HO495
   clear HO498
   clear HO501
   clear HO504
   clear BK479
   clear BK480
   clear BK481
   clear HB
   have HO485 := n0_
   have HO488 := n1_
   have HO492 := n2_
   have HO495 := n3_
   have HO498 := n4_
   have HO501 := n5_
   have HO504 := n6_
   have HO528 := n7_
   have BK479 := n8_
   have BK480 := n9_
   have BK481 := n10_
   have HB := n11_
   clear n0_ n1_ n2_ n3_ n4_ n5_ n6_ n7_ n8_ n9_ n10_ n11_
   (try clear hb)
   (try clear ho0)
   obtain ⟨Ao125, co125, eo125⟩ := Kd.R_slice HO528.out
   (subst eo125)
   obtain ⟨Ao126, co126, eo126⟩ := Kd.R_slice HO504.out
   (subst eo126)
   refine hK.out _ _ ⟨(blk_cell BK480.out 0).trans rfl, (blk_cell BK480.out 1).trans rfl, (blk_cell BK480.out 2).trans rfl⟩ (fun hHeld => ?_)
   clear hK K
   refine norm_ (a' := ?_) ?_ ?_
   rotate_left
   ·show Act.put _ (some 54) _ = _
    simp only [Act.put, List.setIfInBounds_toArray, List.set_cons_zero, List.set_cons_succ, i64_w, i32_w]
    rfl
   refine one_ (i := 6) (N := some 56) #[true, true, true, true, true, true, true, false] rfl rfl (one_of HT_.out (by kernel_rfl)) (by decide) (fun K hK => ?_)
   refine goes_ Try.func69 (by kernel_rfl) rfl #[.bool t489, .slice Ao125 t526.length co125, .slice Ao126 t502.length co126] (by rfl) rfl rfl (by (try simp only [List.map_toArray, List.map_cons, List.map_nil]); rfl) ?_
   with_reducible refine (codewrightref02_Make.calls k t489 _ _ t526 _ _ t502 t529 t530 t533 _ ?side1 ?side2 ?side3 ?side4 A93.out).mono ?_
   (case side1 => exact (Kd.R_reads' HO528.out).2.2)
   (case side2 => exact (Kd.R_reads' HO528.out).2.1)
   (case side3 => exact (Kd.R_reads' HO504.out).2.2)
   (case side4 => exact (Kd.R_reads' HO504.out).2.1)
   rintro e w127 ⟨v531, v534, rfl, ho0, ho1, hb⟩
   refine ⟨_, rfl, ?_⟩
   have n0_ := Aside0.mk (Kd.R_mono (Kd.R_told (Kd.R_told (Kd.R_old (by (with_reducible repeat (fail)); exact HO485.out) hb) (Kd.R_base ho0)) (Kd.R_base ho1)) (fun _ h_ => h_.1))
   have n1_ := Aside0.mk (Kd.R_mono (Kd.R_told (Kd.R_told (Kd.R_old (by (with_reducible repeat (fail)); exact HO488.out) hb) (Kd.R_base ho0)) (Kd.R_base ho1)) (fun _ h_ => h_.1))
   have n2_ := Aside0.mk (Kd.R_mono (Kd.R_told (Kd.R_told (Kd.R_old (by (with_reducible repeat (fail)); exact HO492.out) hb) (Kd.R_base ho0)) (Kd.R_base ho1)) (fun _ h_ => h_.1))
   have n3_ := Aside0.mk (Kd.R_mono (Kd.R_told (Kd.R_told (Kd.R_old (by (with_reducible repeat (fail)); exact HO495.out) hb) (Kd.R_base ho0)) (Kd.R_base ho1)) (fun _ h_ => h_.1))
   have n4_ := Aside0.mk (Kd.R_mono (Kd.R_told (Kd.R_told (Kd.R_old (by (with_reducible repeat (fail)); exact HO498.out) hb) (Kd.R_base ho0)) (Kd.R_base ho1)) (fun _ h_ => h_.1))
   have n5_ := Aside0.mk (Kd.R_mono (Kd.R_told (Kd.R_told (Kd.R_old (by (with_reducible repeat (fail)); exact HO501.out) hb) (Kd.R_base ho0)) (Kd.R_base ho1)) (fun _ h_ => h_.1))
   have n6_ := Aside0.mk (Kd.R_mono (Kd.R_told (Kd.R_told (Kd.R_old (by (with_reducible repeat (fail)); exact HO504.out) hb) (Kd.R_base ho0)) (Kd.R_base ho1)) (fun _ h_ => h_.1))
   have n7_ := Aside0.mk (Kd.R_mono (Kd.R_told (Kd.R_told (Kd.R_old (by (with_reducible repeat (fail)); exact HO528.out) hb) (Kd.R_base ho0)) (Kd.R_base ho1)) (fun _ h_ => h_.1))
   have n8_ := Aside0.mk (Kd.R_lower (Kd.R_new' (Kd.R_new' (Kd.R_new' (Kd.R_new' (Kd.R_new' (Kd.R_new' (Kd.R_new' (Kd.R_new' ho0 (Kd.R_lt (by (with_reducible repeat (fail)); exact HO485.out))) (Kd.R_lt (by (with_reducible repeat (fail)); exact HO488.out))) (Kd.R_lt (by (with_reducible repeat (fail)); exact HO492.out))) (Kd.R_lt (by (with_reducible repeat (fail)); exact HO495.out))) (Kd.R_lt (by (with_reducible repeat (fail)); exact HO498.out))) (Kd.R_lt (by (with_reducible repeat (fail)); exact HO501.out))) (Kd.R_lt (by (with_reducible repeat (fail)); exact HO504.out))) (Kd.R_lt (by (with_reducible repeat (fail)); exact HO528.out))) (below_size (by repeat ((with_reducible exact HB.out)))))
   have n9_ := Aside0.mk (Kd.R_lower (Kd.R_new' (Kd.R_new' (Kd.R_new' (Kd.R_new' (Kd.R_new' (Kd.R_new' (Kd.R_new' (Kd.R_new' ho1 (Kd.R_lt (by (with_reducible repeat (fail)); exact HO485.out))) (Kd.R_lt (by (with_reducible repeat (fail)); exact HO488.out))) (Kd.R_lt (by (with_reducible repeat (fail)); exact HO492.out))) (Kd.R_lt (by (with_reducible repeat (fail)); exact HO495.out))) (Kd.R_lt (by (with_reducible repeat (fail)); exact HO498.out))) (Kd.R_lt (by (with_reducible repeat (fail)); exact HO501.out))) (Kd.R_lt (by (with_reducible repeat (fail)); exact HO504.out))) (Kd.R_lt (by (with_reducible repeat (fail)); exact HO528.out))) (below_size (by repeat ((with_reducible exact HB.out)))))
   have n10_ := Aside0.mk (blk_below (g := gb479) (o := .cells #[.bool t482, .slice Ao102 t483.length co102, .slice Ao103 t486.length co103] 46 (0, 0)) (by (with_reducible repeat (fail)); exact BK479.out) hb)
   have n11_ := Aside0.mk (blk_below (g := gb480) (o := .cells #[.bool t489, .slice Ao108 t490.length co108, .slice Ao109 t493.length co109] 46 (0, 0)) (by (with_reducible repeat (fail)); exact BK480.out) hb)
   have n12_ := Aside0.mk (blk_below (g := gb481) (o := .cells #[.bool false, .slice none 0 0, .slice none 0 0] 46 (0, 0)) (by (with_reducible repeat (fail)); exact BK481.out) hb)
   have n13_ := Aside0.mk (below_step (by repeat ((with_reducible exact HB.out))) hb)
   clear HO485
   clear HO488
   clear HO492
   clear HO495
   clear HO498
   clear HO501
   clear HO504
   clear HO528
   clear BK479
   clear BK480
   clear BK481
   clear HB
   have HO485 := n0_
   have HO488 := n1_
   have HO492 := n2_
   have HO495 := n3_
   have HO498 := n4_
   have HO501 := n5_
   have HO504 := n6_
   have HO528 := n7_
   have HO532 := n8_
   have HO535 := n9_
   have BK479 := n10_
   have BK480 := n11_
   have BK481 := n12_
   have HB := n13_
   clear n0_ n1_ n2_ n3_ n4_ n5_ n6_ n7_ n8_ n9_ n10_ n11_ n12_ n13_
   (try clear hb)
   (try clear ho0)
   (try clear ho1)
   obtain ⟨Ao129, co129, eo129⟩ := Kd.R_slice HO532.out
   (subst eo129)
   obtain ⟨Ao131, co131, eo131⟩ := Kd.R_slice HO535.out
   (subst eo131)
   refine hK.out _ _ ⟨(blk_cell BK480.out 0).trans rfl, (blk_cell BK480.out 1).trans rfl, (blk_cell BK480.out 2).trans rfl⟩ (fun hHeld => ?_)
   clear hK K
   refine norm_ (a' := ?_) ?_ ?_
   rotate_left
   ·show Act.put _ (some 56) _ = _
    simp only [Act.put, List.setIfInBounds_toArray, List.set_cons_zero, List.set_cons_succ, i64_w, i32_w]
    rfl
   refine one_ (i := 7) (N := none) #[true, true, true, true, true, true, true, true] rfl rfl (one_of HT_.out (by kernel_rfl)) (by decide) (fun K hK => ?_)
   have hs128 : w127.cell? ⟨gb481, 0, none⟩ = some (.bool false) := (blk_cell BK481.out 0).trans rfl
   have hfs128 := blk_frozen BK481.out 0
   have hns128_0 := NB479_481.out
   have hns128_1 := NB480_481.out
   have hms128_0 := NB481_479.out
   have hms128_1 := NB481_480.out
   have hs130 : w127.cell? ⟨gb481, 1, none⟩ = some (.slice none 0 0) := (blk_cell BK481.out 1).trans rfl
   have hfs130 := blk_frozen BK481.out 1
   have hns130_0 := NB479_481.out
   have hns130_1 := NB480_481.out
   have hms130_0 := NB481_479.out
   have hms130_1 := NB481_480.out
   have hs132 : w127.cell? ⟨gb481, 2, none⟩ = some (.slice none 0 0) := (blk_cell BK481.out 2).trans rfl
   have hfs132 := blk_frozen BK481.out 2
   have hns132_0 := NB479_481.out
   have hns132_1 := NB480_481.out
   have hms132_0 := NB481_479.out
   have hms132_1 := NB481_480.out
   refine skip_ (w1 := ?_) (by rfl) rfl ?_ ?_
   rotate_left
   ·go_simp
    rfl
   refine hK.out _ _ ⟨((cell_far (p := ⟨gb481, _, none⟩) NB480_481.out _).trans (((cell_far (p := ⟨gb481, _, none⟩) NB480_481.out _).trans (((cell_far (p := ⟨gb481, _, none⟩) NB480_481.out _).trans (hHeld.1)))))), ((cell_far (p := ⟨gb481, _, none⟩) NB480_481.out _).trans (((cell_far (p := ⟨gb481, _, none⟩) NB480_481.out _).trans (((cell_far (p := ⟨gb481, _, none⟩) NB480_481.out _).trans (hHeld.2.1)))))), ((cell_far (p := ⟨gb481, _, none⟩) NB480_481.out _).trans (((cell_far (p := ⟨gb481, _, none⟩) NB480_481.out _).trans (((cell_far (p := ⟨gb481, _, none⟩) NB480_481.out _).trans (hHeld.2.2))))))⟩ (fun hHeld => ?_)
   clear hK K
   refine done_ (done_of HT_.out (by kernel_rfl)) ?_
   try go_wp2
   refine bodyPost_ret (results_cell_row rfl _ _ gb481 46 #[.bool t529, .slice Ao129 t530.length co129, .slice Ao131 t533.length co131] (0, 0) _ rfl (by (with_reducible repeat (fail)); refine blk_put (cs := #[.bool t529, .slice Ao129 t530.length co129, .slice none 0 0]) ?_ 2 _ rfl; (with_reducible repeat (fail)); refine blk_put (cs := #[.bool t529, .slice none 0 0, .slice none 0 0]) ?_ 1 _ rfl; (with_reducible repeat (fail)); refine blk_put (cs := #[.bool false, .slice none 0 0, .slice none 0 0]) ?_ 0 _ rfl; (with_reducible repeat (fail)); exact BK481.out) Try.underlying46 rfl (by kernel_rfl)) rfl ?_
   exact ⟨_, _, by rfl, by (with_reducible repeat (fail)); exact Kd.R_mono (Kd.R_far (p := ⟨gb481, 2, none⟩) (Kd.R_far (p := ⟨gb481, 1, none⟩) (Kd.R_far (p := ⟨gb481, 0, none⟩) (Kd.R_types HO532.out BK481.out (by decide)) (fun _ hk => hk.2) (.bool t529)) (fun _ hk => hk.2) (.slice Ao129 t530.length co129)) (fun _ hk => hk.2) (.slice Ao131 t533.length co131)) (fun _ hk => hk.1.1.1.1.1.1.1.1.1), by (with_reducible repeat (fail)); exact Kd.R_mono (Kd.R_far (p := ⟨gb481, 2, none⟩) (Kd.R_far (p := ⟨gb481, 1, none⟩) (Kd.R_far (p := ⟨gb481, 0, none⟩) (Kd.R_types HO535.out BK481.out (by decide)) (fun _ hk => hk.2) (.bool t529)) (fun _ hk => hk.2) (.slice Ao129 t530.length co129)) (fun _ hk => hk.2) (.slice Ao131 t533.length co131)) (fun _ hk => hk.1.1.1.1.1.1.1.1.1), by repeat ((with_reducible first | exact HB.out | refine below_set ?_ GE481.out))⟩
end Go.Proofs.Ythheakfgmombdaa.F
end
section
namespace Go.Proofs.Ythheakfgmombdaa.F
open Go.RowKit Go.Proofs.YthheakfgmombdaaX.PrintWords Go.Proofs.YthheakfgmombdaaX.PrintLast Go.Proofs.YthheakfgmombdaaX.PrintMore
attribute [local go_sem] max2_int min2_int max_two min_two max_three min_three max_four min_four   -- for this text's walks alone
set_option linter.unusedVariables false
set_option linter.unusedSimpArgs false
set_option maxHeartbeats 8000000 in
set_option maxRecDepth 100000 in
theorem codewrightref02_Neg.calls (k : Nat) (a0_0 : Bool) (A0_1 : Option Addr) (c0_1 : Nat) (l0_1 : List Int) (A0_2 : Option Addr) (c0_2 : Nat) (l0_2 : List Int) (r1 : Bool) (r2 : List Int) (r3 : List Int) (w : World) (hr0_1 : Kd.C (Kd.int .u32) w A0_1 l0_1.length l0_1) (hc0_1 : l0_1.length ≤ c0_1) (hr0_2 : Kd.C (Kd.int .u32) w A0_2 l0_2.length l0_2) (hc0_2 : l0_2.length ≤ c0_2) (h : codewrightref02_Neg.f k a0_0 l0_1 l0_2 = some (r1, r2, r3)) :
  Calls Try.prog 62 #[.agg #[.bool a0_0, .slice A0_1 l0_1.length c0_1, .slice A0_2 l0_2.length c0_2]] w fun e w' => ∃ v1_ v2_ : Value, e = .returned (.agg #[.bool r1, v1_, v2_]) ∧ Kd.R (Kd.int .u32) 100 w' w.heap.size (fun k_ => some k_ ≠ (v2_ : Value).ownBlock) v1_ r2 ∧ Kd.R (Kd.int .u32) 100 w' w.heap.size (fun k_ => some k_ ≠ (v1_ : Value).ownBlock) v2_ r3 ∧ Below w.heap.size w w' := by
 have hu46 := Try.underlying46
 have HR0_1 := Aside0.mk hr0_1
 have HC0_1 := Aside0.mk hc0_1
 clear hr0_1 hc0_1
 have HR0_2 := Aside0.mk hr0_2
 have HC0_2 := Aside0.mk hc0_2
 clear hr0_2 hc0_2
 have HB := Aside0.mk (Below.refl w.heap.size w)
 have H : ((codewrightref02_Trim.f k a0_0 l0_1 l0_2).bind fun bt538 => ((codewrightref02_Make.f k (!bt538.1) bt538.2.1 bt538.2.2).bind fun bt545 => (some (bt545.1, bt545.2.1, bt545.2.2)))) = some (r1, r2, r3) := h
 clear h
 obtain ⟨⟨t538, t539, t542⟩, A2, H⟩ := bindA H
 obtain ⟨⟨t545, t546, t549⟩, A3, H⟩ := bindA H
 simp only [Option.some.injEq, Prod.mk.injEq] at H
 obtain ⟨rfl, rfl, rfl⟩ := H
 go_enter Try.func62, Try.ntmps62
 go_wp2_with (first | (refine box_event ?hg (N := 1) ?hd (cs := #[.bool a0_0, .slice A0_1 l0_1.length c0_1, .slice A0_2 l0_2.length c0_2]) (t := 46) ?hr ?_; (case hd => rfl); (case hg => rfl); (case hr => go_simp; done); intro gb536 hg w4 hbox hb; have n0_ := Aside0.mk (below_step (HB.out) hb); have n1_ := Aside0.mk (hbox); have n2_ := Aside0.mk ((by rw [hg]; exact (below_size (HB.out)) : w.heap.size ≤ gb536)); have n3_ := Aside0.mk ((by rw [hg]; exact (below_size (HB.out)) : w.heap.size ≤ gb536)); clear HB; have HB := n0_; have BK536 := n1_; have GW536 := n2_; have GE536 := n3_; clear n0_ n1_ n2_ n3_; clear hb hbox hg) | (refine box_event ?hg (N := 2) ?hd (cs := #[.bool false, .slice none 0 0, .slice none 0 0]) (t := 46) ?hr ?_; (case hd => rfl); (case hg => rfl); (case hr => go_simp; done); intro gb537 hg w5 hbox hb; have n0_ := Aside0.mk (blk_below (BK536.out) hb); have n1_ := Aside0.mk (below_step (HB.out) hb); have n2_ := Aside0.mk (hbox); have n3_ := Aside0.mk ((by rw [hg]; exact (below_size (HB.out)) : w.heap.size ≤ gb537)); have n4_ := Aside0.mk ((by rw [hg]; exact (below_size (HB.out)) : w.heap.size ≤ gb537)); have n5_ := Aside0.mk ((by rw [hg]; exact Nat.ne_of_lt (blk_lt (BK536.out)) : gb536 ≠ gb537)); have n6_ := Aside0.mk ((by rw [hg]; exact Nat.ne_of_gt (blk_lt (BK536.out)) : gb537 ≠ gb536)); clear BK536; clear HB; have BK536 := n0_; have HB := n1_; have BK537 := n2_; have GW537 := n3_; have GE537 := n4_; have NB536_537 := n5_; have NB537_536 := n6_; clear n0_ n1_ n2_ n3_ n4_ n5_ n6_; clear hb hbox hg; have hnb6 := NB536_537.out; have hnc6 := NB537_536.out; have hcz7_0 : w5.cell? ⟨gb536, 0, none⟩ = some (.bool a0_0) := (blk_cell BK536.out 0).trans rfl; have hcz7_1 : w5.cell? ⟨gb536, 1, none⟩ = some (.slice A0_1 l0_1.length c0_1) := (blk_cell BK536.out 1).trans rfl; have hcz7_2 : w5.cell? ⟨gb536, 2, none⟩ = some (.slice A0_2 l0_2.length c0_2) := (blk_cell BK536.out 2).trans rfl; have hfz7_0 := blk_frozen BK536.out 0; have hfz7_1 := blk_frozen BK536.out 1; have hfz7_2 := blk_frozen BK536.out 2) | (refine goesL_ (some 4) rfl rfl Try.func67 (by kernel_rfl) rfl #[.agg #[.bool a0_0, .slice A0_1 l0_1.length c0_1, .slice A0_2 l0_2.length c0_2]] rfl (by simp only [List.map_toArray, List.map_cons, List.map_nil]; rfl) ?_; (with_reducible refine (codewrightref02_Trim.calls k a0_0 _ _ l0_1 _ _ l0_2 t538 t539 t542 _ (Kd.C_below HR0_1.out HB.out) HC0_1.out (Kd.C_below HR0_2.out HB.out) HC0_2.out A2.out).mono ?_); rintro e w8 ⟨v540, v543, rfl, ho0, ho1, hb⟩; refine ⟨_, rfl, ?_⟩; have HO541 := Aside0.mk (Kd.R_lower ho0 (below_size (HB.out))); have HO544 := Aside0.mk (Kd.R_lower ho1 (below_size (HB.out))); replace BK536 := Aside0.mk (blk_below (BK536.out) hb); replace BK537 := Aside0.mk (blk_below (BK537.out) hb); replace HB := Aside0.mk (below_step (HB.out) hb); (try clear hb); (try clear ho0); (try clear ho1); have hcz9_0 : w8.cell? ⟨gb536, 0, none⟩ = some (.bool a0_0) := (blk_cell BK536.out 0).trans rfl; have hcz9_1 : w8.cell? ⟨gb536, 1, none⟩ = some (.slice A0_1 l0_1.length c0_1) := (blk_cell BK536.out 1).trans rfl; have hcz9_2 : w8.cell? ⟨gb536, 2, none⟩ = some (.slice A0_2 l0_2.length c0_2) := (blk_cell BK536.out 2).trans rfl; have hfz9_0 := blk_frozen BK536.out 0; have hfz9_1 := blk_frozen BK536.out 1; have hfz9_2 := blk_frozen BK536.out 2; obtain ⟨Ao10, co10, eo10⟩ := Kd.R_slice HO541.out; subst eo10; obtain ⟨Ao11, co11, eo11⟩ := Kd.R_slice HO544.out; subst eo11) | (refine goesL_ (some 12) rfl rfl Try.func69 (by kernel_rfl) rfl #[.bool (!t538), .slice Ao10 t539.length co10, .slice Ao11 t542.length co11] rfl (by simp only [List.map_toArray, List.map_cons, List.map_nil]; rfl) ?_; (with_reducible refine (codewrightref02_Make.calls k (!t538) _ _ t539 _ _ t542 t545 t546 t549 _ ?side1 ?side2 ?side3 ?side4 A3.out).mono ?_); (case side1 => refine (Kd.R_reads' (e := 100) (base := w.heap.size) (ok := fun k_ => some k_ ≠ (.slice Ao11 t542.length co11 : Value).ownBlock) (n := t539.length) (c := co10) ?_).2.2; exact ((Kd.R_mono (Kd.R_far (p := ⟨gb536, 2, none⟩) (Kd.R_far (p := ⟨gb536, 1, none⟩) (Kd.R_far (p := ⟨gb536, 0, none⟩) (Kd.R_types HO541.out BK536.out (by decide)) (fun _ hk => hk.2) (.bool t538)) (fun _ hk => hk.2) (.slice Ao10 t539.length co10)) (fun _ hk => hk.2) (.slice Ao11 t542.length co11)) (fun _ h_ => h_.1)))); (case side2 => exact (Kd.R_reads' HO541.out).2.1); (case side3 => refine (Kd.R_reads' (e := 100) (base := w.heap.size) (ok := fun k_ => some k_ ≠ (.slice Ao10 t539.length co10 : Value).ownBlock) (n := t542.length) (c := co11) ?_).2.2; exact ((Kd.R_mono (Kd.R_far (p := ⟨gb536, 2, none⟩) (Kd.R_far (p := ⟨gb536, 1, none⟩) (Kd.R_far (p := ⟨gb536, 0, none⟩) (Kd.R_types HO544.out BK536.out (by decide)) (fun _ hk => hk.2) (.bool t538)) (fun _ hk => hk.2) (.slice Ao10 t539.length co10)) (fun _ hk => hk.2) (.slice Ao11 t542.length co11)) (fun _ h_ => h_.1)))); (case side4 => exact (Kd.R_reads' HO544.out).2.1); rintro e w12 ⟨v547, v550, rfl, ho0, ho1, hb⟩; refine ⟨_, rfl, ?_⟩; have n0_ := Aside0.mk (Kd.R_mono (Kd.R_told (Kd.R_told (Kd.R_old ((Kd.R_mono (Kd.R_far (p := ⟨gb536, 2, none⟩) (Kd.R_far (p := ⟨gb536, 1, none⟩) (Kd.R_far (p := ⟨gb536, 0, none⟩) (Kd.R_types HO541.out BK536.out (by decide)) (fun _ hk => hk.2) (.bool t538)) (fun _ hk => hk.2) (.slice Ao10 t539.length co10)) (fun _ hk => hk.2) (.slice Ao11 t542.length co11)) (fun _ h_ => h_.1))) hb) (Kd.R_base ho0)) (Kd.R_base ho1)) (fun _ h_ => h_.1)); have n1_ := Aside0.mk (Kd.R_mono (Kd.R_told (Kd.R_told (Kd.R_old ((Kd.R_mono (Kd.R_far (p := ⟨gb536, 2, none⟩) (Kd.R_far (p := ⟨gb536, 1, none⟩) (Kd.R_far (p := ⟨gb536, 0, none⟩) (Kd.R_types HO544.out BK536.out (by decide)) (fun _ hk => hk.2) (.bool t538)) (fun _ hk => hk.2) (.slice Ao10 t539.length co10)) (fun _ hk => hk.2) (.slice Ao11 t542.length co11)) (fun _ h_ => h_.1))) hb) (Kd.R_base ho0)) (Kd.R_base ho1)) (fun _ h_ => h_.1)); have n2_ := Aside0.mk (Kd.R_lower (Kd.R_new' (Kd.R_new' ho0 (Kd.R_lt ((Kd.R_mono (Kd.R_far (p := ⟨gb536, 2, none⟩) (Kd.R_far (p := ⟨gb536, 1, none⟩) (Kd.R_far (p := ⟨gb536, 0, none⟩) (Kd.R_types HO541.out BK536.out (by decide)) (fun _ hk => hk.2) (.bool t538)) (fun _ hk => hk.2) (.slice Ao10 t539.length co10)) (fun _ hk => hk.2) (.slice Ao11 t542.length co11)) (fun _ h_ => h_.1))))) (Kd.R_lt ((Kd.R_mono (Kd.R_far (p := ⟨gb536, 2, none⟩) (Kd.R_far (p := ⟨gb536, 1, none⟩) (Kd.R_far (p := ⟨gb536, 0, none⟩) (Kd.R_types HO544.out BK536.out (by decide)) (fun _ hk => hk.2) (.bool t538)) (fun _ hk => hk.2) (.slice Ao10 t539.length co10)) (fun _ hk => hk.2) (.slice Ao11 t542.length co11)) (fun _ h_ => h_.1))))) (below_size (by repeat ((with_reducible first | exact HB.out | refine below_set ?_ GE536.out))))); have n3_ := Aside0.mk (Kd.R_lower (Kd.R_new' (Kd.R_new' ho1 (Kd.R_lt ((Kd.R_mono (Kd.R_far (p := ⟨gb536, 2, none⟩) (Kd.R_far (p := ⟨gb536, 1, none⟩) (Kd.R_far (p := ⟨gb536, 0, none⟩) (Kd.R_types HO541.out BK536.out (by decide)) (fun _ hk => hk.2) (.bool t538)) (fun _ hk => hk.2) (.slice Ao10 t539.length co10)) (fun _ hk => hk.2) (.slice Ao11 t542.length co11)) (fun _ h_ => h_.1))))) (Kd.R_lt ((Kd.R_mono (Kd.R_far (p := ⟨gb536, 2, none⟩) (Kd.R_far (p := ⟨gb536, 1, none⟩) (Kd.R_far (p := ⟨gb536, 0, none⟩) (Kd.R_types HO544.out BK536.out (by decide)) (fun _ hk => hk.2) (.bool t538)) (fun _ hk => hk.2) (.slice Ao10 t539.length co10)) (fun _ hk => hk.2) (.slice Ao11 t542.length co11)) (fun _ h_ => h_.1))))) (below_size (by repeat ((with_reducible first | exact HB.out | refine below_set ?_ GE536.out))))); have n4_ := Aside0.mk (blk_below (g := gb536) (o := .cells #[.bool t538, .slice Ao10 t539.length co10, .slice Ao11 t542.length co11] 46 (0, 0)) (by (with_reducible repeat (fail)); refine blk_put (cs := #[.bool t538, .slice Ao10 t539.length co10, .slice A0_2 l0_2.length c0_2]) ?_ 2 _ rfl; (with_reducible repeat (fail)); refine blk_put (cs := #[.bool t538, .slice A0_1 l0_1.length c0_1, .slice A0_2 l0_2.length c0_2]) ?_ 1 _ rfl; (with_reducible repeat (fail)); refine blk_put (cs := #[.bool a0_0, .slice A0_1 l0_1.length c0_1, .slice A0_2 l0_2.length c0_2]) ?_ 0 _ rfl; (with_reducible repeat (fail)); exact BK536.out) hb); have n5_ := Aside0.mk (blk_below (g := gb537) (o := .cells #[.bool false, .slice none 0 0, .slice none 0 0] 46 (0, 0)) (by (with_reducible repeat (fail)); refine blk_far ?_ NB537_536.out _; (with_reducible repeat (fail)); refine blk_far ?_ NB537_536.out _; (with_reducible repeat (fail)); refine blk_far ?_ NB537_536.out _; (with_reducible repeat (fail)); exact BK537.out) hb); have n6_ := Aside0.mk (below_step (by repeat ((with_reducible first | exact HB.out | refine below_set ?_ GE536.out))) hb); clear HO541; clear HO544; clear BK536; clear BK537; clear HB; have HO541 := n0_; have HO544 := n1_; have HO548 := n2_; have HO551 := n3_; have BK536 := n4_; have BK537 := n5_; have HB := n6_; clear n0_ n1_ n2_ n3_ n4_ n5_ n6_; (try clear hb); (try clear ho0); (try clear ho1); have hcz13_0 : w12.cell? ⟨gb537, 0, none⟩ = some (.bool false) := (blk_cell BK537.out 0).trans rfl; have hcz13_1 : w12.cell? ⟨gb537, 1, none⟩ = some (.slice none 0 0) := (blk_cell BK537.out 1).trans rfl; have hcz13_2 : w12.cell? ⟨gb537, 2, none⟩ = some (.slice none 0 0) := (blk_cell BK537.out 2).trans rfl; have hfz13_0 := blk_frozen BK537.out 0; have hfz13_1 := blk_frozen BK537.out 1; have hfz13_2 := blk_frozen BK537.out 2; obtain ⟨Ao14, co14, eo14⟩ := Kd.R_slice HO548.out; subst eo14; obtain ⟨Ao15, co15, eo15⟩ := Kd.R_slice HO551.out; subst eo15))
 refine bodyPost_ret (results_cell_row rfl _ _ gb537 46 #[.bool t545, .slice Ao14 t546.length co14, .slice Ao15 t549.length co15] (0, 0) _ rfl (by (with_reducible repeat (fail)); refine blk_put (cs := #[.bool t545, .slice Ao14 t546.length co14, .slice none 0 0]) ?_ 2 _ rfl; (with_reducible repeat (fail)); refine blk_put (cs := #[.bool t545, .slice none 0 0, .slice none 0 0]) ?_ 1 _ rfl; (with_reducible repeat (fail)); refine blk_put (cs := #[.bool false, .slice none 0 0, .slice none 0 0]) ?_ 0 _ rfl; (with_reducible repeat (fail)); exact BK537.out) Try.underlying46 rfl (by kernel_rfl)) rfl ?_
 exact ⟨_, _, rfl, Kd.R_mono (Kd.R_far (p := ⟨gb537, 2, none⟩) (Kd.R_far (p := ⟨gb537, 1, none⟩) (Kd.R_far (p := ⟨gb537, 0, none⟩) (Kd.R_types HO548.out BK537.out (by decide)) (fun _ hk => hk.2) (.bool t545)) (fun _ hk => hk.2) (.slice Ao14 t546.length co14)) (fun _ hk => hk.2) (.slice Ao15 t549.length co15)) (fun _ hk => hk.1.1.1), Kd.R_mono (Kd.R_far (p := ⟨gb537, 2, none⟩) (Kd.R_far (p := ⟨gb537, 1, none⟩) (Kd.R_far (p := ⟨gb537, 0, none⟩) (Kd.R_types HO551.out BK537.out (by decide)) (fun _ hk => hk.2) (.bool t545)) (fun _ hk => hk.2) (.slice Ao14 t546.length co14)) (fun _ hk => hk.2) (.slice Ao15 t549.length co15)) (fun _ hk => hk.1.1.1), by repeat ((with_reducible first | exact HB.out | refine below_set ?_ GE537.out))⟩
end Go.Proofs.Ythheakfgmombdaa.F
end
section
namespace Go.Proofs.Ythheakfgmombdaa.F
open Go.RowKit Go.Proofs.YthheakfgmombdaaX.PrintWords Go.Proofs.YthheakfgmombdaaX.PrintLast Go.Proofs.YthheakfgmombdaaX.PrintMore
attribute [local go_sem] max2_int min2_int max_two min_two max_three min_three max_four min_four   -- for this text's walks alone
set_option linter.unusedVariables false
set_option linter.unusedSimpArgs false
set_option maxHeartbeats 8000000 in
set_option maxRecDepth 100000 in
theorem codewrightref02_Sub.calls (k : Nat) (a0_0 : Bool) (A0_1 : Option Addr) (c0_1 : Nat) (l0_1 : List Int) (A0_2 : Option Addr) (c0_2 : Nat) (l0_2 : List Int) (a1_0 : Bool) (A1_1 : Option Addr) (c1_1 : Nat) (l1_1 : List Int) (A1_2 : Option Addr) (c1_2 : Nat) (l1_2 : List Int) (r1 : Bool) (r2 : List Int) (r3 : List Int) (w : World) (hr0_1 : Kd.C (Kd.int .u32) w A0_1 l0_1.length l0_1) (hc0_1 : l0_1.length ≤ c0_1) (hr0_2 : Kd.C (Kd.int .u32) w A0_2 l0_2.length l0_2) (hc0_2 : l0_2.length ≤ c0_2) (hr1_1 : Kd.C (Kd.int .u32) w A1_1 l1_1.length l1_1) (hc1_1 : l1_1.length ≤ c1_1) (hr1_2 : Kd.C (Kd.int .u32) w A1_2 l1_2.length l1_2) (hc1_2 : l1_2.length ≤ c1_2) (h : codewrightref02_Sub.f k a0_0 l0_1 l0_2 a1_0 l1_1 l1_2 = some (r1, r2, r3)) :
  Calls Try.prog 45 #[.agg #[.bool a0_0, .slice A0_1 l0_1.length c0_1, .slice A0_2 l0_2.length c0_2], .agg #[.bool a1_0, .slice A1_1 l1_1.length c1_1, .slice A1_2 l1_2.length c1_2]] w fun e w' => ∃ v1_ v2_ : Value, e = .returned (.agg #[.bool r1, v1_, v2_]) ∧ Kd.R (Kd.int .u32) 100 w' w.heap.size (fun k_ => some k_ ≠ (v2_ : Value).ownBlock) v1_ r2 ∧ Kd.R (Kd.int .u32) 100 w' w.heap.size (fun k_ => some k_ ≠ (v1_ : Value).ownBlock) v2_ r3 ∧ Below w.heap.size w w' := by
 have hu46 := Try.underlying46
 have HR0_1 := Aside0.mk hr0_1
 have HC0_1 := Aside0.mk hc0_1
 clear hr0_1 hc0_1
 have HR0_2 := Aside0.mk hr0_2
 have HC0_2 := Aside0.mk hc0_2
 clear hr0_2 hc0_2
 have HR1_1 := Aside0.mk hr1_1
 have HC1_1 := Aside0.mk hc1_1
 clear hr1_1 hc1_1
 have HR1_2 := Aside0.mk hr1_2
 have HC1_2 := Aside0.mk hc1_2
 clear hr1_2 hc1_2
 have HB := Aside0.mk (Below.refl w.heap.size w)
 have H : ((codewrightref02_Neg.f k a1_0 l1_1 l1_2).bind fun bt555 => ((codewrightref02_Add.f k a0_0 l0_1 l0_2 bt555.1 bt555.2.1 bt555.2.2).bind fun bt562 => (some (bt562.1, bt562.2.1, bt562.2.2)))) = some (r1, r2, r3) := h
 clear h
 obtain ⟨⟨t555, t556, t559⟩, A3, H⟩ := bindA H
 obtain ⟨⟨t562, t563, t566⟩, A4, H⟩ := bindA H
 simp only [Option.some.injEq, Prod.mk.injEq] at H
 obtain ⟨rfl, rfl, rfl⟩ := H
 go_enter Try.func45, Try.ntmps45
 try go_wp2_with (first | (refine box_event ?hg (N := 2) ?hd (cs := #[.bool a0_0, .slice A0_1 l0_1.length c0_1, .slice A0_2 l0_2.length c0_2]) (t := 46) ?hr ?_; (case hd => rfl); (case hg => rfl); (case hr => go_simp; done); intro gb552 hg w5 hbox hb; have n0_ := Aside0.mk (below_step (HB.out) hb); have n1_ := Aside0.mk (hbox); have n2_ := Aside0.mk ((by rw [hg]; exact (below_size (HB.out)) : w.heap.size ≤ gb552)); have n3_ := Aside0.mk ((by rw [hg]; exact (below_size (HB.out)) : w.heap.size ≤ gb552)); clear HB; have HB := n0_; have BK552 := n1_; have GW552 := n2_; have GE552 := n3_; clear n0_ n1_ n2_ n3_; clear hb hbox hg) | (refine box_event ?hg (N := 3) ?hd (cs := #[.bool a1_0, .slice A1_1 l1_1.length c1_1, .slice A1_2 l1_2.length c1_2]) (t := 46) ?hr ?_; (case hd => rfl); (case hg => rfl); (case hr => go_simp; done); intro gb553 hg w6 hbox hb; have n0_ := Aside0.mk (blk_below (BK552.out) hb); have n1_ := Aside0.mk (below_step (HB.out) hb); have n2_ := Aside0.mk (hbox); have n3_ := Aside0.mk ((by rw [hg]; exact (below_size (HB.out)) : w.heap.size ≤ gb553)); have n4_ := Aside0.mk ((by rw [hg]; exact (below_size (HB.out)) : w.heap.size ≤ gb553)); have n5_ := Aside0.mk ((by rw [hg]; exact Nat.ne_of_lt (blk_lt (BK552.out)) : gb552 ≠ gb553)); have n6_ := Aside0.mk ((by rw [hg]; exact Nat.ne_of_gt (blk_lt (BK552.out)) : gb553 ≠ gb552)); clear BK552; clear HB; have BK552 := n0_; have HB := n1_; have BK553 := n2_; have GW553 := n3_; have GE553 := n4_; have NB552_553 := n5_; have NB553_552 := n6_; clear n0_ n1_ n2_ n3_ n4_ n5_ n6_; clear hb hbox hg) | (refine box_event ?hg (N := 4) ?hd (cs := #[.bool false, .slice none 0 0, .slice none 0 0]) (t := 46) ?hr ?_; (case hd => rfl); (case hg => rfl); (case hr => go_simp; done); intro gb554 hg w7 hbox hb; have n0_ := Aside0.mk (blk_below (BK552.out) hb); have n1_ := Aside0.mk (blk_below (BK553.out) hb); have n2_ := Aside0.mk (below_step (HB.out) hb); have n3_ := Aside0.mk (hbox); have n4_ := Aside0.mk ((by rw [hg]; exact (below_size (HB.out)) : w.heap.size ≤ gb554)); have n5_ := Aside0.mk ((by rw [hg]; exact (below_size (HB.out)) : w.heap.size ≤ gb554)); have n6_ := Aside0.mk ((by rw [hg]; exact Nat.ne_of_lt (blk_lt (BK552.out)) : gb552 ≠ gb554)); have n7_ := Aside0.mk ((by rw [hg]; exact Nat.ne_of_gt (blk_lt (BK552.out)) : gb554 ≠ gb552)); have n8_ := Aside0.mk ((by rw [hg]; exact Nat.ne_of_lt (blk_lt (BK553.out)) : gb553 ≠ gb554)); have n9_ := Aside0.mk ((by rw [hg]; exact Nat.ne_of_gt (blk_lt (BK553.out)) : gb554 ≠ gb553)); clear BK552; clear BK553; clear HB; have BK552 := n0_; have BK553 := n1_; have HB := n2_; have BK554 := n3_; have GW554 := n4_; have GE554 := n5_; have NB552_554 := n6_; have NB554_552 := n7_; have NB553_554 := n8_; have NB554_553 := n9_; clear n0_ n1_ n2_ n3_ n4_ n5_ n6_ n7_ n8_ n9_; clear hb hbox hg))
 replace BK552 := Aside0.mk (blk_drew BK552.out)
 replace BK553 := Aside0.mk (blk_drew BK553.out)
 replace BK554 := Aside0.mk (blk_drew BK554.out)
 replace HB := Aside0.mk (below_drew1 HB.out)
 refine start_ (n := 5) (S := fun w' => w'.cell? ⟨gb552, 0, none⟩ = some (.bool a0_0) ∧ w'.cell? ⟨gb552, 1, none⟩ = some (.slice A0_1 l0_1.length c0_1) ∧ w'.cell? ⟨gb552, 2, none⟩ = some (.slice A0_2 l0_2.length c0_2) ∧ w'.cell? ⟨gb553, 0, none⟩ = some (.bool a1_0) ∧ w'.cell? ⟨gb553, 1, none⟩ = some (.slice A1_1 l1_1.length c1_1) ∧ w'.cell? ⟨gb553, 2, none⟩ = some (.slice A1_2 l1_2.length c1_2)) (ds := []) #[false, false, false, false, false] (by kernel_rfl) rfl rfl ⟨(blk_cell BK552.out 0).trans rfl, (blk_cell BK552.out 1).trans rfl, (blk_cell BK552.out 2).trans rfl, (blk_cell BK553.out 0).trans rfl, (blk_cell BK553.out 1).trans rfl, (blk_cell BK553.out 2).trans rfl⟩ (fun hHeld => ?_)
 generalize w7.drew = w8 at BK552 BK553 BK554 HB hHeld ⊢
 refine take_ (i := 0) (N := some 5) (v := ?_) (a' := ?_) #[true, false, false, false, false] rfl rfl (by kernel_rfl) (fun _ _ _ h => h) (Or.inl ⟨by rfl, ?_⟩) hHeld ?_ ?_
 rotate_left
 ·rintro w' ⟨s0, s1, s2, s3, s4, s5⟩
  go_simp
  with_reducible rfl
 rotate_left
 ·simp only [Act.put, List.setIfInBounds_toArray, List.set_cons_zero, List.set_cons_succ, i64_w, i32_w]
  rfl
 refine take_ (i := 1) (N := some 6) (v := ?_) (a' := ?_) #[true, true, false, false, false] rfl rfl (by kernel_rfl) (fun _ _ _ h => h) (Or.inl ⟨by rfl, ?_⟩) hHeld ?_ ?_
 rotate_left
 ·rintro w' ⟨s0, s1, s2, s3, s4, s5⟩
  go_simp
  with_reducible rfl
 rotate_left
 ·simp only [Act.put, List.setIfInBounds_toArray, List.set_cons_zero, List.set_cons_succ, i64_w, i32_w]
  rfl
 refine one_ (i := 2) (N := some 7) #[true, true, true, false, false] rfl rfl (by kernel_rfl) (by decide) (fun K hK => ?_)
 refine goes_ Try.func62 (by kernel_rfl) rfl #[.agg #[.bool a1_0, .slice A1_1 l1_1.length c1_1, .slice A1_2 l1_2.length c1_2]] (by rfl) rfl rfl (by simp only [List.map_toArray, List.map_cons, List.map_nil]; rfl) ?_
 with_reducible refine (codewrightref02_Neg.calls k a1_0 _ _ l1_1 _ _ l1_2 t555 t556 t559 _ (Kd.C_below HR1_1.out HB.out) HC1_1.out (Kd.C_below HR1_2.out HB.out) HC1_2.out A3.out).mono ?_
 rintro e w9 ⟨v557, v560, rfl, ho0, ho1, hb⟩
 refine ⟨_, rfl, ?_⟩
 have HO558 := Aside0.mk (Kd.R_lower ho0 (below_size (HB.out)))
 have HO561 := Aside0.mk (Kd.R_lower ho1 (below_size (HB.out)))
 replace BK552 := Aside0.mk (blk_below (BK552.out) hb)
 replace BK553 := Aside0.mk (blk_below (BK553.out) hb)
 replace BK554 := Aside0.mk (blk_below (BK554.out) hb)
 replace HB := Aside0.mk (below_step (HB.out) hb)
 obtain ⟨Ao10, co10, eo10⟩ := Kd.R_slice HO558.out
 (subst eo10)
 obtain ⟨Ao11, co11, eo11⟩ := Kd.R_slice HO561.out
 (subst eo11)
 refine hK.out _ _ ⟨(blk_cell BK552.out 0).trans rfl, (blk_cell BK552.out 1).trans rfl, (blk_cell BK552.out 2).trans rfl, (blk_cell BK553.out 0).trans rfl, (blk_cell BK553.out 1).trans rfl, (blk_cell BK553.out 2).trans rfl⟩ (fun hHeld => ?_)
 clear hK K
 refine norm_ (a' := ?_) ?_ ?_
 rotate_left
 ·show Act.put _ (some 7) _ = _
  simp only [Act.put, List.setIfInBounds_toArray, List.set_cons_zero, List.set_cons_succ, i64_w, i32_w]
  rfl
 refine one_ (i := 3) (N := some 8) #[true, true, true, true, false] rfl rfl (by kernel_rfl) (by decide) (fun K hK => ?_)
 refine goes_ Try.func33 (by kernel_rfl) rfl #[.agg #[.bool a0_0, .slice A0_1 l0_1.length c0_1, .slice A0_2 l0_2.length c0_2], .agg #[.bool t555, .slice Ao10 t556.length co10, .slice Ao11 t559.length co11]] (by rfl) rfl rfl (by simp only [List.map_toArray, List.map_cons, List.map_nil]; rfl) ?_
 with_reducible refine (codewrightref02_Add.calls k a0_0 _ _ l0_1 _ _ l0_2 t555 _ _ t556 _ _ t559 t562 t563 t566 _ ?side1 ?side2 ?side3 ?side4 ?side5 ?side6 ?side7 ?side8 A4.out).mono ?_
 (case side1 => exact (Kd.C_below HR0_1.out HB.out))
 (case side2 => exact HC0_1.out)
 (case side3 => exact (Kd.C_below HR0_2.out HB.out))
 (case side4 => exact HC0_2.out)
 (case side5 => exact (Kd.R_reads' HO558.out).2.2)
 (case side6 => exact (Kd.R_reads' HO558.out).2.1)
 (case side7 => exact (Kd.R_reads' HO561.out).2.2)
 (case side8 => exact (Kd.R_reads' HO561.out).2.1)
 rintro e w12 ⟨v564, v567, rfl, ho0, ho1, hb⟩
 refine ⟨_, rfl, ?_⟩
 have n0_ := Aside0.mk (Kd.R_mono (Kd.R_told (Kd.R_told (Kd.R_old (HO558.out) hb) (Kd.R_base ho0)) (Kd.R_base ho1)) (fun _ h_ => h_.1))
 have n1_ := Aside0.mk (Kd.R_mono (Kd.R_told (Kd.R_told (Kd.R_old (HO561.out) hb) (Kd.R_base ho0)) (Kd.R_base ho1)) (fun _ h_ => h_.1))
 have n2_ := Aside0.mk (Kd.R_lower (Kd.R_new' (Kd.R_new' ho0 (Kd.R_lt (HO558.out))) (Kd.R_lt (HO561.out))) (below_size (HB.out)))
 have n3_ := Aside0.mk (Kd.R_lower (Kd.R_new' (Kd.R_new' ho1 (Kd.R_lt (HO558.out))) (Kd.R_lt (HO561.out))) (below_size (HB.out)))
 have n4_ := Aside0.mk (blk_below (BK552.out) hb)
 have n5_ := Aside0.mk (blk_below (BK553.out) hb)
 have n6_ := Aside0.mk (blk_below (BK554.out) hb)
 have n7_ := Aside0.mk (below_step (HB.out) hb)
 clear HO558
 clear HO561
 clear BK552
 clear BK553
 clear BK554
 clear HB
 have HO558 := n0_
 have HO561 := n1_
 have HO565 := n2_
 have HO568 := n3_
 have BK552 := n4_
 have BK553 := n5_
 have BK554 := n6_
 have HB := n7_
 clear n0_ n1_ n2_ n3_ n4_ n5_ n6_ n7_
 obtain ⟨Ao14, co14, eo14⟩ := Kd.R_slice HO565.out
 (subst eo14)
 obtain ⟨Ao16, co16, eo16⟩ := Kd.R_slice HO568.out
 (subst eo16)
 refine hK.out _ _ ⟨(blk_cell BK552.out 0).trans rfl, (blk_cell BK552.out 1).trans rfl, (blk_cell BK552.out 2).trans rfl, (blk_cell BK553.out 0).trans rfl, (blk_cell BK553.out 1).trans rfl, (blk_cell BK553.out 2).trans rfl⟩ (fun hHeld => ?_)
 clear hK K
 refine norm_ (a' := ?_) ?_ ?_
 rotate_left
 ·show Act.put _ (some 8) _ = _
  simp only [Act.put, List.setIfInBounds_toArray, List.set_cons_zero, List.set_cons_succ, i64_w, i32_w]
  rfl
 refine one_ (i := 4) (N := none) #[true, true, true, true, true] rfl rfl (by kernel_rfl) (by decide) (fun K hK => ?_)
 have hs13 : w12.cell? ⟨gb554, 0, none⟩ = some (.bool false) := (blk_cell BK554.out 0).trans rfl
 have hfs13 := blk_frozen BK554.out 0
 have hns13_0 := NB552_554.out
 have hns13_1 := NB553_554.out
 have hms13_0 := NB554_552.out
 have hms13_1 := NB554_553.out
 have hs15 : w12.cell? ⟨gb554, 1, none⟩ = some (.slice none 0 0) := (blk_cell BK554.out 1).trans rfl
 have hfs15 := blk_frozen BK554.out 1
 have hns15_0 := NB552_554.out
 have hns15_1 := NB553_554.out
 have hms15_0 := NB554_552.out
 have hms15_1 := NB554_553.out
 have hs17 : w12.cell? ⟨gb554, 2, none⟩ = some (.slice none 0 0) := (blk_cell BK554.out 2).trans rfl
 have hfs17 := blk_frozen BK554.out 2
 have hns17_0 := NB552_554.out
 have hns17_1 := NB553_554.out
 have hms17_0 := NB554_552.out
 have hms17_1 := NB554_553.out
 refine skip_ (w1 := ?_) (by rfl) rfl ?_ ?_
 rotate_left
 ·go_simp
  rfl
 refine hK.out _ _ ⟨((cell_far (p := ⟨gb554, _, none⟩) NB552_554.out _).trans (((cell_far (p := ⟨gb554, _, none⟩) NB552_554.out _).trans (((cell_far (p := ⟨gb554, _, none⟩) NB552_554.out _).trans (hHeld.1)))))), ((cell_far (p := ⟨gb554, _, none⟩) NB552_554.out _).trans (((cell_far (p := ⟨gb554, _, none⟩) NB552_554.out _).trans (((cell_far (p := ⟨gb554, _, none⟩) NB552_554.out _).trans (hHeld.2.1)))))), ((cell_far (p := ⟨gb554, _, none⟩) NB552_554.out _).trans (((cell_far (p := ⟨gb554, _, none⟩) NB552_554.out _).trans (((cell_far (p := ⟨gb554, _, none⟩) NB552_554.out _).trans (hHeld.2.2.1)))))), ((cell_far (p := ⟨gb554, _, none⟩) NB553_554.out _).trans (((cell_far (p := ⟨gb554, _, none⟩) NB553_554.out _).trans (((cell_far (p := ⟨gb554, _, none⟩) NB553_554.out _).trans (hHeld.2.2.2.1)))))), ((cell_far (p := ⟨gb554, _, none⟩) NB553_554.out _).trans (((cell_far (p := ⟨gb554, _, none⟩) NB553_554.out _).trans (((cell_far (p := ⟨gb554, _, none⟩) NB553_554.out _).trans (hHeld.2.2.2.2.1)))))), ((cell_far (p := ⟨gb554, _, none⟩) NB553_554.out _).trans (((cell_far (p := ⟨gb554, _, none⟩) NB553_554.out _).trans (((cell_far (p := ⟨gb554, _, none⟩) NB553_554.out _).trans (hHeld.2.2.2.2.2))))))⟩ (fun hHeld => ?_)
 clear hK K
 refine done_ (by kernel_rfl) ?_
 try go_wp2
 refine bodyPost_ret (results_cell_row rfl _ _ gb554 46 #[.bool t562, .slice Ao14 t563.length co14, .slice Ao16 t566.length co16] (0, 0) _ rfl (by (with_reducible repeat (fail)); refine blk_put (cs := #[.bool t562, .slice Ao14 t563.length co14, .slice none 0 0]) ?_ 2 _ rfl; (with_reducible repeat (fail)); refine blk_put (cs := #[.bool t562, .slice none 0 0, .slice none 0 0]) ?_ 1 _ rfl; (with_reducible repeat (fail)); refine blk_put (cs := #[.bool false, .slice none 0 0, .slice none 0 0]) ?_ 0 _ rfl; (with_reducible repeat (fail)); exact BK554.out) Try.underlying46 rfl (by kernel_rfl)) rfl ?_
 exact ⟨_, _, rfl, Kd.R_mono (Kd.R_far (p := ⟨gb554, 2, none⟩) (Kd.R_far (p := ⟨gb554, 1, none⟩) (Kd.R_far (p := ⟨gb554, 0, none⟩) (Kd.R_types HO565.out BK554.out (by decide)) (fun _ hk => hk.2) (.bool t562)) (fun _ hk => hk.2) (.slice Ao14 t563.length co14)) (fun _ hk => hk.2) (.slice Ao16 t566.length co16)) (fun _ hk => hk.1.1.1), Kd.R_mono (Kd.R_far (p := ⟨gb554, 2, none⟩) (Kd.R_far (p := ⟨gb554, 1, none⟩) (Kd.R_far (p := ⟨gb554, 0, none⟩) (Kd.R_types HO568.out BK554.out (by decide)) (fun _ hk => hk.2) (.bool t562)) (fun _ hk => hk.2) (.slice Ao14 t563.length co14)) (fun _ hk => hk.2) (.slice Ao16 t566.length co16)) (fun _ hk => hk.1.1.1), by repeat ((with_reducible first | exact HB.out | refine below_set ?_ GE554.out))⟩
end Go.Proofs.Ythheakfgmombdaa.F
end
section
namespace Go.Proofs.Ythheakfgmombdaa.F
open Go.RowKit Go.Proofs.YthheakfgmombdaaX.PrintWords Go.Proofs.YthheakfgmombdaaX.PrintLast Go.Proofs.YthheakfgmombdaaX.PrintMore
attribute [local go_sem] max2_int min2_int max_two min_two max_three min_three max_four min_four   -- for this text's walks alone
set_option linter.unusedVariables false
set_option linter.unusedSimpArgs false
set_option maxHeartbeats 8000000 in
set_option maxRecDepth 100000 in
theorem codewrightref02_Cmp.calls (k : Nat) (a0_0 : Bool) (A0_1 : Option Addr) (c0_1 : Nat) (l0_1 : List Int) (A0_2 : Option Addr) (c0_2 : Nat) (l0_2 : List Int) (a1_0 : Bool) (A1_1 : Option Addr) (c1_1 : Nat) (l1_1 : List Int) (A1_2 : Option Addr) (c1_2 : Nat) (l1_2 : List Int) (r : Int) (w : World) (hr0_1 : Kd.C (Kd.int .u32) w A0_1 l0_1.length l0_1) (hc0_1 : l0_1.length ≤ c0_1) (hr0_2 : Kd.C (Kd.int .u32) w A0_2 l0_2.length l0_2) (hc0_2 : l0_2.length ≤ c0_2) (hr1_1 : Kd.C (Kd.int .u32) w A1_1 l1_1.length l1_1) (hc1_1 : l1_1.length ≤ c1_1) (hr1_2 : Kd.C (Kd.int .u32) w A1_2 l1_2.length l1_2) (hc1_2 : l1_2.length ≤ c1_2) (h : codewrightref02_Cmp.f k a0_0 l0_1 l0_2 a1_0 l1_1 l1_2 = some r) :
  Calls Try.prog 29 #[.agg #[.bool a0_0, .slice A0_1 l0_1.length c0_1, .slice A0_2 l0_2.length c0_2], .agg #[.bool a1_0, .slice A1_1 l1_1.length c1_1, .slice A1_2 l1_2.length c1_2]] w fun e w' => e = .returned (.int .i64 r) ∧ Below w.heap.size w w' := by
 have hu46 := Try.underlying46
 have HR0_1 := Aside0.mk hr0_1
 have HC0_1 := Aside0.mk hc0_1
 clear hr0_1 hc0_1
 have HR0_2 := Aside0.mk hr0_2
 have HC0_2 := Aside0.mk hc0_2
 clear hr0_2 hc0_2
 have HR1_1 := Aside0.mk hr1_1
 have HC1_1 := Aside0.mk hc1_1
 clear hr1_1 hc1_1
 have HR1_2 := Aside0.mk hr1_2
 have HC1_2 := Aside0.mk hc1_2
 clear hr1_2 hc1_2
 have HB := Aside0.mk (Below.refl w.heap.size w)
 have H : ((codewrightref02_Sub.f k a0_0 l0_1 l0_2 a1_0 l1_1 l1_2).bind fun bt571 => ((codewrightref02_Sign.f k bt571.1 bt571.2.1 bt571.2.2).bind fun t578 => (some t578))) = some r := h
 clear h
 obtain ⟨⟨t571, t572, t575⟩, A3, H⟩ := bindA H
 obtain ⟨t578, A4, H⟩ := bindA H
 obtain rfl := Option.some.inj H
 go_enter Try.func29, Try.ntmps29
 go_wp2_with (first | (refine box_event ?hg (N := 2) ?hd (cs := #[.bool a0_0, .slice A0_1 l0_1.length c0_1, .slice A0_2 l0_2.length c0_2]) (t := 46) ?hr ?_; (case hd => rfl); (case hg => rfl); (case hr => go_simp; done); intro gb569 hg w5 hbox hb; have n0_ := Aside0.mk (below_step (HB.out) hb); have n1_ := Aside0.mk (hbox); have n2_ := Aside0.mk ((by rw [hg]; exact (below_size (HB.out)) : w.heap.size ≤ gb569)); have n3_ := Aside0.mk ((by rw [hg]; exact (below_size (HB.out)) : w.heap.size ≤ gb569)); clear HB; have HB := n0_; have BK569 := n1_; have GW569 := n2_; have GE569 := n3_; clear n0_ n1_ n2_ n3_; clear hb hbox hg) | (refine box_event ?hg (N := 3) ?hd (cs := #[.bool a1_0, .slice A1_1 l1_1.length c1_1, .slice A1_2 l1_2.length c1_2]) (t := 46) ?hr ?_; (case hd => rfl); (case hg => rfl); (case hr => go_simp; done); intro gb570 hg w6 hbox hb; have n0_ := Aside0.mk (blk_below (BK569.out) hb); have n1_ := Aside0.mk (below_step (HB.out) hb); have n2_ := Aside0.mk (hbox); have n3_ := Aside0.mk ((by rw [hg]; exact (below_size (HB.out)) : w.heap.size ≤ gb570)); have n4_ := Aside0.mk ((by rw [hg]; exact (below_size (HB.out)) : w.heap.size ≤ gb570)); have n5_ := Aside0.mk ((by rw [hg]; exact Nat.ne_of_lt (blk_lt (BK569.out)) : gb569 ≠ gb570)); have n6_ := Aside0.mk ((by rw [hg]; exact Nat.ne_of_gt (blk_lt (BK569.out)) : gb570 ≠ gb569)); clear BK569; clear HB; have BK569 := n0_; have HB := n1_; have BK570 := n2_; have GW570 := n3_; have GE570 := n4_; have NB569_570 := n5_; have NB570_569 := n6_; clear n0_ n1_ n2_ n3_ n4_ n5_ n6_; clear hb hbox hg; have hnb7 := NB569_570.out; have hnc7 := NB570_569.out; have hcz8_0 : w6.cell? ⟨gb569, 0, none⟩ = some (.bool a0_0) := (blk_cell BK569.out 0).trans rfl; have hcz8_1 : w6.cell? ⟨gb569, 1, none⟩ = some (.slice A0_1 l0_1.length c0_1) := (blk_cell BK569.out 1).trans rfl; have hcz8_2 : w6.cell? ⟨gb569, 2, none⟩ = some (.slice A0_2 l0_2.length c0_2) := (blk_cell BK569.out 2).trans rfl; have hfz8_0 := blk_frozen BK569.out 0; have hfz8_1 := blk_frozen BK569.out 1; have hfz8_2 := blk_frozen BK569.out 2; have hcz9_0 : w6.cell? ⟨gb570, 0, none⟩ = some (.bool a1_0) := (blk_cell BK570.out 0).trans rfl; have hcz9_1 : w6.cell? ⟨gb570, 1, none⟩ = some (.slice A1_1 l1_1.length c1_1) := (blk_cell BK570.out 1).trans rfl; have hcz9_2 : w6.cell? ⟨gb570, 2, none⟩ = some (.slice A1_2 l1_2.length c1_2) := (blk_cell BK570.out 2).trans rfl; have hfz9_0 := blk_frozen BK570.out 0; have hfz9_1 := blk_frozen BK570.out 1; have hfz9_2 := blk_frozen BK570.out 2) | (refine goesL_ (some 7) rfl rfl Try.func45 (by kernel_rfl) rfl #[.agg #[.bool a0_0, .slice A0_1 l0_1.length c0_1, .slice A0_2 l0_2.length c0_2], .agg #[.bool a1_0, .slice A1_1 l1_1.length c1_1, .slice A1_2 l1_2.length c1_2]] rfl (by simp only [List.map_toArray, List.map_cons, List.map_nil]; rfl) ?_; (with_reducible refine (codewrightref02_Sub.calls k a0_0 _ _ l0_1 _ _ l0_2 a1_0 _ _ l1_1 _ _ l1_2 t571 t572 t575 _ (Kd.C_below HR0_1.out HB.out) HC0_1.out (Kd.C_below HR0_2.out HB.out) HC0_2.out (Kd.C_below HR1_1.out HB.out) HC1_1.out (Kd.C_below HR1_2.out HB.out) HC1_2.out A3.out).mono ?_); rintro e w10 ⟨v573, v576, rfl, ho0, ho1, hb⟩; refine ⟨_, rfl, ?_⟩; have HO574 := Aside0.mk (Kd.R_lower ho0 (below_size (HB.out))); have HO577 := Aside0.mk (Kd.R_lower ho1 (below_size (HB.out))); replace BK569 := Aside0.mk (blk_below (BK569.out) hb); replace BK570 := Aside0.mk (blk_below (BK570.out) hb); replace HB := Aside0.mk (below_step (HB.out) hb); (try clear hb); (try clear ho0); (try clear ho1); obtain ⟨Ao11, co11, eo11⟩ := Kd.R_slice HO574.out; subst eo11; obtain ⟨Ao12, co12, eo12⟩ := Kd.R_slice HO577.out; subst eo12) | (refine goesL_ (some 8) rfl rfl Try.func32 (by kernel_rfl) rfl #[.agg #[.bool t571, .slice Ao11 t572.length co11, .slice Ao12 t575.length co12]] rfl (by simp only [List.map_toArray, List.map_cons, List.map_nil]; rfl) ?_; (with_reducible refine (codewrightref02_Sign.calls k t571 _ _ t572 _ _ t575 t578 _ ?side1 ?side2 ?side3 ?side4 A4.out).mono ?_); (case side1 => exact (Kd.R_reads' HO574.out).2.2); (case side2 => exact (Kd.R_reads' HO574.out).2.1); (case side3 => exact (Kd.R_reads' HO577.out).2.2); (case side4 => exact (Kd.R_reads' HO577.out).2.1); rintro e w13 ⟨rfl, hb⟩; refine ⟨_, rfl, ?_⟩; replace HO574 := Aside0.mk (Kd.R_below (HO574.out) hb); replace HO577 := Aside0.mk (Kd.R_below (HO577.out) hb); replace BK569 := Aside0.mk (blk_below (BK569.out) hb); replace BK570 := Aside0.mk (blk_below (BK570.out) hb); replace HB := Aside0.mk (below_step (HB.out) hb)))
 go_ret
 exact ⟨rfl, HB.out⟩
end Go.Proofs.Ythheakfgmombdaa.F
end
section
namespace Go.Proofs.Ythheakfgmombdaa.F
open Go.RowKit Go.Proofs.YthheakfgmombdaaX.PrintWords Go.Proofs.YthheakfgmombdaaX.PrintLast Go.Proofs.YthheakfgmombdaaX.PrintMore
attribute [local go_sem] max2_int min2_int max_two min_two max_three min_three max_four min_four   -- for this text's walks alone
set_option linter.unusedVariables false
set_option linter.unusedSimpArgs false
set_option maxHeartbeats 8000000 in
set_option maxRecDepth 100000 in
theorem codewrightref01_Of.calls (k : Nat) (a0 : Int) (r : List Int) (w : World) (h : codewrightref01_Of.f k a0 = some r) :
  Calls Try.prog 80 #[.int .u64 a0] w fun e w' => ∃ v0_ : Value, e = .returned (v0_) ∧ Kd.R (Kd.int .u32) 100 w' w.heap.size (fun _ => True) v0_ r ∧ Below w.heap.size w w' := by
 have HB := Aside0.mk (Below.refl w.heap.size w)
 have H : ((codewrightref01_Trim.f k (([(Int.tmod a0 4294967296) % 4294967296, (IntKind.u64.wrap (Int.tdiv a0 4294967296)) % 4294967296] : List Int))).bind fun t582 => (some t582)) = some r := h
 clear h
 obtain ⟨y579, hy579⟩ : ∃ y_ : List Int, y_ = (([(Int.tmod a0 4294967296) % 4294967296, (IntKind.u64.wrap (Int.tdiv a0 4294967296)) % 4294967296] : List Int)) := ⟨_, rfl⟩
 (try replace H := (Option.bind_some _ _).symm.trans H); rw [← hy579] at H
 have Ny579 := Aside0.mk hy579
 clear hy579
 obtain ⟨t582, A2, H⟩ := bindA H
 obtain rfl := Option.some.inj H
 go_enter Try.func80, Try.ntmps80
 go_wp2_with (first | (refine Kd.R_lit (Kd.int .u32) _ 100 ?hg (N := 9) ?hd (xs := ([(Int.tmod a0 4294967296) % 4294967296, (IntKind.u64.wrap (Int.tdiv a0 4294967296)) % 4294967296] : List Int)) (inner := [.int .u32 ((Int.tmod a0 4294967296) % 4294967296), .int .u32 ((IntKind.u64.wrap (Int.tdiv a0 4294967296)) % 4294967296)]) (ok := fun _ => True) (okp := fun _ => True) ?hr ?hp (fun _ hk => hk) trivial (Below.refl _ _) (Nat.le_refl _) (by simp) ?_; (case hd => rfl); (case hg => rfl); (case hr => go_simp; done); (case hp => exact (Reps.one (show Kd.M (Kd.int .u32) _ _ _ ((Int.tmod a0 4294967296) % 4294967296) [.int .u32 ((Int.tmod a0 4294967296) % 4294967296)] from rfl) (Reps.one (show Kd.M (Kd.int .u32) _ _ _ ((IntKind.u64.wrap (Int.tdiv a0 4294967296)) % 4294967296) [.int .u32 ((IntKind.u64.wrap (Int.tdiv a0 4294967296)) % 4294967296)] from rfl) (Reps.none _ _)))); intro v580 w3 ho4 hb hg_ hnew_; clear hg_ hnew_; (rw [← Ny579.out] at ho4); have HO581 := Aside0.mk (Kd.R_lower ho4 (below_size (HB.out))); replace HB := Aside0.mk (below_step (HB.out) hb); clear hb ho4; obtain ⟨Ao5, co5, eo5⟩ := Kd.R_slice HO581.out; subst eo5) | (refine goesL_ (some 10) rfl rfl Try.func97 (by kernel_rfl) rfl #[.slice Ao5 y579.length co5] rfl (by simp only [List.map_toArray, List.map_cons, List.map_nil]; rfl) ?_; (with_reducible refine (codewrightref01_Trim.calls k _ _ y579 t582 _ ?side1 ?side2 A2.out).mono ?_); (case side1 => exact (Kd.R_reads' HO581.out).2.2); (case side2 => exact (Kd.R_reads' HO581.out).2.1); rintro e w6 ⟨v583, rfl, ho0, hb⟩; refine ⟨_, rfl, ?_⟩; have n0_ := Aside0.mk (Kd.R_elder' (HO581.out) (Kd.R_base ho0) hb); have n1_ := Aside0.mk (Kd.R_lower (Kd.R_new' ho0 (Kd.R_lt (HO581.out))) (below_size (HB.out))); have n2_ := Aside0.mk (below_step (HB.out) hb); clear HO581; clear HB; have HO581 := n0_; have HO584 := n1_; have HB := n2_; clear n0_ n1_ n2_))
 go_ret
 exact ⟨_, rfl, Kd.R_mono HO584.out (fun _ hk => trivial), HB.out⟩
end Go.Proofs.Ythheakfgmombdaa.F
end
section
namespace Go.Proofs.Ythheakfgmombdaa.F
open Go.RowKit Go.Proofs.YthheakfgmombdaaX.PrintWords Go.Proofs.YthheakfgmombdaaX.PrintLast Go.Proofs.YthheakfgmombdaaX.PrintMore
attribute [local go_sem] max2_int min2_int max_two min_two max_three min_three max_four min_four   -- for this text's walks alone
set_option linter.unusedVariables false
set_option linter.unusedSimpArgs false
set_option maxHeartbeats 8000000 in
set_option maxRecDepth 100000 in
theorem codewrightref02_abs.calls (k : Nat) (a0 : Int) (r : List Int) (w : World) (h : codewrightref02_abs.f k a0 = some r) :
  Calls Try.prog 96 #[.int .i64 a0] w fun e w' => ∃ v0_ : Value, e = .returned (v0_) ∧ Kd.R (Kd.int .u32) 100 w' w.heap.size (fun _ => True) v0_ r ∧ Below w.heap.size w w' := by
 have HB := Aside0.mk (Below.refl w.heap.size w)
 have H : (if a0 < 0 then ((codewrightref01_Of.f k (IntKind.u64.wrap (wrap64 (-(wrap64 (a0 + 1)))))).bind fun t585 => ((codewrightref01_Add.f k t585 (([1] : List Int))).bind fun t591 => (some t591))) else ((codewrightref01_Of.f k (IntKind.u64.wrap (a0))).bind fun t594 => (some t594))) = some r := h
 clear h
 by_cases c2 : a0 < 0
 ·rw [if_pos c2] at H
  have c2b0 : decide (a0 < 0) = true := decide_eq_true c2
  clear c2
  obtain ⟨t585, A3, H⟩ := bindA H
  obtain ⟨y588, hy588⟩ : ∃ y_ : List Int, y_ = (([1] : List Int)) := ⟨_, rfl⟩
  (try replace H := (Option.bind_some _ _).symm.trans H); rw [← hy588] at H
  have Ny588 := Aside0.mk hy588
  clear hy588
  obtain ⟨t591, A4, H⟩ := bindA H
  obtain rfl := Option.some.inj H
  go_enter Try.func96, Try.ntmps96
  go_wp2_with (first | (refine goesL_ (some 9) rfl rfl Try.func80 (by kernel_rfl) rfl #[.int .u64 (IntKind.u64.wrap (wrap64 (-(wrap64 (a0 + 1)))))] rfl (by simp only [List.map_toArray, List.map_cons, List.map_nil]; rfl) ?_; (with_reducible refine (codewrightref01_Of.calls k (IntKind.u64.wrap (wrap64 (-(wrap64 (a0 + 1))))) t585 _ A3.out).mono ?_); rintro e w5 ⟨v586, rfl, ho0, hb⟩; refine ⟨_, rfl, ?_⟩; have HO587 := Aside0.mk (Kd.R_lower ho0 (below_size (HB.out))); replace HB := Aside0.mk (below_step (HB.out) hb)) | (refine Kd.R_lit (Kd.int .u32) _ 100 ?hg (N := 10) ?hd (xs := ([1] : List Int)) (inner := [.int .u32 1]) (ok := fun _ => True) (okp := fun _ => True) ?hr ?hp (fun _ hk => hk) trivial (Below.refl _ _) (Nat.le_refl _) (by simp) ?_; (case hd => rfl); (case hg => rfl); (case hr => go_simp; done); (case hp => exact (Reps.one (show Kd.M (Kd.int .u32) _ _ _ 1 [.int .u32 1] from rfl) (Reps.none _ _))); intro v589 w6 ho7 hb hg_ hnew_; clear hg_ hnew_; (rw [← Ny588.out] at ho7); have n0_ := Aside0.mk (Kd.R_elder' (HO587.out) (Kd.R_base ho7) hb); have n1_ := Aside0.mk (Kd.R_lower (Kd.R_new' ho7 (Kd.R_lt (HO587.out))) (below_size (HB.out))); have n2_ := Aside0.mk (below_step (HB.out) hb); clear HO587; clear HB; have HO587 := n0_; have HO590 := n1_; have HB := n2_; clear n0_ n1_ n2_; clear hb ho7; obtain ⟨Ao8, co8, eo8⟩ := Kd.R_slice HO587.out; subst eo8; obtain ⟨Ao9, co9, eo9⟩ := Kd.R_slice HO590.out; subst eo9) | (refine goesL_ (some 11) rfl rfl Try.func70 (by kernel_rfl) rfl #[.slice Ao8 t585.length co8, .slice Ao9 y588.length co9] rfl (by simp only [List.map_toArray, List.map_cons, List.map_nil]; rfl) ?_; (with_reducible refine (codewrightref01_Add.calls k _ _ t585 _ _ y588 t591 _ ?side1 ?side2 ?side3 ?side4 A4.out).mono ?_); (case side1 => exact (Kd.R_reads' HO587.out).2.2); (case side2 => exact (Kd.R_reads' HO587.out).2.1); (case side3 => exact (Kd.R_reads' HO590.out).2.2); (case side4 => exact (Kd.R_reads' HO590.out).2.1); rintro e w10 ⟨v592, rfl, ho0, hb⟩; refine ⟨_, rfl, ?_⟩; have n0_ := Aside0.mk (Kd.R_elder' (HO587.out) (Kd.R_base ho0) hb); have n1_ := Aside0.mk (Kd.R_elder' (HO590.out) (Kd.R_base ho0) hb); have n2_ := Aside0.mk (Kd.R_lower (Kd.R_new' (Kd.R_new' ho0 (Kd.R_lt (HO587.out))) (Kd.R_lt (HO590.out))) (below_size (HB.out))); have n3_ := Aside0.mk (below_step (HB.out) hb); clear HO587; clear HO590; clear HB; have HO587 := n0_; have HO590 := n1_; have HO593 := n2_; have HB := n3_; clear n0_ n1_ n2_ n3_))
  go_ret
  exact ⟨_, rfl, Kd.R_mono HO593.out (fun _ hk => trivial), HB.out⟩
 ·rw [if_neg c2] at H
  have c2b0 : decide (a0 < 0) = false := decide_eq_false c2
  clear c2
  obtain ⟨t594, A11, H⟩ := bindA H
  obtain rfl := Option.some.inj H
  go_enter Try.func96, Try.ntmps96
  go_wp2_with ((refine goesL_ (some 14) rfl rfl Try.func80 (by kernel_rfl) rfl #[.int .u64 (IntKind.u64.wrap (a0))] rfl (by simp only [List.map_toArray, List.map_cons, List.map_nil]; rfl) ?_; (with_reducible refine (codewrightref01_Of.calls k (IntKind.u64.wrap (a0)) t594 _ A11.out).mono ?_); rintro e w12 ⟨v595, rfl, ho0, hb⟩; refine ⟨_, rfl, ?_⟩; have HO596 := Aside0.mk (Kd.R_lower ho0 (below_size (HB.out))); replace HB := Aside0.mk (below_step (HB.out) hb)))
  go_ret
  exact ⟨_, rfl, HO596.out, HB.out⟩
end Go.Proofs.Ythheakfgmombdaa.F
end
section
namespace Go.Proofs.Ythheakfgmombdaa.F
open Go.RowKit Go.Proofs.YthheakfgmombdaaX.PrintWords Go.Proofs.YthheakfgmombdaaX.PrintLast Go.Proofs.YthheakfgmombdaaX.PrintMore
attribute [local go_sem] max2_int min2_int max_two min_two max_three min_three max_four min_four   -- for this text's walks alone
set_option linter.unusedVariables false
set_option linter.unusedSimpArgs false
set_option maxHeartbeats 8000000 in
set_option maxRecDepth 100000 in
theorem codewrightref02_Of.calls (k : Nat) (a0 : Int) (a1 : Int) (r1 : Bool) (r2 : List Int) (r3 : List Int) (w : World) (h : codewrightref02_Of.f k a0 a1 = some (r1, r2, r3)) :
  Calls Try.prog 65 #[.int .i64 a0, .int .i64 a1] w fun e w' => ∃ v1_ v2_ : Value, e = .returned (.agg #[.bool r1, v1_, v2_]) ∧ Kd.R (Kd.int .u32) 100 w' w.heap.size (fun k_ => some k_ ≠ (v2_ : Value).ownBlock) v1_ r2 ∧ Kd.R (Kd.int .u32) 100 w' w.heap.size (fun k_ => some k_ ≠ (v1_ : Value).ownBlock) v2_ r3 ∧ Below w.heap.size w w' := by
 have hu46 := Try.underlying46
 have HB := Aside0.mk (Below.refl w.heap.size w)
 have H : ((codewrightref02_abs.f k a0).bind fun t598 => ((codewrightref02_abs.f k a1).bind fun t601 => ((codewrightref02_Make.f k ((decide (a0 < 0)) != (decide (a1 < 0))) t598 t601).bind fun bt604 => (some (bt604.1, bt604.2.1, bt604.2.2))))) = some (r1, r2, r3) := h
 clear h
 obtain ⟨t598, A3, H⟩ := bindA H
 obtain ⟨t601, A4, H⟩ := bindA H
 obtain ⟨⟨t604, t605, t608⟩, A5, H⟩ := bindA H
 simp only [Option.some.injEq, Prod.mk.injEq] at H
 obtain ⟨rfl, rfl, rfl⟩ := H
 go_enter Try.func65, Try.ntmps65
 go_wp2_with (first | (refine box_event ?hg (N := 4) ?hd (cs := #[.bool false, .slice none 0 0, .slice none 0 0]) (t := 46) ?hr ?_; (case hd => rfl); (case hg => rfl); (case hr => go_simp; done); intro gb597 hg w6 hbox hb; have n0_ := Aside0.mk (below_step (HB.out) hb); have n1_ := Aside0.mk (hbox); have n2_ := Aside0.mk ((by rw [hg]; exact (below_size (HB.out)) : w.heap.size ≤ gb597)); have n3_ := Aside0.mk ((by rw [hg]; exact (below_size (HB.out)) : w.heap.size ≤ gb597)); clear HB; have HB := n0_; have BK597 := n1_; have GW597 := n2_; have GE597 := n3_; clear n0_ n1_ n2_ n3_; clear hb hbox hg) | (refine goesL_ (some 11) rfl rfl Try.func96 (by kernel_rfl) rfl #[.int .i64 a0] rfl (by simp only [List.map_toArray, List.map_cons, List.map_nil]; rfl) ?_; (with_reducible refine (codewrightref02_abs.calls k a0 t598 _ A3.out).mono ?_); rintro e w7 ⟨v599, rfl, ho0, hb⟩; refine ⟨_, rfl, ?_⟩; have HO600 := Aside0.mk (Kd.R_lower ho0 (below_size (HB.out))); replace BK597 := Aside0.mk (blk_below (BK597.out) hb); replace HB := Aside0.mk (below_step (HB.out) hb)) | (refine goesL_ (some 13) rfl rfl Try.func96 (by kernel_rfl) rfl #[.int .i64 a1] rfl (by simp only [List.map_toArray, List.map_cons, List.map_nil]; rfl) ?_; (with_reducible refine (codewrightref02_abs.calls k a1 t601 _ A4.out).mono ?_); rintro e w8 ⟨v602, rfl, ho0, hb⟩; refine ⟨_, rfl, ?_⟩; have n0_ := Aside0.mk (Kd.R_elder' (HO600.out) (Kd.R_base ho0) hb); have n1_ := Aside0.mk (Kd.R_lower (Kd.R_new' ho0 (Kd.R_lt (HO600.out))) (below_size (HB.out))); have n2_ := Aside0.mk (blk_below (BK597.out) hb); have n3_ := Aside0.mk (below_step (HB.out) hb); clear HO600; clear BK597; clear HB; have HO600 := n0_; have HO603 := n1_; have BK597 := n2_; have HB := n3_; clear n0_ n1_ n2_ n3_; (try clear hb); (try clear ho0); obtain ⟨Ao9, co9, eo9⟩ := Kd.R_slice HO600.out; subst eo9; obtain ⟨Ao10, co10, eo10⟩ := Kd.R_slice HO603.out; subst eo10) | (refine goesL_ (some 14) rfl rfl Try.func69 (by kernel_rfl) rfl #[.bool ((decide (a0 < 0)) != (decide (a1 < 0))), .slice Ao9 t598.length co9, .slice Ao10 t601.length co10] rfl (by simp only [List.map_toArray, List.map_cons, List.map_nil]; rfl) ?_; (with_reducible refine (codewrightref02_Make.calls k ((decide (a0 < 0)) != (decide (a1 < 0))) _ _ t598 _ _ t601 t604 t605 t608 _ ?side1 ?side2 ?side3 ?side4 A5.out).mono ?_); (case side1 => exact (Kd.R_reads' HO600.out).2.2); (case side2 => exact (Kd.R_reads' HO600.out).2.1); (case side3 => exact (Kd.R_reads' HO603.out).2.2); (case side4 => exact (Kd.R_reads' HO603.out).2.1); rintro e w11 ⟨v606, v609, rfl, ho0, ho1, hb⟩; refine ⟨_, rfl, ?_⟩; have n0_ := Aside0.mk (Kd.R_mono (Kd.R_told (Kd.R_told (Kd.R_old (HO600.out) hb) (Kd.R_base ho0)) (Kd.R_base ho1)) (fun _ h_ => h_.1)); have n1_ := Aside0.mk (Kd.R_mono (Kd.R_told (Kd.R_told (Kd.R_old (HO603.out) hb) (Kd.R_base ho0)) (Kd.R_base ho1)) (fun _ h_ => h_.1)); have n2_ := Aside0.mk (Kd.R_lower (Kd.R_new' (Kd.R_new' ho0 (Kd.R_lt (HO600.out))) (Kd.R_lt (HO603.out))) (below_size (HB.out))); have n3_ := Aside0.mk (Kd.R_lower (Kd.R_new' (Kd.R_new' ho1 (Kd.R_lt (HO600.out))) (Kd.R_lt (HO603.out))) (below_size (HB.out))); have n4_ := Aside0.mk (blk_below (BK597.out) hb); have n5_ := Aside0.mk (below_step (HB.out) hb); clear HO600; clear HO603; clear BK597; clear HB; have HO600 := n0_; have HO603 := n1_; have HO607 := n2_; have HO610 := n3_; have BK597 := n4_; have HB := n5_; clear n0_ n1_ n2_ n3_ n4_ n5_; (try clear hb); (try clear ho0); (try clear ho1); have hcz12_0 : w11.cell? ⟨gb597, 0, none⟩ = some (.bool false) := (blk_cell BK597.out 0).trans rfl; have hcz12_1 : w11.cell? ⟨gb597, 1, none⟩ = some (.slice none 0 0) := (blk_cell BK597.out 1).trans rfl; have hcz12_2 : w11.cell? ⟨gb597, 2, none⟩ = some (.slice none 0 0) := (blk_cell BK597.out 2).trans rfl; have hfz12_0 := blk_frozen BK597.out 0; have hfz12_1 := blk_frozen BK597.out 1; have hfz12_2 := blk_frozen BK597.out 2; obtain ⟨Ao13, co13, eo13⟩ := Kd.R_slice HO607.out; subst eo13; obtain ⟨Ao14, co14, eo14⟩ := Kd.R_slice HO610.out; subst eo14))
 refine bodyPost_ret (results_cell_row rfl _ _ gb597 46 #[.bool t604, .slice Ao13 t605.length co13, .slice Ao14 t608.length co14] (0, 0) _ rfl (by (with_reducible repeat (fail)); refine blk_put (cs := #[.bool t604, .slice Ao13 t605.length co13, .slice none 0 0]) ?_ 2 _ rfl; (with_reducible repeat (fail)); refine blk_put (cs := #[.bool t604, .slice none 0 0, .slice none 0 0]) ?_ 1 _ rfl; (with_reducible repeat (fail)); refine blk_put (cs := #[.bool false, .slice none 0 0, .slice none 0 0]) ?_ 0 _ rfl; (with_reducible repeat (fail)); exact BK597.out) Try.underlying46 rfl (by kernel_rfl)) rfl ?_
 exact ⟨_, _, rfl, Kd.R_mono (Kd.R_far (p := ⟨gb597, 2, none⟩) (Kd.R_far (p := ⟨gb597, 1, none⟩) (Kd.R_far (p := ⟨gb597, 0, none⟩) (Kd.R_types HO607.out BK597.out (by decide)) (fun _ hk => hk.2) (.bool t604)) (fun _ hk => hk.2) (.slice Ao13 t605.length co13)) (fun _ hk => hk.2) (.slice Ao14 t608.length co14)) (fun _ hk => hk.1.1.1), Kd.R_mono (Kd.R_far (p := ⟨gb597, 2, none⟩) (Kd.R_far (p := ⟨gb597, 1, none⟩) (Kd.R_far (p := ⟨gb597, 0, none⟩) (Kd.R_types HO610.out BK597.out (by decide)) (fun _ hk => hk.2) (.bool t604)) (fun _ hk => hk.2) (.slice Ao13 t605.length co13)) (fun _ hk => hk.2) (.slice Ao14 t608.length co14)) (fun _ hk => hk.1.1.1), by repeat ((with_reducible first | exact HB.out | refine below_set ?_ GE597.out))⟩
end Go.Proofs.Ythheakfgmombdaa.F
end
section
namespace Go.Proofs.Ythheakfgmombdaa.F
open Go.RowKit Go.Proofs.YthheakfgmombdaaX.PrintWords Go.Proofs.YthheakfgmombdaaX.PrintLast Go.Proofs.YthheakfgmombdaaX.PrintMore
attribute [local go_sem] max2_int min2_int max_two min_two max_three min_three max_four min_four   -- for this text's walks alone
set_option linter.unusedVariables false
set_option linter.unusedSimpArgs false
set_option maxHeartbeats 8000000 in
set_option maxRecDepth 100000 in
theorem codewrightref02_Int.calls (k : Nat) (a0 : Int) (r1 : Bool) (r2 : List Int) (r3 : List Int) (w : World) (h : codewrightref02_Int.f k a0 = some (r1, r2, r3)) :
  Calls Try.prog 30 #[.int .i64 a0] w fun e w' => ∃ v1_ v2_ : Value, e = .returned (.agg #[.bool r1, v1_, v2_]) ∧ Kd.R (Kd.int .u32) 100 w' w.heap.size (fun k_ => some k_ ≠ (v2_ : Value).ownBlock) v1_ r2 ∧ Kd.R (Kd.int .u32) 100 w' w.heap.size (fun k_ => some k_ ≠ (v1_ : Value).ownBlock) v2_ r3 ∧ Below w.heap.size w w' := by
 have hu46 := Try.underlying46
 have HB := Aside0.mk (Below.refl w.heap.size w)
 have H : ((codewrightref02_Of.f k a0 1).bind fun bt612 => (some (bt612.1, bt612.2.1, bt612.2.2))) = some (r1, r2, r3) := h
 clear h
 obtain ⟨⟨t612, t613, t616⟩, A2, H⟩ := bindA H
 simp only [Option.some.injEq, Prod.mk.injEq] at H
 obtain ⟨rfl, rfl, rfl⟩ := H
 go_enter Try.func30, Try.ntmps30
 go_wp2_with (first | (refine box_event ?hg (N := 2) ?hd (cs := #[.bool false, .slice none 0 0, .slice none 0 0]) (t := 46) ?hr ?_; (case hd => rfl); (case hg => rfl); (case hr => go_simp; done); intro gb611 hg w3 hbox hb; have n0_ := Aside0.mk (below_step (HB.out) hb); have n1_ := Aside0.mk (hbox); have n2_ := Aside0.mk ((by rw [hg]; exact (below_size (HB.out)) : w.heap.size ≤ gb611)); have n3_ := Aside0.mk ((by rw [hg]; exact (below_size (HB.out)) : w.heap.size ≤ gb611)); clear HB; have HB := n0_; have BK611 := n1_; have GW611 := n2_; have GE611 := n3_; clear n0_ n1_ n2_ n3_; clear hb hbox hg) | (refine goesL_ (some 4) rfl rfl Try.func65 (by kernel_rfl) rfl #[.int .i64 a0, .int .i64 1] rfl (by simp only [List.map_toArray, List.map_cons, List.map_nil]; rfl) ?_; (with_reducible refine (codewrightref02_Of.calls k a0 1 t612 t613 t616 _ A2.out).mono ?_); rintro e w4 ⟨v614, v617, rfl, ho0, ho1, hb⟩; refine ⟨_, rfl, ?_⟩; have HO615 := Aside0.mk (Kd.R_lower ho0 (below_size (HB.out))); have HO618 := Aside0.mk (Kd.R_lower ho1 (below_size (HB.out))); replace BK611 := Aside0.mk (blk_below (BK611.out) hb); replace HB := Aside0.mk (below_step (HB.out) hb); (try clear hb); (try clear ho0); (try clear ho1); have hcz5_0 : w4.cell? ⟨gb611, 0, none⟩ = some (.bool false) := (blk_cell BK611.out 0).trans rfl; have hcz5_1 : w4.cell? ⟨gb611, 1, none⟩ = some (.slice none 0 0) := (blk_cell BK611.out 1).trans rfl; have hcz5_2 : w4.cell? ⟨gb611, 2, none⟩ = some (.slice none 0 0) := (blk_cell BK611.out 2).trans rfl; have hfz5_0 := blk_frozen BK611.out 0; have hfz5_1 := blk_frozen BK611.out 1; have hfz5_2 := blk_frozen BK611.out 2; obtain ⟨Ao6, co6, eo6⟩ := Kd.R_slice HO615.out; subst eo6; obtain ⟨Ao7, co7, eo7⟩ := Kd.R_slice HO618.out; subst eo7))
 refine bodyPost_ret (results_cell_row rfl _ _ gb611 46 #[.bool t612, .slice Ao6 t613.length co6, .slice Ao7 t616.length co7] (0, 0) _ rfl (by (with_reducible repeat (fail)); refine blk_put (cs := #[.bool t612, .slice Ao6 t613.length co6, .slice none 0 0]) ?_ 2 _ rfl; (with_reducible repeat (fail)); refine blk_put (cs := #[.bool t612, .slice none 0 0, .slice none 0 0]) ?_ 1 _ rfl; (with_reducible repeat (fail)); refine blk_put (cs := #[.bool false, .slice none 0 0, .slice none 0 0]) ?_ 0 _ rfl; (with_reducible repeat (fail)); exact BK611.out) Try.underlying46 rfl (by kernel_rfl)) rfl ?_
 exact ⟨_, _, rfl, Kd.R_mono (Kd.R_far (p := ⟨gb611, 2, none⟩) (Kd.R_far (p := ⟨gb611, 1, none⟩) (Kd.R_far (p := ⟨gb611, 0, none⟩) (Kd.R_types HO615.out BK611.out (by decide)) (fun _ hk => hk.2) (.bool t612)) (fun _ hk => hk.2) (.slice Ao6 t613.length co6)) (fun _ hk => hk.2) (.slice Ao7 t616.length co7)) (fun _ hk => hk.1), Kd.R_mono (Kd.R_far (p := ⟨gb611, 2, none⟩) (Kd.R_far (p := ⟨gb611, 1, none⟩) (Kd.R_far (p := ⟨gb611, 0, none⟩) (Kd.R_types HO618.out BK611.out (by decide)) (fun _ hk => hk.2) (.bool t612)) (fun _ hk => hk.2) (.slice Ao6 t613.length co6)) (fun _ hk => hk.2) (.slice Ao7 t616.length co7)) (fun _ hk => hk.1), by repeat ((with_reducible first | exact HB.out | refine below_set ?_ GE611.out))⟩
end Go.Proofs.Ythheakfgmombdaa.F
end
section
namespace Go.Proofs.Ythheakfgmombdaa.F
open Go.RowKit Go.Proofs.YthheakfgmombdaaX.PrintWords Go.Proofs.YthheakfgmombdaaX.PrintLast Go.Proofs.YthheakfgmombdaaX.PrintMore
attribute [local go_sem] max2_int min2_int max_two min_two max_three min_three max_four min_four   -- for this text's walks alone
set_option linter.unusedVariables false
set_option linter.unusedSimpArgs false
def codewrightref02_Mul.T3 : Bool × List (List Nat × List Nat) := (true, [([], []), ([0], [0]), ([], []), ([2], [2]), ([1, 3], [1, 3]), ([], []), ([5], [5]), ([], []), ([7], [7]), ([6, 8], [6, 8]), ([], []), ([10], [10]), ([], []), ([12], [12]), ([11, 13, 9], [11, 13]), ([4, 9, 14, 14], [4, 9, 14]), ([15, 15, 0, 1, 2, 3, 4, 5, 6, 7, 8, 9, 10, 11, 12, 13, 14, 15], [15])])
def codewrightref02_Mul.B3 : List Nat := [0, 1, 0, 4, 15, 0, 32, 0, 128, 480, 0, 1024, 0, 4096, 16352, 32767, 65535]
theorem codewrightref02_Mul.tab3 : rtab .any (opsOf Try.f44 3) = codewrightref02_Mul.T3 := by kernel_rfl
theorem codewrightref02_Mul.bits3 : waitsOk codewrightref02_Mul.T3.2 codewrightref02_Mul.B3 = true := by kernel_rfl
set_option maxHeartbeats 8000000 in
set_option maxRecDepth 100000 in
theorem codewrightref02_Mul.calls (k : Nat) (a0_0 : Bool) (A0_1 : Option Addr) (c0_1 : Nat) (l0_1 : List Int) (A0_2 : Option Addr) (c0_2 : Nat) (l0_2 : List Int) (a1_0 : Bool) (A1_1 : Option Addr) (c1_1 : Nat) (l1_1 : List Int) (A1_2 : Option Addr) (c1_2 : Nat) (l1_2 : List Int) (r1 : Bool) (r2 : List Int) (r3 : List Int) (w : World) (hr0_1 : Kd.C (Kd.int .u32) w A0_1 l0_1.length l0_1) (hc0_1 : l0_1.length ≤ c0_1) (hr0_2 : Kd.C (Kd.int .u32) w A0_2 l0_2.length l0_2) (hc0_2 : l0_2.length ≤ c0_2) (hr1_1 : Kd.C (Kd.int .u32) w A1_1 l1_1.length l1_1) (hc1_1 : l1_1.length ≤ c1_1) (hr1_2 : Kd.C (Kd.int .u32) w A1_2 l1_2.length l1_2) (hc1_2 : l1_2.length ≤ c1_2) (h : codewrightref02_Mul.f k a0_0 l0_1 l0_2 a1_0 l1_1 l1_2 = some (r1, r2, r3)) :
  Calls Try.prog 44 #[.agg #[.bool a0_0, .slice A0_1 l0_1.length c0_1, .slice A0_2 l0_2.length c0_2], .agg #[.bool a1_0, .slice A1_1 l1_1.length c1_1, .slice A1_2 l1_2.length c1_2]] w fun e w' => ∃ v1_ v2_ : Value, e = .returned (.agg #[.bool r1, v1_, v2_]) ∧ Kd.R (Kd.int .u32) 100 w' w.heap.size (fun k_ => some k_ ≠ (v2_ : Value).ownBlock) v1_ r2 ∧ Kd.R (Kd.int .u32) 100 w' w.heap.size (fun k_ => some k_ ≠ (v1_ : Value).ownBlock) v2_ r3 ∧ Below w.heap.size w w' := by
 have hu46 := Try.underlying46
 have HR0_1 := Aside0.mk hr0_1
 have HC0_1 := Aside0.mk hc0_1
 clear hr0_1 hc0_1
 have HR0_2 := Aside0.mk hr0_2
 have HC0_2 := Aside0.mk hc0_2
 clear hr0_2 hc0_2
 have HR1_1 := Aside0.mk hr1_1
 have HC1_1 := Aside0.mk hc1_1
 clear hr1_1 hc1_1
 have HR1_2 := Aside0.mk hr1_2
 have HC1_2 := Aside0.mk hc1_2
 clear hr1_2 hc1_2
 have HB := Aside0.mk (Below.refl w.heap.size w)
 have H : ((codewrightref02_Trim.f k a0_0 l0_1 l0_2).bind fun bt1006 => ((codewrightref02_Trim.f k a1_0 l1_1 l1_2).bind fun bt1013 => ((codewrightref01_Mul.f k bt1006.2.1 bt1013.2.1).bind fun t1020 => ((codewrightref01_Mul.f k bt1006.2.2 bt1013.2.2).bind fun t1023 => ((codewrightref02_Make.f k (bt1006.1 != bt1013.1) t1020 t1023).bind fun bt1026 => (some (bt1026.1, bt1026.2.1, bt1026.2.2))))))) = some (r1, r2, r3) := h
 clear h
 obtain ⟨⟨t1006, t1007, t1010⟩, A3, H⟩ := bindA H
 obtain ⟨⟨t1013, t1014, t1017⟩, A4, H⟩ := bindA H
 obtain ⟨t1020, A5, H⟩ := bindA H
 obtain ⟨t1023, A6, H⟩ := bindA H
 obtain ⟨⟨t1026, t1027, t1030⟩, A7, H⟩ := bindA H
 simp only [Option.some.injEq, Prod.mk.injEq] at H
 obtain ⟨rfl, rfl, rfl⟩ := H
 go_enter Try.func44, Try.ntmps44
 try go_wp2_with (first | (refine box_event ?hg (N := 2) ?hd (cs := #[.bool a0_0, .slice A0_1 l0_1.length c0_1, .slice A0_2 l0_2.length c0_2]) (t := 46) ?hr ?_; (case hd => rfl); (case hg => rfl); (case hr => go_simp; done); intro gb1003 hg w8 hbox hb; have n0_ := Aside0.mk (below_step (HB.out) hb); have n1_ := Aside0.mk (hbox); have n2_ := Aside0.mk ((by rw [hg]; exact (below_size (HB.out)) : w.heap.size ≤ gb1003)); have n3_ := Aside0.mk ((by rw [hg]; exact (below_size (HB.out)) : w.heap.size ≤ gb1003)); clear HB; have HB := n0_; have BK1003 := n1_; have GW1003 := n2_; have GE1003 := n3_; clear n0_ n1_ n2_ n3_; clear hb hbox hg) | (refine box_event ?hg (N := 3) ?hd (cs := #[.bool a1_0, .slice A1_1 l1_1.length c1_1, .slice A1_2 l1_2.length c1_2]) (t := 46) ?hr ?_; (case hd => rfl); (case hg => rfl); (case hr => go_simp; done); intro gb1004 hg w9 hbox hb; have n0_ := Aside0.mk (blk_below (BK1003.out) hb); have n1_ := Aside0.mk (below_step (HB.out) hb); have n2_ := Aside0.mk (hbox); have n3_ := Aside0.mk ((by rw [hg]; exact (below_size (HB.out)) : w.heap.size ≤ gb1004)); have n4_ := Aside0.mk ((by rw [hg]; exact (below_size (HB.out)) : w.heap.size ≤ gb1004)); have n5_ := Aside0.mk ((by rw [hg]; exact Nat.ne_of_lt (blk_lt (BK1003.out)) : gb1003 ≠ gb1004)); have n6_ := Aside0.mk ((by rw [hg]; exact Nat.ne_of_gt (blk_lt (BK1003.out)) : gb1004 ≠ gb1003)); clear BK1003; clear HB; have BK1003 := n0_; have HB := n1_; have BK1004 := n2_; have GW1004 := n3_; have GE1004 := n4_; have NB1003_1004 := n5_; have NB1004_1003 := n6_; clear n0_ n1_ n2_ n3_ n4_ n5_ n6_; clear hb hbox hg) | (refine box_event ?hg (N := 4) ?hd (cs := #[.bool false, .slice none 0 0, .slice none 0 0]) (t := 46) ?hr ?_; (case hd => rfl); (case hg => rfl); (case hr => go_simp; done); intro gb1005 hg w10 hbox hb; have n0_ := Aside0.mk (blk_below (BK1003.out) hb); have n1_ := Aside0.mk (blk_below (BK1004.out) hb); have n2_ := Aside0.mk (below_step (HB.out) hb); have n3_ := Aside0.mk (hbox); have n4_ := Aside0.mk ((by rw [hg]; exact (below_size (HB.out)) : w.heap.size ≤ gb1005)); have n5_ := Aside0.mk ((by rw [hg]; exact (below_size (HB.out)) : w.heap.size ≤ gb1005)); have n6_ := Aside0.mk ((by rw [hg]; exact Nat.ne_of_lt (blk_lt (BK1003.out)) : gb1003 ≠ gb1005)); have n7_ := Aside0.mk ((by rw [hg]; exact Nat.ne_of_gt (blk_lt (BK1003.out)) : gb1005 ≠ gb1003)); have n8_ := Aside0.mk ((by rw [hg]; exact Nat.ne_of_lt (blk_lt (BK1004.out)) : gb1004 ≠ gb1005)); have n9_ := Aside0.mk ((by rw [hg]; exact Nat.ne_of_gt (blk_lt (BK1004.out)) : gb1005 ≠ gb1004)); clear BK1003; clear BK1004; clear HB; have BK1003 := n0_; have BK1004 := n1_; have HB := n2_; have BK1005 := n3_; have GW1005 := n4_; have GE1005 := n5_; have NB1003_1005 := n6_; have NB1005_1003 := n7_; have NB1004_1005 := n8_; have NB1005_1004 := n9_; clear n0_ n1_ n2_ n3_ n4_ n5_ n6_ n7_ n8_ n9_; clear hb hbox hg; have hnb11 := NB1003_1004.out; have hnc11 := NB1004_1003.out; have hnb12 := NB1003_1005.out; have hnc12 := NB1005_1003.out; have hcz13_0 : w10.cell? ⟨gb1003, 0, none⟩ = some (.bool a0_0) := (blk_cell BK1003.out 0).trans rfl; have hcz13_1 : w10.cell? ⟨gb1003, 1, none⟩ = some (.slice A0_1 l0_1.length c0_1) := (blk_cell BK1003.out 1).trans rfl; have hcz13_2 : w10.cell? ⟨gb1003, 2, none⟩ = some (.slice A0_2 l0_2.length c0_2) := (blk_cell BK1003.out 2).trans rfl; have hfz13_0 := blk_frozen BK1003.out 0; have hfz13_1 := blk_frozen BK1003.out 1; have hfz13_2 := blk_frozen BK1003.out 2) | (refine goesL_ (some 6) rfl rfl Try.func67 (by kernel_rfl) rfl #[.agg #[.bool a0_0, .slice A0_1 l0_1.length c0_1, .slice A0_2 l0_2.length c0_2]] rfl (by simp only [List.map_toArray, List.map_cons, List.map_nil]; rfl) ?_; (with_reducible refine (codewrightref02_Trim.calls k a0_0 _ _ l0_1 _ _ l0_2 t1006 t1007 t1010 _ (Kd.C_below HR0_1.out HB.out) HC0_1.out (Kd.C_below HR0_2.out HB.out) HC0_2.out A3.out).mono ?_); rintro e w14 ⟨v1008, v1011, rfl, ho0, ho1, hb⟩; refine ⟨_, rfl, ?_⟩; have HO1009 := Aside0.mk (Kd.R_lower ho0 (below_size (HB.out))); have HO1012 := Aside0.mk (Kd.R_lower ho1 (below_size (HB.out))); replace BK1003 := Aside0.mk (blk_below (BK1003.out) hb); replace BK1004 := Aside0.mk (blk_below (BK1004.out) hb); replace BK1005 := Aside0.mk (blk_below (BK1005.out) hb); replace HB := Aside0.mk (below_step (HB.out) hb); (try clear hb); (try clear ho0); (try clear ho1); have hcz15_0 : w14.cell? ⟨gb1003, 0, none⟩ = some (.bool a0_0) := (blk_cell BK1003.out 0).trans rfl; have hcz15_1 : w14.cell? ⟨gb1003, 1, none⟩ = some (.slice A0_1 l0_1.length c0_1) := (blk_cell BK1003.out 1).trans rfl; have hcz15_2 : w14.cell? ⟨gb1003, 2, none⟩ = some (.slice A0_2 l0_2.length c0_2) := (blk_cell BK1003.out 2).trans rfl; have hfz15_0 := blk_frozen BK1003.out 0; have hfz15_1 := blk_frozen BK1003.out 1; have hfz15_2 := blk_frozen BK1003.out 2; obtain ⟨Ao16, co16, eo16⟩ := Kd.R_slice HO1009.out; subst eo16; obtain ⟨Ao17, co17, eo17⟩ := Kd.R_slice HO1012.out; subst eo17; have hnb18 := NB1004_1005.out; have hnc18 := NB1005_1004.out; have hcz19_0 : w14.cell? ⟨gb1004, 0, none⟩ = some (.bool a1_0) := (blk_cell BK1004.out 0).trans rfl; have hcz19_1 : w14.cell? ⟨gb1004, 1, none⟩ = some (.slice A1_1 l1_1.length c1_1) := (blk_cell BK1004.out 1).trans rfl; have hcz19_2 : w14.cell? ⟨gb1004, 2, none⟩ = some (.slice A1_2 l1_2.length c1_2) := (blk_cell BK1004.out 2).trans rfl; have hfz19_0 := blk_frozen BK1004.out 0; have hfz19_1 := blk_frozen BK1004.out 1; have hfz19_2 := blk_frozen BK1004.out 2) | (refine goesL_ (some 8) rfl rfl Try.func67 (by kernel_rfl) rfl #[.agg #[.bool a1_0, .slice A1_1 l1_1.length c1_1, .slice A1_2 l1_2.length c1_2]] rfl (by simp only [List.map_toArray, List.map_cons, List.map_nil]; rfl) ?_; (with_reducible refine (codewrightref02_Trim.calls k a1_0 _ _ l1_1 _ _ l1_2 t1013 t1014 t1017 _ (Kd.C_below HR1_1.out (by repeat ((with_reducible first | exact HB.out | refine below_set ?_ GE1003.out)))) HC1_1.out (Kd.C_below HR1_2.out (by repeat ((with_reducible first | exact HB.out | refine below_set ?_ GE1003.out)))) HC1_2.out A4.out).mono ?_); rintro e w20 ⟨v1015, v1018, rfl, ho0, ho1, hb⟩; refine ⟨_, rfl, ?_⟩; have n0_ := Aside0.mk (Kd.R_mono (Kd.R_told (Kd.R_told (Kd.R_old ((Kd.R_mono (Kd.R_far (p := ⟨gb1003, 2, none⟩) (Kd.R_far (p := ⟨gb1003, 1, none⟩) (Kd.R_far (p := ⟨gb1003, 0, none⟩) (Kd.R_types HO1009.out BK1003.out (by decide)) (fun _ hk => hk.2) (.bool t1006)) (fun _ hk => hk.2) (.slice Ao16 t1007.length co16)) (fun _ hk => hk.2) (.slice Ao17 t1010.length co17)) (fun _ h_ => h_.1))) hb) (Kd.R_base ho0)) (Kd.R_base ho1)) (fun _ h_ => h_.1)); have n1_ := Aside0.mk (Kd.R_mono (Kd.R_told (Kd.R_told (Kd.R_old ((Kd.R_mono (Kd.R_far (p := ⟨gb1003, 2, none⟩) (Kd.R_far (p := ⟨gb1003, 1, none⟩) (Kd.R_far (p := ⟨gb1003, 0, none⟩) (Kd.R_types HO1012.out BK1003.out (by decide)) (fun _ hk => hk.2) (.bool t1006)) (fun _ hk => hk.2) (.slice Ao16 t1007.length co16)) (fun _ hk => hk.2) (.slice Ao17 t1010.length co17)) (fun _ h_ => h_.1))) hb) (Kd.R_base ho0)) (Kd.R_base ho1)) (fun _ h_ => h_.1)); have n2_ := Aside0.mk (Kd.R_lower (Kd.R_new' (Kd.R_new' ho0 (Kd.R_lt ((Kd.R_mono (Kd.R_far (p := ⟨gb1003, 2, none⟩) (Kd.R_far (p := ⟨gb1003, 1, none⟩) (Kd.R_far (p := ⟨gb1003, 0, none⟩) (Kd.R_types HO1009.out BK1003.out (by decide)) (fun _ hk => hk.2) (.bool t1006)) (fun _ hk => hk.2) (.slice Ao16 t1007.length co16)) (fun _ hk => hk.2) (.slice Ao17 t1010.length co17)) (fun _ h_ => h_.1))))) (Kd.R_lt ((Kd.R_mono (Kd.R_far (p := ⟨gb1003, 2, none⟩) (Kd.R_far (p := ⟨gb1003, 1, none⟩) (Kd.R_far (p := ⟨gb1003, 0, none⟩) (Kd.R_types HO1012.out BK1003.out (by decide)) (fun _ hk => hk.2) (.bool t1006)) (fun _ hk => hk.2) (.slice Ao16 t1007.length co16)) (fun _ hk => hk.2) (.slice Ao17 t1010.length co17)) (fun _ h_ => h_.1))))) (below_size (by repeat ((with_reducible first | exact HB.out | refine below_set ?_ GE1003.out))))); have n3_ := Aside0.mk (Kd.R_lower (Kd.R_new' (Kd.R_new' ho1 (Kd.R_lt ((Kd.R_mono (Kd.R_far (p := ⟨gb1003, 2, none⟩) (Kd.R_far (p := ⟨gb1003, 1, none⟩) (Kd.R_far (p := ⟨gb1003, 0, none⟩) (Kd.R_types HO1009.out BK1003.out (by decide)) (fun _ hk => hk.2) (.bool t1006)) (fun _ hk => hk.2) (.slice Ao16 t1007.length co16)) (fun _ hk => hk.2) (.slice Ao17 t1010.length co17)) (fun _ h_ => h_.1))))) (Kd.R_lt ((Kd.R_mono (Kd.R_far (p := ⟨gb1003, 2, none⟩) (Kd.R_far (p := ⟨gb1003, 1, none⟩) (Kd.R_far (p := ⟨gb1003, 0, none⟩) (Kd.R_types HO1012.out BK1003.out (by decide)) (fun _ hk => hk.2) (.bool t1006)) (fun _ hk => hk.2) (.slice Ao16 t1007.length co16)) (fun _ hk => hk.2) (.slice Ao17 t1010.length co17)) (fun _ h_ => h_.1))))) (below_size (by repeat ((with_reducible first | exact HB.out | refine below_set ?_ GE1003.out))))); have n4_ := Aside0.mk (blk_below (g := gb1003) (o := .cells #[.bool t1006, .slice Ao16 t1007.length co16, .slice Ao17 t1010.length co17] 46 (0, 0)) (by (with_reducible repeat (fail)); refine blk_put (cs := #[.bool t1006, .slice Ao16 t1007.length co16, .slice A0_2 l0_2.length c0_2]) ?_ 2 _ rfl; (with_reducible repeat (fail)); refine blk_put (cs := #[.bool t1006, .slice A0_1 l0_1.length c0_1, .slice A0_2 l0_2.length c0_2]) ?_ 1 _ rfl; (with_reducible repeat (fail)); refine blk_put (cs := #[.bool a0_0, .slice A0_1 l0_1.length c0_1, .slice A0_2 l0_2.length c0_2]) ?_ 0 _ rfl; (with_reducible repeat (fail)); exact BK1003.out) hb); have n5_ := Aside0.mk (blk_below (g := gb1004) (o := .cells #[.bool a1_0, .slice A1_1 l1_1.length c1_1, .slice A1_2 l1_2.length c1_2] 46 (0, 0)) (by (with_reducible repeat (fail)); refine blk_far ?_ NB1004_1003.out _; (with_reducible repeat (fail)); refine blk_far ?_ NB1004_1003.out _; (with_reducible repeat (fail)); refine blk_far ?_ NB1004_1003.out _; (with_reducible repeat (fail)); exact BK1004.out) hb); have n6_ := Aside0.mk (blk_below (g := gb1005) (o := .cells #[.bool false, .slice none 0 0, .slice none 0 0] 46 (0, 0)) (by (with_reducible repeat (fail)); refine blk_far ?_ NB1005_1003.out _; (with_reducible repeat (fail)); refine blk_far ?_ NB1005_1003.out _; (with_reducible repeat (fail)); refine blk_far ?_ NB1005_1003.out _; (with_reducible repeat (fail)); exact BK1005.out) hb); have n7_ := Aside0.mk (below_step (by repeat ((with_reducible first | exact HB.out | refine below_set ?_ GE1003.out))) hb); clear HO1009; clear HO1012; clear BK1003; clear BK1004; clear BK1005; clear HB; have HO1009 := n0_; have HO1012 := n1_; have HO1016 := n2_; have HO1019 := n3_; have BK1003 := n4_; have BK1004 := n5_; have BK1005 := n6_; have HB := n7_; clear n0_ n1_ n2_ n3_ n4_ n5_ n6_ n7_; (try clear hb); (try clear ho0); (try clear ho1); have hcz21_0 : w20.cell? ⟨gb1004, 0, none⟩ = some (.bool a1_0) := (blk_cell BK1004.out 0).trans rfl; have hcz21_1 : w20.cell? ⟨gb1004, 1, none⟩ = some (.slice A1_1 l1_1.length c1_1) := (blk_cell BK1004.out 1).trans rfl; have hcz21_2 : w20.cell? ⟨gb1004, 2, none⟩ = some (.slice A1_2 l1_2.length c1_2) := (blk_cell BK1004.out 2).trans rfl; have hfz21_0 := blk_frozen BK1004.out 0; have hfz21_1 := blk_frozen BK1004.out 1; have hfz21_2 := blk_frozen BK1004.out 2; obtain ⟨Ao22, co22, eo22⟩ := Kd.R_slice HO1016.out; subst eo22; obtain ⟨Ao23, co23, eo23⟩ := Kd.R_slice HO1019.out; subst eo23))
 have n0_ : Aside0 (Kd.R (Kd.int .u32) 100 (((w20.setCell ⟨gb1004, 0, none⟩ (.bool t1013)).setCell ⟨gb1004, 1, none⟩ (.slice Ao22 t1014.length co22)).setCell ⟨gb1004, 2, none⟩ (.slice Ao23 t1017.length co23)) w.heap.size (fun k_ => some k_ ≠ (.slice Ao17 t1010.length co17 : Value).ownBlock ∧ some k_ ≠ (.slice Ao22 t1014.length co22 : Value).ownBlock ∧ some k_ ≠ (.slice Ao23 t1017.length co23 : Value).ownBlock) (.slice Ao16 t1007.length co16) t1007) := ⟨Kd.R_mono (Kd.R_far (p := ⟨gb1004, 2, none⟩) (Kd.R_far (p := ⟨gb1004, 1, none⟩) (Kd.R_far (p := ⟨gb1004, 0, none⟩) (Kd.R_types HO1009.out BK1004.out (by decide)) (fun _ hk => hk.2) (.bool t1013)) (fun _ hk => hk.2) (.slice Ao22 t1014.length co22)) (fun _ hk => hk.2) (.slice Ao23 t1017.length co23)) (fun _ hk => ⟨hk.1.1.1, ⟨hk.1.1.2, hk.1.2⟩⟩)⟩
 have n1_ : Aside0 (Kd.R (Kd.int .u32) 100 (((w20.setCell ⟨gb1004, 0, none⟩ (.bool t1013)).setCell ⟨gb1004, 1, none⟩ (.slice Ao22 t1014.length co22)).setCell ⟨gb1004, 2, none⟩ (.slice Ao23 t1017.length co23)) w.heap.size (fun k_ => some k_ ≠ (.slice Ao16 t1007.length co16 : Value).ownBlock ∧ some k_ ≠ (.slice Ao22 t1014.length co22 : Value).ownBlock ∧ some k_ ≠ (.slice Ao23 t1017.length co23 : Value).ownBlock) (.slice Ao17 t1010.length co17) t1010) := ⟨Kd.R_mono (Kd.R_far (p := ⟨gb1004, 2, none⟩) (Kd.R_far (p := ⟨gb1004, 1, none⟩) (Kd.R_far (p := ⟨gb1004, 0, none⟩) (Kd.R_types HO1012.out BK1004.out (by decide)) (fun _ hk => hk.2) (.bool t1013)) (fun _ hk => hk.2) (.slice Ao22 t1014.length co22)) (fun _ hk => hk.2) (.slice Ao23 t1017.length co23)) (fun _ hk => ⟨hk.1.1.1, ⟨hk.1.1.2, hk.1.2⟩⟩)⟩
 have n2_ : Aside0 (Kd.R (Kd.int .u32) 100 (((w20.setCell ⟨gb1004, 0, none⟩ (.bool t1013)).setCell ⟨gb1004, 1, none⟩ (.slice Ao22 t1014.length co22)).setCell ⟨gb1004, 2, none⟩ (.slice Ao23 t1017.length co23)) w.heap.size (fun k_ => some k_ ≠ (.slice Ao16 t1007.length co16 : Value).ownBlock ∧ some k_ ≠ (.slice Ao17 t1010.length co17 : Value).ownBlock ∧ some k_ ≠ (.slice Ao23 t1017.length co23 : Value).ownBlock) (.slice Ao22 t1014.length co22) t1014) := ⟨Kd.R_mono (Kd.R_far (p := ⟨gb1004, 2, none⟩) (Kd.R_far (p := ⟨gb1004, 1, none⟩) (Kd.R_far (p := ⟨gb1004, 0, none⟩) (Kd.R_types HO1016.out BK1004.out (by decide)) (fun _ hk => hk.2) (.bool t1013)) (fun _ hk => hk.2) (.slice Ao22 t1014.length co22)) (fun _ hk => hk.2) (.slice Ao23 t1017.length co23)) (fun _ hk => ⟨hk.1.1.2, ⟨hk.1.2, hk.1.1.1⟩⟩)⟩
 have n3_ : Aside0 (Kd.R (Kd.int .u32) 100 (((w20.setCell ⟨gb1004, 0, none⟩ (.bool t1013)).setCell ⟨gb1004, 1, none⟩ (.slice Ao22 t1014.length co22)).setCell ⟨gb1004, 2, none⟩ (.slice Ao23 t1017.length co23)) w.heap.size (fun k_ => some k_ ≠ (.slice Ao16 t1007.length co16 : Value).ownBlock ∧ some k_ ≠ (.slice Ao17 t1010.length co17 : Value).ownBlock ∧ some k_ ≠ (.slice Ao22 t1014.length co22 : Value).ownBlock) (.slice Ao23 t1017.length co23) t1017) := ⟨Kd.R_mono (Kd.R_far (p := ⟨gb1004, 2, none⟩) (Kd.R_far (p := ⟨gb1004, 1, none⟩) (Kd.R_far (p := ⟨gb1004, 0, none⟩) (Kd.R_types HO1019.out BK1004.out (by decide)) (fun _ hk => hk.2) (.bool t1013)) (fun _ hk => hk.2) (.slice Ao22 t1014.length co22)) (fun _ hk => hk.2) (.slice Ao23 t1017.length co23)) (fun _ hk => ⟨hk.1.1.2, ⟨hk.1.2, hk.1.1.1⟩⟩)⟩
 have n4_ : Aside0 ((((w20.setCell ⟨gb1004, 0, none⟩ (.bool t1013)).setCell ⟨gb1004, 1, none⟩ (.slice Ao22 t1014.length co22)).setCell ⟨gb1004, 2, none⟩ (.slice Ao23 t1017.length co23)).heap[gb1003]? = some (.cells #[.bool t1006, .slice Ao16 t1007.length co16, .slice Ao17 t1010.length co17] 46 (0, 0))) := ⟨by (with_reducible repeat (fail)); refine blk_far ?_ NB1003_1004.out _; (with_reducible repeat (fail)); refine blk_far ?_ NB1003_1004.out _; (with_reducible repeat (fail)); refine blk_far ?_ NB1003_1004.out _; (with_reducible repeat (fail)); exact BK1003.out⟩
 have n5_ : Aside0 ((((w20.setCell ⟨gb1004, 0, none⟩ (.bool t1013)).setCell ⟨gb1004, 1, none⟩ (.slice Ao22 t1014.length co22)).setCell ⟨gb1004, 2, none⟩ (.slice Ao23 t1017.length co23)).heap[gb1004]? = some (.cells #[.bool t1013, .slice Ao22 t1014.length co22, .slice Ao23 t1017.length co23] 46 (0, 0))) := ⟨by (with_reducible repeat (fail)); refine blk_put (cs := #[.bool t1013, .slice Ao22 t1014.length co22, .slice A1_2 l1_2.length c1_2]) ?_ 2 _ rfl; (with_reducible repeat (fail)); refine blk_put (cs := #[.bool t1013, .slice A1_1 l1_1.length c1_1, .slice A1_2 l1_2.length c1_2]) ?_ 1 _ rfl; (with_reducible repeat (fail)); refine blk_put (cs := #[.bool a1_0, .slice A1_1 l1_1.length c1_1, .slice A1_2 l1_2.length c1_2]) ?_ 0 _ rfl; (with_reducible repeat (fail)); exact BK1004.out⟩
 have n6_ : Aside0 ((((w20.setCell ⟨gb1004, 0, none⟩ (.bool t1013)).setCell ⟨gb1004, 1, none⟩ (.slice Ao22 t1014.length co22)).setCell ⟨gb1004, 2, none⟩ (.slice Ao23 t1017.length co23)).heap[gb1005]? = some (.cells #[.bool false, .slice none 0 0, .slice none 0 0] 46 (0, 0))) := ⟨by (with_reducible repeat (fail)); refine blk_far ?_ NB1005_1004.out _; (with_reducible repeat (fail)); refine blk_far ?_ NB1005_1004.out _; (with_reducible repeat (fail)); refine blk_far ?_ NB1005_1004.out _; (with_reducible repeat (fail)); exact BK1005.out⟩
 have n7_ : Aside0 (Below w.heap.size w (((w20.setCell ⟨gb1004, 0, none⟩ (.bool t1013)).setCell ⟨gb1004, 1, none⟩ (.slice Ao22 t1014.length co22)).setCell ⟨gb1004, 2, none⟩ (.slice Ao23 t1017.length co23))) := ⟨by repeat ((with_reducible first | exact HB.out | refine below_set ?_ GE1004.out))⟩
 generalize (((w20.setCell ⟨gb1004, 0, none⟩ (.bool t1013)).setCell ⟨gb1004, 1, none⟩ (.slice Ao22 t1014.length co22)).setCell ⟨gb1004, 2, none⟩ (.slice Ao23 t1017.length co23)) = w24 at n0_ n1_ n2_ n3_ n4_ n5_ n6_ n7_ ⊢
 have HO1009 := n0_
 have HO1012 := n1_
 have HO1016 := n2_
 have HO1019 := n3_
 have BK1003 := n4_
 have BK1004 := n5_
 have BK1005 := n6_
 have HB := n7_
 clear n0_ n1_ n2_ n3_ n4_ n5_ n6_ n7_
 replace HO1009 := Aside0.mk (Kd.R_drew HO1009.out)
 replace HO1012 := Aside0.mk (Kd.R_drew HO1012.out)
 replace HO1016 := Aside0.mk (Kd.R_drew HO1016.out)
 replace HO1019 := Aside0.mk (Kd.R_drew HO1019.out)
 replace BK1003 := Aside0.mk (blk_drew BK1003.out)
 replace BK1004 := Aside0.mk (blk_drew BK1004.out)
 replace BK1005 := Aside0.mk (blk_drew BK1005.out)
 replace HB := Aside0.mk (below_drew1 HB.out)
 refine start_ (n := 17) (S := fun w' => w'.cell? ⟨gb1003, 0, none⟩ = some (.bool t1006) ∧ w'.cell? ⟨gb1003, 1, none⟩ = some (.slice Ao16 t1007.length co16) ∧ w'.cell? ⟨gb1003, 2, none⟩ = some (.slice Ao17 t1010.length co17) ∧ w'.cell? ⟨gb1004, 0, none⟩ = some (.bool t1013) ∧ w'.cell? ⟨gb1004, 1, none⟩ = some (.slice Ao22 t1014.length co22) ∧ w'.cell? ⟨gb1004, 2, none⟩ = some (.slice Ao23 t1017.length co23)) (ds := []) #[false, false, false, false, false, false, false, false, false, false, false, false, false, false, false, false, false] (by kernel_rfl) rfl rfl ⟨(blk_cell BK1003.out 0).trans rfl, (blk_cell BK1003.out 1).trans rfl, (blk_cell BK1003.out 2).trans rfl, (blk_cell BK1004.out 0).trans rfl, (blk_cell BK1004.out 1).trans rfl, (blk_cell BK1004.out 2).trans rfl⟩ (fun hHeld => ?_); refine with_tabW codewrightref02_Mul.tab3 codewrightref02_Mul.bits3 (fun HT_ HW_ => ?_)
 generalize w24.drew = w25 at HO1009 HO1012 HO1016 HO1019 BK1003 BK1004 BK1005 HB hHeld ⊢
 refine pure_ (i := 0) (N := some 9) (v := ?_) (a' := ?_) #[true, false, false, false, false, false, false, false, false, false, false, false, false, false, false, false, false] rfl rfl (any_of HT_.out (by kernel_rfl)) (fun _ _ _ h => h) (Or.inl ⟨by rfl, ?_⟩) ?_ ?_
 rotate_left
 ·intro w'
  go_simp
  with_reducible rfl
 rotate_left
 ·simp only [Act.put, List.setIfInBounds_toArray, List.set_cons_zero, List.set_cons_succ, i64_w, i32_w]
  rfl
 refine pure_ (i := 2) (N := some 11) (v := ?_) (a' := ?_) #[true, false, true, false, false, false, false, false, false, false, false, false, false, false, false, false, false] rfl rfl (any_of HT_.out (by kernel_rfl)) (fun _ _ _ h => h) (Or.inl ⟨by rfl, ?_⟩) ?_ ?_
 rotate_left
 ·intro w'
  go_simp
  with_reducible rfl
 rotate_left
 ·simp only [Act.put, List.setIfInBounds_toArray, List.set_cons_zero, List.set_cons_succ, i64_w, i32_w]
  rfl
 refine pure_ (i := 5) (N := some 14) (v := ?_) (a' := ?_) #[true, false, true, false, false, true, false, false, false, false, false, false, false, false, false, false, false] rfl rfl (any_of HT_.out (by kernel_rfl)) (fun _ _ _ h => h) (Or.inl ⟨by rfl, ?_⟩) ?_ ?_
 rotate_left
 ·intro w'
  go_simp
  with_reducible rfl
 rotate_left
 ·simp only [Act.put, List.setIfInBounds_toArray, List.set_cons_zero, List.set_cons_succ, i64_w, i32_w]
  rfl
 refine pure_ (i := 7) (N := some 16) (v := ?_) (a' := ?_) #[true, false, true, false, false, true, false, true, false, false, false, false, false, false, false, false, false] rfl rfl (any_of HT_.out (by kernel_rfl)) (fun _ _ _ h => h) (Or.inl ⟨by rfl, ?_⟩) ?_ ?_
 rotate_left
 ·intro w'
  go_simp
  with_reducible rfl
 rotate_left
 ·simp only [Act.put, List.setIfInBounds_toArray, List.set_cons_zero, List.set_cons_succ, i64_w, i32_w]
  rfl
 refine pure_ (i := 10) (N := some 19) (v := ?_) (a' := ?_) #[true, false, true, false, false, true, false, true, false, false, true, false, false, false, false, false, false] rfl rfl (any_of HT_.out (by kernel_rfl)) (fun _ _ _ h => h) (Or.inl ⟨by rfl, ?_⟩) ?_ ?_
 rotate_left
 ·intro w'
  go_simp
  with_reducible rfl
 rotate_left
 ·simp only [Act.put, List.setIfInBounds_toArray, List.set_cons_zero, List.set_cons_succ, i64_w, i32_w]
  rfl
 refine pure_ (i := 12) (N := some 21) (v := ?_) (a' := ?_) #[true, false, true, false, false, true, false, true, false, false, true, false, true, false, false, false, false] rfl rfl (any_of HT_.out (by kernel_rfl)) (fun _ _ _ h => h) (Or.inl ⟨by rfl, ?_⟩) ?_ ?_
 rotate_left
 ·intro w'
  go_simp
  with_reducible rfl
 rotate_left
 ·simp only [Act.put, List.setIfInBounds_toArray, List.set_cons_zero, List.set_cons_succ, i64_w, i32_w]
  rfl
 refine take_ (i := 1) (N := some 10) (v := ?_) (a' := ?_) #[true, true, true, false, false, true, false, true, false, false, true, false, true, false, false, false, false] rfl rfl (take_ofW HT_.out HW_.out (by kernel_rfl)) (fun _ _ _ h => h) (Or.inl ⟨by rfl, ?_⟩) hHeld ?_ ?_
 rotate_left
 ·rintro w' ⟨s0, s1, s2, s3, s4, s5⟩
  go_simp
  with_reducible rfl
 rotate_left
 ·simp only [Act.put, List.setIfInBounds_toArray, List.set_cons_zero, List.set_cons_succ, i64_w, i32_w]
  rfl
 refine take_ (i := 3) (N := some 12) (v := ?_) (a' := ?_) #[true, true, true, true, false, true, false, true, false, false, true, false, true, false, false, false, false] rfl rfl (take_ofW HT_.out HW_.out (by kernel_rfl)) (fun _ _ _ h => h) (Or.inl ⟨by rfl, ?_⟩) hHeld ?_ ?_
 rotate_left
 ·rintro w' ⟨s0, s1, s2, s3, s4, s5⟩
  go_simp
  with_reducible rfl
 rotate_left
 ·simp only [Act.put, List.setIfInBounds_toArray, List.set_cons_zero, List.set_cons_succ, i64_w, i32_w]
  rfl
 refine pure_ (i := 4) (N := some 13) (v := ?_) (a' := ?_) #[true, true, true, true, true, true, false, true, false, false, true, false, true, false, false, false, false] rfl rfl (any_of HT_.out (by kernel_rfl)) (fun _ _ _ h => h) (Or.inl ⟨by rfl, ?_⟩) ?_ ?_
 rotate_left
 ·intro w'
  go_simp
  with_reducible rfl
 rotate_left
 ·simp only [Act.put, List.setIfInBounds_toArray, List.set_cons_zero, List.set_cons_succ, i64_w, i32_w]
  rfl
 refine take_ (i := 6) (N := some 15) (v := ?_) (a' := ?_) #[true, true, true, true, true, true, true, true, false, false, true, false, true, false, false, false, false] rfl rfl (take_ofW HT_.out HW_.out (by kernel_rfl)) (fun _ _ _ h => h) (Or.inl ⟨by rfl, ?_⟩) hHeld ?_ ?_
 rotate_left
 ·rintro w' ⟨s0, s1, s2, s3, s4, s5⟩
  go_simp
  with_reducible rfl
 rotate_left
 ·simp only [Act.put, List.setIfInBounds_toArray, List.set_cons_zero, List.set_cons_succ, i64_w, i32_w]
  rfl
 refine take_ (i := 8) (N := some 17) (v := ?_) (a' := ?_) #[true, true, true, true, true, true, true, true, true, false, true, false, true, false, false, false, false] rfl rfl (take_ofW HT_.out HW_.out (by kernel_rfl)) (fun _ _ _ h => h) (Or.inl ⟨by rfl, ?_⟩) hHeld ?_ ?_
 rotate_left
 ·rintro w' ⟨s0, s1, s2, s3, s4, s5⟩
  go_simp
  with_reducible rfl
 rotate_left
 ·simp only [Act.put, List.setIfInBounds_toArray, List.set_cons_zero, List.set_cons_succ, i64_w, i32_w]
  rfl
 refine take_ (i := 11) (N := some 20) (v := ?_) (a' := ?_) #[true, true, true, true, true, true, true, true, true, false, true, true, true, false, false, false, false] rfl rfl (take_ofW HT_.out HW_.out (by kernel_rfl)) (fun _ _ _ h => h) (Or.inl ⟨by rfl, ?_⟩) hHeld ?_ ?_
 rotate_left
 ·rintro w' ⟨s0, s1, s2, s3, s4, s5⟩
  go_simp
  with_reducible rfl
 rotate_left
 ·simp only [Act.put, List.setIfInBounds_toArray, List.set_cons_zero, List.set_cons_succ, i64_w, i32_w]
  rfl
 refine take_ (i := 13) (N := some 22) (v := ?_) (a' := ?_) #[true, true, true, true, true, true, true, true, true, false, true, true, true, true, false, false, false] rfl rfl (take_ofW HT_.out HW_.out (by kernel_rfl)) (fun _ _ _ h => h) (Or.inl ⟨by rfl, ?_⟩) hHeld ?_ ?_
 rotate_left
 ·rintro w' ⟨s0, s1, s2, s3, s4, s5⟩
  go_simp
  with_reducible rfl
 rotate_left
 ·simp only [Act.put, List.setIfInBounds_toArray, List.set_cons_zero, List.set_cons_succ, i64_w, i32_w]
  rfl
 refine one_ (i := 9) (N := some 18) #[true, true, true, true, true, true, true, true, true, true, true, true, true, true, false, false, false] rfl rfl (one_of HT_.out (by kernel_rfl)) (by decide) (fun K hK => ?_)
 refine goes_ Try.func68 (by kernel_rfl) rfl #[.slice Ao16 t1007.length co16, .slice Ao22 t1014.length co22] (by rfl) rfl rfl (by simp only [List.map_toArray, List.map_cons, List.map_nil]; rfl) ?_
 with_reducible refine (codewrightref01_Mul.calls k _ _ t1007 _ _ t1014 t1020 _ ?side1 ?side2 ?side3 ?side4 A5.out).mono ?_
 (case side1 => exact (Kd.R_reads' HO1009.out).2.2)
 (case side2 => exact (Kd.R_reads' HO1009.out).2.1)
 (case side3 => exact (Kd.R_reads' HO1016.out).2.2)
 (case side4 => exact (Kd.R_reads' HO1016.out).2.1)
 rintro e w26 ⟨v1021, rfl, ho0, hb⟩
 refine ⟨_, rfl, ?_⟩
 have n0_ := Aside0.mk (Kd.R_elder' (HO1009.out) (Kd.R_base ho0) hb)
 have n1_ := Aside0.mk (Kd.R_elder' (HO1012.out) (Kd.R_base ho0) hb)
 have n2_ := Aside0.mk (Kd.R_elder' (HO1016.out) (Kd.R_base ho0) hb)
 have n3_ := Aside0.mk (Kd.R_elder' (HO1019.out) (Kd.R_base ho0) hb)
 have n4_ := Aside0.mk (Kd.R_lower (Kd.R_new' (Kd.R_new' (Kd.R_new' (Kd.R_new' ho0 (Kd.R_lt (HO1009.out))) (Kd.R_lt (HO1012.out))) (Kd.R_lt (HO1016.out))) (Kd.R_lt (HO1019.out))) (below_size (HB.out)))
 have n5_ := Aside0.mk (blk_below (BK1003.out) hb)
 have n6_ := Aside0.mk (blk_below (BK1004.out) hb)
 have n7_ := Aside0.mk (blk_below (BK1005.out) hb)
 have n8_ := Aside0.mk (below_step (HB.out) hb)
 clear HO1009
 clear HO1012
 clear HO1016
 clear HO1019
 clear BK1003
 clear BK1004
 clear BK1005
 clear HB
 have HO1009 := n0_
 have HO1012 := n1_
 have HO1016 := n2_
 have HO1019 := n3_
 have HO1022 := n4_
 have BK1003 := n5_
 have BK1004 := n6_
 have BK1005 := n7_
 have HB := n8_
 clear n0_ n1_ n2_ n3_ n4_ n5_ n6_ n7_ n8_
 refine hK.out _ _ ⟨(blk_cell BK1003.out 0).trans rfl, (blk_cell BK1003.out 1).trans rfl, (blk_cell BK1003.out 2).trans rfl, (blk_cell BK1004.out 0).trans rfl, (blk_cell BK1004.out 1).trans rfl, (blk_cell BK1004.out 2).trans rfl⟩ (fun hHeld => ?_)
 clear hK K
 refine norm_ (a' := ?_) ?_ ?_
 rotate_left
 ·show Act.put _ (some 18) _ = _
  simp only [Act.put, List.setIfInBounds_toArray, List.set_cons_zero, List.set_cons_succ, i64_w, i32_w]
  rfl
 refine one_ (i := 14) (N := some 23) #[true, true, true, true, true, true, true, true, true, true, true, true, true, true, true, false, false] rfl rfl (one_of HT_.out (by kernel_rfl)) (by decide) (fun K hK => ?_)
 refine goes_ Try.func68 (by kernel_rfl) rfl #[.slice Ao17 t1010.length co17, .slice Ao23 t1017.length co23] (by rfl) rfl rfl (by simp only [List.map_toArray, List.map_cons, List.map_nil]; rfl) ?_
 with_reducible refine (codewrightref01_Mul.calls k _ _ t1010 _ _ t1017 t1023 _ ?side1 ?side2 ?side3 ?side4 A6.out).mono ?_
 (case side1 => exact (Kd.R_reads' HO1012.out).2.2)
 (case side2 => exact (Kd.R_reads' HO1012.out).2.1)
 (case side3 => exact (Kd.R_reads' HO1019.out).2.2)
 (case side4 => exact (Kd.R_reads' HO1019.out).2.1)
 rintro e w27 ⟨v1024, rfl, ho0, hb⟩
 refine ⟨_, rfl, ?_⟩
 have n0_ := Aside0.mk (Kd.R_elder' (HO1009.out) (Kd.R_base ho0) hb)
 have n1_ := Aside0.mk (Kd.R_elder' (HO1012.out) (Kd.R_base ho0) hb)
 have n2_ := Aside0.mk (Kd.R_elder' (HO1016.out) (Kd.R_base ho0) hb)
 have n3_ := Aside0.mk (Kd.R_elder' (HO1019.out) (Kd.R_base ho0) hb)
 have n4_ := Aside0.mk (Kd.R_elder' (HO1022.out) (Kd.R_base ho0) hb)
 have n5_ := Aside0.mk (Kd.R_lower (Kd.R_new' (Kd.R_new' (Kd.R_new' (Kd.R_new' (Kd.R_new' ho0 (Kd.R_lt (HO1009.out))) (Kd.R_lt (HO1012.out))) (Kd.R_lt (HO1016.out))) (Kd.R_lt (HO1019.out))) (Kd.R_lt (HO1022.out))) (below_size (HB.out)))
 have n6_ := Aside0.mk (blk_below (BK1003.out) hb)
 have n7_ := Aside0.mk (blk_below (BK1004.out) hb)
 have n8_ := Aside0.mk (blk_below (BK1005.out) hb)
 have n9_ := Aside0.mk (below_step (HB.out) hb)
 clear HO1009
 clear HO1012
 clear HO1016
 clear HO1019
 clear HO1022
 clear BK1003
 clear BK1004
 clear BK1005
 clear HB
 have HO1009 := n0_
 have HO1012 := n1_
 have HO1016 := n2_
 have HO1019 := n3_
 have HO1022 := n4_
 have HO1025 := n5_
 have BK1003 := n6_
 have BK1004 := n7_
 have BK1005 := n8_
 have HB := n9_
 clear n0_ n1_ n2_ n3_ n4_ n5_ n6_ n7_ n8_ n9_
 obtain ⟨Ao28, co28, eo28⟩ := Kd.R_slice HO1022.out
 (subst eo28)
 obtain ⟨Ao29, co29, eo29⟩ := Kd.R_slice HO1025.out
 (subst eo29)
 refine hK.out _ _ ⟨(blk_cell BK1003.out 0).trans rfl, (blk_cell BK1003.out 1).trans rfl, (blk_cell BK1003.out 2).trans rfl, (blk_cell BK1004.out 0).trans rfl, (blk_cell BK1004.out 1).trans rfl, (blk_cell BK1004.out 2).trans rfl⟩ (fun hHeld => ?_)
 clear hK K
 refine norm_ (a' := ?_) ?_ ?_
 rotate_left
 ·show Act.put _ (some 23) _ = _
  simp only [Act.put, List.setIfInBounds_toArray, List.set_cons_zero, List.set_cons_succ, i64_w, i32_w]
  rfl
 refine one_ (i := 15) (N := some 24) #[true, true, true, true, true, true, true, true, true, true, true, true, true, true, true, true, false] rfl rfl (one_of HT_.out (by kernel_rfl)) (by decide) (fun K hK => ?_)
 refine goes_ Try.func69 (by kernel_rfl) rfl #[.bool (t1006 != t1013), .slice Ao28 t1020.length co28, .slice Ao29 t1023.length co29] (by rfl) rfl rfl (by simp only [List.map_toArray, List.map_cons, List.map_nil]; rfl) ?_
 with_reducible refine (codewrightref02_Make.calls k (t1006 != t1013) _ _ t1020 _ _ t1023 t1026 t1027 t1030 _ ?side1 ?side2 ?side3 ?side4 A7.out).mono ?_
 (case side1 => exact (Kd.R_reads' HO1022.out).2.2)
 (case side2 => exact (Kd.R_reads' HO1022.out).2.1)
 (case side3 => exact (Kd.R_reads' HO1025.out).2.2)
 (case side4 => exact (Kd.R_reads' HO1025.out).2.1)
 rintro e w30 ⟨v1028, v1031, rfl, ho0, ho1, hb⟩
 refine ⟨_, rfl, ?_⟩
 have n0_ := Aside0.mk (Kd.R_mono (Kd.R_told (Kd.R_told (Kd.R_old (HO1009.out) hb) (Kd.R_base ho0)) (Kd.R_base ho1)) (fun _ h_ => h_.1))
 have n1_ := Aside0.mk (Kd.R_mono (Kd.R_told (Kd.R_told (Kd.R_old (HO1012.out) hb) (Kd.R_base ho0)) (Kd.R_base ho1)) (fun _ h_ => h_.1))
 have n2_ := Aside0.mk (Kd.R_mono (Kd.R_told (Kd.R_told (Kd.R_old (HO1016.out) hb) (Kd.R_base ho0)) (Kd.R_base ho1)) (fun _ h_ => h_.1))
 have n3_ := Aside0.mk (Kd.R_mono (Kd.R_told (Kd.R_told (Kd.R_old (HO1019.out) hb) (Kd.R_base ho0)) (Kd.R_base ho1)) (fun _ h_ => h_.1))
 have n4_ := Aside0.mk (Kd.R_mono (Kd.R_told (Kd.R_told (Kd.R_old (HO1022.out) hb) (Kd.R_base ho0)) (Kd.R_base ho1)) (fun _ h_ => h_.1))
 have n5_ := Aside0.mk (Kd.R_mono (Kd.R_told (Kd.R_told (Kd.R_old (HO1025.out) hb) (Kd.R_base ho0)) (Kd.R_base ho1)) (fun _ h_ => h_.1))
 have n6_ := Aside0.mk (Kd.R_lower (Kd.R_new' (Kd.R_new' (Kd.R_new' (Kd.R_new' (Kd.R_new' (Kd.R_new' ho0 (Kd.R_lt (HO1009.out))) (Kd.R_lt (HO1012.out))) (Kd.R_lt (HO1016.out))) (Kd.R_lt (HO1019.out))) (Kd.R_lt (HO1022.out))) (Kd.R_lt (HO1025.out))) (below_size (by repeat ((with_reducible exact HB.out)))))
 have n7_ := Aside0.mk (Kd.R_lower (Kd.R_new' (Kd.R_new' (Kd.R_new' (Kd.R_new' (Kd.R_new' (Kd.R_new' ho1 (Kd.R_lt (HO1009.out))) (Kd.R_lt (HO1012.out))) (Kd.R_lt (HO1016.out))) (Kd.R_lt (HO1019.out))) (Kd.R_lt (HO1022.out))) (Kd.R_lt (HO1025.out))) (below_size (by repeat ((with_reducible exact HB.out)))))
 have n8_ := Aside0.mk (blk_below (BK1003.out) hb)
 have n9_ := Aside0.mk (blk_below (BK1004.out) hb)
 have n10_ := Aside0.mk (blk_below (BK1005.out) hb)
 have n11_ := Aside0.mk (below_step (by repeat ((with_reducible exact HB.out))) hb)
 clear HO1009
 clear HO1012
 clear HO1016
 clear HO1019
 clear HO1022
 clear HO1025
 clear BK1003
 clear BK1004
 clear BK1005
 clear HB
 have HO1009 := n0_
 have HO1012 := n1_
 have HO1016 := n2_
 have HO1019 := n3_
 have HO1022 := n4_
 have HO1025 := n5_
 have HO1029 := n6_
 have HO1032 := n7_
 have BK1003 := n8_
 have BK1004 := n9_
 have BK1005 := n10_
 have HB := n11_
 clear n0_ n1_ n2_ n3_ n4_ n5_ n6_ n7_ n8_ n9_ n10_ n11_
 obtain ⟨Ao32, co32, eo32⟩ := Kd.R_slice HO1029.out
 (subst eo32)
 obtain ⟨Ao34, co34, eo34⟩ := Kd.R_slice HO1032.out
 (subst eo34)
 refine hK.out _ _ ⟨(blk_cell BK1003.out 0).trans rfl, (blk_cell BK1003.out 1).trans rfl, (blk_cell BK1003.out 2).trans rfl, (blk_cell BK1004.out 0).trans rfl, (blk_cell BK1004.out 1).trans rfl, (blk_cell BK1004.out 2).trans rfl⟩ (fun hHeld => ?_)
 clear hK K
 refine norm_ (a' := ?_) ?_ ?_
 rotate_left
 ·show Act.put _ (some 24) _ = _
  simp only [Act.put, List.setIfInBounds_toArray, List.set_cons_zero, List.set_cons_succ, i64_w, i32_w]
  rfl
 refine one_ (i := 16) (N := none) #[true, true, true, true, true, true, true, true, true, true, true, true, true, true, true, true, true] rfl rfl (one_of HT_.out (by kernel_rfl)) (by decide) (fun K hK => ?_)
 have hs31 : w30.cell? ⟨gb1005, 0, none⟩ = some (.bool false) := (blk_cell BK1005.out 0).trans rfl
 have hfs31 := blk_frozen BK1005.out 0
 have hns31_0 := NB1003_1005.out
 have hns31_1 := NB1004_1005.out
 have hms31_0 := NB1005_1003.out
 have hms31_1 := NB1005_1004.out
 have hs33 : w30.cell? ⟨gb1005, 1, none⟩ = some (.slice none 0 0) := (blk_cell BK1005.out 1).trans rfl
 have hfs33 := blk_frozen BK1005.out 1
 have hns33_0 := NB1003_1005.out
 have hns33_1 := NB1004_1005.out
 have hms33_0 := NB1005_1003.out
 have hms33_1 := NB1005_1004.out
 have hs35 : w30.cell? ⟨gb1005, 2, none⟩ = some (.slice none 0 0) := (blk_cell BK1005.out 2).trans rfl
 have hfs35 := blk_frozen BK1005.out 2
 have hns35_0 := NB1003_1005.out
 have hns35_1 := NB1004_1005.out
 have hms35_0 := NB1005_1003.out
 have hms35_1 := NB1005_1004.out
 refine skip_ (w1 := ?_) (by rfl) rfl ?_ ?_
 rotate_left
 ·go_simp
  rfl
 refine hK.out _ _ ⟨((cell_far (p := ⟨gb1005, _, none⟩) NB1003_1005.out _).trans (((cell_far (p := ⟨gb1005, _, none⟩) NB1003_1005.out _).trans (((cell_far (p := ⟨gb1005, _, none⟩) NB1003_1005.out _).trans (hHeld.1)))))), ((cell_far (p := ⟨gb1005, _, none⟩) NB1003_1005.out _).trans (((cell_far (p := ⟨gb1005, _, none⟩) NB1003_1005.out _).trans (((cell_far (p := ⟨gb1005, _, none⟩) NB1003_1005.out _).trans (hHeld.2.1)))))), ((cell_far (p := ⟨gb1005, _, none⟩) NB1003_1005.out _).trans (((cell_far (p := ⟨gb1005, _, none⟩) NB1003_1005.out _).trans (((cell_far (p := ⟨gb1005, _, none⟩) NB1003_1005.out _).trans (hHeld.2.2.1)))))), ((cell_far (p := ⟨gb1005, _, none⟩) NB1004_1005.out _).trans (((cell_far (p := ⟨gb1005, _, none⟩) NB1004_1005.out _).trans (((cell_far (p := ⟨gb1005, _, none⟩) NB1004_1005.out _).trans (hHeld.2.2.2.1)))))), ((cell_far (p := ⟨gb1005, _, none⟩) NB1004_1005.out _).trans (((cell_far (p := ⟨gb1005, _, none⟩) NB1004_1005.out _).trans (((cell_far (p := ⟨gb1005, _, none⟩) NB1004_1005.out _).trans (hHeld.2.2.2.2.1)))))), ((cell_far (p := ⟨gb1005, _, none⟩) NB1004_1005.out _).trans (((cell_far (p := ⟨gb1005, _, none⟩) NB1004_1005.out _).trans (((cell_far (p := ⟨gb1005, _, none⟩) NB1004_1005.out _).trans (hHeld.2.2.2.2.2))))))⟩ (fun hHeld => ?_)
 clear hK K
 refine done_ (done_of HT_.out (by kernel_rfl)) ?_
 try go_wp2
 refine bodyPost_ret (results_cell_row rfl _ _ gb1005 46 #[.bool t1026, .slice Ao32 t1027.length co32, .slice Ao34 t1030.length co34] (0, 0) _ rfl (by (with_reducible repeat (fail)); refine blk_put (cs := #[.bool t1026, .slice Ao32 t1027.length co32, .slice none 0 0]) ?_ 2 _ rfl; (with_reducible repeat (fail)); refine blk_put (cs := #[.bool t1026, .slice none 0 0, .slice none 0 0]) ?_ 1 _ rfl; (with_reducible repeat (fail)); refine blk_put (cs := #[.bool false, .slice none 0 0, .slice none 0 0]) ?_ 0 _ rfl; (with_reducible repeat (fail)); exact BK1005.out) Try.underlying46 rfl (by kernel_rfl)) rfl ?_
 exact ⟨_, _, rfl, Kd.R_mono (Kd.R_far (p := ⟨gb1005, 2, none⟩) (Kd.R_far (p := ⟨gb1005, 1, none⟩) (Kd.R_far (p := ⟨gb1005, 0, none⟩) (Kd.R_types HO1029.out BK1005.out (by decide)) (fun _ hk => hk.2) (.bool t1026)) (fun _ hk => hk.2) (.slice Ao32 t1027.length co32)) (fun _ hk => hk.2) (.slice Ao34 t1030.length co34)) (fun _ hk => hk.1.1.1.1.1.1.1), Kd.R_mono (Kd.R_far (p := ⟨gb1005, 2, none⟩) (Kd.R_far (p := ⟨gb1005, 1, none⟩) (Kd.R_far (p := ⟨gb1005, 0, none⟩) (Kd.R_types HO1032.out BK1005.out (by decide)) (fun _ hk => hk.2) (.bool t1026)) (fun _ hk => hk.2) (.slice Ao32 t1027.length co32)) (fun _ hk => hk.2) (.slice Ao34 t1030.length co34)) (fun _ hk => hk.1.1.1.1.1.1.1), by repeat ((with_reducible first | exact HB.out | refine below_set ?_ GE1005.out))⟩
end Go.Proofs.Ythheakfgmombdaa.F
end
section
namespace Go.Proofs.Ythheakfgmombdaa.F
open Go.RowKit Go.Proofs.YthheakfgmombdaaX.PrintWords Go.Proofs.YthheakfgmombdaaX.PrintLast Go.Proofs.YthheakfgmombdaaX.PrintMore
attribute [local go_sem] max2_int min2_int max_two min_two max_three min_three max_four min_four   -- for this text's walks alone
set_option linter.unusedVariables false
set_option linter.unusedSimpArgs false
set_option maxHeartbeats 8000000 in
set_option maxRecDepth 100000 in
theorem codewrightref02_Nat.calls (k : Nat) (A0 : Option Addr) (c0 : Nat) (l0 : List Int) (r1 : Bool) (r2 : List Int) (r3 : List Int) (w : World) (hr0 : Kd.C (Kd.int .u32) w A0 l0.length l0) (hc0 : l0.length ≤ c0) (h : codewrightref02_Nat.f k l0 = some (r1, r2, r3)) :
  Calls Try.prog 39 #[.slice A0 l0.length c0] w fun e w' => ∃ v1_ v2_ : Value, e = .returned (.agg #[.bool r1, v1_, v2_]) ∧ Kd.R (Kd.int .u32) 100 w' w.heap.size (fun k_ => some k_ ≠ (v2_ : Value).ownBlock) v1_ r2 ∧ Kd.R (Kd.int .u32) 100 w' w.heap.size (fun k_ => some k_ ≠ (v1_ : Value).ownBlock) v2_ r3 ∧ Below w.heap.size w w' := by
 have hu46 := Try.underlying46
 have HR0 := Aside0.mk hr0
 have HC0 := Aside0.mk hc0
 clear hr0 hc0
 have HB := Aside0.mk (Below.refl w.heap.size w)
 have H : ((codewrightref02_Make.f k false l0 (([1] : List Int))).bind fun bt645 => (some (bt645.1, bt645.2.1, bt645.2.2))) = some (r1, r2, r3) := h
 clear h
 obtain ⟨y642, hy642⟩ : ∃ y_ : List Int, y_ = (([1] : List Int)) := ⟨_, rfl⟩
 replace H : ((codewrightref02_Make.f k false l0 y642).bind fun bt645 => (some (bt645.1, bt645.2.1, bt645.2.2))) = some (r1, r2, r3) := by (rw [hy642]; with_reducible exact H)
 have Ny642 := Aside0.mk hy642
 clear hy642
 replace H := Option.bind_eq_some_iff.mp H
 obtain ⟨⟨t645, t646, t649⟩, A20, H⟩ := H
 replace H : (some (t645, t646, t649)) = some (r1, r2, r3) := H
 have A2 := Aside0.mk A20
 clear A20
 simp only [Option.some.injEq, Prod.mk.injEq] at H
 obtain ⟨rfl, rfl, rfl⟩ := H
 go_enter Try.func39, Try.ntmps39
 go_wp2_with (first | ((with_reducible refine gate_dst (N := 2) rfl ?_); refine box_event ?hg (N := 2) ?hd (cs := #[.bool false, .slice none 0 0, .slice none 0 0]) (t := 46) ?hr ?_; (case hd => rfl); (case hg => rfl); (case hr => (go_simp; done)); intro gb641 hg w3 hbox hb; have n0_ := Aside0.mk (below_step (by repeat ((with_reducible exact HB.out))) hb); have n1_ := Aside0.mk (hbox); have n2_ := Aside0.mk ((by rw [hg]; exact (below_size (by repeat ((with_reducible exact HB.out)))) : w.heap.size ≤ gb641)); have n3_ := Aside0.mk ((by rw [hg]; exact (below_size (by repeat ((with_reducible exact HB.out)))) : w.heap.size ≤ gb641)); clear HB; have HB := n0_; have BK641 := n1_; have GW641 := n2_; have GE641 := n3_; clear n0_ n1_ n2_ n3_; clear hb hbox hg) | ((with_reducible refine gate_dst (N := 4) rfl ?_); refine Kd.R_lit (Kd.int .u32) _ 100 ?hg (N := 4) ?hd (xs := ([1] : List Int)) (inner := [.int .u32 1]) (ok := fun _ => True) (okp := fun _ => True) ?hr ?hp (fun _ hk => hk) trivial (Below.refl _ _) (Nat.le_refl _) (by simp) ?_; (case hd => rfl); (case hg => rfl); (case hr => (go_simp; done)); (case hp => exact (Reps.one (show Kd.M (Kd.int .u32) _ _ _ 1 [.int .u32 1] from rfl) (Reps.none _ _))); intro v643 w4 ho5 hb hg_ hnew_; clear hg_ hnew_; (rw [← Ny642.out] at ho5); have n0_ := Aside0.mk (Kd.R_lower ho5 (below_size (by repeat ((with_reducible exact HB.out))))); have n1_ := Aside0.mk (blk_below (g := gb641) (o := .cells #[.bool false, .slice none 0 0, .slice none 0 0] 46 (0, 0)) (by (with_reducible repeat (fail)); exact BK641.out) hb); have n2_ := Aside0.mk (below_step (by repeat ((with_reducible exact HB.out))) hb); clear BK641; clear HB; have HO644 := n0_; have BK641 := n1_; have HB := n2_; clear n0_ n1_ n2_; clear hb ho5; obtain ⟨Ao6, co6, eo6⟩ := Kd.R_slice HO644.out; subst eo6) | ((with_reducible refine gate_callee (f := 69) rfl ?_); refine goesL_ (some 5) rfl rfl Try.func69 (by kernel_rfl) rfl #[.bool false, .slice A0 l0.length c0, .slice Ao6 y642.length co6] rfl (by (try simp only [List.map_toArray, List.map_cons, List.map_nil]); rfl) ?_; (with_reducible refine (codewrightref02_Make.calls k false _ _ l0 _ _ y642 t645 t646 t649 _ ?side1 ?side2 ?side3 ?side4 A2.out).mono ?_); (case side1 => repeat (exact (Kd.C_below HR0.out HB.out))); (case side2 => exact HC0.out); (case side3 => exact (Kd.R_reads' HO644.out).2.2); (case side4 => exact (Kd.R_reads' HO644.out).2.1); rintro e w7 ⟨v647, v650, rfl, ho0, ho1, hb⟩; refine ⟨_, rfl, ?_⟩; have n0_ := Aside0.mk (Kd.R_mono (Kd.R_told (Kd.R_told (Kd.R_old (by (with_reducible repeat (fail)); exact HO644.out) hb) (Kd.R_base ho0)) (Kd.R_base ho1)) (fun _ h_ => h_.1)); have n1_ := Aside0.mk (Kd.R_lower (Kd.R_new' ho0 (Kd.R_lt (by (with_reducible repeat (fail)); exact HO644.out))) (below_size (by repeat ((with_reducible exact HB.out))))); have n2_ := Aside0.mk (Kd.R_lower (Kd.R_new' ho1 (Kd.R_lt (by (with_reducible repeat (fail)); exact HO644.out))) (below_size (by repeat ((with_reducible exact HB.out))))); have n3_ := Aside0.mk (blk_below (g := gb641) (o := .cells #[.bool false, .slice none 0 0, .slice none 0 0] 46 (0, 0)) (by (with_reducible repeat (fail)); exact BK641.out) hb); have n4_ := Aside0.mk (below_step (by repeat ((with_reducible exact HB.out))) hb); clear HO644; clear BK641; clear HB; have HO644 := n0_; have HO648 := n1_; have HO651 := n2_; have BK641 := n3_; have HB := n4_; clear n0_ n1_ n2_ n3_ n4_; (try clear hb); (try clear ho0); (try clear ho1); have hcz8_0 : w7.cell? ⟨gb641, 0, none⟩ = some (.bool false) := (blk_cell BK641.out 0).trans rfl; have hcz8_1 : w7.cell? ⟨gb641, 1, none⟩ = some (.slice none 0 0) := (blk_cell BK641.out 1).trans rfl; have hcz8_2 : w7.cell? ⟨gb641, 2, none⟩ = some (.slice none 0 0) := (blk_cell BK641.out 2).trans rfl; have hfz8_0 := blk_frozen BK641.out 0; have hfz8_1 := blk_frozen BK641.out 1; have hfz8_2 := blk_frozen BK641.out 2; obtain ⟨Ao9, co9, eo9⟩ := Kd.R_slice HO648.out; subst eo9; obtain ⟨Ao10, co10, eo10⟩ := Kd.R_slice HO651.out; subst eo10))
 refine bodyPost_ret (results_cell_row rfl _ _ gb641 46 #[.bool t645, .slice Ao9 t646.length co9, .slice Ao10 t649.length co10] (0, 0) _ rfl (by (with_reducible repeat (fail)); refine blk_put (cs := #[.bool t645, .slice Ao9 t646.length co9, .slice none 0 0]) ?_ 2 _ rfl; (with_reducible repeat (fail)); refine blk_put (cs := #[.bool t645, .slice none 0 0, .slice none 0 0]) ?_ 1 _ rfl; (with_reducible repeat (fail)); refine blk_put (cs := #[.bool false, .slice none 0 0, .slice none 0 0]) ?_ 0 _ rfl; (with_reducible repeat (fail)); exact BK641.out) Try.underlying46 rfl (by kernel_rfl)) rfl ?_
 exact ⟨_, _, by rfl, by (with_reducible repeat (fail)); exact Kd.R_mono (Kd.R_far (p := ⟨gb641, 2, none⟩) (Kd.R_far (p := ⟨gb641, 1, none⟩) (Kd.R_far (p := ⟨gb641, 0, none⟩) (Kd.R_types HO648.out BK641.out (by decide)) (fun _ hk => hk.2) (.bool t645)) (fun _ hk => hk.2) (.slice Ao9 t646.length co9)) (fun _ hk => hk.2) (.slice Ao10 t649.length co10)) (fun _ hk => hk.1.1), by (with_reducible repeat (fail)); exact Kd.R_mono (Kd.R_far (p := ⟨gb641, 2, none⟩) (Kd.R_far (p := ⟨gb641, 1, none⟩) (Kd.R_far (p := ⟨gb641, 0, none⟩) (Kd.R_types HO651.out BK641.out (by decide)) (fun _ hk => hk.2) (.bool t645)) (fun _ hk => hk.2) (.slice Ao9 t646.length co9)) (fun _ hk => hk.2) (.slice Ao10 t649.length co10)) (fun _ hk => hk.1.1), by repeat ((with_reducible first | exact HB.out | refine below_set ?_ GE641.out))⟩
end Go.Proofs.Ythheakfgmombdaa.F
end
section
namespace Go.Proofs.Ythheakfgmombdaa.F
open Go.RowKit Go.Proofs.YthheakfgmombdaaX.PrintWords Go.Proofs.YthheakfgmombdaaX.PrintLast Go.Proofs.YthheakfgmombdaaX.PrintMore
attribute [local go_sem] max2_int min2_int max_two min_two max_three min_three max_four min_four   -- for this text's walks alone
set_option linter.unusedVariables false
set_option linter.unusedSimpArgs false
set_option maxHeartbeats 8000000 in
set_option maxRecDepth 100000 in
theorem codewrightref01_small.calls (k : Nat) (A0 : Option Addr) (c0 : Nat) (l0 : List Int) (a1 : Int) (a2 : Int) (r : List Int) (w : World) (hr0 : Kd.C (Kd.int .u32) w A0 l0.length l0) (hc0 : l0.length ≤ c0) (h : codewrightref01_small.f k l0 a1 a2 = some r) :
  Calls Try.prog 115 #[.slice A0 l0.length c0, .int .i64 a1, .int .i64 a2] w fun e w' => ∃ v0_ : Value, e = .returned (v0_) ∧ Kd.R (Kd.int .u32) 100 w' w.heap.size (fun _ => True) v0_ r ∧ Below w.heap.size w w' := by
 have HR0 := Aside0.mk hr0
 have HC0 := Aside0.mk hc0
 clear hr0 hc0
 have HB := Aside0.mk (Below.refl w.heap.size w)
 have H : ((codewrightref01_Of.f k (IntKind.u64.wrap (a1))).bind fun t652 => ((codewrightref01_Mul.f k l0 t652).bind fun t655 => (if 0 ≤ (t655.length : Int) then (if ((t655.length : Int) : Int).toNat ≤ 70368744177664 then (codewrightref01_small.l0 k t655 a2 (List.replicate ((t655.length : Int) : Int).toNat 0) 0 (wrap64 ((t655.length : Int) - 1))) else (none)) else (none)))) = some r := h
 clear h
 replace H := Option.bind_eq_some_iff.mp H
 obtain ⟨t652, A40, H⟩ := H
 replace H : ((codewrightref01_Mul.f k l0 t652).bind fun t655 => (if 0 ≤ (t655.length : Int) then (if ((t655.length : Int) : Int).toNat ≤ 70368744177664 then (codewrightref01_small.l0 k t655 a2 (List.replicate ((t655.length : Int) : Int).toNat 0) 0 (wrap64 ((t655.length : Int) - 1))) else (none)) else (none))) = some r := H
 have A4 := Aside0.mk A40
 clear A40
 replace H := Option.bind_eq_some_iff.mp H
 obtain ⟨t655, A50, H⟩ := H
 replace H : (if 0 ≤ (t655.length : Int) then (if ((t655.length : Int) : Int).toNat ≤ 70368744177664 then (codewrightref01_small.l0 k t655 a2 (List.replicate ((t655.length : Int) : Int).toNat 0) 0 (wrap64 ((t655.length : Int) - 1))) else (none)) else (none)) = some r := H
 have A5 := Aside0.mk A50
 clear A50
 by_cases c6 : 0 ≤ (t655.length : Int)
 ·rw [if_pos c6] at H
  have c6b0 := eq_true c6
  have c6b1 : decide (0 ≤ (t655.length : Int)) = true := decide_eq_true c6
  clear c6
  by_cases c7 : ((t655.length : Int) : Int).toNat ≤ 70368744177664
  ·rw [if_pos c7] at H
   have c7b0 := eq_true c7
   have c7b1 : decide (((t655.length : Int) : Int).toNat ≤ 70368744177664) = true := decide_eq_true c7
   clear c7
   obtain ⟨y658, hy658⟩ : ∃ y_ : List Int, y_ = (List.replicate ((t655.length : Int) : Int).toNat 0) := ⟨_, rfl⟩
   replace H : (codewrightref01_small.l0 k t655 a2 y658 0 (wrap64 ((t655.length : Int) - 1))) = some r := by (rw [hy658]; with_reducible exact H)
   have Ny658 := Aside0.mk hy658
   clear hy658
   have H' := Aside0.mk H
   clear H
   go_enter Try.func115, Try.ntmps115
   go_wp2_with (first | ((with_reducible refine gate_callee (f := 80) rfl ?_); refine goesL_ (some 14) rfl rfl Try.func80 (by kernel_rfl) rfl #[.int .u64 (IntKind.u64.wrap (a1))] rfl (by (try simp only [List.map_toArray, List.map_cons, List.map_nil]); rfl) ?_; (with_reducible refine (codewrightref01_Of.calls k (IntKind.u64.wrap (a1)) t652 _ A4.out).mono ?_); rintro e w8 ⟨v653, rfl, ho0, hb⟩; refine ⟨_, rfl, ?_⟩; have n0_ := Aside0.mk (Kd.R_lower ho0 (below_size (by repeat ((with_reducible exact HB.out))))); have n1_ := Aside0.mk (below_step (by repeat ((with_reducible exact HB.out))) hb); clear HB; have HO654 := n0_; have HB := n1_; clear n0_ n1_; (try clear hb); (try clear ho0); obtain ⟨Ao9, co9, eo9⟩ := Kd.R_slice HO654.out; subst eo9) | ((with_reducible refine gate_callee (f := 68) rfl ?_); refine goesL_ (some 15) rfl rfl Try.func68 (by kernel_rfl) rfl #[.slice A0 l0.length c0, .slice Ao9 t652.length co9] rfl (by (try simp only [List.map_toArray, List.map_cons, List.map_nil]); rfl) ?_; (with_reducible refine (codewrightref01_Mul.calls k _ _ l0 _ _ t652 t655 _ ?side1 ?side2 ?side3 ?side4 A5.out).mono ?_); (case side1 => repeat (exact (Kd.C_below HR0.out HB.out))); (case side2 => exact HC0.out); (case side3 => exact (Kd.R_reads' HO654.out).2.2); (case side4 => exact (Kd.R_reads' HO654.out).2.1); rintro e w10 ⟨v656, rfl, ho0, hb⟩; refine ⟨_, rfl, ?_⟩; have n0_ := Aside0.mk (Kd.R_elder' (by (with_reducible repeat (fail)); exact HO654.out) (Kd.R_base ho0) hb); have n1_ := Aside0.mk (Kd.R_lower (Kd.R_new' ho0 (Kd.R_lt (by (with_reducible repeat (fail)); exact HO654.out))) (below_size (by repeat ((with_reducible exact HB.out))))); have n2_ := Aside0.mk (below_step (by repeat ((with_reducible exact HB.out))) hb); clear HO654; clear HB; have HO654 := n0_; have HO657 := n1_; have HB := n2_; clear n0_ n1_ n2_; (try clear hb); (try clear ho0); obtain ⟨Ao11, co11, eo11⟩ := Kd.R_slice HO657.out; subst eo11) | ((with_reducible refine gate_dst (N := 18) rfl ?_); refine Kd.R_make (Kd.int .u32) _ 100 rfl (N := 18) rfl 44 _ _ rfl (t655.length : Int) rfl rfl Try.underlying44 (.int .u32 0) 4 info100 rfl (by decide) (by omega) 0 (ok := fun _ => True) (okp := fun _ => True) rfl (fun _ hk => hk) trivial (of_decide_eq_true (by (with_reducible assumption))) (Nat.le_trans (Nat.mul_le_mul_right _ (of_decide_eq_true (by (with_reducible assumption)) : (t655.length : Int).toNat ≤ 70368744177664)) (by omega)) (Below.refl _ _) (Nat.le_refl _) ?_; intro v659 w12 ho13 hb hg_ hnew_; clear hg_ hnew_; (rw [← Ny658.out] at ho13); have n0_ := Aside0.mk (Kd.R_elder' (by (with_reducible repeat (fail)); exact HO654.out) (Kd.R_base ho13) hb); have n1_ := Aside0.mk (Kd.R_elder' (by (with_reducible repeat (fail)); exact HO657.out) (Kd.R_base ho13) hb); have n2_ := Aside0.mk (Kd.R_lower (Kd.R_new' (Kd.R_new' ho13 (Kd.R_lt (by (with_reducible repeat (fail)); exact HO654.out))) (Kd.R_lt (by (with_reducible repeat (fail)); exact HO657.out))) (below_size (by repeat ((with_reducible exact HB.out))))); have n3_ := Aside0.mk (below_step (by repeat ((with_reducible exact HB.out))) hb); clear HO654; clear HO657; clear HB; have HO654 := n0_; have HO657 := n1_; have HO660 := n2_; have HB := n3_; clear n0_ n1_ n2_ n3_; clear hb ho13))
   go_loopg [8, 9] k (fun kq v8 v9 w' => ∃ (x7_1 : List Int) (x8_1 : Int) (x9_1 : Int), v8 = .int .u64 x8_1 ∧ v9 = .int .i64 x9_1 ∧ Aside0 (codewrightref01_small.l0 kq t655 a2 x7_1 x8_1 x9_1 = some r) ∧ Aside0 (kq ≤ k) ∧ Aside0 (Kd.R (Kd.int .u32) 100 w' w.heap.size (fun k_ => some k_ ≠ (v659 : Value).ownBlock) (.slice Ao11 t655.length co11) t655) ∧ Aside0 (Kd.R (Kd.int .u32) 100 w' w.heap.size (fun k_ => some k_ ≠ ((.slice Ao11 t655.length co11) : Value).ownBlock) v659 x7_1) ∧ Aside0 (Below w.heap.size w w'))
   case atStart => exact ⟨(y658), (0), (wrap64 ((t655.length : Int) - 1)), (by rfl), (by rfl), H', ⟨Nat.le_refl _⟩, ⟨by (with_reducible repeat (fail)); exact Kd.R_mono HO657.out (fun _ hk => hk.2)⟩, ⟨by (with_reducible repeat (fail)); exact Kd.R_mono HO660.out (fun _ hk => hk.2)⟩, ⟨by repeat ((with_reducible exact HB.out))⟩⟩
   case round =>
    clear H'
    try clear c6b0
    try clear c6b1
    try clear c7b0
    try clear c7b1
    obtain ⟨x7_1, x8_1, x9_1, rfl, rfl, HA, HK1, HO_0, HO_7, HB⟩ := hrel
    cases gk with
    | zero => exact absurd HA.out (by simp [codewrightref01_small.l0])
    | succ k1 =>
     have H := HA.out
     clear HA
     simp only [codewrightref01_small.l0] at H
     by_cases c14 : x9_1 ≥ 0
     ·rw [if_pos c14] at H
      have c14b0 : decide (0 ≤ x9_1) = true := decide_eq_true c14
      clear c14
      by_cases c15 : 0 ≤ x9_1
      ·rw [if_pos c15] at H
       have c15b0 : decide (0 ≤ x9_1) = true := decide_eq_true c15
       clear c15
       by_cases c16 : x9_1 < (t655.length : Int)
       ·rw [if_pos c16] at H
        have c16b0 : decide (x9_1 < (t655.length : Int)) = true := decide_eq_true c16
        clear c16
        by_cases c17 : (IntKind.u64.wrap (a2)) = 0
        ·rw [if_pos c17] at H
         exact absurd H (by simp)
        ·rw [if_neg c17] at H
         have c17b0 : ((IntKind.u64.wrap (a2)) == 0) = false := beq_eq_false_iff_ne.mpr c17
         have c17b1 : ((IntKind.u64.wrap (a2)) != 0) = true := bne_iff_ne.mpr c17
         by_cases c18 : x9_1 < (x7_1.length : Int)
         ·rw [if_pos c18] at H
          have c18b0 : decide (x9_1 < (x7_1.length : Int)) = true := decide_eq_true c18
          clear c18
          obtain ⟨y662, hy662⟩ : ∃ y_ : List Int, y_ = (x7_1.set (x9_1 : Int).toNat ((IntKind.u64.wrap (Int.tdiv (IntKind.u64.wrap ((IntKind.u64.wrap (x8_1 * 4294967296)) + (IntKind.u64.wrap (rd t655 x9_1)))) (IntKind.u64.wrap (a2)))) % 4294967296)) := ⟨_, rfl⟩
          replace H : (codewrightref01_small.l0 k1 t655 a2 y662 (Int.tmod (IntKind.u64.wrap ((IntKind.u64.wrap (x8_1 * 4294967296)) + (IntKind.u64.wrap (rd t655 x9_1)))) (IntKind.u64.wrap (a2))) (wrap64 (x9_1 - 1))) = some r := by (rw [hy662]; with_reducible exact H)
          have Ny662 := Aside0.mk hy662
          clear hy662
          have H' := Aside0.mk H
          clear H
          have p661 : 0 ≤ (x9_1 : Int) := of_decide_eq_true (by (with_reducible assumption))
          have q661 : x9_1 < (t655.length : Int) := of_decide_eq_true (by (with_reducible assumption))
          obtain ⟨ad661, e661, hx661_0⟩ := Kd.at_int (Kd.R_reads' HO_0.out).2.2 x9_1 p661 q661
          cases e661
          replace p661 := eq_true p661
          replace q661 := eq_true q661
          have p19 : 0 ≤ (x9_1 : Int) := of_decide_eq_true (by (with_reducible assumption))
          have q19 : (x9_1 : Int) < ((x7_1.length : Int) : Int) := of_decide_eq_true (by (with_reducible assumption))
          obtain ⟨go19, co19, eo19, gb19, gl19, cl19, HG19⟩ := Kd.R_form HO_7.out (by omega)
          (cases eo19)
          have GB19 := Aside0.mk gb19
          have GG19 := Aside0.mk HG19
          clear gb19 gl19 HG19
          obtain ⟨hx19_0, hf19_0⟩ := Kd.R_celln 0 HO_7.out (x9_1 : Int) p19 q19
          replace p19 := eq_true p19
          replace q19 := eq_true q19
          have HP20 := Kd.R_putg HO_7.out (x9_1 : Int) ((IntKind.u64.wrap (Int.tdiv (IntKind.u64.wrap ((IntKind.u64.wrap (x8_1 * 4294967296)) + (IntKind.u64.wrap (rd t655 x9_1)))) (IntKind.u64.wrap (a2)))) % 4294967296)
          go_wp2_with (((with_reducible refine gate_store (t := 100) (p := 41) rfl ?_); refine store_event (t := 100) (p := 41) (v := ?vo_w21) (w1 := (wr.setCell ⟨go19, (x9_1 : Int).toNat, none⟩ (.int .u32 ((IntKind.u64.wrap (Int.tdiv (IntKind.u64.wrap ((IntKind.u64.wrap (x8_1 * 4294967296)) + (IntKind.u64.wrap (rd t655 x9_1)))) (IntKind.u64.wrap (a2)))) % 4294967296)))) ?hg ?ho ?hn ?hr ?_; (case ho => rfl); (case hg => rfl); (case hn => rfl); (case hr => (go_simp; done)); intro w21 hw; have hg : wr.grownBy w21 (some go19) := (by rw [hw]; exact HP20.2); have hp_ : Kd.R (Kd.int .u32) 100 w21 w.heap.size (fun k_ => some k_ ≠ (.slice (some ad661) t655.length co11 : Value).ownBlock) (.slice (some ⟨go19, 0, none⟩) x7_1.length co19) y662 := (by rw [hw, Ny662.out]; exact HP20.1); clear HP20; have n0_ := Aside0.mk (Kd.R_after (v := (.slice (some ⟨go19, 0, none⟩) x7_1.length co19)) (v1 := (.slice (some ⟨go19, 0, none⟩) x7_1.length co19)) (ok := (fun _ => True)) (by (with_reducible repeat (fail)); exact Kd.R_mono HO_0.out (fun _ hk => ⟨trivial, hk⟩)) hg (.inl rfl)); have n1_ := Aside0.mk (hp_); have n2_ := Aside0.mk ((by rw [hw]; exact below_set (HB.out) GB19.out : Below w.heap.size w w21)); clear HO_0; clear HO_7; clear HB; have HO_0 := n0_; have HO_7 := n1_; have HB := n2_; clear n0_ n1_ n2_; clear hg hw hp_))
          go_roundg k1
          case measure => have := HK1.out; omega
          case rel => exact ⟨(y662), (Int.tmod (IntKind.u64.wrap ((IntKind.u64.wrap (x8_1 * 4294967296)) + (IntKind.u64.wrap (rd t655 x9_1)))) (IntKind.u64.wrap (a2))), (wrap64 (x9_1 - 1)), (by rfl), (by rfl), H', ⟨by have := HK1.out; omega⟩, ⟨by (with_reducible repeat (fail)); exact Kd.R_mono HO_0.out (fun _ hk => hk.2)⟩, ⟨by (with_reducible repeat (fail)); exact HO_7.out⟩, ⟨by repeat ((with_reducible exact HB.out))⟩⟩
         ·rw [if_neg c18] at H
          exact absurd H (by simp)
       ·rw [if_neg c16] at H
        exact absurd H (by simp)
      ·rw [if_neg c15] at H
       exact absurd H (by simp)
     ·rw [if_neg c14] at H
      have c14b0 : decide (0 ≤ x9_1) = false := decide_eq_false c14
      clear c14
      replace H := Option.bind_eq_some_iff.mp H
      obtain ⟨t663, A220, H⟩ := H
      replace H : (some t663) = some r := H
      have A22 := Aside0.mk A220
      clear A220
      obtain rfl := Option.some.inj H
      obtain ⟨Ao23, co23, eo23⟩ := Kd.R_slice HO_7.out
      subst eo23
      go_wp2_with (((with_reducible refine gate_callee (f := 97) rfl ?_); refine goesL_ (some 47) rfl rfl Try.func97 (by kernel_rfl) rfl #[.slice Ao23 x7_1.length co23] rfl (by (try simp only [List.map_toArray, List.map_cons, List.map_nil]); rfl) ?_; (with_reducible refine (codewrightref01_Trim.calls k1 _ _ x7_1 t663 _ ?side1 ?side2 A22.out).mono ?_); (case side1 => exact (Kd.R_reads' HO_7.out).2.2); (case side2 => exact (Kd.R_reads' HO_7.out).2.1); rintro e w24 ⟨v664, rfl, ho0, hb⟩; refine ⟨_, rfl, ?_⟩; have n0_ := Aside0.mk (Kd.R_elder' (by (with_reducible repeat (fail)); exact HO_0.out) (Kd.R_base ho0) hb); have n1_ := Aside0.mk (Kd.R_elder' (by (with_reducible repeat (fail)); exact HO_7.out) (Kd.R_base ho0) hb); have n2_ := Aside0.mk (Kd.R_lower (Kd.R_new' (Kd.R_new' ho0 (Kd.R_lt (by (with_reducible repeat (fail)); exact HO_0.out))) (Kd.R_lt (by (with_reducible repeat (fail)); exact HO_7.out))) (below_size (by repeat ((with_reducible exact HB.out))))); have n3_ := Aside0.mk (below_step (by repeat ((with_reducible exact HB.out))) hb); clear HO_0; clear HO_7; clear HB; have HO_0 := n0_; have HO_7 := n1_; have HO665 := n2_; have HB := n3_; clear n0_ n1_ n2_ n3_; (try clear hb); (try clear ho0)))
      go_ret
      exact ⟨_, by rfl, by (with_reducible repeat (fail)); exact Kd.R_mono HO665.out (fun _ hk => trivial), by repeat ((with_reducible exact HB.out))⟩
  ·rw [if_neg c7] at H
   exact absurd H (by simp)
 ·rw [if_neg c6] at H
  exact absurd H (by simp)
end Go.Proofs.Ythheakfgmombdaa.F
end
section
namespace Go.Proofs.Ythheakfgmombdaa.F
open Go.RowKit Go.Proofs.YthheakfgmombdaaX.PrintWords Go.Proofs.YthheakfgmombdaaX.PrintLast Go.Proofs.YthheakfgmombdaaX.PrintMore
attribute [local go_sem] max2_int min2_int max_two min_two max_three min_three max_four min_four   -- for this text's walks alone
set_option linter.unusedVariables false
set_option linter.unusedSimpArgs false
set_option maxHeartbeats 8000000 in
set_option maxRecDepth 100000 in
theorem codewrightref01_Choose.calls (k : Nat) (a0 : Int) (a1 : Int) (r : List Int) (w : World) (h : codewrightref01_Choose.f k a0 a1 = some r) :
  Calls Try.prog 91 #[.int .i64 a0, .int .i64 a1] w fun e w' => ∃ v0_ : Value, e = .returned (v0_) ∧ Kd.R (Kd.int .u32) 100 w' w.heap.size (fun _ => True) v0_ r ∧ Below w.heap.size w w' := by
 have HB := Aside0.mk (Below.refl w.heap.size w)
 have H : (if a1 < 0 then (codewrightref01_Choose.j0 k a0 a1 true) else (codewrightref01_Choose.j0 k a0 a1 (decide (a1 > a0)))) = some r := h
 clear h
 have HC3 := Aside0.mk H
 clear H
 go_enter Try.func91, Try.ntmps91
 go_upto_region 1 with (fail)
 go_cut [13] (fun v13 wc => ∃ (kq : Nat) (x13_2 : Bool), v13 = .bool x13_2 ∧ Aside0 (codewrightref01_Choose.j0 kq a0 a1 x13_2 = some r) ∧ Aside0 (kq ≤ k) ∧ Aside0 (Below w.heap.size w wc))
 case first =>
  have H := HC3.out
  clear HC3
  by_cases c4 : a1 < 0
  ·rw [if_pos c4] at H
   have c4b0 : decide (a1 < 0) = true := decide_eq_true c4
   clear c4
   (skip)
   have H' := Aside0.mk H
   clear H
   go_wp2
   go_meet
   case rel => exact ⟨_, (true), (by rfl), H', ⟨by omega⟩, ⟨by repeat ((with_reducible exact HB.out))⟩⟩
  ·rw [if_neg c4] at H
   have c4b0 : decide (a1 < 0) = false := decide_eq_false c4
   clear c4
   (skip)
   have H' := Aside0.mk H
   clear H
   go_wp2
   go_meet
   case rel => exact ⟨_, (decide (a1 > a0)), (by rfl), H', ⟨by omega⟩, ⟨by repeat ((with_reducible exact HB.out))⟩⟩
 case rest =>
  clear HC3
  obtain ⟨kq, x13_2, rfl, HA, HJ2, HB⟩ := hcut
  cases kq with
  | zero => exact absurd HA.out (by simp [codewrightref01_Choose.j0])
  | succ kj2 =>
   have H := HA.out
   clear HA
   simp only [codewrightref01_Choose.j0] at H
   by_cases c5 : x13_2 = true
   ·subst c5
    have H1 : (some (([] : List Int))) = some r := by rw [if_pos rfl] at H; exact H
    clear H
    have H := H1
    clear H1
    obtain ⟨y666, hy666⟩ : ∃ y_ : List Int, y_ = (([] : List Int)) := ⟨_, rfl⟩
    replace H : (some y666) = some r := by (rw [hy666]; with_reducible exact H)
    have Ny666 := Aside0.mk hy666
    clear hy666
    obtain rfl := Option.some.inj H
    go_wp2_with (((with_reducible refine gate_dst (N := 14) rfl ?_); refine Kd.R_lit (Kd.int .u32) _ 100 ?hg (N := 14) ?hd (xs := ([] : List Int)) (inner := []) (ok := fun _ => True) (okp := fun _ => True) ?hr ?hp (fun _ hk => hk) trivial (Below.refl _ _) (Nat.le_refl _) (by simp) ?_; (case hd => rfl); (case hg => rfl); (case hr => (go_simp; done)); (case hp => exact (Reps.none _ _)); intro v667 w6 ho7 hb hg_ hnew_; clear hg_ hnew_; (rw [← Ny666.out] at ho7); have n0_ := Aside0.mk (Kd.R_lower ho7 (below_size (by repeat ((with_reducible exact HB.out))))); have n1_ := Aside0.mk (below_step (by repeat ((with_reducible exact HB.out))) hb); clear HB; have HO668 := n0_; have HB := n1_; clear n0_ n1_; clear hb ho7))
    go_ret
    exact ⟨_, by rfl, by (with_reducible repeat (fail)); exact HO668.out, by repeat ((with_reducible exact HB.out))⟩
   ·replace c5 := Bool.eq_false_iff.mpr c5
    subst c5
    have H1 : (codewrightref01_Choose.l0 kj2 a0 a1 (([1] : List Int)) 0) = some r := by rw [if_neg (show ¬ (false = true) by decide)] at H; exact H
    clear H
    have H := H1
    clear H1
    obtain ⟨y669, hy669⟩ : ∃ y_ : List Int, y_ = (([1] : List Int)) := ⟨_, rfl⟩
    replace H : (codewrightref01_Choose.l0 kj2 a0 a1 y669 0) = some r := by (rw [hy669]; with_reducible exact H)
    have Ny669 := Aside0.mk hy669
    clear hy669
    have H' := Aside0.mk H
    clear H
    go_wp2_with (((with_reducible refine gate_dst (N := 15) rfl ?_); refine Kd.R_lit (Kd.int .u32) _ 100 ?hg (N := 15) ?hd (xs := ([1] : List Int)) (inner := [.int .u32 1]) (ok := fun _ => True) (okp := fun _ => True) ?hr ?hp (fun _ hk => hk) trivial (Below.refl _ _) (Nat.le_refl _) (by simp) ?_; (case hd => rfl); (case hg => rfl); (case hr => (go_simp; done)); (case hp => exact (Reps.one (show Kd.M (Kd.int .u32) _ _ _ 1 [.int .u32 1] from rfl) (Reps.none _ _))); intro v670 w8 ho9 hb hg_ hnew_; clear hg_ hnew_; (rw [← Ny669.out] at ho9); have n0_ := Aside0.mk (Kd.R_lower ho9 (below_size (by repeat ((with_reducible exact HB.out))))); have n1_ := Aside0.mk (below_step (by repeat ((with_reducible exact HB.out))) hb); clear HB; have HO671 := n0_; have HB := n1_; clear n0_ n1_; clear hb ho9))
    go_loopg [5, 6] kj2 (fun kq v5 v6 w' => ∃ (x5_2 : List Int) (x6_2 : Int), v6 = .int .i64 x6_2 ∧ Aside0 (codewrightref01_Choose.l0 kq a0 a1 x5_2 x6_2 = some r) ∧ Aside0 (kq ≤ kj2) ∧ Aside0 (Kd.R (Kd.int .u32) 100 w' w.heap.size (fun _ => True) v5 x5_2) ∧ Aside0 (Below w.heap.size w w'))
    case atStart => exact ⟨(y669), (0), (by rfl), H', ⟨Nat.le_refl _⟩, ⟨by (with_reducible repeat (fail)); exact HO671.out⟩, ⟨by repeat ((with_reducible exact HB.out))⟩⟩
    case round =>
     clear H'
     obtain ⟨x5_2, x6_2, rfl, HA, HK2, HO_5, HB⟩ := hrel
     cases gk with
     | zero => exact absurd HA.out (by simp [codewrightref01_Choose.l0])
     | succ k2 =>
      have H := HA.out
      clear HA
      simp only [codewrightref01_Choose.l0] at H
      by_cases c10 : x6_2 < a1
      ·rw [if_pos c10] at H
       have c10b0 : decide (x6_2 < a1) = true := decide_eq_true c10
       clear c10
       replace H := Option.bind_eq_some_iff.mp H
       obtain ⟨t672, A110, H⟩ := H
       replace H : (codewrightref01_Choose.l0 k2 a0 a1 t672 (wrap64 (x6_2 + 1))) = some r := H
       have A11 := Aside0.mk A110
       clear A110
       have H' := Aside0.mk H
       clear H
       obtain ⟨Ao12, co12, eo12⟩ := Kd.R_slice HO_5.out
       subst eo12
       go_wp2_with (((with_reducible refine gate_callee (f := 115) rfl ?_); refine goesL_ (some 27) rfl rfl Try.func115 (by kernel_rfl) rfl #[.slice Ao12 x5_2.length co12, .int .i64 (wrap64 (a0 - x6_2)), .int .i64 (wrap64 (x6_2 + 1))] rfl (by (try simp only [List.map_toArray, List.map_cons, List.map_nil]); rfl) ?_; (with_reducible refine (codewrightref01_small.calls k2 _ _ x5_2 (wrap64 (a0 - x6_2)) (wrap64 (x6_2 + 1)) t672 _ ?side1 ?side2 A11.out).mono ?_); (case side1 => exact (Kd.R_reads' HO_5.out).2.2); (case side2 => exact (Kd.R_reads' HO_5.out).2.1); rintro e w13 ⟨v673, rfl, ho0, hb⟩; refine ⟨_, rfl, ?_⟩; have n0_ := Aside0.mk (Kd.R_elder' (by (with_reducible repeat (fail)); exact HO_5.out) (Kd.R_base ho0) hb); have n1_ := Aside0.mk (Kd.R_lower (Kd.R_new' ho0 (Kd.R_lt (by (with_reducible repeat (fail)); exact HO_5.out))) (below_size (by repeat ((with_reducible exact HB.out))))); have n2_ := Aside0.mk (below_step (by repeat ((with_reducible exact HB.out))) hb); clear HO_5; clear HB; have HO_5 := n0_; have HO674 := n1_; have HB := n2_; clear n0_ n1_ n2_; (try clear hb); (try clear ho0)))
       go_roundg k2
       case measure => have := HJ2.out; have := HK2.out; omega
       case rel => exact ⟨(t672), (wrap64 (x6_2 + 1)), (by rfl), H', ⟨by have := HJ2.out; have := HK2.out; omega⟩, ⟨by (with_reducible repeat (fail)); exact Kd.R_mono HO674.out (fun _ hk => trivial)⟩, ⟨by repeat ((with_reducible exact HB.out))⟩⟩
      ·rw [if_neg c10] at H
       have c10b0 : decide (x6_2 < a1) = false := decide_eq_false c10
       clear c10
       obtain rfl := Option.some.inj H
       go_wp2
       go_ret
       exact ⟨_, by rfl, by (with_reducible repeat (fail)); exact HO_5.out, by repeat ((with_reducible exact HB.out))⟩
end Go.Proofs.Ythheakfgmombdaa.F
end
