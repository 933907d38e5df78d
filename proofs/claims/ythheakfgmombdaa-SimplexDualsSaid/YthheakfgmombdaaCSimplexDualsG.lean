import Derived.Test.YthheakfgmombdaaCSimplexDualsF
/- Part G of the proof: FRef02Make, FRef02Trim, FRef02Neg, FRef35znegative, FRef35Dual, FRef35Canon. -/
section
namespace Go.Proofs.Ythheakfgmombdaa.F
open Go.RowKit Go.Proofs.YthheakfgmombdaaX.PrintWords Go.Proofs.YthheakfgmombdaaX.PrintLast Go.Proofs.YthheakfgmombdaaX.PrintMore
attribute [local go_sem] max2_int min2_int max_two min_two max_three min_three max_four min_four   -- for this text's walks alone
set_option linter.unusedVariables false
set_option linter.unusedSimpArgs false
set_option maxHeartbeats 8000000 in
set_option maxRecDepth 100000 in
theorem codewrightref02_Make.calls (k : Nat) (a0 : Bool) (A1 : Option Addr) (c1 : Nat) (l1 : List Int) (A2 : Option Addr) (c2 : Nat) (l2 : List Int) (r1 : Bool) (r2 : List Int) (r3 : List Int) (w : World) (hr1 : Kd.C (Kd.int .u32) w A1 l1.length l1) (hc1 : l1.length ≤ c1) (hr2 : Kd.C (Kd.int .u32) w A2 l2.length l2) (hc2 : l2.length ≤ c2) (h : codewrightref02_Make.f k a0 l1 l2 = some (r1, r2, r3)) :
  Calls Try.prog 69 #[.bool a0, .slice A1 l1.length c1, .slice A2 l2.length c2] w fun e w' => ∃ v1_ v2_ : Value, e = .returned (.agg #[.bool r1, v1_, v2_]) ∧ Kd.R (Kd.int .u32) 100 w' w.heap.size (fun k_ => some k_ ≠ (v2_ : Value).ownBlock) v1_ r2 ∧ Kd.R (Kd.int .u32) 100 w' w.heap.size (fun k_ => some k_ ≠ (v1_ : Value).ownBlock) v2_ r3 ∧ Below w.heap.size w w' := by
 have hu46 := Try.underlying46
 have HR1 := Aside0.mk hr1
 have HC1 := Aside0.mk hc1
 clear hr1 hc1
 have HR2 := Aside0.mk hr2
 have HC2 := Aside0.mk hc2
 clear hr2 hc2
 have HB := Aside0.mk (Below.refl w.heap.size w)
 have H : ((codewrightref01_Zero.f k l1).bind fun t428 => (if t428 = true then (codewrightref02_Make.j0 k a0 l1 l2 true) else ((codewrightref01_Zero.f k l2).bind fun t429 => (codewrightref02_Make.j0 k a0 l1 l2 t429)))) = some (r1, r2, r3) := h
 clear h
 have HC4 := Aside0.mk H
 clear H
 go_enter Try.func69, Try.ntmps69
 go_upto_region 1 with ((refine box_event ?hg (N := 6) ?hd (cs := #[.bool false, .slice none 0 0, .slice none 0 0]) (t := 46) ?hr ?_; (case hd => rfl); (case hg => rfl); (case hr => go_simp; done); intro gb427 hg w5 hbox hb; have n0_ := Aside0.mk (below_step (HB.out) hb); have n1_ := Aside0.mk (hbox); have n2_ := Aside0.mk ((by rw [hg]; exact (below_size (HB.out)) : w.heap.size ≤ gb427)); have n3_ := Aside0.mk ((by rw [hg]; exact (below_size (HB.out)) : w.heap.size ≤ gb427)); clear HB; have HB := n0_; have BK427 := n1_; have GW427 := n2_; have GE427 := n3_; clear n0_ n1_ n2_ n3_; clear hb hbox hg))
 (try simp only [Act.put, List.setIfInBounds_toArray, List.set_cons_zero, List.set_cons_succ])
 go_cut [17] (fun v17 wc => ∃ (kq : Nat) (x17_3 : Bool), v17 = .bool x17_3 ∧ Aside0 (codewrightref02_Make.j0 kq a0 l1 l2 x17_3 = some (r1, r2, r3)) ∧ Aside0 (kq ≤ k) ∧ Aside0 (wc.heap[gb427]? = some (.cells #[.bool false, (.slice none 0 0), (.slice none 0 0)] 46 (0, 0))) ∧ Aside0 (Below w.heap.size w wc))
 case first =>
  have H := HC4.out
  clear HC4
  obtain ⟨t428, A6, H⟩ := bindA H
  by_cases c7 : t428 = true
  ·subst c7
   rw [if_pos rfl] at H
   have H' := Aside0.mk H
   clear H
   go_wp2_with ((refine goesL_ (some 13) rfl rfl Try.func98 (by kernel_rfl) rfl #[.slice A1 l1.length c1] rfl (by simp only [List.map_toArray, List.map_cons, List.map_nil]; rfl) ?_; (with_reducible refine (codewrightref01_Zero.calls k _ _ l1 true _ (Kd.C_below HR1.out HB.out) HC1.out A6.out).mono ?_); rintro e w8 ⟨rfl, hb⟩; refine ⟨_, rfl, ?_⟩; replace BK427 := Aside0.mk (blk_below (BK427.out) hb); replace HB := Aside0.mk (below_step (HB.out) hb)))
   go_meet
   case rel => exact ⟨_, (true), rfl, H', ⟨by omega⟩, ⟨BK427.out⟩, ⟨HB.out⟩⟩
  ·replace c7 := Bool.eq_false_iff.mpr c7
   subst c7
   rw [if_neg (show ¬ (false = true) by decide)] at H
   obtain ⟨t429, A9, H⟩ := bindA H
   have H' := Aside0.mk H
   clear H
   go_wp2_with (first | (refine goesL_ (some 13) rfl rfl Try.func98 (by kernel_rfl) rfl #[.slice A1 l1.length c1] rfl (by simp only [List.map_toArray, List.map_cons, List.map_nil]; rfl) ?_; (with_reducible refine (codewrightref01_Zero.calls k _ _ l1 false _ (Kd.C_below HR1.out HB.out) HC1.out A6.out).mono ?_); rintro e w10 ⟨rfl, hb⟩; refine ⟨_, rfl, ?_⟩; replace BK427 := Aside0.mk (blk_below (BK427.out) hb); replace HB := Aside0.mk (below_step (HB.out) hb)) | (go_at_call 98; (with_reducible refine (codewrightref01_Zero.calls k _ _ l2 t429 _ (Kd.C_below HR2.out HB.out) HC2.out A9.out).mono ?_); rintro e w11 ⟨rfl, hb⟩; replace BK427 := Aside0.mk (blk_below (BK427.out) hb); replace HB := Aside0.mk (below_step (HB.out) hb)))
   go_meet
   case rel => exact ⟨_, (t429), rfl, H', ⟨by omega⟩, ⟨BK427.out⟩, ⟨HB.out⟩⟩
 case rest =>
  clear HC4
  obtain ⟨kq, x17_3, rfl, HA, HJ3, BK427, HB⟩ := hcut
  cases kq with
  | zero => exact absurd HA.out (by simp [codewrightref02_Make.j0])
  | succ kj3 =>
   have H := HA.out
   clear HA
   simp only [codewrightref02_Make.j0] at H
   by_cases c12 : x17_3 = true
   ·subst c12
    rw [if_pos rfl] at H
    obtain ⟨y430, hy430⟩ : ∃ y_ : List Int, y_ = (([] : List Int)) := ⟨_, rfl⟩
    replace H : (some (false, y430, (([1] : List Int)))) = some (r1, r2, r3) := by (rw [hy430]; with_reducible exact H)
    have Ny430 := Aside0.mk hy430
    clear hy430
    obtain ⟨y433, hy433⟩ : ∃ y_ : List Int, y_ = (([1] : List Int)) := ⟨_, rfl⟩
    (try replace H := (Option.bind_some _ _).symm.trans H); rw [← hy433] at H
    have Ny433 := Aside0.mk hy433
    clear hy433
    simp only [Option.some.injEq, Prod.mk.injEq] at H
    obtain ⟨rfl, rfl, rfl⟩ := H
    go_wp2_with (first | (refine Kd.R_lit (Kd.int .u32) _ 100 ?hg (N := 18) ?hd (xs := ([] : List Int)) (inner := []) (ok := fun _ => True) (okp := fun _ => True) ?hr ?hp (fun _ hk => hk) trivial (Below.refl _ _) (Nat.le_refl _) (by simp) ?_; (case hd => rfl); (case hg => rfl); (case hr => go_simp; done); (case hp => exact (Reps.none _ _)); intro v431 w13 ho14 hb hg_ hnew_; clear hg_ hnew_; (rw [← Ny430.out] at ho14); have HO432 := Aside0.mk (Kd.R_lower ho14 (below_size (HB.out))); replace BK427 := Aside0.mk (blk_below (BK427.out) hb); replace HB := Aside0.mk (below_step (HB.out) hb); clear hb ho14) | (refine Kd.R_lit (Kd.int .u32) _ 100 ?hg (N := 19) ?hd (xs := ([1] : List Int)) (inner := [.int .u32 1]) (ok := fun _ => True) (okp := fun _ => True) ?hr ?hp (fun _ hk => hk) trivial (Below.refl _ _) (Nat.le_refl _) (by simp) ?_; (case hd => rfl); (case hg => rfl); (case hr => go_simp; done); (case hp => exact (Reps.one (show Kd.M (Kd.int .u32) _ _ _ 1 [.int .u32 1] from rfl) (Reps.none _ _))); intro v434 w15 ho16 hb hg_ hnew_; clear hg_ hnew_; (rw [← Ny433.out] at ho16); have n0_ := Aside0.mk (Kd.R_elder' (HO432.out) (Kd.R_base ho16) hb); have n1_ := Aside0.mk (Kd.R_lower (Kd.R_new' ho16 (Kd.R_lt (HO432.out))) (below_size (HB.out))); have n2_ := Aside0.mk (blk_below (BK427.out) hb); have n3_ := Aside0.mk (below_step (HB.out) hb); clear HO432; clear BK427; clear HB; have HO432 := n0_; have HO435 := n1_; have BK427 := n2_; have HB := n3_; clear n0_ n1_ n2_ n3_; clear hb ho16; obtain ⟨Ao17, co17, eo17⟩ := Kd.R_slice HO435.out; subst eo17; obtain ⟨Ao18, co18, eo18⟩ := Kd.R_slice HO432.out; subst eo18; have hcz19_0 : w15.cell? ⟨gb427, 0, none⟩ = some (.bool false) := (blk_cell BK427.out 0).trans rfl; have hcz19_1 : w15.cell? ⟨gb427, 1, none⟩ = some (.slice none 0 0) := (blk_cell BK427.out 1).trans rfl; have hcz19_2 : w15.cell? ⟨gb427, 2, none⟩ = some (.slice none 0 0) := (blk_cell BK427.out 2).trans rfl; have hfz19_0 := blk_frozen BK427.out 0; have hfz19_1 := blk_frozen BK427.out 1; have hfz19_2 := blk_frozen BK427.out 2))
    refine bodyPost_ret (results_cell_row rfl _ _ gb427 46 #[.bool false, .slice Ao18 y430.length co18, .slice Ao17 y433.length co17] (0, 0) _ rfl (by (with_reducible repeat (fail)); refine blk_put (cs := #[.bool false, .slice Ao18 y430.length co18, .slice none 0 0]) ?_ 2 _ rfl; (with_reducible repeat (fail)); refine blk_put (cs := #[.bool false, .slice none 0 0, .slice none 0 0]) ?_ 1 _ rfl; (with_reducible repeat (fail)); refine blk_put (cs := #[.bool false, .slice none 0 0, .slice none 0 0]) ?_ 0 _ rfl; (with_reducible repeat (fail)); exact BK427.out) Try.underlying46 rfl (by kernel_rfl)) rfl ?_
    exact ⟨_, _, rfl, Kd.R_mono (Kd.R_far (p := ⟨gb427, 2, none⟩) (Kd.R_far (p := ⟨gb427, 1, none⟩) (Kd.R_far (p := ⟨gb427, 0, none⟩) (Kd.R_types HO432.out BK427.out (by decide)) (fun _ hk => hk.2) (.bool false)) (fun _ hk => hk.2) (.slice Ao18 y430.length co18)) (fun _ hk => hk.2) (.slice Ao17 y433.length co17)) (fun _ hk => hk.1.2), Kd.R_mono (Kd.R_far (p := ⟨gb427, 2, none⟩) (Kd.R_far (p := ⟨gb427, 1, none⟩) (Kd.R_far (p := ⟨gb427, 0, none⟩) (Kd.R_types HO435.out BK427.out (by decide)) (fun _ hk => hk.2) (.bool false)) (fun _ hk => hk.2) (.slice Ao18 y430.length co18)) (fun _ hk => hk.2) (.slice Ao17 y433.length co17)) (fun _ hk => hk.1.2), by repeat ((with_reducible first | exact HB.out | refine below_set ?_ GE427.out))⟩
   ·replace c12 := Bool.eq_false_iff.mpr c12
    subst c12
    rw [if_neg (show ¬ (false = true) by decide)] at H
    obtain ⟨t436, A20, H⟩ := bindA H
    obtain ⟨⟨t439, t440⟩, A21, H⟩ := bindA H
    obtain ⟨⟨t445, t446⟩, A22, H⟩ := bindA H
    simp only [Option.some.injEq, Prod.mk.injEq] at H
    obtain ⟨rfl, rfl, rfl⟩ := H
    go_wp2_with (first | (refine goesL_ (some 23) rfl rfl Try.func99 (by kernel_rfl) rfl #[.slice A1 l1.length c1, .slice A2 l2.length c2] rfl (by simp only [List.map_toArray, List.map_cons, List.map_nil]; rfl) ?_; (with_reducible refine (codewrightref01_Gcd.calls kj3 (fun k_ => k_ < w.heap.size) _ _ l1 (fun k_ => k_ < w.heap.size) _ _ l2 t436 _ (Kd.V_mk HC1.out (Kd.F_below (Kd.C_F (Kd.heap_int .u32) HR1.out) (HB.out))) (Kd.V_mk HC2.out (Kd.F_below (Kd.C_F (Kd.heap_int .u32) HR2.out) (HB.out))) A20.out).mono ?_); rintro e w23 ⟨v437, rfl, ho0, hb⟩; refine ⟨_, rfl, ?_⟩; have HO438 := Aside0.mk (Kd.R_lower (Kd.R_mono (ok' := fun k_ => True) ho0 (fun _ hk_ => trivial)) (below_size (HB.out))); replace BK427 := Aside0.mk (blk_below (BK427.out) hb); replace HB := Aside0.mk (below_step (HB.out) hb); (try clear hb); (try clear ho0); obtain ⟨Ao24, co24, eo24⟩ := Kd.R_slice HO438.out; subst eo24) | (refine goesL_ (some 27) rfl rfl Try.func100 (by kernel_rfl) rfl #[.slice A1 l1.length c1, .slice Ao24 t436.length co24] rfl (by simp only [List.map_toArray, List.map_cons, List.map_nil]; rfl) ?_; (with_reducible refine (codewrightref01_DivMod.calls kj3 _ _ l1 _ _ t436 t439 t440 _ ?side1 ?side2 ?side3 ?side4 A21.out).mono ?_); (case side1 => exact (Kd.C_below HR1.out HB.out)); (case side2 => exact HC1.out); (case side3 => exact (Kd.R_reads' HO438.out).2.2); (case side4 => exact (Kd.R_reads' HO438.out).2.1); rintro e w25 ⟨v441, v443, rfl, ho0, ho1, hb⟩; refine ⟨_, rfl, ?_⟩; have n0_ := Aside0.mk (Kd.R_mono (Kd.R_told (Kd.R_told (Kd.R_old (HO438.out) hb) (Kd.R_base ho0)) (Kd.R_base ho1)) (fun _ h_ => h_.1)); have n1_ := Aside0.mk (Kd.R_lower (Kd.R_new' ho0 (Kd.R_lt (HO438.out))) (below_size (HB.out))); have n2_ := Aside0.mk (Kd.R_lower (Kd.R_new' ho1 (Kd.R_lt (HO438.out))) (below_size (HB.out))); have n3_ := Aside0.mk (blk_below (BK427.out) hb); have n4_ := Aside0.mk (below_step (HB.out) hb); clear HO438; clear BK427; clear HB; have HO438 := n0_; have HO442 := n1_; have HO444 := n2_; have BK427 := n3_; have HB := n4_; clear n0_ n1_ n2_ n3_ n4_) | (refine goesL_ (some 33) rfl rfl Try.func100 (by kernel_rfl) rfl #[.slice A2 l2.length c2, .slice Ao24 t436.length co24] rfl (by simp only [List.map_toArray, List.map_cons, List.map_nil]; rfl) ?_; (with_reducible refine (codewrightref01_DivMod.calls kj3 _ _ l2 _ _ t436 t445 t446 _ ?side1 ?side2 ?side3 ?side4 A22.out).mono ?_); (case side1 => exact (Kd.C_below HR2.out HB.out)); (case side2 => exact HC2.out); (case side3 => exact (Kd.R_reads' HO438.out).2.2); (case side4 => exact (Kd.R_reads' HO438.out).2.1); rintro e w26 ⟨v447, v449, rfl, ho0, ho1, hb⟩; refine ⟨_, rfl, ?_⟩; have n0_ := Aside0.mk (Kd.R_mono (Kd.R_told (Kd.R_told (Kd.R_old (HO438.out) hb) (Kd.R_base ho0)) (Kd.R_base ho1)) (fun _ h_ => h_.1)); have n1_ := Aside0.mk (Kd.R_mono (Kd.R_told (Kd.R_told (Kd.R_old (HO442.out) hb) (Kd.R_base ho0)) (Kd.R_base ho1)) (fun _ h_ => h_.1)); have n2_ := Aside0.mk (Kd.R_mono (Kd.R_told (Kd.R_told (Kd.R_old (HO444.out) hb) (Kd.R_base ho0)) (Kd.R_base ho1)) (fun _ h_ => h_.1)); have n3_ := Aside0.mk (Kd.R_lower (Kd.R_new' (Kd.R_new' (Kd.R_new' ho0 (Kd.R_lt (HO438.out))) (Kd.R_lt (HO442.out))) (Kd.R_lt (HO444.out))) (below_size (HB.out))); have n4_ := Aside0.mk (Kd.R_lower (Kd.R_new' (Kd.R_new' (Kd.R_new' ho1 (Kd.R_lt (HO438.out))) (Kd.R_lt (HO442.out))) (Kd.R_lt (HO444.out))) (below_size (HB.out))); have n5_ := Aside0.mk (blk_below (BK427.out) hb); have n6_ := Aside0.mk (below_step (HB.out) hb); clear HO438; clear HO442; clear HO444; clear BK427; clear HB; have HO438 := n0_; have HO442 := n1_; have HO444 := n2_; have HO448 := n3_; have HO450 := n4_; have BK427 := n5_; have HB := n6_; clear n0_ n1_ n2_ n3_ n4_ n5_ n6_; (try clear hb); (try clear ho0); (try clear ho1); obtain ⟨Ao27, co27, eo27⟩ := Kd.R_slice HO448.out; subst eo27; obtain ⟨Ao28, co28, eo28⟩ := Kd.R_slice HO442.out; subst eo28; have hcz29_0 : w26.cell? ⟨gb427, 0, none⟩ = some (.bool false) := (blk_cell BK427.out 0).trans rfl; have hcz29_1 : w26.cell? ⟨gb427, 1, none⟩ = some (.slice none 0 0) := (blk_cell BK427.out 1).trans rfl; have hcz29_2 : w26.cell? ⟨gb427, 2, none⟩ = some (.slice none 0 0) := (blk_cell BK427.out 2).trans rfl; have hfz29_0 := blk_frozen BK427.out 0; have hfz29_1 := blk_frozen BK427.out 1; have hfz29_2 := blk_frozen BK427.out 2))
    refine bodyPost_ret (results_cell_row rfl _ _ gb427 46 #[.bool a0, .slice Ao28 t439.length co28, .slice Ao27 t445.length co27] (0, 0) _ rfl (by (with_reducible repeat (fail)); refine blk_put (cs := #[.bool a0, .slice Ao28 t439.length co28, .slice none 0 0]) ?_ 2 _ rfl; (with_reducible repeat (fail)); refine blk_put (cs := #[.bool a0, .slice none 0 0, .slice none 0 0]) ?_ 1 _ rfl; (with_reducible repeat (fail)); refine blk_put (cs := #[.bool false, .slice none 0 0, .slice none 0 0]) ?_ 0 _ rfl; (with_reducible repeat (fail)); exact BK427.out) Try.underlying46 rfl (by kernel_rfl)) rfl ?_
    exact ⟨_, _, rfl, Kd.R_mono (Kd.R_far (p := ⟨gb427, 2, none⟩) (Kd.R_far (p := ⟨gb427, 1, none⟩) (Kd.R_far (p := ⟨gb427, 0, none⟩) (Kd.R_types HO442.out BK427.out (by decide)) (fun _ hk => hk.2) (.bool a0)) (fun _ hk => hk.2) (.slice Ao28 t439.length co28)) (fun _ hk => hk.2) (.slice Ao27 t445.length co27)) (fun _ hk => hk.1.1.2), Kd.R_mono (Kd.R_far (p := ⟨gb427, 2, none⟩) (Kd.R_far (p := ⟨gb427, 1, none⟩) (Kd.R_far (p := ⟨gb427, 0, none⟩) (Kd.R_types HO448.out BK427.out (by decide)) (fun _ hk => hk.2) (.bool a0)) (fun _ hk => hk.2) (.slice Ao28 t439.length co28)) (fun _ hk => hk.2) (.slice Ao27 t445.length co27)) (fun _ hk => hk.1.1.2), by repeat ((with_reducible first | exact HB.out | refine below_set ?_ GE427.out))⟩
end Go.Proofs.Ythheakfgmombdaa.F
end
section
namespace Go.Proofs.Ythheakfgmombdaa.F
open Go.RowKit Go.Proofs.YthheakfgmombdaaX.PrintWords Go.Proofs.YthheakfgmombdaaX.PrintLast Go.Proofs.YthheakfgmombdaaX.PrintMore
attribute [local go_sem] max2_int min2_int max_two min_two max_three min_three max_four min_four   -- for this text's walks alone
set_option linter.unusedVariables false
set_option linter.unusedSimpArgs false
set_option maxHeartbeats 8000000 in
set_option maxRecDepth 100000 in
theorem codewrightref02_Trim.calls (k : Nat) (a0_0 : Bool) (A0_1 : Option Addr) (c0_1 : Nat) (l0_1 : List Int) (A0_2 : Option Addr) (c0_2 : Nat) (l0_2 : List Int) (r1 : Bool) (r2 : List Int) (r3 : List Int) (w : World) (hr0_1 : Kd.C (Kd.int .u32) w A0_1 l0_1.length l0_1) (hc0_1 : l0_1.length ≤ c0_1) (hr0_2 : Kd.C (Kd.int .u32) w A0_2 l0_2.length l0_2) (hc0_2 : l0_2.length ≤ c0_2) (h : codewrightref02_Trim.f k a0_0 l0_1 l0_2 = some (r1, r2, r3)) :
  Calls Try.prog 67 #[.agg #[.bool a0_0, .slice A0_1 l0_1.length c0_1, .slice A0_2 l0_2.length c0_2]] w fun e w' => ∃ v1_ v2_ : Value, e = .returned (.agg #[.bool r1, v1_, v2_]) ∧ Kd.R (Kd.int .u32) 100 w' w.heap.size (fun k_ => some k_ ≠ (v2_ : Value).ownBlock) v1_ r2 ∧ Kd.R (Kd.int .u32) 100 w' w.heap.size (fun k_ => some k_ ≠ (v1_ : Value).ownBlock) v2_ r3 ∧ Below w.heap.size w w' := by
 have hu46 := Try.underlying46
 have HR0_1 := Aside0.mk hr0_1
 have HC0_1 := Aside0.mk hc0_1
 clear hr0_1 hc0_1
 have HR0_2 := Aside0.mk hr0_2
 have HC0_2 := Aside0.mk hc0_2
 clear hr0_2 hc0_2
 have HB := Aside0.mk (Below.refl w.heap.size w)
 have H : ((codewrightref02_Make.f k a0_0 l0_1 l0_2).bind fun bt453 => (some (bt453.1, bt453.2.1, bt453.2.2))) = some (r1, r2, r3) := h
 clear h
 obtain ⟨⟨t453, t454, t457⟩, A2, H⟩ := bindA H
 simp only [Option.some.injEq, Prod.mk.injEq] at H
 obtain ⟨rfl, rfl, rfl⟩ := H
 go_enter Try.func67, Try.ntmps67
 go_wp2_with (first | (refine box_event ?hg (N := 1) ?hd (cs := #[.bool a0_0, .slice A0_1 l0_1.length c0_1, .slice A0_2 l0_2.length c0_2]) (t := 46) ?hr ?_; (case hd => rfl); (case hg => rfl); (case hr => go_simp; done); intro gb451 hg w3 hbox hb; have n0_ := Aside0.mk (below_step (HB.out) hb); have n1_ := Aside0.mk (hbox); have n2_ := Aside0.mk ((by rw [hg]; exact (below_size (HB.out)) : w.heap.size ≤ gb451)); have n3_ := Aside0.mk ((by rw [hg]; exact (below_size (HB.out)) : w.heap.size ≤ gb451)); clear HB; have HB := n0_; have BK451 := n1_; have GW451 := n2_; have GE451 := n3_; clear n0_ n1_ n2_ n3_; clear hb hbox hg) | (refine box_event ?hg (N := 2) ?hd (cs := #[.bool false, .slice none 0 0, .slice none 0 0]) (t := 46) ?hr ?_; (case hd => rfl); (case hg => rfl); (case hr => go_simp; done); intro gb452 hg w4 hbox hb; have n0_ := Aside0.mk (blk_below (BK451.out) hb); have n1_ := Aside0.mk (below_step (HB.out) hb); have n2_ := Aside0.mk (hbox); have n3_ := Aside0.mk ((by rw [hg]; exact (below_size (HB.out)) : w.heap.size ≤ gb452)); have n4_ := Aside0.mk ((by rw [hg]; exact (below_size (HB.out)) : w.heap.size ≤ gb452)); have n5_ := Aside0.mk ((by rw [hg]; exact Nat.ne_of_lt (blk_lt (BK451.out)) : gb451 ≠ gb452)); have n6_ := Aside0.mk ((by rw [hg]; exact Nat.ne_of_gt (blk_lt (BK451.out)) : gb452 ≠ gb451)); clear BK451; clear HB; have BK451 := n0_; have HB := n1_; have BK452 := n2_; have GW452 := n3_; have GE452 := n4_; have NB451_452 := n5_; have NB452_451 := n6_; clear n0_ n1_ n2_ n3_ n4_ n5_ n6_; clear hb hbox hg; have hnb5 := NB451_452.out; have hnc5 := NB452_451.out; have hcz6_0 : w4.cell? ⟨gb451, 0, none⟩ = some (.bool a0_0) := (blk_cell BK451.out 0).trans rfl; have hcz6_1 : w4.cell? ⟨gb451, 1, none⟩ = some (.slice A0_1 l0_1.length c0_1) := (blk_cell BK451.out 1).trans rfl; have hcz6_2 : w4.cell? ⟨gb451, 2, none⟩ = some (.slice A0_2 l0_2.length c0_2) := (blk_cell BK451.out 2).trans rfl; have hfz6_0 := blk_frozen BK451.out 0; have hfz6_1 := blk_frozen BK451.out 1; have hfz6_2 := blk_frozen BK451.out 2) | (refine goesL_ (some 9) rfl rfl Try.func69 (by kernel_rfl) rfl #[.bool a0_0, .slice A0_1 l0_1.length c0_1, .slice A0_2 l0_2.length c0_2] rfl (by simp only [List.map_toArray, List.map_cons, List.map_nil]; rfl) ?_; (with_reducible refine (codewrightref02_Make.calls k a0_0 _ _ l0_1 _ _ l0_2 t453 t454 t457 _ (Kd.C_below HR0_1.out HB.out) HC0_1.out (Kd.C_below HR0_2.out HB.out) HC0_2.out A2.out).mono ?_); rintro e w7 ⟨v455, v458, rfl, ho0, ho1, hb⟩; refine ⟨_, rfl, ?_⟩; have HO456 := Aside0.mk (Kd.R_lower ho0 (below_size (HB.out))); have HO459 := Aside0.mk (Kd.R_lower ho1 (below_size (HB.out))); replace BK451 := Aside0.mk (blk_below (BK451.out) hb); replace BK452 := Aside0.mk (blk_below (BK452.out) hb); replace HB := Aside0.mk (below_step (HB.out) hb); (try clear hb); (try clear ho0); (try clear ho1); have hcz8_0 : w7.cell? ⟨gb452, 0, none⟩ = some (.bool false) := (blk_cell BK452.out 0).trans rfl; have hcz8_1 : w7.cell? ⟨gb452, 1, none⟩ = some (.slice none 0 0) := (blk_cell BK452.out 1).trans rfl; have hcz8_2 : w7.cell? ⟨gb452, 2, none⟩ = some (.slice none 0 0) := (blk_cell BK452.out 2).trans rfl; have hfz8_0 := blk_frozen BK452.out 0; have hfz8_1 := blk_frozen BK452.out 1; have hfz8_2 := blk_frozen BK452.out 2; obtain ⟨Ao9, co9, eo9⟩ := Kd.R_slice HO456.out; subst eo9; obtain ⟨Ao10, co10, eo10⟩ := Kd.R_slice HO459.out; subst eo10))
 refine bodyPost_ret (results_cell_row rfl _ _ gb452 46 #[.bool t453, .slice Ao9 t454.length co9, .slice Ao10 t457.length co10] (0, 0) _ rfl (by (with_reducible repeat (fail)); refine blk_put (cs := #[.bool t453, .slice Ao9 t454.length co9, .slice none 0 0]) ?_ 2 _ rfl; (with_reducible repeat (fail)); refine blk_put (cs := #[.bool t453, .slice none 0 0, .slice none 0 0]) ?_ 1 _ rfl; (with_reducible repeat (fail)); refine blk_put (cs := #[.bool false, .slice none 0 0, .slice none 0 0]) ?_ 0 _ rfl; (with_reducible repeat (fail)); exact BK452.out) Try.underlying46 rfl (by kernel_rfl)) rfl ?_
 exact ⟨_, _, rfl, Kd.R_mono (Kd.R_far (p := ⟨gb452, 2, none⟩) (Kd.R_far (p := ⟨gb452, 1, none⟩) (Kd.R_far (p := ⟨gb452, 0, none⟩) (Kd.R_types HO456.out BK452.out (by decide)) (fun _ hk => hk.2) (.bool t453)) (fun _ hk => hk.2) (.slice Ao9 t454.length co9)) (fun _ hk => hk.2) (.slice Ao10 t457.length co10)) (fun _ hk => hk.1), Kd.R_mono (Kd.R_far (p := ⟨gb452, 2, none⟩) (Kd.R_far (p := ⟨gb452, 1, none⟩) (Kd.R_far (p := ⟨gb452, 0, none⟩) (Kd.R_types HO459.out BK452.out (by decide)) (fun _ hk => hk.2) (.bool t453)) (fun _ hk => hk.2) (.slice Ao9 t454.length co9)) (fun _ hk => hk.2) (.slice Ao10 t457.length co10)) (fun _ hk => hk.1), by repeat ((with_reducible first | exact HB.out | refine below_set ?_ GE452.out))⟩
end Go.Proofs.Ythheakfgmombdaa.F
end
section
namespace Go.Proofs.Ythheakfgmombdaa.F
open Go.RowKit Go.Proofs.YthheakfgmombdaaX.PrintWords Go.Proofs.YthheakfgmombdaaX.PrintLast Go.Proofs.YthheakfgmombdaaX.PrintMore
attribute [local go_sem] max2_int min2_int max_two min_two max_three min_three max_four min_four   -- for this text's walks alone
set_option linter.unusedVariables false
set_option linter.unusedSimpArgs false
set_option maxHeartbeats 8000000 in
set_option maxRecDepth 100000 in
theorem codewrightref02_Neg.calls (k : Nat) (a0_0 : Bool) (A0_1 : Option Addr) (c0_1 : Nat) (l0_1 : List Int) (A0_2 : Option Addr) (c0_2 : Nat) (l0_2 : List Int) (r1 : Bool) (r2 : List Int) (r3 : List Int) (w : World) (hr0_1 : Kd.C (Kd.int .u32) w A0_1 l0_1.length l0_1) (hc0_1 : l0_1.length ≤ c0_1) (hr0_2 : Kd.C (Kd.int .u32) w A0_2 l0_2.length l0_2) (hc0_2 : l0_2.length ≤ c0_2) (h : codewrightref02_Neg.f k a0_0 l0_1 l0_2 = some (r1, r2, r3)) :
  Calls Try.prog 62 #[.agg #[.bool a0_0, .slice A0_1 l0_1.length c0_1, .slice A0_2 l0_2.length c0_2]] w fun e w' => ∃ v1_ v2_ : Value, e = .returned (.agg #[.bool r1, v1_, v2_]) ∧ Kd.R (Kd.int .u32) 100 w' w.heap.size (fun k_ => some k_ ≠ (v2_ : Value).ownBlock) v1_ r2 ∧ Kd.R (Kd.int .u32) 100 w' w.heap.size (fun k_ => some k_ ≠ (v1_ : Value).ownBlock) v2_ r3 ∧ Below w.heap.size w w' := by
 have hu46 := Try.underlying46
 have HR0_1 := Aside0.mk hr0_1
 have HC0_1 := Aside0.mk hc0_1
 clear hr0_1 hc0_1
 have HR0_2 := Aside0.mk hr0_2
 have HC0_2 := Aside0.mk hc0_2
 clear hr0_2 hc0_2
 have HB := Aside0.mk (Below.refl w.heap.size w)
 have H : ((codewrightref02_Trim.f k a0_0 l0_1 l0_2).bind fun bt538 => ((codewrightref02_Make.f k (!bt538.1) bt538.2.1 bt538.2.2).bind fun bt545 => (some (bt545.1, bt545.2.1, bt545.2.2)))) = some (r1, r2, r3) := h
 clear h
 obtain ⟨⟨t538, t539, t542⟩, A2, H⟩ := bindA H
 obtain ⟨⟨t545, t546, t549⟩, A3, H⟩ := bindA H
 simp only [Option.some.injEq, Prod.mk.injEq] at H
 obtain ⟨rfl, rfl, rfl⟩ := H
 go_enter Try.func62, Try.ntmps62
 go_wp2_with (first | (refine box_event ?hg (N := 1) ?hd (cs := #[.bool a0_0, .slice A0_1 l0_1.length c0_1, .slice A0_2 l0_2.length c0_2]) (t := 46) ?hr ?_; (case hd => rfl); (case hg => rfl); (case hr => go_simp; done); intro gb536 hg w4 hbox hb; have n0_ := Aside0.mk (below_step (HB.out) hb); have n1_ := Aside0.mk (hbox); have n2_ := Aside0.mk ((by rw [hg]; exact (below_size (HB.out)) : w.heap.size ≤ gb536)); have n3_ := Aside0.mk ((by rw [hg]; exact (below_size (HB.out)) : w.heap.size ≤ gb536)); clear HB; have HB := n0_; have BK536 := n1_; have GW536 := n2_; have GE536 := n3_; clear n0_ n1_ n2_ n3_; clear hb hbox hg) | (refine box_event ?hg (N := 2) ?hd (cs := #[.bool false, .slice none 0 0, .slice none 0 0]) (t := 46) ?hr ?_; (case hd => rfl); (case hg => rfl); (case hr => go_simp; done); intro gb537 hg w5 hbox hb; have n0_ := Aside0.mk (blk_below (BK536.out) hb); have n1_ := Aside0.mk (below_step (HB.out) hb); have n2_ := Aside0.mk (hbox); have n3_ := Aside0.mk ((by rw [hg]; exact (below_size (HB.out)) : w.heap.size ≤ gb537)); have n4_ := Aside0.mk ((by rw [hg]; exact (below_size (HB.out)) : w.heap.size ≤ gb537)); have n5_ := Aside0.mk ((by rw [hg]; exact Nat.ne_of_lt (blk_lt (BK536.out)) : gb536 ≠ gb537)); have n6_ := Aside0.mk ((by rw [hg]; exact Nat.ne_of_gt (blk_lt (BK536.out)) : gb537 ≠ gb536)); clear BK536; clear HB; have BK536 := n0_; have HB := n1_; have BK537 := n2_; have GW537 := n3_; have GE537 := n4_; have NB536_537 := n5_; have NB537_536 := n6_; clear n0_ n1_ n2_ n3_ n4_ n5_ n6_; clear hb hbox hg; have hnb6 := NB536_537.out; have hnc6 := NB537_536.out; have hcz7_0 : w5.cell? ⟨gb536, 0, none⟩ = some (.bool a0_0) := (blk_cell BK536.out 0).trans rfl; have hcz7_1 : w5.cell? ⟨gb536, 1, none⟩ = some (.slice A0_1 l0_1.length c0_1) := (blk_cell BK536.out 1).trans rfl; have hcz7_2 : w5.cell? ⟨gb536, 2, none⟩ = some (.slice A0_2 l0_2.length c0_2) := (blk_cell BK536.out 2).trans rfl; have hfz7_0 := blk_frozen BK536.out 0; have hfz7_1 := blk_frozen BK536.out 1; have hfz7_2 := blk_frozen BK536.out 2) | (refine goesL_ (some 4) rfl rfl Try.func67 (by kernel_rfl) rfl #[.agg #[.bool a0_0, .slice A0_1 l0_1.length c0_1, .slice A0_2 l0_2.length c0_2]] rfl (by simp only [List.map_toArray, List.map_cons, List.map_nil]; rfl) ?_; (with_reducible refine (codewrightref02_Trim.calls k a0_0 _ _ l0_1 _ _ l0_2 t538 t539 t542 _ (Kd.C_below HR0_1.out HB.out) HC0_1.out (Kd.C_below HR0_2.out HB.out) HC0_2.out A2.out).mono ?_); rintro e w8 ⟨v540, v543, rfl, ho0, ho1, hb⟩; refine ⟨_, rfl, ?_⟩; have HO541 := Aside0.mk (Kd.R_lower ho0 (below_size (HB.out))); have HO544 := Aside0.mk (Kd.R_lower ho1 (below_size (HB.out))); replace BK536 := Aside0.mk (blk_below (BK536.out) hb); replace BK537 := Aside0.mk (blk_below (BK537.out) hb); replace HB := Aside0.mk (below_step (HB.out) hb); (try clear hb); (try clear ho0); (try clear ho1); have hcz9_0 : w8.cell? ⟨gb536, 0, none⟩ = some (.bool a0_0) := (blk_cell BK536.out 0).trans rfl; have hcz9_1 : w8.cell? ⟨gb536, 1, none⟩ = some (.slice A0_1 l0_1.length c0_1) := (blk_cell BK536.out 1).trans rfl; have hcz9_2 : w8.cell? ⟨gb536, 2, none⟩ = some (.slice A0_2 l0_2.length c0_2) := (blk_cell BK536.out 2).trans rfl; have hfz9_0 := blk_frozen BK536.out 0; have hfz9_1 := blk_frozen BK536.out 1; have hfz9_2 := blk_frozen BK536.out 2; obtain ⟨Ao10, co10, eo10⟩ := Kd.R_slice HO541.out; subst eo10; obtain ⟨Ao11, co11, eo11⟩ := Kd.R_slice HO544.out; subst eo11) | (refine goesL_ (some 12) rfl rfl Try.func69 (by kernel_rfl) rfl #[.bool (!t538), .slice Ao10 t539.length co10, .slice Ao11 t542.length co11] rfl (by simp only [List.map_toArray, List.map_cons, List.map_nil]; rfl) ?_; (with_reducible refine (codewrightref02_Make.calls k (!t538) _ _ t539 _ _ t542 t545 t546 t549 _ ?side1 ?side2 ?side3 ?side4 A3.out).mono ?_); (case side1 => refine (Kd.R_reads' (e := 100) (base := w.heap.size) (ok := fun k_ => some k_ ≠ (.slice Ao11 t542.length co11 : Value).ownBlock) (n := t539.length) (c := co10) ?_).2.2; exact ((Kd.R_mono (Kd.R_far (p := ⟨gb536, 2, none⟩) (Kd.R_far (p := ⟨gb536, 1, none⟩) (Kd.R_far (p := ⟨gb536, 0, none⟩) (Kd.R_types HO541.out BK536.out (by decide)) (fun _ hk => hk.2) (.bool t538)) (fun _ hk => hk.2) (.slice Ao10 t539.length co10)) (fun _ hk => hk.2) (.slice Ao11 t542.length co11)) (fun _ h_ => h_.1)))); (case side2 => exact (Kd.R_reads' HO541.out).2.1); (case side3 => refine (Kd.R_reads' (e := 100) (base := w.heap.size) (ok := fun k_ => some k_ ≠ (.slice Ao10 t539.length co10 : Value).ownBlock) (n := t542.length) (c := co11) ?_).2.2; exact ((Kd.R_mono (Kd.R_far (p := ⟨gb536, 2, none⟩) (Kd.R_far (p := ⟨gb536, 1, none⟩) (Kd.R_far (p := ⟨gb536, 0, none⟩) (Kd.R_types HO544.out BK536.out (by decide)) (fun _ hk => hk.2) (.bool t538)) (fun _ hk => hk.2) (.slice Ao10 t539.length co10)) (fun _ hk => hk.2) (.slice Ao11 t542.length co11)) (fun _ h_ => h_.1)))); (case side4 => exact (Kd.R_reads' HO544.out).2.1); rintro e w12 ⟨v547, v550, rfl, ho0, ho1, hb⟩; refine ⟨_, rfl, ?_⟩; have n0_ := Aside0.mk (Kd.R_mono (Kd.R_told (Kd.R_told (Kd.R_old ((Kd.R_mono (Kd.R_far (p := ⟨gb536, 2, none⟩) (Kd.R_far (p := ⟨gb536, 1, none⟩) (Kd.R_far (p := ⟨gb536, 0, none⟩) (Kd.R_types HO541.out BK536.out (by decide)) (fun _ hk => hk.2) (.bool t538)) (fun _ hk => hk.2) (.slice Ao10 t539.length co10)) (fun _ hk => hk.2) (.slice Ao11 t542.length co11)) (fun _ h_ => h_.1))) hb) (Kd.R_base ho0)) (Kd.R_base ho1)) (fun _ h_ => h_.1)); have n1_ := Aside0.mk (Kd.R_mono (Kd.R_told (Kd.R_told (Kd.R_old ((Kd.R_mono (Kd.R_far (p := ⟨gb536, 2, none⟩) (Kd.R_far (p := ⟨gb536, 1, none⟩) (Kd.R_far (p := ⟨gb536, 0, none⟩) (Kd.R_types HO544.out BK536.out (by decide)) (fun _ hk => hk.2) (.bool t538)) (fun _ hk => hk.2) (.slice Ao10 t539.length co10)) (fun _ hk => hk.2) (.slice Ao11 t542.length co11)) (fun _ h_ => h_.1))) hb) (Kd.R_base ho0)) (Kd.R_base ho1)) (fun _ h_ => h_.1)); have n2_ := Aside0.mk (Kd.R_lower (Kd.R_new' (Kd.R_new' ho0 (Kd.R_lt ((Kd.R_mono (Kd.R_far (p := ⟨gb536, 2, none⟩) (Kd.R_far (p := ⟨gb536, 1, none⟩) (Kd.R_far (p := ⟨gb536, 0, none⟩) (Kd.R_types HO541.out BK536.out (by decide)) (fun _ hk => hk.2) (.bool t538)) (fun _ hk => hk.2) (.slice Ao10 t539.length co10)) (fun _ hk => hk.2) (.slice Ao11 t542.length co11)) (fun _ h_ => h_.1))))) (Kd.R_lt ((Kd.R_mono (Kd.R_far (p := ⟨gb536, 2, none⟩) (Kd.R_far (p := ⟨gb536, 1, none⟩) (Kd.R_far (p := ⟨gb536, 0, none⟩) (Kd.R_types HO544.out BK536.out (by decide)) (fun _ hk => hk.2) (.bool t538)) (fun _ hk => hk.2) (.slice Ao10 t539.length co10)) (fun _ hk => hk.2) (.slice Ao11 t542.length co11)) (fun _ h_ => h_.1))))) (below_size (by repeat ((with_reducible first | exact HB.out | refine below_set ?_ GE536.out))))); have n3_ := Aside0.mk (Kd.R_lower (Kd.R_new' (Kd.R_new' ho1 (Kd.R_lt ((Kd.R_mono (Kd.R_far (p := ⟨gb536, 2, none⟩) (Kd.R_far (p := ⟨gb536, 1, none⟩) (Kd.R_far (p := ⟨gb536, 0, none⟩) (Kd.R_types HO541.out BK536.out (by decide)) (fun _ hk => hk.2) (.bool t538)) (fun _ hk => hk.2) (.slice Ao10 t539.length co10)) (fun _ hk => hk.2) (.slice Ao11 t542.length co11)) (fun _ h_ => h_.1))))) (Kd.R_lt ((Kd.R_mono (Kd.R_far (p := ⟨gb536, 2, none⟩) (Kd.R_far (p := ⟨gb536, 1, none⟩) (Kd.R_far (p := ⟨gb536, 0, none⟩) (Kd.R_types HO544.out BK536.out (by decide)) (fun _ hk => hk.2) (.bool t538)) (fun _ hk => hk.2) (.slice Ao10 t539.length co10)) (fun _ hk => hk.2) (.slice Ao11 t542.length co11)) (fun _ h_ => h_.1))))) (below_size (by repeat ((with_reducible first | exact HB.out | refine below_set ?_ GE536.out))))); have n4_ := Aside0.mk (blk_below (g := gb536) (o := .cells #[.bool t538, .slice Ao10 t539.length co10, .slice Ao11 t542.length co11] 46 (0, 0)) (by (with_reducible repeat (fail)); refine blk_put (cs := #[.bool t538, .slice Ao10 t539.length co10, .slice A0_2 l0_2.length c0_2]) ?_ 2 _ rfl; (with_reducible repeat (fail)); refine blk_put (cs := #[.bool t538, .slice A0_1 l0_1.length c0_1, .slice A0_2 l0_2.length c0_2]) ?_ 1 _ rfl; (with_reducible repeat (fail)); refine blk_put (cs := #[.bool a0_0, .slice A0_1 l0_1.length c0_1, .slice A0_2 l0_2.length c0_2]) ?_ 0 _ rfl; (with_reducible repeat (fail)); exact BK536.out) hb); have n5_ := Aside0.mk (blk_below (g := gb537) (o := .cells #[.bool false, .slice none 0 0, .slice none 0 0] 46 (0, 0)) (by (with_reducible repeat (fail)); refine blk_far ?_ NB537_536.out _; (with_reducible repeat (fail)); refine blk_far ?_ NB537_536.out _; (with_reducible repeat (fail)); refine blk_far ?_ NB537_536.out _; (with_reducible repeat (fail)); exact BK537.out) hb); have n6_ := Aside0.mk (below_step (by repeat ((with_reducible first | exact HB.out | refine below_set ?_ GE536.out))) hb); clear HO541; clear HO544; clear BK536; clear BK537; clear HB; have HO541 := n0_; have HO544 := n1_; have HO548 := n2_; have HO551 := n3_; have BK536 := n4_; have BK537 := n5_; have HB := n6_; clear n0_ n1_ n2_ n3_ n4_ n5_ n6_; (try clear hb); (try clear ho0); (try clear ho1); have hcz13_0 : w12.cell? ⟨gb537, 0, none⟩ = some (.bool false) := (blk_cell BK537.out 0).trans rfl; have hcz13_1 : w12.cell? ⟨gb537, 1, none⟩ = some (.slice none 0 0) := (blk_cell BK537.out 1).trans rfl; have hcz13_2 : w12.cell? ⟨gb537, 2, none⟩ = some (.slice none 0 0) := (blk_cell BK537.out 2).trans rfl; have hfz13_0 := blk_frozen BK537.out 0; have hfz13_1 := blk_frozen BK537.out 1; have hfz13_2 := blk_frozen BK537.out 2; obtain ⟨Ao14, co14, eo14⟩ := Kd.R_slice HO548.out; subst eo14; obtain ⟨Ao15, co15, eo15⟩ := Kd.R_slice HO551.out; subst eo15))
 refine bodyPost_ret (results_cell_row rfl _ _ gb537 46 #[.bool t545, .slice Ao14 t546.length co14, .slice Ao15 t549.length co15] (0, 0) _ rfl (by (with_reducible repeat (fail)); refine blk_put (cs := #[.bool t545, .slice Ao14 t546.length co14, .slice none 0 0]) ?_ 2 _ rfl; (with_reducible repeat (fail)); refine blk_put (cs := #[.bool t545, .slice none 0 0, .slice none 0 0]) ?_ 1 _ rfl; (with_reducible repeat (fail)); refine blk_put (cs := #[.bool false, .slice none 0 0, .slice none 0 0]) ?_ 0 _ rfl; (with_reducible repeat (fail)); exact BK537.out) Try.underlying46 rfl (by kernel_rfl)) rfl ?_
 exact ⟨_, _, rfl, Kd.R_mono (Kd.R_far (p := ⟨gb537, 2, none⟩) (Kd.R_far (p := ⟨gb537, 1, none⟩) (Kd.R_far (p := ⟨gb537, 0, none⟩) (Kd.R_types HO548.out BK537.out (by decide)) (fun _ hk => hk.2) (.bool t545)) (fun _ hk => hk.2) (.slice Ao14 t546.length co14)) (fun _ hk => hk.2) (.slice Ao15 t549.length co15)) (fun _ hk => hk.1.1.1), Kd.R_mono (Kd.R_far (p := ⟨gb537, 2, none⟩) (Kd.R_far (p := ⟨gb537, 1, none⟩) (Kd.R_far (p := ⟨gb537, 0, none⟩) (Kd.R_types HO551.out BK537.out (by decide)) (fun _ hk => hk.2) (.bool t545)) (fun _ hk => hk.2) (.slice Ao14 t546.length co14)) (fun _ hk => hk.2) (.slice Ao15 t549.length co15)) (fun _ hk => hk.1.1.1), by repeat ((with_reducible first | exact HB.out | refine below_set ?_ GE537.out))⟩
end Go.Proofs.Ythheakfgmombdaa.F
end
section
namespace Go.Proofs.Ythheakfgmombdaa.F
open Go.RowKit Go.Proofs.YthheakfgmombdaaX.PrintWords Go.Proofs.YthheakfgmombdaaX.PrintLast Go.Proofs.YthheakfgmombdaaX.PrintMore
attribute [local go_sem] max2_int min2_int max_two min_two max_three min_three max_four min_four   -- for this text's walks alone
set_option linter.unusedVariables false
set_option linter.unusedSimpArgs false
set_option maxHeartbeats 8000000 in
set_option maxRecDepth 100000 in
theorem codewrightref35_negative.calls (k : Nat) (A0 : Option Addr) (c0 : Nat) (l0 : List (S46)) (r : List (S46)) (w : World) (hr0 : Kd.C k46 w A0 l0.length l0) (hc0 : l0.length ≤ c0) (h : codewrightref35_negative.f k l0 = some r) :
    Calls Try.prog 61 #[.slice A0 l0.length c0] w fun e w' => ∃ v0_ : Value, e = .returned (v0_) ∧ Kd.S k46 46 w' w.heap.size (fun _ => True) v0_ r ∧ Below w.heap.size w w' := by
  have hu46 := Try.underlying46
  have HR0 := Aside0.mk hr0
  have HC0 := Aside0.mk hc0
  clear hr0 hc0
  have HB := Aside0.mk (Below.refl w.heap.size w)
  have H : (codewrightref35_negative.l0 k l0 ([] : List (S46)) 0) = some r := h
  clear h
  have H' := Aside0.mk H
  clear H
  go_enter Try.func61, Try.ntmps61
  go_wp2
  go_loopg [3, 4] k (fun kq v3 v4 w' => ∃ (x3_1 : List (S46)) (x4_1 : Int), v4 = .int .i64 x4_1 ∧ Aside0 (codewrightref35_negative.l0 kq l0 x3_1 x4_1 = some r) ∧ Aside0 (kq ≤ k) ∧ Aside0 (Kd.S k46 46 w' w.heap.size (fun _ => True) v3 x3_1) ∧ Aside0 (Below w.heap.size w w'))
  case atStart => exact ⟨(([] : List (S46))), (0), (by rfl), H', ⟨Nat.le_refl _⟩, ⟨by exact Kd.S_nil _ _ _ _ _⟩, ⟨by repeat ((with_reducible exact HB.out))⟩⟩
  case round =>
    clear H'
    obtain ⟨x3_1, x4_1, rfl, HA, HK1, HO_3, HB⟩ := hrel
    cases gk with
    | zero => exact absurd HA.out (by simp [codewrightref35_negative.l0])
    | succ k1 =>
      have H := HA.out
      clear HA
      simp only [codewrightref35_negative.l0] at H
      by_cases c2 : x4_1 < (l0.length : Int)
      · rw [if_pos c2] at H
        have c2b0 : decide (x4_1 < (l0.length : Int)) = true := decide_eq_true c2
        clear c2
        by_cases c3 : 0 ≤ x4_1
        · rw [if_pos c3] at H
          have c3b0 : decide (0 ≤ x4_1) = true := decide_eq_true c3
          clear c3
          replace H := Option.bind_eq_some_iff.mp H
          obtain ⟨⟨t495, t496, t499⟩, A40, H⟩ := H
          replace H : (if x3_1.length < 2513169434916 then (codewrightref35_negative.l0 k1 l0 (x3_1 ++ [(⟨t495, t496, t499⟩ : S46)]) (wrap64 (x4_1 + 1))) else (none)) = some r := H
          have A4 := Aside0.mk A40
          clear A40
          by_cases c5 : x3_1.length < 2513169434916
          · rw [if_pos c5] at H
            have LMc5 := Aside0.mk c5
            clear c5
            obtain ⟨y502, hy502⟩ : ∃ y_ : List (S46), y_ = (x3_1 ++ [(⟨t495, t496, t499⟩ : S46)]) := ⟨_, rfl⟩
            replace H : (codewrightref35_negative.l0 k1 l0 y502 (wrap64 (x4_1 + 1))) = some r := by (rw [hy502]; with_reducible exact H)
            have Ny502 := Aside0.mk hy502
            clear hy502
            have H' := Aside0.mk H
            clear H
            have p494 : 0 ≤ (x4_1 : Int) := of_decide_eq_true (by (with_reducible assumption))
            have q494 : x4_1 < (l0.length : Int) := of_decide_eq_true (by (with_reducible assumption))
            obtain ⟨ad494, A494_1, c494_1, A494_2, c494_2, e494, hx494_0, hx494_1, hx494_2, hl494_1, hi494_1, hl494_2, hi494_2⟩ := at_T46 HR0.out x4_1 p494 q494
            cases e494
            replace hx494_0 := (HB.out.cell (World.block_lt_of_cell? w _ hx494_0)).trans hx494_0
            replace hx494_1 := (HB.out.cell (World.block_lt_of_cell? w _ hx494_1)).trans hx494_1
            replace hx494_2 := (HB.out.cell (World.block_lt_of_cell? w _ hx494_2)).trans hx494_2
            have HR494_1 := Aside0.mk hi494_1
            have HC494_1 := Aside0.mk hl494_1
            clear hi494_1 hl494_1
            have HR494_2 := Aside0.mk hi494_2
            have HC494_2 := Aside0.mk hl494_2
            clear hi494_2 hl494_2
            replace p494 := eq_true p494
            replace q494 := eq_true q494
            go_wp2_with (first | ((with_reducible refine gate_callee (f := 62) rfl ?_); refine goesL_ (some 16) rfl rfl Try.func62 (by kernel_rfl) rfl #[.agg #[.bool ((rd_T46 l0 x4_1).f0), .slice A494_1 ((rd_T46 l0 x4_1).f1).length c494_1, .slice A494_2 ((rd_T46 l0 x4_1).f2).length c494_2]] rfl (by (try simp only [List.map_toArray, List.map_cons, List.map_nil]); rfl) ?_; (with_reducible refine (codewrightref02_Neg.calls k1 ((rd_T46 l0 x4_1).f0) _ _ ((rd_T46 l0 x4_1).f1) _ _ ((rd_T46 l0 x4_1).f2) t495 t496 t499 _ ?side1 ?side2 ?side3 ?side4 A4.out).mono ?_); (case side1 => repeat (exact (Kd.C_below HR494_1.out HB.out))); (case side2 => exact HC494_1.out); (case side3 => repeat (exact (Kd.C_below HR494_2.out HB.out))); (case side4 => exact HC494_2.out); rintro e w6 ⟨v497, v500, rfl, ho0, ho1, hb⟩; refine ⟨_, rfl, ?_⟩; have n0_ := Aside0.mk (Kd.S_mono (Kd.S_told (Kd.S_told (Kd.S_old (by (with_reducible repeat (fail)); exact HO_3.out) hb) (Kd.R_base ho0)) (Kd.R_base ho1)) (fun _ h_ => h_.1)); have n1_ := Aside0.mk (Kd.R_lower ho0 (below_size (by repeat ((with_reducible exact HB.out))))); have n2_ := Aside0.mk (Kd.R_lower ho1 (below_size (by repeat ((with_reducible exact HB.out))))); have n3_ := Aside0.mk (below_step (by repeat ((with_reducible exact HB.out))) hb); clear HO_3; clear HB; have HO_3 := n0_; have HO498 := n1_; have HO501 := n2_; have HB := n3_; clear n0_ n1_ n2_ n3_; (try clear hb); (try clear ho0); (try clear ho1); obtain ⟨Ao8, co8, eo8⟩ := Kd.R_slice HO498.out; subst eo8; obtain ⟨Ao9, co9, eo9⟩ := Kd.R_slice HO501.out; subst eo9) | ((with_reducible refine gate_builtin (b := .append) (xs := #[.tmp 11, .tmp 17]) rfl ?_); at_builtin; refine Kd.S_append k46 (w0 := w) w.heap.size rfl (.tmp 11) (.tmp 17) 22 46 (.agg #[(.bool false), (.slice none 0 0), (.slice none 0 0)]) 56 rfl Try.underlying22 info46 rfl (by decide) (by omega) u3 x3_1 (⟨t495, t496, t499⟩ : S46) [.bool t495, .slice Ao8 t496.length co8, .slice Ao9 t499.length co9] (fun _ => True) (fun k_ => some k_ = (.slice Ao8 t496.length co8 : Value).ownBlock ∨ some k_ = (.slice Ao9 t499.length co9 : Value).ownBlock) rfl rfl ?aP (fun k_ hk_ => hk_.elim (fun h_ => ((Kd.R_mono (ok' := fun k_ => ((fun _ => True)) k_ ∧ some k_ ≠ (u3 : Value).ownBlock) (Kd.R_apart' (HO498.out) (Kd.S_typed HO_3.out) (by decide)) (fun k_ hk => ⟨trivial, hk.2⟩))).1 k_ h_.symm) (fun h_ => ((Kd.R_mono (ok' := fun k_ => ((fun _ => True)) k_ ∧ some k_ ≠ (u3 : Value).ownBlock) (Kd.R_apart' (HO501.out) (Kd.S_typed HO_3.out) (by decide)) (fun k_ hk => ⟨trivial, hk.2⟩))).1 k_ h_.symm)) ?aF ?aO ?aB ?aS ?aL ?_; (case aP => exact k46_mkM _ _ _ (⟨t495, t496, t499⟩ : S46) (Kd.R_mono (Kd.R_tight rfl (Kd.R_mono (ok' := fun k_ => ((fun _ => True)) k_ ∧ some k_ ≠ (u3 : Value).ownBlock) (Kd.R_apart' (HO498.out) (Kd.S_typed HO_3.out) (by decide)) (fun k_ hk => ⟨trivial, hk.2⟩))) (fun _ h_ => Or.inl h_)) (Kd.R_mono (Kd.R_tight rfl (Kd.R_mono (ok' := fun k_ => ((fun _ => True)) k_ ∧ some k_ ≠ (u3 : Value).ownBlock) (Kd.R_apart' (HO501.out) (Kd.S_typed HO_3.out) (by decide)) (fun k_ hk => ⟨trivial, hk.2⟩))) (fun _ h_ => Or.inr (h_)))); (case aB => exact (by repeat ((with_reducible exact HB.out)))); (case aF => exact (fun _ _ => trivial)); (case aO => exact (by (with_reducible repeat (fail)); exact Kd.S_mono HO_3.out (fun k_ hk => ⟨trivial, fun e_ => e_.elim (fun h_ => hk.1.2 h_) (fun h_ => hk.2 h_)⟩))); (case aS => exact (below_size (by repeat ((with_reducible exact HB.out))))); (case aL => have := LMc5.out; omega); intro v503 w7 ho hb hg hat; rw [← Ny502.out] at ho; have n0_ := Aside0.mk (hb); have n1_ := Aside0.mk (ho); clear HB; clear HO_3; clear HO498; clear HO501; have HB := n0_; have HO504 := n1_; clear n0_ n1_; clear ho hb hg hat))
            go_roundg k1
            case measure => have := HK1.out; omega
            case rel => exact ⟨(y502), (wrap64 (x4_1 + 1)), (by rfl), H', ⟨by have := HK1.out; omega⟩, ⟨by (with_reducible repeat (fail)); exact HO504.out⟩, ⟨by repeat ((with_reducible exact HB.out))⟩⟩
          · rw [if_neg c5] at H
            exact absurd H (by simp)
        · rw [if_neg c3] at H
          exact absurd H (by simp)
      · rw [if_neg c2] at H
        have c2b0 : decide (x4_1 < (l0.length : Int)) = false := decide_eq_false c2
        clear c2
        obtain rfl := Option.some.inj H
        go_wp2
        go_ret
        exact ⟨_, by rfl, by (with_reducible repeat (fail)); exact HO_3.out, by repeat ((with_reducible exact HB.out))⟩
end Go.Proofs.Ythheakfgmombdaa.F
end
section
namespace Go.Proofs.Ythheakfgmombdaa.F
open Go.RowKit Go.Proofs.YthheakfgmombdaaX.PrintWords Go.Proofs.YthheakfgmombdaaX.PrintLast Go.Proofs.YthheakfgmombdaaX.PrintMore
attribute [local go_sem] max2_int min2_int max_two min_two max_three min_three max_four min_four   -- for this text's walks alone
set_option linter.unusedVariables false
set_option linter.unusedSimpArgs false
def codewrightref35_Dual.T1 : Bool × List (List Nat × List Nat) := (true, [([], []), ([0], [0]), ([1], [1]), ([], []), ([3], [3]), ([4, 2], [4]), ([2, 5], [2, 5]), ([], []), ([7, 6, 5, 0, 1, 2, 3, 4, 5, 6, 7], [6, 7])])
def codewrightref35_Dual.B1 : List Nat := [0, 1, 3, 0, 8, 31, 63, 0, 255]
theorem codewrightref35_Dual.tab1 : rtab .any (opsOf Try.f23 1) = codewrightref35_Dual.T1 := by kernel_rfl
theorem codewrightref35_Dual.bits1 : waitsOk codewrightref35_Dual.T1.2 codewrightref35_Dual.B1 = true := by kernel_rfl
set_option maxHeartbeats 8000000 in
set_option maxRecDepth 100000 in
theorem codewrightref35_Dual.calls (k : Nat) (A0_0 : Option Addr) (c0_0 : Nat) (l0_0 : List (S46)) (A0_1 : Option Addr) (c0_1 : Nat) (l0_1 : List (List (S46))) (A0_2 : Option Addr) (c0_2 : Nat) (l0_2 : List (S46)) (r1 : List (S46)) (r2 : List (List (S46))) (r3 : List (S46)) (w : World) (hr0_0 : Kd.C k46 w A0_0 l0_0.length l0_0) (hc0_0 : l0_0.length ≤ c0_0) (hr0_1 : Kd.C (Kd.slice 46 k46) w A0_1 l0_1.length l0_1) (hc0_1 : l0_1.length ≤ c0_1) (hr0_2 : Kd.C k46 w A0_2 l0_2.length l0_2) (hc0_2 : l0_2.length ≤ c0_2) (h : codewrightref35_Dual.f k l0_0 l0_1 l0_2 = some (r1, r2, r3)) :
    Calls Try.prog 23 #[.agg #[.slice A0_0 l0_0.length c0_0, .slice A0_1 l0_1.length c0_1, .slice A0_2 l0_2.length c0_2]] w fun e w' => ∃ v0_ v1_ v2_ : Value, e = .returned (.agg #[v0_, v1_, v2_]) ∧ Kd.S k46 46 w' w.heap.size (fun k_ => some k_ ≠ (v2_ : Value).ownBlock) v0_ r1 ∧ Kd.R (Kd.slice 46 k46) 22 w' w.heap.size (fun k_ => some k_ ≠ (v0_ : Value).ownBlock ∧ some k_ ≠ (v2_ : Value).ownBlock) v1_ r2 ∧ Kd.S k46 46 w' w.heap.size (fun k_ => some k_ ≠ (v0_ : Value).ownBlock) v2_ r3 ∧ Below w.heap.size w w' := by
  have hu25 := Try.underlying25
  have hu46 := Try.underlying46
  have HR0_0 := Aside0.mk hr0_0
  have HC0_0 := Aside0.mk hc0_0
  clear hr0_0 hc0_0
  have HR0_1 := Aside0.mk hr0_1
  have HC0_1 := Aside0.mk hc0_1
  clear hr0_1 hc0_1
  have HR0_2 := Aside0.mk hr0_2
  have HC0_2 := Aside0.mk hc0_2
  clear hr0_2 hc0_2
  have HB := Aside0.mk (Below.refl w.heap.size w)
  have H : ((codewrightref35_negative.f k l0_2).bind fun t507 => ((codewrightref35_negative.f k l0_0).bind fun t510 => (codewrightref35_Dual.l0 k 0 l0_0 l0_1 l0_2 t507 ([] : List (List (S46))) t510))) = some (r1, r2, r3) := h
  clear h
  replace H := Option.bind_eq_some_iff.mp H
  obtain ⟨t507, A20, H⟩ := H
  replace H : ((codewrightref35_negative.f k l0_0).bind fun t510 => (codewrightref35_Dual.l0 k 0 l0_0 l0_1 l0_2 t507 ([] : List (List (S46))) t510)) = some (r1, r2, r3) := H
  have A2 := Aside0.mk A20
  clear A20
  replace H := Option.bind_eq_some_iff.mp H
  obtain ⟨t510, A30, H⟩ := H
  replace H : (codewrightref35_Dual.l0 k 0 l0_0 l0_1 l0_2 t507 ([] : List (List (S46))) t510) = some (r1, r2, r3) := H
  have A3 := Aside0.mk A30
  clear A30
  have H' := Aside0.mk H
  clear H
  go_enter Try.func23, Try.ntmps23
  try go_wp2_with (first | ((with_reducible refine gate_dst (N := 1) rfl ?_); refine box_event ?hg (N := 1) ?hd (cs := #[.slice A0_0 l0_0.length c0_0, .slice A0_1 l0_1.length c0_1, .slice A0_2 l0_2.length c0_2]) (t := 25) ?hr ?_; (case hd => rfl); (case hg => rfl); (case hr => (go_simp; done)); intro gb505 hg w4 hbox hb; have n0_ := Aside0.mk (below_step (by repeat ((with_reducible exact HB.out))) hb); have n1_ := Aside0.mk (hbox); have n2_ := Aside0.mk ((by rw [hg]; exact (below_size (by repeat ((with_reducible exact HB.out)))) : w.heap.size ≤ gb505)); have n3_ := Aside0.mk ((by rw [hg]; exact (below_size (by repeat ((with_reducible exact HB.out)))) : w.heap.size ≤ gb505)); clear HB; have HB := n0_; have BK505 := n1_; have GW505 := n2_; have GE505 := n3_; clear n0_ n1_ n2_ n3_; clear hb hbox hg) | ((with_reducible refine gate_dst (N := 2) rfl ?_); refine box_event ?hg (N := 2) ?hd (cs := #[.slice none 0 0, .slice none 0 0, .slice none 0 0]) (t := 25) ?hr ?_; (case hd => rfl); (case hg => rfl); (case hr => (go_simp; done)); intro gb506 hg w5 hbox hb; have n0_ := Aside0.mk (blk_below (g := gb505) (o := .cells #[.slice A0_0 l0_0.length c0_0, .slice A0_1 l0_1.length c0_1, .slice A0_2 l0_2.length c0_2] 25 (0, 0)) (by (with_reducible repeat (fail)); exact BK505.out) hb); have n1_ := Aside0.mk (below_step (by repeat ((with_reducible exact HB.out))) hb); have n2_ := Aside0.mk (hbox); have n3_ := Aside0.mk ((by rw [hg]; exact (below_size (by repeat ((with_reducible exact HB.out)))) : w.heap.size ≤ gb506)); have n4_ := Aside0.mk ((by rw [hg]; exact (below_size (by repeat ((with_reducible exact HB.out)))) : w.heap.size ≤ gb506)); have n5_ := Aside0.mk ((by rw [hg]; exact Nat.ne_of_lt (blk_lt (g := gb505) (o := .cells #[.slice A0_0 l0_0.length c0_0, .slice A0_1 l0_1.length c0_1, .slice A0_2 l0_2.length c0_2] 25 (0, 0)) (by (with_reducible repeat (fail)); exact BK505.out)) : gb505 ≠ gb506)); have n6_ := Aside0.mk ((by rw [hg]; exact Nat.ne_of_gt (blk_lt (g := gb505) (o := .cells #[.slice A0_0 l0_0.length c0_0, .slice A0_1 l0_1.length c0_1, .slice A0_2 l0_2.length c0_2] 25 (0, 0)) (by (with_reducible repeat (fail)); exact BK505.out)) : gb506 ≠ gb505)); clear BK505; clear HB; have BK505 := n0_; have HB := n1_; have BK506 := n2_; have GW506 := n3_; have GE506 := n4_; have NB505_506 := n5_; have NB506_505 := n6_; clear n0_ n1_ n2_ n3_ n4_ n5_ n6_; clear hb hbox hg))
  have n0_ := Aside0.mk (blk_drew BK505.out)
  have n1_ := Aside0.mk (blk_drew BK506.out)
  have n2_ := Aside0.mk (below_drew1 HB.out)
  clear BK505
  clear BK506
  clear HB
  have BK505 := n0_
  have BK506 := n1_
  have HB := n2_
  clear n0_ n1_ n2_
  refine start_ (n := 9) (S := fun w' => w'.cell? ⟨gb505, 0, none⟩ = some (.slice A0_0 l0_0.length c0_0) ∧ w'.cell? ⟨gb505, 1, none⟩ = some (.slice A0_1 l0_1.length c0_1) ∧ w'.cell? ⟨gb505, 2, none⟩ = some (.slice A0_2 l0_2.length c0_2)) (ds := []) #[false, false, false, false, false, false, false, false, false] (by kernel_rfl) rfl rfl ⟨(blk_cell BK505.out 0).trans rfl, (blk_cell BK505.out 1).trans rfl, (blk_cell BK505.out 2).trans rfl⟩ (fun hHeld => ?_); refine with_tabW codewrightref35_Dual.tab1 codewrightref35_Dual.bits1 (fun HT_ HW_ => ?_)
  generalize w5.drew = w6 at BK505 BK506 HB hHeld ⊢
  refine pure_ (i := 0) (N := some 7) (v := ?_) (a' := ?_) #[true, false, false, false, false, false, false, false, false] rfl rfl (any_of HT_.out (by kernel_rfl)) (fun _ _ _ h => h) (Or.inl ⟨by rfl, ?_⟩) ?_ ?_
  rotate_left
  · intro w'
    go_simp
    with_reducible rfl
  rotate_left
  · simp only [Act.put, List.setIfInBounds_toArray, List.set_cons_zero, List.set_cons_succ, i64_w, i32_w]
    rfl
  refine pure_ (i := 3) (N := some 10) (v := ?_) (a' := ?_) #[true, false, false, true, false, false, false, false, false] rfl rfl (any_of HT_.out (by kernel_rfl)) (fun _ _ _ h => h) (Or.inl ⟨by rfl, ?_⟩) ?_ ?_
  rotate_left
  · intro w'
    go_simp
    with_reducible rfl
  rotate_left
  · simp only [Act.put, List.setIfInBounds_toArray, List.set_cons_zero, List.set_cons_succ, i64_w, i32_w]
    rfl
  refine take_ (i := 1) (N := some 8) (v := ?_) (a' := ?_) #[true, true, false, true, false, false, false, false, false] rfl rfl (take_ofW HT_.out HW_.out (by kernel_rfl)) (fun _ _ _ h => h) (Or.inl ⟨by rfl, ?_⟩) hHeld ?_ ?_
  rotate_left
  · rintro w' ⟨s0, s1, s2⟩
    go_simp
    with_reducible rfl
  rotate_left
  · simp only [Act.put, List.setIfInBounds_toArray, List.set_cons_zero, List.set_cons_succ, i64_w, i32_w]
    rfl
  refine take_ (i := 4) (N := some 11) (v := ?_) (a' := ?_) #[true, true, false, true, true, false, false, false, false] rfl rfl (take_ofW HT_.out HW_.out (by kernel_rfl)) (fun _ _ _ h => h) (Or.inl ⟨by rfl, ?_⟩) hHeld ?_ ?_
  rotate_left
  · rintro w' ⟨s0, s1, s2⟩
    go_simp
    with_reducible rfl
  rotate_left
  · simp only [Act.put, List.setIfInBounds_toArray, List.set_cons_zero, List.set_cons_succ, i64_w, i32_w]
    rfl
  refine join_ (σ := Value × Value × Nat) 1 #[true, true, true, true, true, true, true, true, false] (fun s_ => [(9, s_.1), (12, s_.2.1), (3, .pointer (some ⟨s_.2.2, 0, none⟩)), (13, .agg #[s_.1, .slice none 0 0, s_.2.1])]) (fun s_ w' => (w'.cell? ⟨gb505, 0, none⟩ = some (.slice A0_0 l0_0.length c0_0) ∧ w'.cell? ⟨gb505, 1, none⟩ = some (.slice A0_1 l0_1.length c0_1) ∧ w'.cell? ⟨gb505, 2, none⟩ = some (.slice A0_2 l0_2.length c0_2)) ∧ (Kd.S k46 46 w' w.heap.size (fun k_ => some k_ ≠ (s_.2.1 : Value).ownBlock) s_.1 t507) ∧ (Kd.S k46 46 w' w.heap.size (fun k_ => some k_ ≠ (s_.1 : Value).ownBlock) s_.2.1 t510) ∧ (w'.heap[gb505]? = some (.cells #[.slice A0_0 l0_0.length c0_0, .slice A0_1 l0_1.length c0_1, .slice A0_2 l0_2.length c0_2] 25 (0, 0))) ∧ (w'.heap[gb506]? = some (.cells #[.slice none 0 0, .slice none 0 0, .slice none 0 0] 25 (0, 0))) ∧ (w'.heap[s_.2.2]? = some (.cells #[.slice none 0 0, .slice none 0 0, .slice none 0 0] 25 (0, 0))) ∧ (w.heap.size ≤ s_.2.2) ∧ (w.heap.size ≤ s_.2.2) ∧ (gb505 ≠ s_.2.2) ∧ (s_.2.2 ≠ gb505) ∧ (gb506 ≠ s_.2.2) ∧ (s_.2.2 ≠ gb506) ∧ (Below w.heap.size w w')) ?_ ?_
  rotate_left
  · intro hCont
    refine two_ (i := 2) (j := 7) (Ni := some 9) (Nj := some 3) #[true, true, true, true, true, false, false, false, false] #[true, true, false, true, true, false, false, true, false] rfl rfl rfl rfl (two_of HT_.out (by kernel_rfl)) (by decide) (by decide) (fun K hK => ?_) (fun K hK => ?_)
    · skip
      refine goes_ Try.func61 (by kernel_rfl) rfl #[.slice A0_2 l0_2.length c0_2] (by rfl) rfl rfl (by (try simp only [List.map_toArray, List.map_cons, List.map_nil]); rfl) ?_
      with_reducible refine (codewrightref35_negative.calls k _ _ l0_2 t507 _ ?side1 ?side2 A2.out).mono ?_
      (case side1 => repeat (exact (Kd.C_below HR0_2.out HB.out)))
      (case side2 => exact HC0_2.out)
      rintro e w7 ⟨v508, rfl, ho0, hb⟩
      refine ⟨_, rfl, ?_⟩
      have n0_ := Aside0.mk (Kd.S_lower ho0 (below_size (by repeat ((with_reducible exact HB.out)))))
      have n1_ := Aside0.mk (blk_below (g := gb505) (o := .cells #[.slice A0_0 l0_0.length c0_0, .slice A0_1 l0_1.length c0_1, .slice A0_2 l0_2.length c0_2] 25 (0, 0)) (by (with_reducible repeat (fail)); exact BK505.out) hb)
      have n2_ := Aside0.mk (blk_below (g := gb506) (o := .cells #[.slice none 0 0, .slice none 0 0, .slice none 0 0] 25 (0, 0)) (by (with_reducible repeat (fail)); exact BK506.out) hb)
      have n3_ := Aside0.mk (below_step (by repeat ((with_reducible exact HB.out))) hb)
      clear BK505
      clear BK506
      clear HB
      have HO509 := n0_
      have BK505 := n1_
      have BK506 := n2_
      have HB := n3_
      clear n0_ n1_ n2_ n3_
      (try clear hb)
      (try clear ho0)
      refine hK.out _ _ ⟨(blk_cell BK505.out 0).trans rfl, (blk_cell BK505.out 1).trans rfl, (blk_cell BK505.out 2).trans rfl⟩ (fun hHeld => ?_)
      clear hK K
      refine norm_ (a' := ?_) ?_ ?_
      rotate_left
      · show Act.put _ (some 9) _ = _
        simp only [Act.put, List.setIfInBounds_toArray, List.set_cons_zero, List.set_cons_succ, i64_w, i32_w]
        rfl
      refine two_ (i := 5) (j := 7) (Ni := some 12) (Nj := some 3) #[true, true, true, true, true, true, false, false, false] #[true, true, true, true, true, false, false, true, false] rfl rfl rfl rfl (two_of HT_.out (by kernel_rfl)) (by decide) (by decide) (fun K hK => ?_) (fun K hK => ?_)
      · skip
        refine goes_ Try.func61 (by kernel_rfl) rfl #[.slice A0_0 l0_0.length c0_0] (by rfl) rfl rfl (by (try simp only [List.map_toArray, List.map_cons, List.map_nil]); rfl) ?_
        with_reducible refine (codewrightref35_negative.calls k _ _ l0_0 t510 _ ?side1 ?side2 A3.out).mono ?_
        (case side1 => repeat (exact (Kd.C_below HR0_0.out HB.out)))
        (case side2 => exact HC0_0.out)
        rintro e w8 ⟨v511, rfl, ho0, hb⟩
        refine ⟨_, rfl, ?_⟩
        have n0_ := Aside0.mk (Kd.S_elder' (by (with_reducible repeat (fail)); exact HO509.out) (Kd.S_base ho0) hb)
        have n1_ := Aside0.mk (Kd.S_lower (Kd.S_new' ho0 (Kd.S_lt (by (with_reducible repeat (fail)); exact HO509.out))) (below_size (by repeat ((with_reducible exact HB.out)))))
        have n2_ := Aside0.mk (blk_below (g := gb505) (o := .cells #[.slice A0_0 l0_0.length c0_0, .slice A0_1 l0_1.length c0_1, .slice A0_2 l0_2.length c0_2] 25 (0, 0)) (by (with_reducible repeat (fail)); exact BK505.out) hb)
        have n3_ := Aside0.mk (blk_below (g := gb506) (o := .cells #[.slice none 0 0, .slice none 0 0, .slice none 0 0] 25 (0, 0)) (by (with_reducible repeat (fail)); exact BK506.out) hb)
        have n4_ := Aside0.mk (below_step (by repeat ((with_reducible exact HB.out))) hb)
        clear HO509
        clear BK505
        clear BK506
        clear HB
        have HO509 := n0_
        have HO512 := n1_
        have BK505 := n2_
        have BK506 := n3_
        have HB := n4_
        clear n0_ n1_ n2_ n3_ n4_
        (try clear hb)
        (try clear ho0)
        obtain ⟨Ao9, co9, eo9⟩ := Kd.S_slice HO512.out
        (subst eo9)
        obtain ⟨Ao10, co10, eo10⟩ := Kd.S_slice HO509.out
        (subst eo10)
        refine hK.out _ _ ⟨(blk_cell BK505.out 0).trans rfl, (blk_cell BK505.out 1).trans rfl, (blk_cell BK505.out 2).trans rfl⟩ (fun hHeld => ?_)
        clear hK K
        refine norm_ (a' := ?_) ?_ ?_
        rotate_left
        · show Act.put _ (some 12) _ = _
          simp only [Act.put, List.setIfInBounds_toArray, List.set_cons_zero, List.set_cons_succ, i64_w, i32_w]
          rfl
        refine pure_ (i := 6) (N := some 13) (v := ?_) (a' := ?_) #[true, true, true, true, true, true, true, false, false] rfl rfl (any_of HT_.out (by kernel_rfl)) (fun _ _ _ h => h) (Or.inl ⟨by rfl, ?_⟩) ?_ ?_
        rotate_left
        · intro w'
          go_simp
          with_reducible rfl
        rotate_left
        · simp only [Act.put, List.setIfInBounds_toArray, List.set_cons_zero, List.set_cons_succ, i64_w, i32_w]
          rfl
        refine one_ (i := 7) (N := some 3) #[true, true, true, true, true, true, true, true, false] rfl rfl (one_of HT_.out (by kernel_rfl)) (by decide) (fun K hK => ?_)
        refine box_step ?hg (N := 3) ?hd (cs := #[.slice none 0 0, .slice none 0 0, .slice none 0 0]) (t := 25) ?hr ?_; (case hd => rfl); (case hg => rfl); (case hr => (go_simp; done))
        intro gb513 hg w11 hbox hb
        have n0_ := Aside0.mk (Kd.S_below (by (with_reducible repeat (fail)); exact HO509.out) hb)
        have n1_ := Aside0.mk (Kd.S_below (by (with_reducible repeat (fail)); exact HO512.out) hb)
        have n2_ := Aside0.mk (blk_below (g := gb505) (o := .cells #[.slice A0_0 l0_0.length c0_0, .slice A0_1 l0_1.length c0_1, .slice A0_2 l0_2.length c0_2] 25 (0, 0)) (by (with_reducible repeat (fail)); exact BK505.out) hb)
        have n3_ := Aside0.mk (blk_below (g := gb506) (o := .cells #[.slice none 0 0, .slice none 0 0, .slice none 0 0] 25 (0, 0)) (by (with_reducible repeat (fail)); exact BK506.out) hb)
        have n4_ := Aside0.mk (below_step (by repeat ((with_reducible exact HB.out))) hb)
        have n5_ := Aside0.mk (hbox)
        have n6_ := Aside0.mk ((by rw [hg]; exact (below_size (by repeat ((with_reducible exact HB.out)))) : w.heap.size ≤ gb513))
        have n7_ := Aside0.mk ((by rw [hg]; exact (below_size (by repeat ((with_reducible exact HB.out)))) : w.heap.size ≤ gb513))
        have n8_ := Aside0.mk ((by rw [hg]; exact Nat.ne_of_lt (blk_lt (g := gb505) (o := .cells #[.slice A0_0 l0_0.length c0_0, .slice A0_1 l0_1.length c0_1, .slice A0_2 l0_2.length c0_2] 25 (0, 0)) (by (with_reducible repeat (fail)); exact BK505.out)) : gb505 ≠ gb513))
        have n9_ := Aside0.mk ((by rw [hg]; exact Nat.ne_of_gt (blk_lt (g := gb505) (o := .cells #[.slice A0_0 l0_0.length c0_0, .slice A0_1 l0_1.length c0_1, .slice A0_2 l0_2.length c0_2] 25 (0, 0)) (by (with_reducible repeat (fail)); exact BK505.out)) : gb513 ≠ gb505))
        have n10_ := Aside0.mk ((by rw [hg]; exact Nat.ne_of_lt (blk_lt (g := gb506) (o := .cells #[.slice none 0 0, .slice none 0 0, .slice none 0 0] 25 (0, 0)) (by (with_reducible repeat (fail)); exact BK506.out)) : gb506 ≠ gb513))
        have n11_ := Aside0.mk ((by rw [hg]; exact Nat.ne_of_gt (blk_lt (g := gb506) (o := .cells #[.slice none 0 0, .slice none 0 0, .slice none 0 0] 25 (0, 0)) (by (with_reducible repeat (fail)); exact BK506.out)) : gb513 ≠ gb506))
        clear HO509
        clear HO512
        clear BK505
        clear BK506
        clear HB
        have HO509 := n0_
        have HO512 := n1_
        have BK505 := n2_
        have BK506 := n3_
        have HB := n4_
        have BK513 := n5_
        have GW513 := n6_
        have GE513 := n7_
        have NB505_513 := n8_
        have NB513_505 := n9_
        have NB506_513 := n10_
        have NB513_506 := n11_
        clear n0_ n1_ n2_ n3_ n4_ n5_ n6_ n7_ n8_ n9_ n10_ n11_
        clear hb hbox hg
        refine hK.out _ _ ⟨(blk_cell BK505.out 0).trans rfl, (blk_cell BK505.out 1).trans rfl, (blk_cell BK505.out 2).trans rfl⟩ (fun hHeld => ?_)
        clear hK K
        refine norm_ (a' := ?_) ?_ ?_
        rotate_left
        · show Act.put _ (some 3) _ = _
          simp only [Act.put, List.setIfInBounds_toArray, List.set_cons_zero, List.set_cons_succ, i64_w, i32_w]
          rfl
        exact norm_ (by simp only [putAll, Act.put, List.setIfInBounds_toArray, List.set_cons_zero, List.set_cons_succ]) (hCont (.slice Ao10 t507.length co10, .slice Ao9 t510.length co9, gb513) _ ⟨hHeld, (by (with_reducible repeat (fail)); exact Kd.S_mono HO509.out (fun _ hk => hk.2)), (by (with_reducible repeat (fail)); exact Kd.S_mono HO512.out (fun _ hk => hk.2)), (by (with_reducible repeat (fail)); exact BK505.out), (by (with_reducible repeat (fail)); exact BK506.out), (by (with_reducible repeat (fail)); exact BK513.out), GW513.out, GE513.out, NB505_513.out, NB513_505.out, NB506_513.out, NB513_506.out, (by repeat ((with_reducible exact HB.out)))⟩)
      · skip
        refine box_step ?hg (N := 3) ?hd (cs := #[.slice none 0 0, .slice none 0 0, .slice none 0 0]) (t := 25) ?hr ?_; (case hd => rfl); (case hg => rfl); (case hr => (go_simp; done))
        intro gb513 hg w8 hbox hb
        have n0_ := Aside0.mk (Kd.S_below (by (with_reducible repeat (fail)); exact HO509.out) hb)
        have n1_ := Aside0.mk (blk_below (g := gb505) (o := .cells #[.slice A0_0 l0_0.length c0_0, .slice A0_1 l0_1.length c0_1, .slice A0_2 l0_2.length c0_2] 25 (0, 0)) (by (with_reducible repeat (fail)); exact BK505.out) hb)
        have n2_ := Aside0.mk (blk_below (g := gb506) (o := .cells #[.slice none 0 0, .slice none 0 0, .slice none 0 0] 25 (0, 0)) (by (with_reducible repeat (fail)); exact BK506.out) hb)
        have n3_ := Aside0.mk (below_step (by repeat ((with_reducible exact HB.out))) hb)
        have n4_ := Aside0.mk (hbox)
        have n5_ := Aside0.mk ((by rw [hg]; exact (below_size (by repeat ((with_reducible exact HB.out)))) : w.heap.size ≤ gb513))
        have n6_ := Aside0.mk ((by rw [hg]; exact (below_size (by repeat ((with_reducible exact HB.out)))) : w.heap.size ≤ gb513))
        have n7_ := Aside0.mk ((by rw [hg]; exact Nat.ne_of_lt (blk_lt (g := gb505) (o := .cells #[.slice A0_0 l0_0.length c0_0, .slice A0_1 l0_1.length c0_1, .slice A0_2 l0_2.length c0_2] 25 (0, 0)) (by (with_reducible repeat (fail)); exact BK505.out)) : gb505 ≠ gb513))
        have n8_ := Aside0.mk ((by rw [hg]; exact Nat.ne_of_gt (blk_lt (g := gb505) (o := .cells #[.slice A0_0 l0_0.length c0_0, .slice A0_1 l0_1.length c0_1, .slice A0_2 l0_2.length c0_2] 25 (0, 0)) (by (with_reducible repeat (fail)); exact BK505.out)) : gb513 ≠ gb505))
        have n9_ := Aside0.mk ((by rw [hg]; exact Nat.ne_of_lt (blk_lt (g := gb506) (o := .cells #[.slice none 0 0, .slice none 0 0, .slice none 0 0] 25 (0, 0)) (by (with_reducible repeat (fail)); exact BK506.out)) : gb506 ≠ gb513))
        have n10_ := Aside0.mk ((by rw [hg]; exact Nat.ne_of_gt (blk_lt (g := gb506) (o := .cells #[.slice none 0 0, .slice none 0 0, .slice none 0 0] 25 (0, 0)) (by (with_reducible repeat (fail)); exact BK506.out)) : gb513 ≠ gb506))
        clear HO509
        clear BK505
        clear BK506
        clear HB
        have HO509 := n0_
        have BK505 := n1_
        have BK506 := n2_
        have HB := n3_
        have BK513 := n4_
        have GW513 := n5_
        have GE513 := n6_
        have NB505_513 := n7_
        have NB513_505 := n8_
        have NB506_513 := n9_
        have NB513_506 := n10_
        clear n0_ n1_ n2_ n3_ n4_ n5_ n6_ n7_ n8_ n9_ n10_
        clear hb hbox hg
        refine hK.out _ _ ⟨(blk_cell BK505.out 0).trans rfl, (blk_cell BK505.out 1).trans rfl, (blk_cell BK505.out 2).trans rfl⟩ (fun hHeld => ?_)
        clear hK K
        refine norm_ (a' := ?_) ?_ ?_
        rotate_left
        · show Act.put _ (some 3) _ = _
          simp only [Act.put, List.setIfInBounds_toArray, List.set_cons_zero, List.set_cons_succ, i64_w, i32_w]
          rfl
        refine one_ (i := 5) (N := some 12) #[true, true, true, true, true, true, false, true, false] rfl rfl (one_of HT_.out (by kernel_rfl)) (by decide) (fun K hK => ?_)
        refine goes_ Try.func61 (by kernel_rfl) rfl #[.slice A0_0 l0_0.length c0_0] (by rfl) rfl rfl (by (try simp only [List.map_toArray, List.map_cons, List.map_nil]); rfl) ?_
        with_reducible refine (codewrightref35_negative.calls k _ _ l0_0 t510 _ ?side1 ?side2 A3.out).mono ?_
        (case side1 => repeat (exact (Kd.C_below HR0_0.out HB.out)))
        (case side2 => exact HC0_0.out)
        rintro e w9 ⟨v511, rfl, ho0, hb⟩
        refine ⟨_, rfl, ?_⟩
        have n0_ := Aside0.mk (Kd.S_elder' (by (with_reducible repeat (fail)); exact HO509.out) (Kd.S_base ho0) hb)
        have n1_ := Aside0.mk (Kd.S_lower (Kd.S_new' ho0 (Kd.S_lt (by (with_reducible repeat (fail)); exact HO509.out))) (below_size (by repeat ((with_reducible exact HB.out)))))
        have n2_ := Aside0.mk (blk_below (g := gb505) (o := .cells #[.slice A0_0 l0_0.length c0_0, .slice A0_1 l0_1.length c0_1, .slice A0_2 l0_2.length c0_2] 25 (0, 0)) (by (with_reducible repeat (fail)); exact BK505.out) hb)
        have n3_ := Aside0.mk (blk_below (g := gb506) (o := .cells #[.slice none 0 0, .slice none 0 0, .slice none 0 0] 25 (0, 0)) (by (with_reducible repeat (fail)); exact BK506.out) hb)
        have n4_ := Aside0.mk (blk_below (g := gb513) (o := .cells #[.slice none 0 0, .slice none 0 0, .slice none 0 0] 25 (0, 0)) (by (with_reducible repeat (fail)); exact BK513.out) hb)
        have n5_ := Aside0.mk (below_step (by repeat ((with_reducible exact HB.out))) hb)
        clear HO509
        clear BK505
        clear BK506
        clear BK513
        clear HB
        have HO509 := n0_
        have HO512 := n1_
        have BK505 := n2_
        have BK506 := n3_
        have BK513 := n4_
        have HB := n5_
        clear n0_ n1_ n2_ n3_ n4_ n5_
        (try clear hb)
        (try clear ho0)
        obtain ⟨Ao10, co10, eo10⟩ := Kd.S_slice HO512.out
        (subst eo10)
        obtain ⟨Ao11, co11, eo11⟩ := Kd.S_slice HO509.out
        (subst eo11)
        refine hK.out _ _ ⟨(blk_cell BK505.out 0).trans rfl, (blk_cell BK505.out 1).trans rfl, (blk_cell BK505.out 2).trans rfl⟩ (fun hHeld => ?_)
        clear hK K
        refine norm_ (a' := ?_) ?_ ?_
        rotate_left
        · show Act.put _ (some 12) _ = _
          simp only [Act.put, List.setIfInBounds_toArray, List.set_cons_zero, List.set_cons_succ, i64_w, i32_w]
          rfl
        refine pure_ (i := 6) (N := some 13) (v := ?_) (a' := ?_) #[true, true, true, true, true, true, true, true, false] rfl rfl (any_of HT_.out (by kernel_rfl)) (fun _ _ _ h => h) (Or.inl ⟨by rfl, ?_⟩) ?_ ?_
        rotate_left
        · intro w'
          go_simp
          with_reducible rfl
        rotate_left
        · simp only [Act.put, List.setIfInBounds_toArray, List.set_cons_zero, List.set_cons_succ, i64_w, i32_w]
          rfl
        exact norm_ (by simp only [putAll, Act.put, List.setIfInBounds_toArray, List.set_cons_zero, List.set_cons_succ]) (hCont (.slice Ao11 t507.length co11, .slice Ao10 t510.length co10, gb513) _ ⟨hHeld, (by (with_reducible repeat (fail)); exact Kd.S_mono HO509.out (fun _ hk => hk.2)), (by (with_reducible repeat (fail)); exact Kd.S_mono HO512.out (fun _ hk => hk.2)), (by (with_reducible repeat (fail)); exact BK505.out), (by (with_reducible repeat (fail)); exact BK506.out), (by (with_reducible repeat (fail)); exact BK513.out), GW513.out, GE513.out, NB505_513.out, NB513_505.out, NB506_513.out, NB513_506.out, (by repeat ((with_reducible exact HB.out)))⟩)
    · skip
      refine box_step ?hg (N := 3) ?hd (cs := #[.slice none 0 0, .slice none 0 0, .slice none 0 0]) (t := 25) ?hr ?_; (case hd => rfl); (case hg => rfl); (case hr => (go_simp; done))
      intro gb513 hg w7 hbox hb
      have n0_ := Aside0.mk (blk_below (g := gb505) (o := .cells #[.slice A0_0 l0_0.length c0_0, .slice A0_1 l0_1.length c0_1, .slice A0_2 l0_2.length c0_2] 25 (0, 0)) (by (with_reducible repeat (fail)); exact BK505.out) hb)
      have n1_ := Aside0.mk (blk_below (g := gb506) (o := .cells #[.slice none 0 0, .slice none 0 0, .slice none 0 0] 25 (0, 0)) (by (with_reducible repeat (fail)); exact BK506.out) hb)
      have n2_ := Aside0.mk (below_step (by repeat ((with_reducible exact HB.out))) hb)
      have n3_ := Aside0.mk (hbox)
      have n4_ := Aside0.mk ((by rw [hg]; exact (below_size (by repeat ((with_reducible exact HB.out)))) : w.heap.size ≤ gb513))
      have n5_ := Aside0.mk ((by rw [hg]; exact (below_size (by repeat ((with_reducible exact HB.out)))) : w.heap.size ≤ gb513))
      have n6_ := Aside0.mk ((by rw [hg]; exact Nat.ne_of_lt (blk_lt (g := gb505) (o := .cells #[.slice A0_0 l0_0.length c0_0, .slice A0_1 l0_1.length c0_1, .slice A0_2 l0_2.length c0_2] 25 (0, 0)) (by (with_reducible repeat (fail)); exact BK505.out)) : gb505 ≠ gb513))
      have n7_ := Aside0.mk ((by rw [hg]; exact Nat.ne_of_gt (blk_lt (g := gb505) (o := .cells #[.slice A0_0 l0_0.length c0_0, .slice A0_1 l0_1.length c0_1, .slice A0_2 l0_2.length c0_2] 25 (0, 0)) (by (with_reducible repeat (fail)); exact BK505.out)) : gb513 ≠ gb505))
      have n8_ := Aside0.mk ((by rw [hg]; exact Nat.ne_of_lt (blk_lt (g := gb506) (o := .cells #[.slice none 0 0, .slice none 0 0, .slice none 0 0] 25 (0, 0)) (by (with_reducible repeat (fail)); exact BK506.out)) : gb506 ≠ gb513))
      have n9_ := Aside0.mk ((by rw [hg]; exact Nat.ne_of_gt (blk_lt (g := gb506) (o := .cells #[.slice none 0 0, .slice none 0 0, .slice none 0 0] 25 (0, 0)) (by (with_reducible repeat (fail)); exact BK506.out)) : gb513 ≠ gb506))
      clear BK505
      clear BK506
      clear HB
      have BK505 := n0_
      have BK506 := n1_
      have HB := n2_
      have BK513 := n3_
      have GW513 := n4_
      have GE513 := n5_
      have NB505_513 := n6_
      have NB513_505 := n7_
      have NB506_513 := n8_
      have NB513_506 := n9_
      clear n0_ n1_ n2_ n3_ n4_ n5_ n6_ n7_ n8_ n9_
      clear hb hbox hg
      refine hK.out _ _ ⟨(blk_cell BK505.out 0).trans rfl, (blk_cell BK505.out 1).trans rfl, (blk_cell BK505.out 2).trans rfl⟩ (fun hHeld => ?_)
      clear hK K
      refine norm_ (a' := ?_) ?_ ?_
      rotate_left
      · show Act.put _ (some 3) _ = _
        simp only [Act.put, List.setIfInBounds_toArray, List.set_cons_zero, List.set_cons_succ, i64_w, i32_w]
        rfl
      refine one_ (i := 2) (N := some 9) #[true, true, true, true, true, false, false, true, false] rfl rfl (one_of HT_.out (by kernel_rfl)) (by decide) (fun K hK => ?_)
      refine goes_ Try.func61 (by kernel_rfl) rfl #[.slice A0_2 l0_2.length c0_2] (by rfl) rfl rfl (by (try simp only [List.map_toArray, List.map_cons, List.map_nil]); rfl) ?_
      with_reducible refine (codewrightref35_negative.calls k _ _ l0_2 t507 _ ?side1 ?side2 A2.out).mono ?_
      (case side1 => repeat (exact (Kd.C_below HR0_2.out HB.out)))
      (case side2 => exact HC0_2.out)
      rintro e w8 ⟨v508, rfl, ho0, hb⟩
      refine ⟨_, rfl, ?_⟩
      have n0_ := Aside0.mk (Kd.S_lower ho0 (below_size (by repeat ((with_reducible exact HB.out)))))
      have n1_ := Aside0.mk (blk_below (g := gb505) (o := .cells #[.slice A0_0 l0_0.length c0_0, .slice A0_1 l0_1.length c0_1, .slice A0_2 l0_2.length c0_2] 25 (0, 0)) (by (with_reducible repeat (fail)); exact BK505.out) hb)
      have n2_ := Aside0.mk (blk_below (g := gb506) (o := .cells #[.slice none 0 0, .slice none 0 0, .slice none 0 0] 25 (0, 0)) (by (with_reducible repeat (fail)); exact BK506.out) hb)
      have n3_ := Aside0.mk (blk_below (g := gb513) (o := .cells #[.slice none 0 0, .slice none 0 0, .slice none 0 0] 25 (0, 0)) (by (with_reducible repeat (fail)); exact BK513.out) hb)
      have n4_ := Aside0.mk (below_step (by repeat ((with_reducible exact HB.out))) hb)
      clear BK505
      clear BK506
      clear BK513
      clear HB
      have HO509 := n0_
      have BK505 := n1_
      have BK506 := n2_
      have BK513 := n3_
      have HB := n4_
      clear n0_ n1_ n2_ n3_ n4_
      (try clear hb)
      (try clear ho0)
      refine hK.out _ _ ⟨(blk_cell BK505.out 0).trans rfl, (blk_cell BK505.out 1).trans rfl, (blk_cell BK505.out 2).trans rfl⟩ (fun hHeld => ?_)
      clear hK K
      refine norm_ (a' := ?_) ?_ ?_
      rotate_left
      · show Act.put _ (some 9) _ = _
        simp only [Act.put, List.setIfInBounds_toArray, List.set_cons_zero, List.set_cons_succ, i64_w, i32_w]
        rfl
      refine one_ (i := 5) (N := some 12) #[true, true, true, true, true, true, false, true, false] rfl rfl (one_of HT_.out (by kernel_rfl)) (by decide) (fun K hK => ?_)
      refine goes_ Try.func61 (by kernel_rfl) rfl #[.slice A0_0 l0_0.length c0_0] (by rfl) rfl rfl (by (try simp only [List.map_toArray, List.map_cons, List.map_nil]); rfl) ?_
      with_reducible refine (codewrightref35_negative.calls k _ _ l0_0 t510 _ ?side1 ?side2 A3.out).mono ?_
      (case side1 => repeat (exact (Kd.C_below HR0_0.out HB.out)))
      (case side2 => exact HC0_0.out)
      rintro e w9 ⟨v511, rfl, ho0, hb⟩
      refine ⟨_, rfl, ?_⟩
      have n0_ := Aside0.mk (Kd.S_elder' (by (with_reducible repeat (fail)); exact HO509.out) (Kd.S_base ho0) hb)
      have n1_ := Aside0.mk (Kd.S_lower (Kd.S_new' ho0 (Kd.S_lt (by (with_reducible repeat (fail)); exact HO509.out))) (below_size (by repeat ((with_reducible exact HB.out)))))
      have n2_ := Aside0.mk (blk_below (g := gb505) (o := .cells #[.slice A0_0 l0_0.length c0_0, .slice A0_1 l0_1.length c0_1, .slice A0_2 l0_2.length c0_2] 25 (0, 0)) (by (with_reducible repeat (fail)); exact BK505.out) hb)
      have n3_ := Aside0.mk (blk_below (g := gb506) (o := .cells #[.slice none 0 0, .slice none 0 0, .slice none 0 0] 25 (0, 0)) (by (with_reducible repeat (fail)); exact BK506.out) hb)
      have n4_ := Aside0.mk (blk_below (g := gb513) (o := .cells #[.slice none 0 0, .slice none 0 0, .slice none 0 0] 25 (0, 0)) (by (with_reducible repeat (fail)); exact BK513.out) hb)
      have n5_ := Aside0.mk (below_step (by repeat ((with_reducible exact HB.out))) hb)
      clear HO509
      clear BK505
      clear BK506
      clear BK513
      clear HB
      have HO509 := n0_
      have HO512 := n1_
      have BK505 := n2_
      have BK506 := n3_
      have BK513 := n4_
      have HB := n5_
      clear n0_ n1_ n2_ n3_ n4_ n5_
      (try clear hb)
      (try clear ho0)
      obtain ⟨Ao10, co10, eo10⟩ := Kd.S_slice HO512.out
      (subst eo10)
      obtain ⟨Ao11, co11, eo11⟩ := Kd.S_slice HO509.out
      (subst eo11)
      refine hK.out _ _ ⟨(blk_cell BK505.out 0).trans rfl, (blk_cell BK505.out 1).trans rfl, (blk_cell BK505.out 2).trans rfl⟩ (fun hHeld => ?_)
      clear hK K
      refine norm_ (a' := ?_) ?_ ?_
      rotate_left
      · show Act.put _ (some 12) _ = _
        simp only [Act.put, List.setIfInBounds_toArray, List.set_cons_zero, List.set_cons_succ, i64_w, i32_w]
        rfl
      refine pure_ (i := 6) (N := some 13) (v := ?_) (a' := ?_) #[true, true, true, true, true, true, true, true, false] rfl rfl (any_of HT_.out (by kernel_rfl)) (fun _ _ _ h => h) (Or.inl ⟨by rfl, ?_⟩) ?_ ?_
      rotate_left
      · intro w'
        go_simp
        with_reducible rfl
      rotate_left
      · simp only [Act.put, List.setIfInBounds_toArray, List.set_cons_zero, List.set_cons_succ, i64_w, i32_w]
        rfl
      exact norm_ (by simp only [putAll, Act.put, List.setIfInBounds_toArray, List.set_cons_zero, List.set_cons_succ]) (hCont (.slice Ao11 t507.length co11, .slice Ao10 t510.length co10, gb513) _ ⟨hHeld, (by (with_reducible repeat (fail)); exact Kd.S_mono HO509.out (fun _ hk => hk.2)), (by (with_reducible repeat (fail)); exact Kd.S_mono HO512.out (fun _ hk => hk.2)), (by (with_reducible repeat (fail)); exact BK505.out), (by (with_reducible repeat (fail)); exact BK506.out), (by (with_reducible repeat (fail)); exact BK513.out), GW513.out, GE513.out, NB505_513.out, NB513_505.out, NB506_513.out, NB513_506.out, (by repeat ((with_reducible exact HB.out)))⟩)
  rintro ⟨v508, v511, gb513⟩ w12 ⟨hS_, h0_, h1_, h2_, h3_, h4_, h5_, h6_, h7_, h8_, h9_, h10_, h11_⟩
  have n0_ : Aside0 (Kd.S k46 46 w12 w.heap.size (fun k_ => some k_ ≠ (v511 : Value).ownBlock) v508 t507) := ⟨h0_⟩
  have n1_ : Aside0 (Kd.S k46 46 w12 w.heap.size (fun k_ => some k_ ≠ (v508 : Value).ownBlock) v511 t510) := ⟨h1_⟩
  have n2_ : Aside0 (w12.heap[gb505]? = some (.cells #[.slice A0_0 l0_0.length c0_0, .slice A0_1 l0_1.length c0_1, .slice A0_2 l0_2.length c0_2] 25 (0, 0))) := ⟨h2_⟩
  have n3_ : Aside0 (w12.heap[gb506]? = some (.cells #[.slice none 0 0, .slice none 0 0, .slice none 0 0] 25 (0, 0))) := ⟨h3_⟩
  have n4_ : Aside0 (w12.heap[gb513]? = some (.cells #[.slice none 0 0, .slice none 0 0, .slice none 0 0] 25 (0, 0))) := ⟨h4_⟩
  have n5_ : Aside0 (w.heap.size ≤ gb513) := ⟨h5_⟩
  have n6_ : Aside0 (w.heap.size ≤ gb513) := ⟨h6_⟩
  have n7_ : Aside0 (gb505 ≠ gb513) := ⟨h7_⟩
  have n8_ : Aside0 (gb513 ≠ gb505) := ⟨h8_⟩
  have n9_ : Aside0 (gb506 ≠ gb513) := ⟨h9_⟩
  have n10_ : Aside0 (gb513 ≠ gb506) := ⟨h10_⟩
  have n11_ : Aside0 (Below w.heap.size w w12) := ⟨h11_⟩
  clear BK505
  clear BK506
  clear HB
  clear h0_ h1_ h2_ h3_ h4_ h5_ h6_ h7_ h8_ h9_ h10_ h11_
  have HO509 := n0_
  have HO512 := n1_
  have BK505 := n2_
  have BK506 := n3_
  have BK513 := n4_
  have GW513 := n5_
  have GE513 := n6_
  have NB505_513 := n7_
  have NB513_505 := n8_
  have NB506_513 := n9_
  have NB513_506 := n10_
  have HB := n11_
  clear n0_ n1_ n2_ n3_ n4_ n5_ n6_ n7_ n8_ n9_ n10_ n11_
  have hHeld : w12.cell? ⟨gb505, 0, none⟩ = some (.slice A0_0 l0_0.length c0_0) ∧ w12.cell? ⟨gb505, 1, none⟩ = some (.slice A0_1 l0_1.length c0_1) ∧ w12.cell? ⟨gb505, 2, none⟩ = some (.slice A0_2 l0_2.length c0_2) := hS_
  obtain ⟨Ao13, co13, eo13⟩ := Kd.S_slice HO512.out
  (subst eo13)
  obtain ⟨Ao14, co14, eo14⟩ := Kd.S_slice HO509.out
  (subst eo14)
  refine norm_ (a' := ?_) ?_ ?_
  rotate_left
  · simp only [putAll, Act.put, List.setIfInBounds_toArray, List.set_cons_zero, List.set_cons_succ]
    rfl
  refine one_ (i := 8) (N := none) #[true, true, true, true, true, true, true, true, true] rfl rfl (one_of HT_.out (by kernel_rfl)) (by decide) (fun K hK => ?_)
  have hs15 : w12.cell? ⟨gb513, 0, none⟩ = some (.slice none 0 0) := (blk_cell BK513.out 0).trans rfl
  have hfs15 := blk_frozen BK513.out 0
  have hns15_0 := NB505_513.out
  have hns15_1 := NB506_513.out
  have hms15_0 := NB513_505.out
  have hms15_1 := NB513_506.out
  have hs16 : w12.cell? ⟨gb513, 1, none⟩ = some (.slice none 0 0) := (blk_cell BK513.out 1).trans rfl
  have hfs16 := blk_frozen BK513.out 1
  have hns16_0 := NB505_513.out
  have hns16_1 := NB506_513.out
  have hms16_0 := NB513_505.out
  have hms16_1 := NB513_506.out
  have hs17 : w12.cell? ⟨gb513, 2, none⟩ = some (.slice none 0 0) := (blk_cell BK513.out 2).trans rfl
  have hfs17 := blk_frozen BK513.out 2
  have hns17_0 := NB505_513.out
  have hns17_1 := NB506_513.out
  have hms17_0 := NB513_505.out
  have hms17_1 := NB513_506.out
  refine skip_ (w1 := ?_) (by rfl) rfl ?_ ?_
  rotate_left
  · go_simp
    rfl
  refine hK.out _ _ ⟨((cell_far (p := ⟨gb513, _, none⟩) NB505_513.out _).trans (((cell_far (p := ⟨gb513, _, none⟩) NB505_513.out _).trans (((cell_far (p := ⟨gb513, _, none⟩) NB505_513.out _).trans (hHeld.1)))))), ((cell_far (p := ⟨gb513, _, none⟩) NB505_513.out _).trans (((cell_far (p := ⟨gb513, _, none⟩) NB505_513.out _).trans (((cell_far (p := ⟨gb513, _, none⟩) NB505_513.out _).trans (hHeld.2.1)))))), ((cell_far (p := ⟨gb513, _, none⟩) NB505_513.out _).trans (((cell_far (p := ⟨gb513, _, none⟩) NB505_513.out _).trans (((cell_far (p := ⟨gb513, _, none⟩) NB505_513.out _).trans (hHeld.2.2))))))⟩ (fun hHeld => ?_)
  clear hK K
  refine done_ (done_of HT_.out (by kernel_rfl)) ?_
  try go_wp2
  go_loopg [4] k (fun kq v4 w' => ∃ (x4_1 : Int) (x514001_1 : List (List (S46))) (u514001 : Value), v4 = .int .i64 x4_1 ∧ Aside0 (codewrightref35_Dual.l0 kq x4_1 l0_0 l0_1 l0_2 t507 x514001_1 t510 = some (r1, r2, r3)) ∧ Aside0 (kq ≤ k) ∧ Aside0 (Kd.S k46 46 w' w.heap.size (fun k_ => some k_ ≠ ((.slice Ao13 t510.length co13) : Value).ownBlock) (.slice Ao14 t507.length co14) t507) ∧ Aside0 (Kd.R (Kd.slice 46 k46) 22 w' w.heap.size (fun k_ => some k_ ≠ ((.slice Ao14 t507.length co14) : Value).ownBlock ∧ some k_ ≠ ((.slice Ao13 t510.length co13) : Value).ownBlock) u514001 x514001_1) ∧ Aside0 (Kd.S k46 46 w' w.heap.size (fun k_ => some k_ ≠ ((.slice Ao14 t507.length co14) : Value).ownBlock) (.slice Ao13 t510.length co13) t510) ∧ Aside0 (w'.heap[gb505]? = some (.cells #[(.slice A0_0 l0_0.length c0_0), (.slice A0_1 l0_1.length c0_1), (.slice A0_2 l0_2.length c0_2)] 25 (0, 0))) ∧ Aside0 (w'.heap[gb506]? = some (.cells #[(.slice none 0 0), (.slice none 0 0), (.slice none 0 0)] 25 (0, 0))) ∧ Aside0 (w'.heap[gb513]? = some (.cells #[(.slice Ao14 t507.length co14), u514001, (.slice Ao13 t510.length co13)] 25 (0, 0))) ∧ Aside0 (Below w.heap.size w w'))
  case atStart => exact ⟨(0), (([] : List (List (S46)))), (.slice none 0 0), (by rfl), H', ⟨Nat.le_refl _⟩, ⟨by (with_reducible repeat (fail)); exact Kd.S_mono (Kd.S_far (p := ⟨gb513, 2, none⟩) (Kd.S_far (p := ⟨gb513, 1, none⟩) (Kd.S_far (p := ⟨gb513, 0, none⟩) (Kd.S_types HO509.out BK513.out (by decide)) (fun _ hk => hk.2) (.slice Ao14 t507.length co14)) (fun _ hk => hk.2) (.slice none 0 0)) (fun _ hk => hk.2) (.slice Ao13 t510.length co13)) (fun _ hk => hk.1)⟩, ⟨by exact Kd.R_nil _ _ _ _ _⟩, ⟨by (with_reducible repeat (fail)); exact Kd.S_mono (Kd.S_far (p := ⟨gb513, 2, none⟩) (Kd.S_far (p := ⟨gb513, 1, none⟩) (Kd.S_far (p := ⟨gb513, 0, none⟩) (Kd.S_types HO512.out BK513.out (by decide)) (fun _ hk => hk.2) (.slice Ao14 t507.length co14)) (fun _ hk => hk.2) (.slice none 0 0)) (fun _ hk => hk.2) (.slice Ao13 t510.length co13)) (fun _ hk => hk.1)⟩, ⟨by (with_reducible repeat (fail)); refine blk_far ?_ NB505_513.out _; (with_reducible repeat (fail)); refine blk_far ?_ NB505_513.out _; (with_reducible repeat (fail)); refine blk_far ?_ NB505_513.out _; (with_reducible repeat (fail)); exact BK505.out⟩, ⟨by (with_reducible repeat (fail)); refine blk_far ?_ NB506_513.out _; (with_reducible repeat (fail)); refine blk_far ?_ NB506_513.out _; (with_reducible repeat (fail)); refine blk_far ?_ NB506_513.out _; (with_reducible repeat (fail)); exact BK506.out⟩, ⟨by (with_reducible repeat (fail)); refine blk_put (cs := #[.slice Ao14 t507.length co14, .slice none 0 0, .slice none 0 0]) ?_ 2 _ rfl; (with_reducible repeat (fail)); refine blk_put (cs := #[.slice Ao14 t507.length co14, .slice none 0 0, .slice none 0 0]) ?_ 1 _ rfl; (with_reducible repeat (fail)); refine blk_put (cs := #[.slice none 0 0, .slice none 0 0, .slice none 0 0]) ?_ 0 _ rfl; (with_reducible repeat (fail)); exact BK513.out⟩, ⟨by repeat ((with_reducible first | exact HB.out | refine below_set ?_ GE513.out))⟩⟩
  case round =>
    clear H'
    obtain ⟨x4_1, x514001_1, u514001, rfl, HA, HK1, HO_514000, HO_514001, HO_514002, BK505, BK506, BK513, HB⟩ := hrel
    cases gk with
    | zero => exact absurd HA.out (by simp [codewrightref35_Dual.l0])
    | succ k1 =>
      have H := HA.out
      clear HA
      simp only [codewrightref35_Dual.l0] at H
      by_cases c18 : x4_1 < (l0_0.length : Int)
      · rw [if_pos c18] at H
        have c18b0 : decide (x4_1 < (l0_0.length : Int)) = true := decide_eq_true c18
        clear c18
        have H' := Aside0.mk H
        clear H
        have hnb19 := NB505_506.out
        have hnc19 := NB506_505.out
        have hnb20 := NB505_513.out
        have hnc20 := NB513_505.out
        have hcz21_0 : wr.cell? ⟨gb505, 0, none⟩ = some (.slice A0_0 l0_0.length c0_0) := (blk_cell BK505.out 0).trans rfl
        have hcz21_1 : wr.cell? ⟨gb505, 1, none⟩ = some (.slice A0_1 l0_1.length c0_1) := (blk_cell BK505.out 1).trans rfl
        have hcz21_2 : wr.cell? ⟨gb505, 2, none⟩ = some (.slice A0_2 l0_2.length c0_2) := (blk_cell BK505.out 2).trans rfl
        have hfz21_0 := blk_frozen BK505.out 0
        have hfz21_1 := blk_frozen BK505.out 1
        have hfz21_2 := blk_frozen BK505.out 2
        go_wp2
        go_loopg [5, 6] k1 (fun kq v5 v6 w' => ∃ (x5_2 : List (S46)) (x6_2 : Int), v6 = .int .i64 x6_2 ∧ Aside0 (codewrightref35_Dual.l1 kq x4_1 x5_2 x6_2 l0_0 l0_1 l0_2 t507 x514001_1 t510 = some (r1, r2, r3)) ∧ Aside0 (kq ≤ k1) ∧ Aside0 (Kd.S k46 46 w' w.heap.size (fun k_ => some k_ ≠ ((.slice Ao14 t507.length co14) : Value).ownBlock ∧ some k_ ≠ ((.slice Ao13 t510.length co13) : Value).ownBlock) v5 x5_2) ∧ Aside0 (Kd.S k46 46 w' w.heap.size (fun k_ => some k_ ≠ (v5 : Value).ownBlock ∧ some k_ ≠ ((.slice Ao13 t510.length co13) : Value).ownBlock) (.slice Ao14 t507.length co14) t507) ∧ Aside0 (Kd.R (Kd.slice 46 k46) 22 w' w.heap.size (fun k_ => some k_ ≠ (v5 : Value).ownBlock ∧ some k_ ≠ ((.slice Ao14 t507.length co14) : Value).ownBlock ∧ some k_ ≠ ((.slice Ao13 t510.length co13) : Value).ownBlock) u514001 x514001_1) ∧ Aside0 (Kd.S k46 46 w' w.heap.size (fun k_ => some k_ ≠ (v5 : Value).ownBlock ∧ some k_ ≠ ((.slice Ao14 t507.length co14) : Value).ownBlock) (.slice Ao13 t510.length co13) t510) ∧ Aside0 (w'.heap[gb505]? = some (.cells #[(.slice A0_0 l0_0.length c0_0), (.slice A0_1 l0_1.length c0_1), (.slice A0_2 l0_2.length c0_2)] 25 (0, 0))) ∧ Aside0 (w'.heap[gb506]? = some (.cells #[(.slice none 0 0), (.slice none 0 0), (.slice none 0 0)] 25 (0, 0))) ∧ Aside0 (w'.heap[gb513]? = some (.cells #[(.slice Ao14 t507.length co14), u514001, (.slice Ao13 t510.length co13)] 25 (0, 0))) ∧ Aside0 (Below w.heap.size w w'))
        case atStart => exact ⟨(([] : List (S46))), (0), (by rfl), H', ⟨Nat.le_refl _⟩, ⟨by exact Kd.S_nil _ _ _ _ _⟩, ⟨by (with_reducible repeat (fail)); exact Kd.S_mono HO_514000.out (fun _ hk => ⟨(by simp [Value.ownBlock]), hk⟩)⟩, ⟨by (with_reducible repeat (fail)); exact Kd.R_mono HO_514001.out (fun _ hk => ⟨(by simp [Value.ownBlock]), ⟨hk.1, hk.2⟩⟩)⟩, ⟨by (with_reducible repeat (fail)); exact Kd.S_mono HO_514002.out (fun _ hk => ⟨(by simp [Value.ownBlock]), hk⟩)⟩, ⟨by (with_reducible repeat (fail)); exact BK505.out⟩, ⟨by (with_reducible repeat (fail)); exact BK506.out⟩, ⟨by (with_reducible repeat (fail)); exact BK513.out⟩, ⟨by repeat ((with_reducible exact HB.out))⟩⟩
        case round =>
          clear H'
          try clear c18b0
          try clear hcz21_0
          try clear hcz21_1
          try clear hcz21_2
          try clear hfz21_0
          try clear hfz21_1
          try clear hfz21_2
          obtain ⟨x5_2, x6_2, rfl, HA, HK2, HO_5, HO_514000, HO_514001, HO_514002, BK505, BK506, BK513, HB⟩ := hrel
          cases gk with
          | zero => exact absurd HA.out (by simp [codewrightref35_Dual.l1])
          | succ k2 =>
            have H := HA.out
            clear HA
            simp only [codewrightref35_Dual.l1] at H
            by_cases c22 : x6_2 < (l0_1.length : Int)
            · rw [if_pos c22] at H
              have c22b0 : decide (x6_2 < (l0_1.length : Int)) = true := decide_eq_true c22
              clear c22
              by_cases c23 : 0 ≤ x6_2
              · rw [if_pos c23] at H
                have c23b0 : decide (0 ≤ x6_2) = true := decide_eq_true c23
                clear c23
                by_cases c24 : 0 ≤ x4_1
                · rw [if_pos c24] at H
                  have c24b0 : decide (0 ≤ x4_1) = true := decide_eq_true c24
                  clear c24
                  by_cases c25 : x4_1 < ((rd_L4 l0_1 x6_2).length : Int)
                  · rw [if_pos c25] at H
                    have c25b0 : decide (x4_1 < ((rd_L4 l0_1 x6_2).length : Int)) = true := decide_eq_true c25
                    clear c25
                    replace H := Option.bind_eq_some_iff.mp H
                    obtain ⟨⟨t516, t517, t520⟩, A260, H⟩ := H
                    replace H : (if x5_2.length < 2513169434916 then (codewrightref35_Dual.l1 k2 x4_1 (x5_2 ++ [(⟨t516, t517, t520⟩ : S46)]) (wrap64 (x6_2 + 1)) l0_0 l0_1 l0_2 t507 x514001_1 t510) else (none)) = some (r1, r2, r3) := H
                    have A26 := Aside0.mk A260
                    clear A260
                    by_cases c27 : x5_2.length < 2513169434916
                    · rw [if_pos c27] at H
                      have LMc27 := Aside0.mk c27
                      clear c27
                      obtain ⟨y523, hy523⟩ : ∃ y_ : List (S46), y_ = (x5_2 ++ [(⟨t516, t517, t520⟩ : S46)]) := ⟨_, rfl⟩
                      replace H : (codewrightref35_Dual.l1 k2 x4_1 y523 (wrap64 (x6_2 + 1)) l0_0 l0_1 l0_2 t507 x514001_1 t510) = some (r1, r2, r3) := by (rw [hy523]; with_reducible exact H)
                      have Ny523 := Aside0.mk hy523
                      clear hy523
                      have H' := Aside0.mk H
                      clear H
                      have hnb28 := NB505_506.out
                      have hnc28 := NB506_505.out
                      have hnb29 := NB505_513.out
                      have hnc29 := NB513_505.out
                      have hcz30_0 : wr.cell? ⟨gb505, 0, none⟩ = some (.slice A0_0 l0_0.length c0_0) := (blk_cell BK505.out 0).trans rfl
                      have hcz30_1 : wr.cell? ⟨gb505, 1, none⟩ = some (.slice A0_1 l0_1.length c0_1) := (blk_cell BK505.out 1).trans rfl
                      have hcz30_2 : wr.cell? ⟨gb505, 2, none⟩ = some (.slice A0_2 l0_2.length c0_2) := (blk_cell BK505.out 2).trans rfl
                      have hfz30_0 := blk_frozen BK505.out 0
                      have hfz30_1 := blk_frozen BK505.out 1
                      have hfz30_2 := blk_frozen BK505.out 2
                      have p514 : 0 ≤ (x6_2 : Int) := of_decide_eq_true (by (with_reducible assumption))
                      have q514 : x6_2 < (l0_1.length : Int) := of_decide_eq_true (by (with_reducible assumption))
                      obtain ⟨ad514, A514_0, c514_0, e514, hx514_0, hl514_0, hi514_0⟩ := at_L4 HR0_1.out x6_2 p514 q514
                      cases e514
                      replace hx514_0 := (HB.out.cell (World.block_lt_of_cell? w _ hx514_0)).trans hx514_0
                      have HR514_0 := Aside0.mk hi514_0
                      have HC514_0 := Aside0.mk hl514_0
                      clear hi514_0 hl514_0
                      replace p514 := eq_true p514
                      replace q514 := eq_true q514
                      have p515 : 0 ≤ (x4_1 : Int) := of_decide_eq_true (by (with_reducible assumption))
                      have q515 : x4_1 < ((rd_L4 l0_1 x6_2).length : Int) := of_decide_eq_true (by (with_reducible assumption))
                      obtain ⟨ad515, A515_1, c515_1, A515_2, c515_2, e515, hx515_0, hx515_1, hx515_2, hl515_1, hi515_1, hl515_2, hi515_2⟩ := at_T46 HR514_0.out x4_1 p515 q515
                      cases e515
                      replace hx515_0 := (HB.out.cell (World.block_lt_of_cell? w _ hx515_0)).trans hx515_0
                      replace hx515_1 := (HB.out.cell (World.block_lt_of_cell? w _ hx515_1)).trans hx515_1
                      replace hx515_2 := (HB.out.cell (World.block_lt_of_cell? w _ hx515_2)).trans hx515_2
                      have HR515_1 := Aside0.mk hi515_1
                      have HC515_1 := Aside0.mk hl515_1
                      clear hi515_1 hl515_1
                      have HR515_2 := Aside0.mk hi515_2
                      have HC515_2 := Aside0.mk hl515_2
                      clear hi515_2 hl515_2
                      replace p515 := eq_true p515
                      replace q515 := eq_true q515
                      go_wp2_with (first | ((with_reducible refine gate_callee (f := 62) rfl ?_); refine goesL_ (some 37) rfl rfl Try.func62 (by kernel_rfl) rfl #[.agg #[.bool ((rd_T46 (rd_L4 l0_1 x6_2) x4_1).f0), .slice A515_1 ((rd_T46 (rd_L4 l0_1 x6_2) x4_1).f1).length c515_1, .slice A515_2 ((rd_T46 (rd_L4 l0_1 x6_2) x4_1).f2).length c515_2]] rfl (by (try simp only [List.map_toArray, List.map_cons, List.map_nil]); rfl) ?_; (with_reducible refine (codewrightref02_Neg.calls k2 ((rd_T46 (rd_L4 l0_1 x6_2) x4_1).f0) _ _ ((rd_T46 (rd_L4 l0_1 x6_2) x4_1).f1) _ _ ((rd_T46 (rd_L4 l0_1 x6_2) x4_1).f2) t516 t517 t520 _ ?side1 ?side2 ?side3 ?side4 A26.out).mono ?_); (case side1 => repeat (exact (Kd.C_below HR515_1.out HB.out))); (case side2 => exact HC515_1.out); (case side3 => repeat (exact (Kd.C_below HR515_2.out HB.out))); (case side4 => exact HC515_2.out); rintro e w31 ⟨v518, v521, rfl, ho0, ho1, hb⟩; refine ⟨_, rfl, ?_⟩; have n0_ := Aside0.mk (Kd.S_mono (Kd.S_told (Kd.S_told (Kd.S_old (by (with_reducible repeat (fail)); exact HO_5.out) hb) (Kd.R_base ho0)) (Kd.R_base ho1)) (fun _ h_ => h_.1)); have n1_ := Aside0.mk (Kd.S_mono (Kd.S_told (Kd.S_told (Kd.S_old (by (with_reducible repeat (fail)); exact HO_514000.out) hb) (Kd.R_base ho0)) (Kd.R_base ho1)) (fun _ h_ => h_.1)); have n2_ := Aside0.mk (Kd.R_mono (Kd.R_told (Kd.R_told (Kd.R_old (by (with_reducible repeat (fail)); exact HO_514001.out) hb) (Kd.R_base ho0)) (Kd.R_base ho1)) (fun _ h_ => h_.1)); have n3_ := Aside0.mk (Kd.S_mono (Kd.S_told (Kd.S_told (Kd.S_old (by (with_reducible repeat (fail)); exact HO_514002.out) hb) (Kd.R_base ho0)) (Kd.R_base ho1)) (fun _ h_ => h_.1)); have n4_ := Aside0.mk (Kd.R_lower ho0 (below_size (by repeat ((with_reducible exact HB.out))))); have n5_ := Aside0.mk (Kd.R_lower ho1 (below_size (by repeat ((with_reducible exact HB.out))))); have n6_ := Aside0.mk (blk_below (g := gb505) (o := .cells #[.slice A0_0 l0_0.length c0_0, .slice (some ad514) l0_1.length c0_1, .slice A0_2 l0_2.length c0_2] 25 (0, 0)) (by (with_reducible repeat (fail)); exact BK505.out) hb); have n7_ := Aside0.mk (blk_below (g := gb506) (o := .cells #[.slice none 0 0, .slice none 0 0, .slice none 0 0] 25 (0, 0)) (by (with_reducible repeat (fail)); exact BK506.out) hb); have n8_ := Aside0.mk (blk_below (g := gb513) (o := .cells #[.slice Ao14 t507.length co14, u514001, .slice Ao13 t510.length co13] 25 (0, 0)) (by (with_reducible repeat (fail)); exact BK513.out) hb); have n9_ := Aside0.mk (below_step (by repeat ((with_reducible exact HB.out))) hb); clear HO_5; clear HO_514000; clear HO_514001; clear HO_514002; clear BK505; clear BK506; clear BK513; clear HB; have HO_5 := n0_; have HO_514000 := n1_; have HO_514001 := n2_; have HO_514002 := n3_; have HO519 := n4_; have HO522 := n5_; have BK505 := n6_; have BK506 := n7_; have BK513 := n8_; have HB := n9_; clear n0_ n1_ n2_ n3_ n4_ n5_ n6_ n7_ n8_ n9_; (try clear hb); (try clear ho0); (try clear ho1); obtain ⟨Ao33, co33, eo33⟩ := Kd.R_slice HO519.out; subst eo33; obtain ⟨Ao34, co34, eo34⟩ := Kd.R_slice HO522.out; subst eo34) | ((with_reducible refine gate_builtin (b := .append) (xs := #[.tmp 28, .tmp 38]) rfl ?_); at_builtin; refine Kd.S_append k46 (w0 := w) w.heap.size rfl (.tmp 28) (.tmp 38) 22 46 (.agg #[(.bool false), (.slice none 0 0), (.slice none 0 0)]) 56 rfl Try.underlying22 info46 rfl (by decide) (by omega) u5 x5_2 (⟨t516, t517, t520⟩ : S46) [.bool t516, .slice Ao33 t517.length co33, .slice Ao34 t520.length co34] (fun k_ => some k_ ≠ (.slice Ao14 t507.length co14 : Value).ownBlock ∧ some k_ ≠ (.slice Ao13 t510.length co13 : Value).ownBlock) (fun k_ => some k_ = (.slice Ao33 t517.length co33 : Value).ownBlock ∨ some k_ = (.slice Ao34 t520.length co34 : Value).ownBlock) rfl rfl ?aP (fun k_ hk_ => hk_.elim (fun h_ => ((Kd.R_mono (ok' := fun k_ => ((fun k_ => some k_ ≠ (.slice Ao14 t507.length co14 : Value).ownBlock ∧ some k_ ≠ (.slice Ao13 t510.length co13 : Value).ownBlock)) k_ ∧ some k_ ≠ (u5 : Value).ownBlock) (Kd.R_apart' (Kd.R_apart' (Kd.R_apart' (HO519.out) (Kd.S_typed HO_514000.out) (by decide)) (Kd.S_typed HO_514002.out) (by decide)) (Kd.S_typed HO_5.out) (by decide)) (fun k_ hk => ⟨⟨hk.1.1.2, hk.1.2⟩, hk.2⟩))).1 k_ h_.symm) (fun h_ => ((Kd.R_mono (ok' := fun k_ => ((fun k_ => some k_ ≠ (.slice Ao14 t507.length co14 : Value).ownBlock ∧ some k_ ≠ (.slice Ao13 t510.length co13 : Value).ownBlock)) k_ ∧ some k_ ≠ (u5 : Value).ownBlock) (Kd.R_apart' (Kd.R_apart' (Kd.R_apart' (HO522.out) (Kd.S_typed HO_514000.out) (by decide)) (Kd.S_typed HO_514002.out) (by decide)) (Kd.S_typed HO_5.out) (by decide)) (fun k_ hk => ⟨⟨hk.1.1.2, hk.1.2⟩, hk.2⟩))).1 k_ h_.symm)) ?aF ?aO ?aB ?aS ?aL ?_; (case aP => exact k46_mkM _ _ _ (⟨t516, t517, t520⟩ : S46) (Kd.R_mono (Kd.R_tight rfl (Kd.R_mono (ok' := fun k_ => ((fun k_ => some k_ ≠ (.slice Ao14 t507.length co14 : Value).ownBlock ∧ some k_ ≠ (.slice Ao13 t510.length co13 : Value).ownBlock)) k_ ∧ some k_ ≠ (u5 : Value).ownBlock) (Kd.R_apart' (Kd.R_apart' (Kd.R_apart' (HO519.out) (Kd.S_typed HO_514000.out) (by decide)) (Kd.S_typed HO_514002.out) (by decide)) (Kd.S_typed HO_5.out) (by decide)) (fun k_ hk => ⟨⟨hk.1.1.2, hk.1.2⟩, hk.2⟩))) (fun _ h_ => Or.inl h_)) (Kd.R_mono (Kd.R_tight rfl (Kd.R_mono (ok' := fun k_ => ((fun k_ => some k_ ≠ (.slice Ao14 t507.length co14 : Value).ownBlock ∧ some k_ ≠ (.slice Ao13 t510.length co13 : Value).ownBlock)) k_ ∧ some k_ ≠ (u5 : Value).ownBlock) (Kd.R_apart' (Kd.R_apart' (Kd.R_apart' (HO522.out) (Kd.S_typed HO_514000.out) (by decide)) (Kd.S_typed HO_514002.out) (by decide)) (Kd.S_typed HO_5.out) (by decide)) (fun k_ hk => ⟨⟨hk.1.1.2, hk.1.2⟩, hk.2⟩))) (fun _ h_ => Or.inr (h_)))); (case aB => exact (by repeat ((with_reducible exact HB.out)))); (case aF => exact (fun k_ hk => ⟨Kd.fresh' (Kd.S_lt (by (with_reducible repeat (fail)); exact HO_514000.out)) k_ hk, Kd.fresh' (Kd.S_lt (by (with_reducible repeat (fail)); exact HO_514002.out)) k_ hk⟩)); (case aO => exact (by (with_reducible repeat (fail)); exact Kd.S_mono HO_5.out (fun k_ hk => ⟨⟨hk.1.1.1, hk.1.1.2⟩, fun e_ => e_.elim (fun h_ => hk.1.2 h_) (fun h_ => hk.2 h_)⟩))); (case aS => exact (below_size (by repeat ((with_reducible exact HB.out))))); (case aL => have := LMc27.out; omega); intro v524 w32 ho hb hg hat; rw [← Ny523.out] at ho; have n0_ := Aside0.mk (Kd.S_after (ok := (fun k_ => some k_ ≠ (.slice Ao13 t510.length co13 : Value).ownBlock ∧ some k_ ≠ (.slice Ao33 t517.length co33 : Value).ownBlock ∧ some k_ ≠ (.slice Ao34 t520.length co34 : Value).ownBlock)) (by (with_reducible repeat (fail)); exact Kd.S_mono HO_514000.out (fun _ hk => ⟨⟨hk.1.1.2, ⟨hk.1.2, hk.2⟩⟩, hk.1.1.1⟩)) hg hat); have n1_ := Aside0.mk (Kd.R_after (ok := (fun k_ => some k_ ≠ (.slice Ao14 t507.length co14 : Value).ownBlock ∧ some k_ ≠ (.slice Ao13 t510.length co13 : Value).ownBlock ∧ some k_ ≠ (.slice Ao33 t517.length co33 : Value).ownBlock ∧ some k_ ≠ (.slice Ao34 t520.length co34 : Value).ownBlock)) (by (with_reducible repeat (fail)); exact Kd.R_mono HO_514001.out (fun _ hk => ⟨⟨hk.1.1.2.1, ⟨hk.1.1.2.2, ⟨hk.1.2, hk.2⟩⟩⟩, hk.1.1.1⟩)) hg hat); have n2_ := Aside0.mk (Kd.S_after (ok := (fun k_ => some k_ ≠ (.slice Ao14 t507.length co14 : Value).ownBlock ∧ some k_ ≠ (.slice Ao33 t517.length co33 : Value).ownBlock ∧ some k_ ≠ (.slice Ao34 t520.length co34 : Value).ownBlock)) (by (with_reducible repeat (fail)); exact Kd.S_mono HO_514002.out (fun _ hk => ⟨⟨hk.1.1.2, ⟨hk.1.2, hk.2⟩⟩, hk.1.1.1⟩)) hg hat); have n3_ := Aside0.mk (blk_grown (g := gb505) (o := .cells #[.slice A0_0 l0_0.length c0_0, .slice (some ad514) l0_1.length c0_1, .slice A0_2 l0_2.length c0_2] 25 (0, 0)) (by (with_reducible repeat (fail)); exact BK505.out) hg (Kd.S_ne HO_5.out BK505.out (by decide))); have n4_ := Aside0.mk (blk_grown (g := gb506) (o := .cells #[.slice none 0 0, .slice none 0 0, .slice none 0 0] 25 (0, 0)) (by (with_reducible repeat (fail)); exact BK506.out) hg (Kd.S_ne HO_5.out BK506.out (by decide))); have n5_ := Aside0.mk (blk_grown (g := gb513) (o := .cells #[.slice Ao14 t507.length co14, u514001, .slice Ao13 t510.length co13] 25 (0, 0)) (by (with_reducible repeat (fail)); exact BK513.out) hg (Kd.S_ne HO_5.out BK513.out (by decide))); have n6_ := Aside0.mk (hb); have n7_ := Aside0.mk (ho); clear HO_514000; clear HO_514001; clear HO_514002; clear BK505; clear BK506; clear BK513; clear HB; clear HO_5; clear HO519; clear HO522; have HO_514000 := n0_; have HO_514001 := n1_; have HO_514002 := n2_; have BK505 := n3_; have BK506 := n4_; have BK513 := n5_; have HB := n6_; have HO525 := n7_; clear n0_ n1_ n2_ n3_ n4_ n5_ n6_ n7_; clear ho hb hg hat))
                      go_roundg k2
                      case measure => have := HK1.out; have := HK2.out; omega
                      case rel => exact ⟨(y523), (wrap64 (x6_2 + 1)), (by rfl), H', ⟨by have := HK1.out; have := HK2.out; omega⟩, ⟨by (with_reducible repeat (fail)); exact HO525.out⟩, ⟨by (with_reducible repeat (fail)); exact Kd.S_mono HO_514000.out (fun _ hk => ⟨hk.2, hk.1.1⟩)⟩, ⟨by (with_reducible repeat (fail)); exact Kd.R_mono HO_514001.out (fun _ hk => ⟨hk.2, ⟨hk.1.1, hk.1.2.1⟩⟩)⟩, ⟨by (with_reducible repeat (fail)); exact Kd.S_mono HO_514002.out (fun _ hk => ⟨hk.2, hk.1.1⟩)⟩, ⟨by (with_reducible repeat (fail)); exact BK505.out⟩, ⟨by (with_reducible repeat (fail)); exact BK506.out⟩, ⟨by (with_reducible repeat (fail)); exact BK513.out⟩, ⟨by repeat ((with_reducible exact HB.out))⟩⟩
                    · rw [if_neg c27] at H
                      exact absurd H (by simp)
                  · rw [if_neg c25] at H
                    exact absurd H (by simp)
                · rw [if_neg c24] at H
                  exact absurd H (by simp)
              · rw [if_neg c23] at H
                exact absurd H (by simp)
            · rw [if_neg c22] at H
              have c22b0 : decide (x6_2 < (l0_1.length : Int)) = false := decide_eq_false c22
              clear c22
              by_cases c35 : x514001_1.length < 5864062014805
              · rw [if_pos c35] at H
                have LMc35 := Aside0.mk c35
                clear c35
                obtain ⟨y526, hy526⟩ : ∃ y_ : List (List (S46)), y_ = (x514001_1 ++ [x5_2]) := ⟨_, rfl⟩
                replace H : (codewrightref35_Dual.l0 k2 (wrap64 (x4_1 + 1)) l0_0 l0_1 l0_2 t507 y526 t510) = some (r1, r2, r3) := by (rw [hy526]; with_reducible exact H)
                have Ny526 := Aside0.mk hy526
                clear hy526
                have H' := Aside0.mk H
                clear H
                have hnb36 := NB505_506.out
                have hnc36 := NB506_505.out
                have hnb37 := NB505_513.out
                have hnc37 := NB513_505.out
                have hcz38_0 : wr.cell? ⟨gb505, 0, none⟩ = some (.slice A0_0 l0_0.length c0_0) := (blk_cell BK505.out 0).trans rfl
                have hcz38_1 : wr.cell? ⟨gb505, 1, none⟩ = some (.slice A0_1 l0_1.length c0_1) := (blk_cell BK505.out 1).trans rfl
                have hcz38_2 : wr.cell? ⟨gb505, 2, none⟩ = some (.slice A0_2 l0_2.length c0_2) := (blk_cell BK505.out 2).trans rfl
                have hfz38_0 := blk_frozen BK505.out 0
                have hfz38_1 := blk_frozen BK505.out 1
                have hfz38_2 := blk_frozen BK505.out 2
                have hnb39 := NB513_506.out
                have hnc39 := NB506_513.out
                have hcz40_0 : wr.cell? ⟨gb513, 0, none⟩ = some (.slice Ao14 t507.length co14) := (blk_cell BK513.out 0).trans rfl
                have hcz40_1 : wr.cell? ⟨gb513, 1, none⟩ = some (u514001) := (blk_cell BK513.out 1).trans rfl
                have hcz40_2 : wr.cell? ⟨gb513, 2, none⟩ = some (.slice Ao13 t510.length co13) := (blk_cell BK513.out 2).trans rfl
                have hfz40_0 := blk_frozen BK513.out 0
                have hfz40_1 := blk_frozen BK513.out 1
                have hfz40_2 := blk_frozen BK513.out 2
                obtain ⟨Ao42, co42, eo42⟩ := Kd.S_slice HO_5.out
                subst eo42
                go_wp2_with (((with_reducible refine gate_builtin (b := .append) (xs := #[.tmp 41, .tmp 43]) rfl ?_); at_builtin; refine Kd.R_append (Kd.slice 46 k46) (w0 := w) w.heap.size rfl (.tmp 41) (.tmp 43) 23 22 (.slice none 0 0) 24 rfl Try.underlying23 info22 rfl (by decide) (by omega) u514001 x514001_1 x5_2 [.slice Ao42 x5_2.length co42] (fun k_ => some k_ ≠ (.slice Ao14 t507.length co14 : Value).ownBlock ∧ some k_ ≠ (.slice Ao13 t510.length co13 : Value).ownBlock) (fun k_ => ((fun k_ => some k_ ≠ (.slice Ao14 t507.length co14 : Value).ownBlock ∧ some k_ ≠ (.slice Ao13 t510.length co13 : Value).ownBlock)) k_ ∧ some k_ ≠ (u514001 : Value).ownBlock) rfl rfl ?aP (fun _ hk => hk) ?aF ?aO ?aB ?aS ?aL ?_; (case aP => exact Kd.M_row (Kd.R_mono (Kd.R_apart' ((Kd.S_R HO_5.out)) (Kd.R_typed HO_514001.out) (by decide)) (fun k_ hk => ⟨⟨hk.1.1, hk.1.2⟩, hk.2⟩))); (case aB => exact (by repeat ((with_reducible exact HB.out)))); (case aF => exact (fun k_ hk => ⟨Kd.fresh' (Kd.S_lt (by (with_reducible repeat (fail)); exact HO_514000.out)) k_ hk, Kd.fresh' (Kd.S_lt (by (with_reducible repeat (fail)); exact HO_514002.out)) k_ hk⟩)); (case aO => exact (by (with_reducible repeat (fail)); exact Kd.R_mono HO_514001.out (fun _ hk => ⟨hk.2.1, hk.2.2⟩))); (case aS => exact (below_size (by repeat ((with_reducible exact HB.out))))); (case aL => have := LMc35.out; omega); intro v527 w41 ho hb hg hat; rw [← Ny526.out] at ho; have n0_ := Aside0.mk (Kd.S_over' (by (with_reducible repeat (fail)); exact HO_514000.out) (Kd.R_typed (by (with_reducible repeat (fail)); exact HO_514001.out)) (by decide) hg); have n1_ := Aside0.mk (Kd.S_over' (by (with_reducible repeat (fail)); exact HO_514002.out) (Kd.R_typed (by (with_reducible repeat (fail)); exact HO_514001.out)) (by decide) hg); have n2_ := Aside0.mk (blk_grown (g := gb505) (o := .cells #[.slice A0_0 l0_0.length c0_0, .slice A0_1 l0_1.length c0_1, .slice A0_2 l0_2.length c0_2] 25 (0, 0)) (by (with_reducible repeat (fail)); exact BK505.out) hg (Kd.R_ne HO_514001.out BK505.out (by decide))); have n3_ := Aside0.mk (blk_grown (g := gb506) (o := .cells #[.slice none 0 0, .slice none 0 0, .slice none 0 0] 25 (0, 0)) (by (with_reducible repeat (fail)); exact BK506.out) hg (Kd.R_ne HO_514001.out BK506.out (by decide))); have n4_ := Aside0.mk (blk_grown (g := gb513) (o := .cells #[.slice Ao14 t507.length co14, u514001, .slice Ao13 t510.length co13] 25 (0, 0)) (by (with_reducible repeat (fail)); exact BK513.out) hg (Kd.R_ne HO_514001.out BK513.out (by decide))); have n5_ := Aside0.mk (hb); have n6_ := Aside0.mk (ho); clear HO_514000; clear HO_514002; clear BK505; clear BK506; clear BK513; clear HB; clear HO_514001; clear HO_5; have HO_514000 := n0_; have HO_514002 := n1_; have BK505 := n2_; have BK506 := n3_; have BK513 := n4_; have HB := n5_; have HO528 := n6_; clear n0_ n1_ n2_ n3_ n4_ n5_ n6_; clear ho hb hg hat; obtain ⟨Ao43, co43, eo43⟩ := Kd.R_slice HO528.out; subst eo43; have hcz44_0 : w41.cell? ⟨gb513, 0, none⟩ = some (.slice Ao14 t507.length co14) := (blk_cell BK513.out 0).trans rfl; have hcz44_1 : w41.cell? ⟨gb513, 1, none⟩ = some (u514001) := (blk_cell BK513.out 1).trans rfl; have hcz44_2 : w41.cell? ⟨gb513, 2, none⟩ = some (.slice Ao13 t510.length co13) := (blk_cell BK513.out 2).trans rfl; have hfz44_0 := blk_frozen BK513.out 0; have hfz44_1 := blk_frozen BK513.out 1; have hfz44_2 := blk_frozen BK513.out 2))
                go_roundg k2
                case measure => have := HK1.out; have := HK2.out; omega
                case rel => exact ⟨(wrap64 (x4_1 + 1)), (y526), (.slice Ao43 y526.length co43), (by rfl), H', ⟨by have := HK1.out; have := HK2.out; omega⟩, ⟨by (with_reducible repeat (fail)); exact Kd.S_mono (Kd.S_far (p := ⟨gb513, 1, none⟩) (Kd.S_types HO_514000.out BK513.out (by decide)) (fun _ hk => hk.2) (.slice Ao43 y526.length co43)) (fun _ hk => hk.1.2)⟩, ⟨by (with_reducible repeat (fail)); exact Kd.R_mono (Kd.R_far (p := ⟨gb513, 1, none⟩) (Kd.R_types HO528.out BK513.out (by decide)) (fun _ hk => hk.2) (.slice Ao43 y526.length co43)) (fun _ hk => ⟨hk.1.1, hk.1.2⟩)⟩, ⟨by (with_reducible repeat (fail)); exact Kd.S_mono (Kd.S_far (p := ⟨gb513, 1, none⟩) (Kd.S_types HO_514002.out BK513.out (by decide)) (fun _ hk => hk.2) (.slice Ao43 y526.length co43)) (fun _ hk => hk.1.2)⟩, ⟨by (with_reducible repeat (fail)); refine blk_far ?_ NB505_513.out _; (with_reducible repeat (fail)); exact BK505.out⟩, ⟨by (with_reducible repeat (fail)); refine blk_far ?_ NB506_513.out _; (with_reducible repeat (fail)); exact BK506.out⟩, ⟨by (with_reducible repeat (fail)); refine blk_put (cs := #[.slice Ao14 t507.length co14, u514001, .slice Ao13 t510.length co13]) ?_ 1 _ rfl; (with_reducible repeat (fail)); exact BK513.out⟩, ⟨by repeat ((with_reducible first | exact HB.out | refine below_set ?_ GE513.out))⟩⟩
              · rw [if_neg c35] at H
                exact absurd H (by simp)
      · rw [if_neg c18] at H
        have c18b0 : decide (x4_1 < (l0_0.length : Int)) = false := decide_eq_false c18
        clear c18
        simp only [Option.some.injEq, Prod.mk.injEq] at H
        obtain ⟨rfl, rfl, rfl⟩ := H
        have hnb45 := NB505_506.out
        have hnc45 := NB506_505.out
        have hnb46 := NB505_513.out
        have hnc46 := NB513_505.out
        have hcz47_0 : wr.cell? ⟨gb505, 0, none⟩ = some (.slice A0_0 l0_0.length c0_0) := (blk_cell BK505.out 0).trans rfl
        have hcz47_1 : wr.cell? ⟨gb505, 1, none⟩ = some (.slice A0_1 l0_1.length c0_1) := (blk_cell BK505.out 1).trans rfl
        have hcz47_2 : wr.cell? ⟨gb505, 2, none⟩ = some (.slice A0_2 l0_2.length c0_2) := (blk_cell BK505.out 2).trans rfl
        have hfz47_0 := blk_frozen BK505.out 0
        have hfz47_1 := blk_frozen BK505.out 1
        have hfz47_2 := blk_frozen BK505.out 2
        have hnb48 := NB513_506.out
        have hnc48 := NB506_513.out
        have hcz49_0 : wr.cell? ⟨gb513, 0, none⟩ = some (.slice Ao14 t507.length co14) := (blk_cell BK513.out 0).trans rfl
        have hcz49_1 : wr.cell? ⟨gb513, 1, none⟩ = some (u514001) := (blk_cell BK513.out 1).trans rfl
        have hcz49_2 : wr.cell? ⟨gb513, 2, none⟩ = some (.slice Ao13 t510.length co13) := (blk_cell BK513.out 2).trans rfl
        have hfz49_0 := blk_frozen BK513.out 0
        have hfz49_1 := blk_frozen BK513.out 1
        have hfz49_2 := blk_frozen BK513.out 2
        have hcz50_0 : wr.cell? ⟨gb506, 0, none⟩ = some (.slice none 0 0) := (blk_cell BK506.out 0).trans rfl
        have hcz50_1 : wr.cell? ⟨gb506, 1, none⟩ = some (.slice none 0 0) := (blk_cell BK506.out 1).trans rfl
        have hcz50_2 : wr.cell? ⟨gb506, 2, none⟩ = some (.slice none 0 0) := (blk_cell BK506.out 2).trans rfl
        have hfz50_0 := blk_frozen BK506.out 0
        have hfz50_1 := blk_frozen BK506.out 1
        have hfz50_2 := blk_frozen BK506.out 2
        obtain ⟨Ao51, co51, eo51⟩ := Kd.R_slice HO_514001.out
        subst eo51
        go_wp2
        refine bodyPost_ret (results_cell_row rfl _ _ gb506 25 #[.slice Ao14 t507.length co14, .slice Ao51 x514001_1.length co51, .slice Ao13 t510.length co13] (0, 0) _ rfl (by (with_reducible repeat (fail)); refine blk_put (cs := #[.slice Ao14 t507.length co14, .slice Ao51 x514001_1.length co51, .slice none 0 0]) ?_ 2 _ rfl; (with_reducible repeat (fail)); refine blk_put (cs := #[.slice Ao14 t507.length co14, .slice none 0 0, .slice none 0 0]) ?_ 1 _ rfl; (with_reducible repeat (fail)); refine blk_put (cs := #[.slice none 0 0, .slice none 0 0, .slice none 0 0]) ?_ 0 _ rfl; (with_reducible repeat (fail)); exact BK506.out) Try.underlying25 rfl (by kernel_rfl)) rfl ?_
        exact ⟨_, _, _, by rfl, by (with_reducible repeat (fail)); exact Kd.S_mono (Kd.S_far (p := ⟨gb506, 2, none⟩) (Kd.S_far (p := ⟨gb506, 1, none⟩) (Kd.S_far (p := ⟨gb506, 0, none⟩) (Kd.S_types HO_514000.out BK506.out (by decide)) (fun _ hk => hk.2) (.slice Ao14 t507.length co14)) (fun _ hk => hk.2) (.slice Ao51 x514001_1.length co51)) (fun _ hk => hk.2) (.slice Ao13 t510.length co13)) (fun _ hk => hk.1), by (with_reducible repeat (fail)); exact Kd.R_mono (Kd.R_far (p := ⟨gb506, 2, none⟩) (Kd.R_far (p := ⟨gb506, 1, none⟩) (Kd.R_far (p := ⟨gb506, 0, none⟩) (Kd.R_types HO_514001.out BK506.out (by decide)) (fun _ hk => hk.2) (.slice Ao14 t507.length co14)) (fun _ hk => hk.2) (.slice Ao51 x514001_1.length co51)) (fun _ hk => hk.2) (.slice Ao13 t510.length co13)) (fun _ hk => ⟨hk.1.1, hk.1.2⟩), by (with_reducible repeat (fail)); exact Kd.S_mono (Kd.S_far (p := ⟨gb506, 2, none⟩) (Kd.S_far (p := ⟨gb506, 1, none⟩) (Kd.S_far (p := ⟨gb506, 0, none⟩) (Kd.S_types HO_514002.out BK506.out (by decide)) (fun _ hk => hk.2) (.slice Ao14 t507.length co14)) (fun _ hk => hk.2) (.slice Ao51 x514001_1.length co51)) (fun _ hk => hk.2) (.slice Ao13 t510.length co13)) (fun _ hk => hk.1), by repeat ((with_reducible first | exact HB.out | refine below_set ?_ GE506.out))⟩
end Go.Proofs.Ythheakfgmombdaa.F
end
section
namespace Go.Proofs.Ythheakfgmombdaa.F
open Go.RowKit Go.Proofs.YthheakfgmombdaaX.PrintWords Go.Proofs.YthheakfgmombdaaX.PrintLast Go.Proofs.YthheakfgmombdaaX.PrintMore
attribute [local go_sem] max2_int min2_int max_two min_two max_three min_three max_four min_four   -- for this text's walks alone
set_option linter.unusedVariables false
set_option linter.unusedSimpArgs false
set_option maxHeartbeats 8000000 in
set_option maxRecDepth 100000 in
theorem codewrightref35_Canon.calls (k : Nat) (A0_0 : Option Addr) (c0_0 : Nat) (l0_0 : List (S46)) (A0_1 : Option Addr) (c0_1 : Nat) (l0_1 : List (List (S46))) (A0_2 : Option Addr) (c0_2 : Nat) (l0_2 : List (S46)) (r1 : List (S46)) (r2 : List (List (S46))) (r3 : List (S46)) (w : World) (hr0_0 : Kd.C k46 w A0_0 l0_0.length l0_0) (hc0_0 : l0_0.length ≤ c0_0) (hr0_1 : Kd.C (Kd.slice 46 k46) w A0_1 l0_1.length l0_1) (hc0_1 : l0_1.length ≤ c0_1) (hr0_2 : Kd.C k46 w A0_2 l0_2.length l0_2) (hc0_2 : l0_2.length ≤ c0_2) (h : codewrightref35_Canon.f k l0_0 l0_1 l0_2 = some (r1, r2, r3)) :
    Calls Try.prog 24 #[.agg #[.slice A0_0 l0_0.length c0_0, .slice A0_1 l0_1.length c0_1, .slice A0_2 l0_2.length c0_2]] w fun e w' => ∃ v0_ v1_ v2_ : Value, e = .returned (.agg #[v0_, v1_, v2_]) ∧ Kd.S k46 46 w' w.heap.size (fun k_ => some k_ ≠ (v2_ : Value).ownBlock) v0_ r1 ∧ Kd.R (Kd.slice 46 k46) 22 w' w.heap.size (fun k_ => some k_ ≠ (v0_ : Value).ownBlock ∧ some k_ ≠ (v2_ : Value).ownBlock) v1_ r2 ∧ Kd.S k46 46 w' w.heap.size (fun k_ => some k_ ≠ (v0_ : Value).ownBlock) v2_ r3 ∧ Below w.heap.size w w' := by
  have hu25 := Try.underlying25
  have HR0_0 := Aside0.mk hr0_0
  have HC0_0 := Aside0.mk hc0_0
  clear hr0_0 hc0_0
  have HR0_1 := Aside0.mk hr0_1
  have HC0_1 := Aside0.mk hc0_1
  clear hr0_1 hc0_1
  have HR0_2 := Aside0.mk hr0_2
  have HC0_2 := Aside0.mk hc0_2
  clear hr0_2 hc0_2
  have HB := Aside0.mk (Below.refl w.heap.size w)
  have H : ((codewrightref35_Dual.f k l0_0 l0_1 l0_2).bind fun bt531 => ((codewrightref35_Dual.f k bt531.1 bt531.2.1 bt531.2.2).bind fun bt540 => (some (bt540.1, bt540.2.1, bt540.2.2)))) = some (r1, r2, r3) := h
  clear h
  replace H := Option.bind_eq_some_iff.mp H
  obtain ⟨⟨t531, t534, t537⟩, A20, H⟩ := H
  replace H : ((codewrightref35_Dual.f k t531 t534 t537).bind fun bt540 => (some (bt540.1, bt540.2.1, bt540.2.2))) = some (r1, r2, r3) := H
  have A2 := Aside0.mk A20
  clear A20
  replace H := Option.bind_eq_some_iff.mp H
  obtain ⟨⟨t540, t543, t546⟩, A30, H⟩ := H
  replace H : (some (t540, t543, t546)) = some (r1, r2, r3) := H
  have A3 := Aside0.mk A30
  clear A30
  simp only [Option.some.injEq, Prod.mk.injEq] at H
  obtain ⟨rfl, rfl, rfl⟩ := H
  go_enter Try.func24, Try.ntmps24
  go_wp2_with (first | ((with_reducible refine gate_dst (N := 1) rfl ?_); refine box_event ?hg (N := 1) ?hd (cs := #[.slice A0_0 l0_0.length c0_0, .slice A0_1 l0_1.length c0_1, .slice A0_2 l0_2.length c0_2]) (t := 25) ?hr ?_; (case hd => rfl); (case hg => rfl); (case hr => (go_simp; done)); intro gb529 hg w4 hbox hb; have n0_ := Aside0.mk (below_step (by repeat ((with_reducible exact HB.out))) hb); have n1_ := Aside0.mk (hbox); have n2_ := Aside0.mk ((by rw [hg]; exact (below_size (by repeat ((with_reducible exact HB.out)))) : w.heap.size ≤ gb529)); have n3_ := Aside0.mk ((by rw [hg]; exact (below_size (by repeat ((with_reducible exact HB.out)))) : w.heap.size ≤ gb529)); clear HB; have HB := n0_; have BK529 := n1_; have GW529 := n2_; have GE529 := n3_; clear n0_ n1_ n2_ n3_; clear hb hbox hg) | ((with_reducible refine gate_dst (N := 2) rfl ?_); refine box_event ?hg (N := 2) ?hd (cs := #[.slice none 0 0, .slice none 0 0, .slice none 0 0]) (t := 25) ?hr ?_; (case hd => rfl); (case hg => rfl); (case hr => (go_simp; done)); intro gb530 hg w5 hbox hb; have n0_ := Aside0.mk (blk_below (g := gb529) (o := .cells #[.slice A0_0 l0_0.length c0_0, .slice A0_1 l0_1.length c0_1, .slice A0_2 l0_2.length c0_2] 25 (0, 0)) (by (with_reducible repeat (fail)); exact BK529.out) hb); have n1_ := Aside0.mk (below_step (by repeat ((with_reducible exact HB.out))) hb); have n2_ := Aside0.mk (hbox); have n3_ := Aside0.mk ((by rw [hg]; exact (below_size (by repeat ((with_reducible exact HB.out)))) : w.heap.size ≤ gb530)); have n4_ := Aside0.mk ((by rw [hg]; exact (below_size (by repeat ((with_reducible exact HB.out)))) : w.heap.size ≤ gb530)); have n5_ := Aside0.mk ((by rw [hg]; exact Nat.ne_of_lt (blk_lt (g := gb529) (o := .cells #[.slice A0_0 l0_0.length c0_0, .slice A0_1 l0_1.length c0_1, .slice A0_2 l0_2.length c0_2] 25 (0, 0)) (by (with_reducible repeat (fail)); exact BK529.out)) : gb529 ≠ gb530)); have n6_ := Aside0.mk ((by rw [hg]; exact Nat.ne_of_gt (blk_lt (g := gb529) (o := .cells #[.slice A0_0 l0_0.length c0_0, .slice A0_1 l0_1.length c0_1, .slice A0_2 l0_2.length c0_2] 25 (0, 0)) (by (with_reducible repeat (fail)); exact BK529.out)) : gb530 ≠ gb529)); clear BK529; clear HB; have BK529 := n0_; have HB := n1_; have BK530 := n2_; have GW530 := n3_; have GE530 := n4_; have NB529_530 := n5_; have NB530_529 := n6_; clear n0_ n1_ n2_ n3_ n4_ n5_ n6_; clear hb hbox hg; have hnb6 := NB529_530.out; have hnc6 := NB530_529.out; have hcz7_0 : w5.cell? ⟨gb529, 0, none⟩ = some (.slice A0_0 l0_0.length c0_0) := (blk_cell BK529.out 0).trans rfl; have hcz7_1 : w5.cell? ⟨gb529, 1, none⟩ = some (.slice A0_1 l0_1.length c0_1) := (blk_cell BK529.out 1).trans rfl; have hcz7_2 : w5.cell? ⟨gb529, 2, none⟩ = some (.slice A0_2 l0_2.length c0_2) := (blk_cell BK529.out 2).trans rfl; have hfz7_0 := blk_frozen BK529.out 0; have hfz7_1 := blk_frozen BK529.out 1; have hfz7_2 := blk_frozen BK529.out 2) | ((with_reducible refine gate_callee (f := 23) rfl ?_); refine goesL_ (some 4) rfl rfl Try.func23 (by kernel_rfl) rfl #[.agg #[.slice A0_0 l0_0.length c0_0, .slice A0_1 l0_1.length c0_1, .slice A0_2 l0_2.length c0_2]] rfl (by (try simp only [List.map_toArray, List.map_cons, List.map_nil]); rfl) ?_; (with_reducible refine (codewrightref35_Dual.calls k _ _ l0_0 _ _ l0_1 _ _ l0_2 t531 t534 t537 _ ?side1 ?side2 ?side3 ?side4 ?side5 ?side6 A2.out).mono ?_); (case side1 => repeat (exact (Kd.C_below HR0_0.out HB.out))); (case side2 => exact HC0_0.out); (case side3 => repeat (exact (Kd.C_below HR0_1.out HB.out))); (case side4 => exact HC0_1.out); (case side5 => repeat (exact (Kd.C_below HR0_2.out HB.out))); (case side6 => exact HC0_2.out); rintro e w8 ⟨v532, v535, v538, rfl, ho0, ho1, ho2, hb⟩; refine ⟨_, rfl, ?_⟩; have n0_ := Aside0.mk (Kd.S_lower ho0 (below_size (by repeat ((with_reducible exact HB.out))))); have n1_ := Aside0.mk (Kd.R_lower ho1 (below_size (by repeat ((with_reducible exact HB.out))))); have n2_ := Aside0.mk (Kd.S_lower ho2 (below_size (by repeat ((with_reducible exact HB.out))))); have n3_ := Aside0.mk (blk_below (g := gb529) (o := .cells #[.slice A0_0 l0_0.length c0_0, .slice A0_1 l0_1.length c0_1, .slice A0_2 l0_2.length c0_2] 25 (0, 0)) (by (with_reducible repeat (fail)); exact BK529.out) hb); have n4_ := Aside0.mk (blk_below (g := gb530) (o := .cells #[.slice none 0 0, .slice none 0 0, .slice none 0 0] 25 (0, 0)) (by (with_reducible repeat (fail)); exact BK530.out) hb); have n5_ := Aside0.mk (below_step (by repeat ((with_reducible exact HB.out))) hb); clear BK529; clear BK530; clear HB; have HO533 := n0_; have HO536 := n1_; have HO539 := n2_; have BK529 := n3_; have BK530 := n4_; have HB := n5_; clear n0_ n1_ n2_ n3_ n4_ n5_; (try clear hb); (try clear ho0); (try clear ho1); (try clear ho2); obtain ⟨Ao9, co9, eo9⟩ := Kd.S_slice HO533.out; subst eo9; obtain ⟨Ao10, co10, eo10⟩ := Kd.R_slice HO536.out; subst eo10; obtain ⟨Ao11, co11, eo11⟩ := Kd.S_slice HO539.out; subst eo11) | ((with_reducible refine gate_callee (f := 23) rfl ?_); refine goesL_ (some 5) rfl rfl Try.func23 (by kernel_rfl) rfl #[.agg #[.slice Ao9 t531.length co9, .slice Ao10 t534.length co10, .slice Ao11 t537.length co11]] rfl (by (try simp only [List.map_toArray, List.map_cons, List.map_nil]); rfl) ?_; (with_reducible refine (codewrightref35_Dual.calls k _ _ t531 _ _ t534 _ _ t537 t540 t543 t546 _ ?side1 ?side2 ?side3 ?side4 ?side5 ?side6 A3.out).mono ?_); (case side1 => exact (Kd.S_reads' HO533.out).2.2); (case side2 => exact (Kd.S_reads' HO533.out).2.1); (case side3 => exact (Kd.R_reads' HO536.out).2.2); (case side4 => exact (Kd.R_reads' HO536.out).2.1); (case side5 => exact (Kd.S_reads' HO539.out).2.2); (case side6 => exact (Kd.S_reads' HO539.out).2.1); rintro e w12 ⟨v541, v544, v547, rfl, ho0, ho1, ho2, hb⟩; refine ⟨_, rfl, ?_⟩; have n0_ := Aside0.mk (Kd.S_mono (Kd.S_told (Kd.S_told (Kd.S_old (by (with_reducible repeat (fail)); exact HO533.out) hb) (Kd.S_base ho0)) (Kd.S_base ho2)) (fun _ h_ => h_.1)); have n1_ := Aside0.mk (Kd.R_mono (Kd.R_told (Kd.R_told (Kd.R_told (Kd.R_old (by (with_reducible repeat (fail)); exact HO536.out) hb) (Kd.S_base ho0)) (Kd.R_base ho1)) (Kd.S_base ho2)) (fun _ h_ => h_.1)); have n2_ := Aside0.mk (Kd.S_mono (Kd.S_told (Kd.S_told (Kd.S_old (by (with_reducible repeat (fail)); exact HO539.out) hb) (Kd.S_base ho0)) (Kd.S_base ho2)) (fun _ h_ => h_.1)); have n3_ := Aside0.mk (Kd.S_lower (Kd.S_new' (Kd.S_new' ho0 (Kd.S_lt (by (with_reducible repeat (fail)); exact HO533.out))) (Kd.S_lt (by (with_reducible repeat (fail)); exact HO539.out))) (below_size (by repeat ((with_reducible exact HB.out))))); have n4_ := Aside0.mk (Kd.R_lower (Kd.R_new' (Kd.R_new' (Kd.R_new' ho1 (Kd.S_lt (by (with_reducible repeat (fail)); exact HO533.out))) (Kd.R_lt (by (with_reducible repeat (fail)); exact HO536.out))) (Kd.S_lt (by (with_reducible repeat (fail)); exact HO539.out))) (below_size (by repeat ((with_reducible exact HB.out))))); have n5_ := Aside0.mk (Kd.S_lower (Kd.S_new' (Kd.S_new' ho2 (Kd.S_lt (by (with_reducible repeat (fail)); exact HO533.out))) (Kd.S_lt (by (with_reducible repeat (fail)); exact HO539.out))) (below_size (by repeat ((with_reducible exact HB.out))))); have n6_ := Aside0.mk (blk_below (g := gb529) (o := .cells #[.slice A0_0 l0_0.length c0_0, .slice A0_1 l0_1.length c0_1, .slice A0_2 l0_2.length c0_2] 25 (0, 0)) (by (with_reducible repeat (fail)); exact BK529.out) hb); have n7_ := Aside0.mk (blk_below (g := gb530) (o := .cells #[.slice none 0 0, .slice none 0 0, .slice none 0 0] 25 (0, 0)) (by (with_reducible repeat (fail)); exact BK530.out) hb); have n8_ := Aside0.mk (below_step (by repeat ((with_reducible exact HB.out))) hb); clear HO533; clear HO536; clear HO539; clear BK529; clear BK530; clear HB; have HO533 := n0_; have HO536 := n1_; have HO539 := n2_; have HO542 := n3_; have HO545 := n4_; have HO548 := n5_; have BK529 := n6_; have BK530 := n7_; have HB := n8_; clear n0_ n1_ n2_ n3_ n4_ n5_ n6_ n7_ n8_; (try clear hb); (try clear ho0); (try clear ho1); (try clear ho2); obtain ⟨Ao13, co13, eo13⟩ := Kd.S_slice HO542.out; subst eo13; have hcz14_0 : w12.cell? ⟨gb530, 0, none⟩ = some (.slice none 0 0) := (blk_cell BK530.out 0).trans rfl; have hcz14_1 : w12.cell? ⟨gb530, 1, none⟩ = some (.slice none 0 0) := (blk_cell BK530.out 1).trans rfl; have hcz14_2 : w12.cell? ⟨gb530, 2, none⟩ = some (.slice none 0 0) := (blk_cell BK530.out 2).trans rfl; have hfz14_0 := blk_frozen BK530.out 0; have hfz14_1 := blk_frozen BK530.out 1; have hfz14_2 := blk_frozen BK530.out 2; obtain ⟨Ao15, co15, eo15⟩ := Kd.R_slice HO545.out; subst eo15; obtain ⟨Ao16, co16, eo16⟩ := Kd.S_slice HO548.out; subst eo16))
  refine bodyPost_ret (results_cell_row rfl _ _ gb530 25 #[.slice Ao13 t540.length co13, .slice Ao15 t543.length co15, .slice Ao16 t546.length co16] (0, 0) _ rfl (by (with_reducible repeat (fail)); refine blk_put (cs := #[.slice Ao13 t540.length co13, .slice Ao15 t543.length co15, .slice none 0 0]) ?_ 2 _ rfl; (with_reducible repeat (fail)); refine blk_put (cs := #[.slice Ao13 t540.length co13, .slice none 0 0, .slice none 0 0]) ?_ 1 _ rfl; (with_reducible repeat (fail)); refine blk_put (cs := #[.slice none 0 0, .slice none 0 0, .slice none 0 0]) ?_ 0 _ rfl; (with_reducible repeat (fail)); exact BK530.out) Try.underlying25 rfl (by kernel_rfl)) rfl ?_
  exact ⟨_, _, _, by rfl, by (with_reducible repeat (fail)); exact Kd.S_mono (Kd.S_far (p := ⟨gb530, 2, none⟩) (Kd.S_far (p := ⟨gb530, 1, none⟩) (Kd.S_far (p := ⟨gb530, 0, none⟩) (Kd.S_types HO542.out BK530.out (by decide)) (fun _ hk => hk.2) (.slice Ao13 t540.length co13)) (fun _ hk => hk.2) (.slice Ao15 t543.length co15)) (fun _ hk => hk.2) (.slice Ao16 t546.length co16)) (fun _ hk => hk.1.1.1), by (with_reducible repeat (fail)); exact Kd.R_mono (Kd.R_far (p := ⟨gb530, 2, none⟩) (Kd.R_far (p := ⟨gb530, 1, none⟩) (Kd.R_far (p := ⟨gb530, 0, none⟩) (Kd.R_types HO545.out BK530.out (by decide)) (fun _ hk => hk.2) (.slice Ao13 t540.length co13)) (fun _ hk => hk.2) (.slice Ao15 t543.length co15)) (fun _ hk => hk.2) (.slice Ao16 t546.length co16)) (fun _ hk => ⟨hk.1.1.1.1.1, hk.1.1.1.1.2⟩), by (with_reducible repeat (fail)); exact Kd.S_mono (Kd.S_far (p := ⟨gb530, 2, none⟩) (Kd.S_far (p := ⟨gb530, 1, none⟩) (Kd.S_far (p := ⟨gb530, 0, none⟩) (Kd.S_types HO548.out BK530.out (by decide)) (fun _ hk => hk.2) (.slice Ao13 t540.length co13)) (fun _ hk => hk.2) (.slice Ao15 t543.length co15)) (fun _ hk => hk.2) (.slice Ao16 t546.length co16)) (fun _ hk => hk.1.1.1), by repeat ((with_reducible first | exact HB.out | refine below_set ?_ GE530.out))⟩
end Go.Proofs.Ythheakfgmombdaa.F
end
