import Derived.Test.YthheakfgmombdaaCSimplexDualsE
/- Part F of the proof: FRationalNeg, FSimplexznegative, FSimplexDual, FRef01Same, FRef02Same, FRef02SameList, FRef35Same, FRef01Trim, FRef01Zero, FRef01zlimb, FRef01Add, FRef01Cmp, FRef01Sub, FRef01Bits, FRef01zshift, FRef01DivMod, FRef01Gcd. -/
section
namespace Go.Proofs.Ythheakfgmombdaa.F
open Go.RowKit Go.Proofs.YthheakfgmombdaaX.PrintWords Go.Proofs.YthheakfgmombdaaX.PrintLast Go.Proofs.YthheakfgmombdaaX.PrintMore
attribute [local go_sem] max2_int min2_int max_two min_two max_three min_three max_four min_four   -- for this text's walks alone
set_option linter.unusedVariables false
set_option linter.unusedSimpArgs false
set_option maxHeartbeats 8000000 in
set_option maxRecDepth 100000 in
theorem rational_Neg.calls (k : Nat) (a0_0 : Bool) (A0_1 : Option Addr) (c0_1 : Nat) (l0_1 : List Int) (A0_2 : Option Addr) (c0_2 : Nat) (l0_2 : List Int) (r1 : Bool) (r2 : List Int) (r3 : List Int) (w : World) (hr0_1 : Kd.C (Kd.int .u32) w A0_1 l0_1.length l0_1) (hc0_1 : l0_1.length ≤ c0_1) (hr0_2 : Kd.C (Kd.int .u32) w A0_2 l0_2.length l0_2) (hc0_2 : l0_2.length ≤ c0_2) (h : rational_Neg.f k a0_0 l0_1 l0_2 = some (r1, r2, r3)) :
  Calls Try.prog 60 #[.agg #[.bool a0_0, .slice A0_1 l0_1.length c0_1, .slice A0_2 l0_2.length c0_2]] w fun e w' => ∃ v1_ v2_ : Value, e = .returned (.agg #[.bool r1, v1_, v2_]) ∧ Kd.R (Kd.int .u32) 100 w' w.heap.size (fun k_ => some k_ ≠ (v2_ : Value).ownBlock) v1_ r2 ∧ Kd.R (Kd.int .u32) 100 w' w.heap.size (fun k_ => some k_ ≠ (v1_ : Value).ownBlock) v2_ r3 ∧ Below w.heap.size w w' := by
 have hu46 := Try.underlying46
 have HR0_1 := Aside0.mk hr0_1
 have HC0_1 := Aside0.mk hc0_1
 clear hr0_1 hc0_1
 have HR0_2 := Aside0.mk hr0_2
 have HC0_2 := Aside0.mk hc0_2
 clear hr0_2 hc0_2
 have HB := Aside0.mk (Below.refl w.heap.size w)
 have H : ((rational_canonical.f k (!a0_0) l0_1 l0_2).bind fun bt293 => (some (bt293.1, bt293.2.1, bt293.2.2))) = some (r1, r2, r3) := h
 clear h
 obtain ⟨⟨t293, t294, t297⟩, A2, H⟩ := bindA H
 simp only [Option.some.injEq, Prod.mk.injEq] at H
 obtain ⟨rfl, rfl, rfl⟩ := H
 go_enter Try.func60, Try.ntmps60
 go_wp2_with (first | (refine box_event ?hg (N := 1) ?hd (cs := #[.bool a0_0, .slice A0_1 l0_1.length c0_1, .slice A0_2 l0_2.length c0_2]) (t := 46) ?hr ?_; (case hd => rfl); (case hg => rfl); (case hr => go_simp; done); intro gb291 hg w3 hbox hb; have n0_ := Aside0.mk (below_step (HB.out) hb); have n1_ := Aside0.mk (hbox); have n2_ := Aside0.mk ((by rw [hg]; exact (below_size (HB.out)) : w.heap.size ≤ gb291)); have n3_ := Aside0.mk ((by rw [hg]; exact (below_size (HB.out)) : w.heap.size ≤ gb291)); clear HB; have HB := n0_; have BK291 := n1_; have GW291 := n2_; have GE291 := n3_; clear n0_ n1_ n2_ n3_; clear hb hbox hg) | (refine box_event ?hg (N := 2) ?hd (cs := #[.bool false, .slice none 0 0, .slice none 0 0]) (t := 46) ?hr ?_; (case hd => rfl); (case hg => rfl); (case hr => go_simp; done); intro gb292 hg w4 hbox hb; have n0_ := Aside0.mk (blk_below (BK291.out) hb); have n1_ := Aside0.mk (below_step (HB.out) hb); have n2_ := Aside0.mk (hbox); have n3_ := Aside0.mk ((by rw [hg]; exact (below_size (HB.out)) : w.heap.size ≤ gb292)); have n4_ := Aside0.mk ((by rw [hg]; exact (below_size (HB.out)) : w.heap.size ≤ gb292)); have n5_ := Aside0.mk ((by rw [hg]; exact Nat.ne_of_lt (blk_lt (BK291.out)) : gb291 ≠ gb292)); have n6_ := Aside0.mk ((by rw [hg]; exact Nat.ne_of_gt (blk_lt (BK291.out)) : gb292 ≠ gb291)); clear BK291; clear HB; have BK291 := n0_; have HB := n1_; have BK292 := n2_; have GW292 := n3_; have GE292 := n4_; have NB291_292 := n5_; have NB292_291 := n6_; clear n0_ n1_ n2_ n3_ n4_ n5_ n6_; clear hb hbox hg; have hnb5 := NB291_292.out; have hnc5 := NB292_291.out; have hcz6_0 : w4.cell? ⟨gb291, 0, none⟩ = some (.bool a0_0) := (blk_cell BK291.out 0).trans rfl; have hcz6_1 : w4.cell? ⟨gb291, 1, none⟩ = some (.slice A0_1 l0_1.length c0_1) := (blk_cell BK291.out 1).trans rfl; have hcz6_2 : w4.cell? ⟨gb291, 2, none⟩ = some (.slice A0_2 l0_2.length c0_2) := (blk_cell BK291.out 2).trans rfl; have hfz6_0 := blk_frozen BK291.out 0; have hfz6_1 := blk_frozen BK291.out 1; have hfz6_2 := blk_frozen BK291.out 2) | (refine goesL_ (some 10) rfl rfl Try.func94 (by kernel_rfl) rfl #[.bool (!a0_0), .slice A0_1 l0_1.length c0_1, .slice A0_2 l0_2.length c0_2] rfl (by simp only [List.map_toArray, List.map_cons, List.map_nil]; rfl) ?_; (with_reducible refine (rational_canonical.calls k (!a0_0) _ _ l0_1 _ _ l0_2 t293 t294 t297 _ (Kd.C_below HR0_1.out HB.out) HC0_1.out (Kd.C_below HR0_2.out HB.out) HC0_2.out A2.out).mono ?_); rintro e w7 ⟨v295, v298, rfl, ho0, ho1, hb⟩; refine ⟨_, rfl, ?_⟩; have HO296 := Aside0.mk (Kd.R_lower ho0 (below_size (HB.out))); have HO299 := Aside0.mk (Kd.R_lower ho1 (below_size (HB.out))); replace BK291 := Aside0.mk (blk_below (BK291.out) hb); replace BK292 := Aside0.mk (blk_below (BK292.out) hb); replace HB := Aside0.mk (below_step (HB.out) hb); (try clear hb); (try clear ho0); (try clear ho1); have hcz8_0 : w7.cell? ⟨gb292, 0, none⟩ = some (.bool false) := (blk_cell BK292.out 0).trans rfl; have hcz8_1 : w7.cell? ⟨gb292, 1, none⟩ = some (.slice none 0 0) := (blk_cell BK292.out 1).trans rfl; have hcz8_2 : w7.cell? ⟨gb292, 2, none⟩ = some (.slice none 0 0) := (blk_cell BK292.out 2).trans rfl; have hfz8_0 := blk_frozen BK292.out 0; have hfz8_1 := blk_frozen BK292.out 1; have hfz8_2 := blk_frozen BK292.out 2; obtain ⟨Ao9, co9, eo9⟩ := Kd.R_slice HO296.out; subst eo9; obtain ⟨Ao10, co10, eo10⟩ := Kd.R_slice HO299.out; subst eo10))
 refine bodyPost_ret (results_cell_row rfl _ _ gb292 46 #[.bool t293, .slice Ao9 t294.length co9, .slice Ao10 t297.length co10] (0, 0) _ rfl (by (with_reducible repeat (fail)); refine blk_put (cs := #[.bool t293, .slice Ao9 t294.length co9, .slice none 0 0]) ?_ 2 _ rfl; (with_reducible repeat (fail)); refine blk_put (cs := #[.bool t293, .slice none 0 0, .slice none 0 0]) ?_ 1 _ rfl; (with_reducible repeat (fail)); refine blk_put (cs := #[.bool false, .slice none 0 0, .slice none 0 0]) ?_ 0 _ rfl; (with_reducible repeat (fail)); exact BK292.out) Try.underlying46 rfl (by kernel_rfl)) rfl ?_
 exact ⟨_, _, rfl, Kd.R_mono (Kd.R_far (p := ⟨gb292, 2, none⟩) (Kd.R_far (p := ⟨gb292, 1, none⟩) (Kd.R_far (p := ⟨gb292, 0, none⟩) (Kd.R_types HO296.out BK292.out (by decide)) (fun _ hk => hk.2) (.bool t293)) (fun _ hk => hk.2) (.slice Ao9 t294.length co9)) (fun _ hk => hk.2) (.slice Ao10 t297.length co10)) (fun _ hk => hk.1), Kd.R_mono (Kd.R_far (p := ⟨gb292, 2, none⟩) (Kd.R_far (p := ⟨gb292, 1, none⟩) (Kd.R_far (p := ⟨gb292, 0, none⟩) (Kd.R_types HO299.out BK292.out (by decide)) (fun _ hk => hk.2) (.bool t293)) (fun _ hk => hk.2) (.slice Ao9 t294.length co9)) (fun _ hk => hk.2) (.slice Ao10 t297.length co10)) (fun _ hk => hk.1), by repeat ((with_reducible first | exact HB.out | refine below_set ?_ GE292.out))⟩
end Go.Proofs.Ythheakfgmombdaa.F
end
section
namespace Go.Proofs.Ythheakfgmombdaa.F
open Go.RowKit Go.Proofs.YthheakfgmombdaaX.PrintWords Go.Proofs.YthheakfgmombdaaX.PrintLast Go.Proofs.YthheakfgmombdaaX.PrintMore
attribute [local go_sem] max2_int min2_int max_two min_two max_three min_three max_four min_four   -- for this text's walks alone
set_option linter.unusedVariables false
set_option linter.unusedSimpArgs false
set_option maxHeartbeats 8000000 in
set_option maxRecDepth 100000 in
theorem simplex_negative.calls (k : Nat) (A0 : Option Addr) (c0 : Nat) (l0 : List (S46)) (r : List (S46)) (w : World) (hr0 : Kd.C k46 w A0 l0.length l0) (hc0 : l0.length ≤ c0) (h : simplex_negative.f k l0 = some r) :
  Calls Try.prog 59 #[.slice A0 l0.length c0] w fun e w' => ∃ v0_ : Value, e = .returned (v0_) ∧ Kd.S k46 46 w' w.heap.size (fun _ => True) v0_ r ∧ Below w.heap.size w w' := by
 have hu46 := Try.underlying46
 have HR0 := Aside0.mk hr0
 have HC0 := Aside0.mk hc0
 clear hr0 hc0
 have HB := Aside0.mk (Below.refl w.heap.size w)
 have H : (simplex_negative.l0 k ([] : List (S46)) l0 (l0.length : Int) 0) = some r := h
 clear h
 have H' := Aside0.mk H
 clear H
 go_enter Try.func59, Try.ntmps59
 go_wp2
 go_loopg [3, 8] k (fun kq v3 v8 w' => ∃ (x3_1 : List (S46)) (x8_1 : Int), v8 = .int .i64 x8_1 ∧ Aside0 (simplex_negative.l0 kq x3_1 l0 (l0.length : Int) x8_1 = some r) ∧ Aside0 (kq ≤ k) ∧ Aside0 (Kd.S k46 46 w' w.heap.size (fun _ => True) v3 x3_1) ∧ Aside0 (Below w.heap.size w w'))
 case atStart => exact ⟨(([] : List (S46))), (0), rfl, H', ⟨Nat.le_refl _⟩, ⟨by exact Kd.S_nil _ _ _ _ _⟩, ⟨HB.out⟩⟩
 case round =>
  clear H'
  obtain ⟨x3_1, x8_1, rfl, HA, HK1, HO_3, HB⟩ := hrel
  cases gk with
  | zero => exact absurd HA.out (by simp [simplex_negative.l0])
  | succ k1 =>
   have H := HA.out
   clear HA
   simp only [simplex_negative.l0] at H
   by_cases c2 : x8_1 < (l0.length : Int)
   ·rw [if_pos c2] at H
    clear c2
    by_cases c3 : 0 ≤ x8_1
    ·rw [if_pos c3] at H
     have c3b0 : decide (0 ≤ x8_1) = true := decide_eq_true c3
     clear c3
     by_cases c4 : x8_1 < (l0.length : Int)
     ·rw [if_pos c4] at H
      have c4b0 : decide (x8_1 < (l0.length : Int)) = true := decide_eq_true c4
      clear c4
      obtain ⟨⟨t302, t303, t306⟩, A5, H⟩ := bindA H
      by_cases c6 : x3_1.length < 2513169434916
      ·rw [if_pos c6] at H
       have LMc6 := Aside0.mk c6
       clear c6
       obtain ⟨y309, hy309⟩ : ∃ y_ : List (S46), y_ = (x3_1 ++ [(⟨t302, t303, t306⟩ : S46)]) := ⟨_, rfl⟩
       (try replace H := (Option.bind_some _ _).symm.trans H); rw [← hy309] at H
       have Ny309 := Aside0.mk hy309
       clear hy309
       have H' := Aside0.mk H
       clear H
       have p300 : 0 ≤ (x8_1 : Int) := of_decide_eq_true (by assumption)
       have q300 : x8_1 < (l0.length : Int) := of_decide_eq_true (by assumption)
       obtain ⟨ad300, A300_1, c300_1, A300_2, c300_2, e300, hx300_0, hx300_1, hx300_2, hl300_1, hi300_1, hl300_2, hi300_2⟩ := at_T46 HR0.out x8_1 p300 q300
       cases e300
       replace hx300_0 := (HB.out.cell (World.block_lt_of_cell? w _ hx300_0)).trans hx300_0
       replace hx300_1 := (HB.out.cell (World.block_lt_of_cell? w _ hx300_1)).trans hx300_1
       replace hx300_2 := (HB.out.cell (World.block_lt_of_cell? w _ hx300_2)).trans hx300_2
       have HR300_1 := Aside0.mk hi300_1
       have HC300_1 := Aside0.mk hl300_1
       clear hi300_1 hl300_1
       have HR300_2 := Aside0.mk hi300_2
       have HC300_2 := Aside0.mk hl300_2
       clear hi300_2 hl300_2
       replace p300 := eq_true p300
       replace q300 := eq_true q300
       go_wp2_with (first | (refine box_event ?hg (N := 5) ?hd (cs := #[.bool false, .slice none 0 0, .slice none 0 0]) (t := 46) ?hr ?_; (case hd => rfl); (case hg => rfl); (case hr => go_simp; done); intro gb301 hg w7 hbox hb; have n0_ := Aside0.mk (Kd.S_below (Kd.S_elderB (HO_3.out) gb301 (Nat.le_of_eq hg.symm)) hb); have n1_ := Aside0.mk (below_step (HB.out) hb); have n2_ := Aside0.mk (hbox); have n3_ := Aside0.mk ((by rw [hg]; exact (below_size (HB.out)) : w.heap.size ≤ gb301)); have n4_ := Aside0.mk ((by rw [hg]; exact (below_size (HB.out)) : w.heap.size ≤ gb301)); clear HO_3; clear HB; have HO_3 := n0_; have HB := n1_; have BK301 := n2_; have GW301 := n3_; have GE301 := n4_; clear n0_ n1_ n2_ n3_ n4_; clear hb hbox hg; have hcz8_0 : w7.cell? ⟨gb301, 0, none⟩ = some (.bool false) := (blk_cell BK301.out 0).trans rfl; have hcz8_1 : w7.cell? ⟨gb301, 1, none⟩ = some (.slice none 0 0) := (blk_cell BK301.out 1).trans rfl; have hcz8_2 : w7.cell? ⟨gb301, 2, none⟩ = some (.slice none 0 0) := (blk_cell BK301.out 2).trans rfl; have hfz8_0 := blk_frozen BK301.out 0; have hfz8_1 := blk_frozen BK301.out 1; have hfz8_2 := blk_frozen BK301.out 2) | (refine goesL_ (some 14) rfl rfl Try.func60 (by kernel_rfl) rfl #[.agg #[.bool ((rd_T46 l0 x8_1).f0), .slice A300_1 ((rd_T46 l0 x8_1).f1).length c300_1, .slice A300_2 ((rd_T46 l0 x8_1).f2).length c300_2]] rfl (by simp only [List.map_toArray, List.map_cons, List.map_nil]; rfl) ?_; (with_reducible refine (rational_Neg.calls k1 ((rd_T46 l0 x8_1).f0) _ _ ((rd_T46 l0 x8_1).f1) _ _ ((rd_T46 l0 x8_1).f2) t302 t303 t306 _ (Kd.C_below HR300_1.out (by repeat ((with_reducible first | exact HB.out | refine below_set ?_ GE301.out)))) HC300_1.out (Kd.C_below HR300_2.out (by repeat ((with_reducible first | exact HB.out | refine below_set ?_ GE301.out)))) HC300_2.out A5.out).mono ?_); rintro e w9 ⟨v304, v307, rfl, ho0, ho1, hb⟩; refine ⟨_, rfl, ?_⟩; replace HO_3 := Aside0.mk (Kd.S_mono (Kd.S_told (Kd.S_told (Kd.S_old ((Kd.S_mono (Kd.S_far (p := ⟨gb301, 2, none⟩) (Kd.S_far (p := ⟨gb301, 1, none⟩) (Kd.S_far (p := ⟨gb301, 0, none⟩) (Kd.S_mono HO_3.out (fun k_ hk => (⟨hk, hk.2⟩ : _ ∧ k_ ≠ gb301))) (fun _ hk => hk.2) (.bool ((rd_T46 l0 x8_1).f0))) (fun _ hk => hk.2) (.slice A300_1 ((rd_T46 l0 x8_1).f1).length c300_1)) (fun _ hk => hk.2) (.slice A300_2 ((rd_T46 l0 x8_1).f2).length c300_2)) (fun _ h_ => h_.1))) hb) (Kd.R_base ho0)) (Kd.R_base ho1)) (fun _ h_ => h_.1)); have HO305 := Aside0.mk (Kd.R_lower ho0 (below_size (by repeat ((with_reducible first | exact HB.out | refine below_set ?_ GE301.out))))); have HO308 := Aside0.mk (Kd.R_lower ho1 (below_size (by repeat ((with_reducible first | exact HB.out | refine below_set ?_ GE301.out))))); replace BK301 := Aside0.mk (blk_below (g := gb301) (o := .cells #[.bool ((rd_T46 l0 x8_1).f0), .slice A300_1 ((rd_T46 l0 x8_1).f1).length c300_1, .slice A300_2 ((rd_T46 l0 x8_1).f2).length c300_2] 46 (0, 0)) (by (with_reducible repeat (fail)); refine blk_put (cs := #[.bool ((rd_T46 l0 x8_1).f0), .slice A300_1 ((rd_T46 l0 x8_1).f1).length c300_1, .slice none 0 0]) ?_ 2 _ rfl; (with_reducible repeat (fail)); refine blk_put (cs := #[.bool ((rd_T46 l0 x8_1).f0), .slice none 0 0, .slice none 0 0]) ?_ 1 _ rfl; (with_reducible repeat (fail)); refine blk_put (cs := #[.bool false, .slice none 0 0, .slice none 0 0]) ?_ 0 _ rfl; (with_reducible repeat (fail)); exact BK301.out) hb); replace HB := Aside0.mk (below_step (by repeat ((with_reducible first | exact HB.out | refine below_set ?_ GE301.out))) hb); (try clear hb); (try clear ho0); (try clear ho1); obtain ⟨Ao11, co11, eo11⟩ := Kd.R_slice HO305.out; subst eo11; obtain ⟨Ao12, co12, eo12⟩ := Kd.R_slice HO308.out; subst eo12) | ((with_reducible refine gate_builtin (b := .append) (xs := #[.tmp 12, .tmp 15]) rfl ?_); at_builtin; refine Kd.S_append k46 (w0 := w) w.heap.size rfl (.tmp 12) (.tmp 15) 22 46 (.agg #[(.bool false), (.slice none 0 0), (.slice none 0 0)]) 56 rfl Try.underlying22 info46 rfl (by decide) (by omega) u3 x3_1 (⟨t302, t303, t306⟩ : S46) [.bool t302, .slice Ao11 t303.length co11, .slice Ao12 t306.length co12] (fun k_ => k_ ≠ gb301) (fun k_ => some k_ = (.slice Ao11 t303.length co11 : Value).ownBlock ∨ some k_ = (.slice Ao12 t306.length co12 : Value).ownBlock) rfl rfl ?aP (fun k_ hk_ => hk_.elim (fun h_ => ((Kd.R_mono (ok' := fun k_ => ((fun k_ => k_ ≠ gb301)) k_ ∧ some k_ ≠ (u3 : Value).ownBlock) (Kd.R_types (Kd.R_apart' (HO305.out) (Kd.S_typed HO_3.out) (by decide)) BK301.out (by decide)) (fun k_ hk => ⟨hk.2, hk.1.2⟩))).1 k_ h_.symm) (fun h_ => ((Kd.R_mono (ok' := fun k_ => ((fun k_ => k_ ≠ gb301)) k_ ∧ some k_ ≠ (u3 : Value).ownBlock) (Kd.R_types (Kd.R_apart' (HO308.out) (Kd.S_typed HO_3.out) (by decide)) BK301.out (by decide)) (fun k_ hk => ⟨hk.2, hk.1.2⟩))).1 k_ h_.symm)) ?aF ?aO ?aB ?aS ?aL ?_; (case aP => exact k46_mkM _ _ _ (⟨t302, t303, t306⟩ : S46) (Kd.R_mono (Kd.R_tight rfl (Kd.R_mono (ok' := fun k_ => ((fun k_ => k_ ≠ gb301)) k_ ∧ some k_ ≠ (u3 : Value).ownBlock) (Kd.R_types (Kd.R_apart' (HO305.out) (Kd.S_typed HO_3.out) (by decide)) BK301.out (by decide)) (fun k_ hk => ⟨hk.2, hk.1.2⟩))) (fun _ h_ => Or.inl h_)) (Kd.R_mono (Kd.R_tight rfl (Kd.R_mono (ok' := fun k_ => ((fun k_ => k_ ≠ gb301)) k_ ∧ some k_ ≠ (u3 : Value).ownBlock) (Kd.R_types (Kd.R_apart' (HO308.out) (Kd.S_typed HO_3.out) (by decide)) BK301.out (by decide)) (fun k_ hk => ⟨hk.2, hk.1.2⟩))) (fun _ h_ => Or.inr (h_)))); (case aB => exact (HB.out)); (case aF => exact (fun k_ hk => Kd.freshB (g := gb301) (o := .cells #[.bool ((rd_T46 l0 x8_1).f0), .slice A300_1 ((rd_T46 l0 x8_1).f1).length c300_1, .slice A300_2 ((rd_T46 l0 x8_1).f2).length c300_2] 46 (0, 0)) (BK301.out) k_ hk)); (case aO => exact (Kd.S_mono HO_3.out (fun k_ hk => ⟨hk.1.1.2, fun e_ => e_.elim (fun h_ => hk.1.2 h_) (fun h_ => hk.2 h_)⟩))); (case aS => exact (below_size (HB.out))); (case aL => have := LMc6.out; omega); intro v310 w10 ho hb hg hat; rw [← Ny309.out] at ho; replace BK301 := Aside0.mk (blk_grown (g := gb301) (o := .cells #[.bool ((rd_T46 l0 x8_1).f0), .slice A300_1 ((rd_T46 l0 x8_1).f1).length c300_1, .slice A300_2 ((rd_T46 l0 x8_1).f2).length c300_2] 46 (0, 0)) (BK301.out) hg (Kd.S_away HO_3.out (fun _ hk => hk.1.1.2))); replace HB := Aside0.mk (hb); have HO311 := Aside0.mk (ho); clear HO_3 HO305 HO308; clear ho hb hg hat))
       go_roundg k1
       case measure => have := HK1.out; omega
       case rel => exact ⟨(y309), (wrap64 (x8_1 + 1)), rfl, H', ⟨by have := HK1.out; omega⟩, ⟨Kd.S_mono HO311.out (fun _ hk => trivial)⟩, ⟨HB.out⟩⟩
      ·rw [if_neg c6] at H
       exact absurd H (by simp)
     ·rw [if_neg c4] at H
      exact absurd H (by simp)
    ·rw [if_neg c3] at H
     exact absurd H (by simp)
   ·rw [if_neg c2] at H
    have c2b0 : decide (x8_1 < (l0.length : Int)) = false := decide_eq_false c2
    clear c2
    obtain rfl := Option.some.inj H
    go_wp2
    go_ret
    exact ⟨_, rfl, HO_3.out, HB.out⟩
end Go.Proofs.Ythheakfgmombdaa.F
end
section
namespace Go.Proofs.Ythheakfgmombdaa.F
open Go.RowKit Go.Proofs.YthheakfgmombdaaX.PrintWords Go.Proofs.YthheakfgmombdaaX.PrintLast Go.Proofs.YthheakfgmombdaaX.PrintMore
attribute [local go_sem] max2_int min2_int max_two min_two max_three min_three max_four min_four   -- for this text's walks alone
set_option linter.unusedVariables false
set_option linter.unusedSimpArgs false
def simplex_Dual.T4 : Bool × List (List Nat × List Nat) := (true, [([], []), ([0], [0]), ([1], [1]), ([], []), ([3], [3]), ([4, 2], [4]), ([2, 5], [2, 5]), ([], []), ([7, 6, 5, 0, 1, 2, 3, 4, 5, 6, 7], [6, 7])])
def simplex_Dual.B4 : List Nat := [0, 1, 3, 0, 8, 31, 63, 0, 255]
theorem simplex_Dual.tab4 : rtab .any (opsOf Try.f21 4) = simplex_Dual.T4 := by kernel_rfl
theorem simplex_Dual.bits4 : waitsOk simplex_Dual.T4.2 simplex_Dual.B4 = true := by kernel_rfl
set_option maxHeartbeats 8000000 in
set_option maxRecDepth 100000 in
theorem simplex_Dual.calls (k : Nat) (A0_0 : Option Addr) (c0_0 : Nat) (l0_0 : List (S46)) (A0_1 : Option Addr) (c0_1 : Nat) (l0_1 : List (List (S46))) (A0_2 : Option Addr) (c0_2 : Nat) (l0_2 : List (S46)) (r1 : List (S46)) (r2 : List (List (S46))) (r3 : List (S46)) (r4 : Int) (w : World) (hr0_0 : Kd.C k46 w A0_0 l0_0.length l0_0) (hc0_0 : l0_0.length ≤ c0_0) (hr0_1 : Kd.C (Kd.slice 46 k46) w A0_1 l0_1.length l0_1) (hc0_1 : l0_1.length ≤ c0_1) (hr0_2 : Kd.C k46 w A0_2 l0_2.length l0_2) (hc0_2 : l0_2.length ≤ c0_2) (h : simplex_Dual.f k l0_0 l0_1 l0_2 = some (r1, r2, r3, r4)) :
    Calls Try.prog 21 #[.agg #[.slice A0_0 l0_0.length c0_0, .slice A0_1 l0_1.length c0_1, .slice A0_2 l0_2.length c0_2]] w fun e w' => ∃ v0_ v1_ v2_ : Value, e = .returned (.tuple #[.agg #[v0_, v1_, v2_], .int .i64 r4]) ∧ Kd.S k46 46 w' w.heap.size (fun k_ => some k_ ≠ (v2_ : Value).ownBlock) v0_ r1 ∧ Kd.R (Kd.slice 46 k46) 22 w' w.heap.size (fun k_ => some k_ ≠ (v0_ : Value).ownBlock ∧ some k_ ≠ (v2_ : Value).ownBlock) v1_ r2 ∧ Kd.S k46 46 w' w.heap.size (fun k_ => some k_ ≠ (v0_ : Value).ownBlock) v2_ r3 ∧ Below w.heap.size w w' := by
  have hu25 := Try.underlying25
  have hu46 := Try.underlying46
  have HR0_0 := Aside0.mk hr0_0
  have HC0_0 := Aside0.mk hc0_0
  clear hr0_0 hc0_0
  have HR0_1 := Aside0.mk hr0_1
  have HC0_1 := Aside0.mk hc0_1
  clear hr0_1 hc0_1
  have HR0_2 := Aside0.mk hr0_2
  have HC0_2 := Aside0.mk hc0_2
  clear hr0_2 hc0_2
  have HB := Aside0.mk (Below.refl w.heap.size w)
  have H : ((simplex_Check.f k l0_0 l0_1 l0_2).bind fun t314 => (if t314 = 0 then ((simplex_negative.f k l0_2).bind fun t315 => ((simplex_negative.f k l0_0).bind fun t318 => (simplex_Dual.l0 k (l0_0.length : Int) 0 l0_0 l0_1 l0_2 t315 ([] : List (List (S46))) t318))) else (some (([] : List (S46)), ([] : List (List (S46))), ([] : List (S46)), t314)))) = some (r1, r2, r3, r4) := h
  clear h
  replace H := Option.bind_eq_some_iff.mp H
  obtain ⟨t314, A20, H⟩ := H
  replace H : (if t314 = 0 then ((simplex_negative.f k l0_2).bind fun t315 => ((simplex_negative.f k l0_0).bind fun t318 => (simplex_Dual.l0 k (l0_0.length : Int) 0 l0_0 l0_1 l0_2 t315 ([] : List (List (S46))) t318))) else (some (([] : List (S46)), ([] : List (List (S46))), ([] : List (S46)), t314))) = some (r1, r2, r3, r4) := H
  have A2 := Aside0.mk A20
  clear A20
  by_cases c3 : t314 = 0
  · rw [if_pos c3] at H
    have c3b0 : (t314 == 0) = true := beq_iff_eq.mpr c3
    have c3b1 : (t314 != 0) = false := bne_eq_false_iff_eq.mpr c3
    clear c3
    replace H := Option.bind_eq_some_iff.mp H
    obtain ⟨t315, A40, H⟩ := H
    replace H : ((simplex_negative.f k l0_0).bind fun t318 => (simplex_Dual.l0 k (l0_0.length : Int) 0 l0_0 l0_1 l0_2 t315 ([] : List (List (S46))) t318)) = some (r1, r2, r3, r4) := H
    have A4 := Aside0.mk A40
    clear A40
    replace H := Option.bind_eq_some_iff.mp H
    obtain ⟨t318, A50, H⟩ := H
    replace H : (simplex_Dual.l0 k (l0_0.length : Int) 0 l0_0 l0_1 l0_2 t315 ([] : List (List (S46))) t318) = some (r1, r2, r3, r4) := H
    have A5 := Aside0.mk A50
    clear A50
    have H' := Aside0.mk H
    clear H
    go_enter Try.func21, Try.ntmps21
    try go_wp2_with (first | ((with_reducible refine gate_dst (N := 1) rfl ?_); refine box_event ?hg (N := 1) ?hd (cs := #[.slice A0_0 l0_0.length c0_0, .slice A0_1 l0_1.length c0_1, .slice A0_2 l0_2.length c0_2]) (t := 25) ?hr ?_; (case hd => rfl); (case hg => rfl); (case hr => (go_simp; done)); intro gb312 hg w6 hbox hb; have n0_ := Aside0.mk (below_step (by repeat ((with_reducible exact HB.out))) hb); have n1_ := Aside0.mk (hbox); have n2_ := Aside0.mk ((by rw [hg]; exact (below_size (by repeat ((with_reducible exact HB.out)))) : w.heap.size ≤ gb312)); have n3_ := Aside0.mk ((by rw [hg]; exact (below_size (by repeat ((with_reducible exact HB.out)))) : w.heap.size ≤ gb312)); clear HB; have HB := n0_; have BK312 := n1_; have GW312 := n2_; have GE312 := n3_; clear n0_ n1_ n2_ n3_; clear hb hbox hg) | ((with_reducible refine gate_dst (N := 2) rfl ?_); refine box_event ?hg (N := 2) ?hd (cs := #[.slice none 0 0, .slice none 0 0, .slice none 0 0]) (t := 25) ?hr ?_; (case hd => rfl); (case hg => rfl); (case hr => (go_simp; done)); intro gb313 hg w7 hbox hb; have n0_ := Aside0.mk (blk_below (g := gb312) (o := .cells #[.slice A0_0 l0_0.length c0_0, .slice A0_1 l0_1.length c0_1, .slice A0_2 l0_2.length c0_2] 25 (0, 0)) (by (with_reducible repeat (fail)); exact BK312.out) hb); have n1_ := Aside0.mk (below_step (by repeat ((with_reducible exact HB.out))) hb); have n2_ := Aside0.mk (hbox); have n3_ := Aside0.mk ((by rw [hg]; exact (below_size (by repeat ((with_reducible exact HB.out)))) : w.heap.size ≤ gb313)); have n4_ := Aside0.mk ((by rw [hg]; exact (below_size (by repeat ((with_reducible exact HB.out)))) : w.heap.size ≤ gb313)); have n5_ := Aside0.mk ((by rw [hg]; exact Nat.ne_of_lt (blk_lt (g := gb312) (o := .cells #[.slice A0_0 l0_0.length c0_0, .slice A0_1 l0_1.length c0_1, .slice A0_2 l0_2.length c0_2] 25 (0, 0)) (by (with_reducible repeat (fail)); exact BK312.out)) : gb312 ≠ gb313)); have n6_ := Aside0.mk ((by rw [hg]; exact Nat.ne_of_gt (blk_lt (g := gb312) (o := .cells #[.slice A0_0 l0_0.length c0_0, .slice A0_1 l0_1.length c0_1, .slice A0_2 l0_2.length c0_2] 25 (0, 0)) (by (with_reducible repeat (fail)); exact BK312.out)) : gb313 ≠ gb312)); clear BK312; clear HB; have BK312 := n0_; have HB := n1_; have BK313 := n2_; have GW313 := n3_; have GE313 := n4_; have NB312_313 := n5_; have NB313_312 := n6_; clear n0_ n1_ n2_ n3_ n4_ n5_ n6_; clear hb hbox hg; have hnb8 := NB312_313.out; have hnc8 := NB313_312.out; have hcz9_0 : w7.cell? ⟨gb312, 0, none⟩ = some (.slice A0_0 l0_0.length c0_0) := (blk_cell BK312.out 0).trans rfl; have hcz9_1 : w7.cell? ⟨gb312, 1, none⟩ = some (.slice A0_1 l0_1.length c0_1) := (blk_cell BK312.out 1).trans rfl; have hcz9_2 : w7.cell? ⟨gb312, 2, none⟩ = some (.slice A0_2 l0_2.length c0_2) := (blk_cell BK312.out 2).trans rfl; have hfz9_0 := blk_frozen BK312.out 0; have hfz9_1 := blk_frozen BK312.out 1; have hfz9_2 := blk_frozen BK312.out 2) | ((with_reducible refine gate_callee (f := 18) rfl ?_); refine goesL_ (some 10) rfl rfl Try.func18 (by kernel_rfl) rfl #[.agg #[.slice A0_0 l0_0.length c0_0, .slice A0_1 l0_1.length c0_1, .slice A0_2 l0_2.length c0_2]] rfl (by (try simp only [List.map_toArray, List.map_cons, List.map_nil]); rfl) ?_; (with_reducible refine (simplex_Check.calls k _ _ l0_0 _ _ l0_1 _ _ l0_2 t314 _ ?side1 ?side2 ?side3 ?side4 ?side5 ?side6 A2.out).mono ?_); (case side1 => repeat (exact (Kd.C_below HR0_0.out HB.out))); (case side2 => exact HC0_0.out); (case side3 => repeat (exact (Kd.C_below HR0_1.out HB.out))); (case side4 => exact HC0_1.out); (case side5 => repeat (exact (Kd.C_below HR0_2.out HB.out))); (case side6 => exact HC0_2.out); rintro e w10 ⟨rfl, hb⟩; refine ⟨_, rfl, ?_⟩; have n0_ := Aside0.mk (blk_below (g := gb312) (o := .cells #[.slice A0_0 l0_0.length c0_0, .slice A0_1 l0_1.length c0_1, .slice A0_2 l0_2.length c0_2] 25 (0, 0)) (by (with_reducible repeat (fail)); exact BK312.out) hb); have n1_ := Aside0.mk (blk_below (g := gb313) (o := .cells #[.slice none 0 0, .slice none 0 0, .slice none 0 0] 25 (0, 0)) (by (with_reducible repeat (fail)); exact BK313.out) hb); have n2_ := Aside0.mk (below_step (by repeat ((with_reducible exact HB.out))) hb); clear BK312; clear BK313; clear HB; have BK312 := n0_; have BK313 := n1_; have HB := n2_; clear n0_ n1_ n2_; (try clear hb)))
    have n0_ := Aside0.mk (blk_drew BK312.out)
    have n1_ := Aside0.mk (blk_drew BK313.out)
    have n2_ := Aside0.mk (below_drew1 HB.out)
    clear BK312
    clear BK313
    clear HB
    have BK312 := n0_
    have BK313 := n1_
    have HB := n2_
    clear n0_ n1_ n2_
    refine start_ (n := 9) (S := fun w' => w'.cell? ⟨gb312, 0, none⟩ = some (.slice A0_0 l0_0.length c0_0) ∧ w'.cell? ⟨gb312, 1, none⟩ = some (.slice A0_1 l0_1.length c0_1) ∧ w'.cell? ⟨gb312, 2, none⟩ = some (.slice A0_2 l0_2.length c0_2)) (ds := []) #[false, false, false, false, false, false, false, false, false] (by kernel_rfl) rfl rfl ⟨(blk_cell BK312.out 0).trans rfl, (blk_cell BK312.out 1).trans rfl, (blk_cell BK312.out 2).trans rfl⟩ (fun hHeld => ?_); refine with_tabW simplex_Dual.tab4 simplex_Dual.bits4 (fun HT_ HW_ => ?_)
    generalize w10.drew = w11 at BK312 BK313 HB hHeld ⊢
    refine pure_ (i := 0) (N := some 15) (v := ?_) (a' := ?_) #[true, false, false, false, false, false, false, false, false] rfl rfl (any_of HT_.out (by kernel_rfl)) (fun _ _ _ h => h) (Or.inl ⟨by rfl, ?_⟩) ?_ ?_
    rotate_left
    · intro w'
      go_simp
      with_reducible rfl
    rotate_left
    · simp only [Act.put, List.setIfInBounds_toArray, List.set_cons_zero, List.set_cons_succ, i64_w, i32_w]
      rfl
    refine pure_ (i := 3) (N := some 18) (v := ?_) (a' := ?_) #[true, false, false, true, false, false, false, false, false] rfl rfl (any_of HT_.out (by kernel_rfl)) (fun _ _ _ h => h) (Or.inl ⟨by rfl, ?_⟩) ?_ ?_
    rotate_left
    · intro w'
      go_simp
      with_reducible rfl
    rotate_left
    · simp only [Act.put, List.setIfInBounds_toArray, List.set_cons_zero, List.set_cons_succ, i64_w, i32_w]
      rfl
    refine take_ (i := 1) (N := some 16) (v := ?_) (a' := ?_) #[true, true, false, true, false, false, false, false, false] rfl rfl (take_ofW HT_.out HW_.out (by kernel_rfl)) (fun _ _ _ h => h) (Or.inl ⟨by rfl, ?_⟩) hHeld ?_ ?_
    rotate_left
    · rintro w' ⟨s0, s1, s2⟩
      go_simp
      with_reducible rfl
    rotate_left
    · simp only [Act.put, List.setIfInBounds_toArray, List.set_cons_zero, List.set_cons_succ, i64_w, i32_w]
      rfl
    refine take_ (i := 4) (N := some 19) (v := ?_) (a' := ?_) #[true, true, false, true, true, false, false, false, false] rfl rfl (take_ofW HT_.out HW_.out (by kernel_rfl)) (fun _ _ _ h => h) (Or.inl ⟨by rfl, ?_⟩) hHeld ?_ ?_
    rotate_left
    · rintro w' ⟨s0, s1, s2⟩
      go_simp
      with_reducible rfl
    rotate_left
    · simp only [Act.put, List.setIfInBounds_toArray, List.set_cons_zero, List.set_cons_succ, i64_w, i32_w]
      rfl
    refine join_ (σ := Value × Value × Nat) 1 #[true, true, true, true, true, true, true, true, false] (fun s_ => [(17, s_.1), (20, s_.2.1), (5, .pointer (some ⟨s_.2.2, 0, none⟩)), (21, .agg #[s_.1, .slice none 0 0, s_.2.1])]) (fun s_ w' => (w'.cell? ⟨gb312, 0, none⟩ = some (.slice A0_0 l0_0.length c0_0) ∧ w'.cell? ⟨gb312, 1, none⟩ = some (.slice A0_1 l0_1.length c0_1) ∧ w'.cell? ⟨gb312, 2, none⟩ = some (.slice A0_2 l0_2.length c0_2)) ∧ (Kd.S k46 46 w' w.heap.size (fun k_ => some k_ ≠ (s_.2.1 : Value).ownBlock) s_.1 t315) ∧ (Kd.S k46 46 w' w.heap.size (fun k_ => some k_ ≠ (s_.1 : Value).ownBlock) s_.2.1 t318) ∧ (w'.heap[gb312]? = some (.cells #[.slice A0_0 l0_0.length c0_0, .slice A0_1 l0_1.length c0_1, .slice A0_2 l0_2.length c0_2] 25 (0, 0))) ∧ (w'.heap[gb313]? = some (.cells #[.slice none 0 0, .slice none 0 0, .slice none 0 0] 25 (0, 0))) ∧ (w'.heap[s_.2.2]? = some (.cells #[.slice none 0 0, .slice none 0 0, .slice none 0 0] 25 (0, 0))) ∧ (w.heap.size ≤ s_.2.2) ∧ (w.heap.size ≤ s_.2.2) ∧ (gb312 ≠ s_.2.2) ∧ (s_.2.2 ≠ gb312) ∧ (gb313 ≠ s_.2.2) ∧ (s_.2.2 ≠ gb313) ∧ (Below w.heap.size w w')) ?_ ?_
    rotate_left
    · intro hCont
      refine two_ (i := 2) (j := 7) (Ni := some 17) (Nj := some 5) #[true, true, true, true, true, false, false, false, false] #[true, true, false, true, true, false, false, true, false] rfl rfl rfl rfl (two_of HT_.out (by kernel_rfl)) (by decide) (by decide) (fun K hK => ?_) (fun K hK => ?_)
      · skip
        refine goes_ Try.func59 (by kernel_rfl) rfl #[.slice A0_2 l0_2.length c0_2] (by rfl) rfl rfl (by (try simp only [List.map_toArray, List.map_cons, List.map_nil]); rfl) ?_
        with_reducible refine (simplex_negative.calls k _ _ l0_2 t315 _ ?side1 ?side2 A4.out).mono ?_
        (case side1 => repeat (exact (Kd.C_below HR0_2.out HB.out)))
        (case side2 => exact HC0_2.out)
        rintro e w12 ⟨v316, rfl, ho0, hb⟩
        refine ⟨_, rfl, ?_⟩
        have n0_ := Aside0.mk (Kd.S_lower ho0 (below_size (by repeat ((with_reducible exact HB.out)))))
        have n1_ := Aside0.mk (blk_below (g := gb312) (o := .cells #[.slice A0_0 l0_0.length c0_0, .slice A0_1 l0_1.length c0_1, .slice A0_2 l0_2.length c0_2] 25 (0, 0)) (by (with_reducible repeat (fail)); exact BK312.out) hb)
        have n2_ := Aside0.mk (blk_below (g := gb313) (o := .cells #[.slice none 0 0, .slice none 0 0, .slice none 0 0] 25 (0, 0)) (by (with_reducible repeat (fail)); exact BK313.out) hb)
        have n3_ := Aside0.mk (below_step (by repeat ((with_reducible exact HB.out))) hb)
        clear BK312
        clear BK313
        clear HB
        have HO317 := n0_
        have BK312 := n1_
        have BK313 := n2_
        have HB := n3_
        clear n0_ n1_ n2_ n3_
        (try clear hb)
        (try clear ho0)
        refine hK.out _ _ ⟨(blk_cell BK312.out 0).trans rfl, (blk_cell BK312.out 1).trans rfl, (blk_cell BK312.out 2).trans rfl⟩ (fun hHeld => ?_)
        clear hK K
        refine norm_ (a' := ?_) ?_ ?_
        rotate_left
        · show Act.put _ (some 17) _ = _
          simp only [Act.put, List.setIfInBounds_toArray, List.set_cons_zero, List.set_cons_succ, i64_w, i32_w]
          rfl
        refine two_ (i := 5) (j := 7) (Ni := some 20) (Nj := some 5) #[true, true, true, true, true, true, false, false, false] #[true, true, true, true, true, false, false, true, false] rfl rfl rfl rfl (two_of HT_.out (by kernel_rfl)) (by decide) (by decide) (fun K hK => ?_) (fun K hK => ?_)
        · skip
          refine goes_ Try.func59 (by kernel_rfl) rfl #[.slice A0_0 l0_0.length c0_0] (by rfl) rfl rfl (by (try simp only [List.map_toArray, List.map_cons, List.map_nil]); rfl) ?_
          with_reducible refine (simplex_negative.calls k _ _ l0_0 t318 _ ?side1 ?side2 A5.out).mono ?_
          (case side1 => repeat (exact (Kd.C_below HR0_0.out HB.out)))
          (case side2 => exact HC0_0.out)
          rintro e w13 ⟨v319, rfl, ho0, hb⟩
          refine ⟨_, rfl, ?_⟩
          have n0_ := Aside0.mk (Kd.S_elder' (by (with_reducible repeat (fail)); exact HO317.out) (Kd.S_base ho0) hb)
          have n1_ := Aside0.mk (Kd.S_lower (Kd.S_new' ho0 (Kd.S_lt (by (with_reducible repeat (fail)); exact HO317.out))) (below_size (by repeat ((with_reducible exact HB.out)))))
          have n2_ := Aside0.mk (blk_below (g := gb312) (o := .cells #[.slice A0_0 l0_0.length c0_0, .slice A0_1 l0_1.length c0_1, .slice A0_2 l0_2.length c0_2] 25 (0, 0)) (by (with_reducible repeat (fail)); exact BK312.out) hb)
          have n3_ := Aside0.mk (blk_below (g := gb313) (o := .cells #[.slice none 0 0, .slice none 0 0, .slice none 0 0] 25 (0, 0)) (by (with_reducible repeat (fail)); exact BK313.out) hb)
          have n4_ := Aside0.mk (below_step (by repeat ((with_reducible exact HB.out))) hb)
          clear HO317
          clear BK312
          clear BK313
          clear HB
          have HO317 := n0_
          have HO320 := n1_
          have BK312 := n2_
          have BK313 := n3_
          have HB := n4_
          clear n0_ n1_ n2_ n3_ n4_
          (try clear hb)
          (try clear ho0)
          obtain ⟨Ao14, co14, eo14⟩ := Kd.S_slice HO320.out
          (subst eo14)
          obtain ⟨Ao15, co15, eo15⟩ := Kd.S_slice HO317.out
          (subst eo15)
          refine hK.out _ _ ⟨(blk_cell BK312.out 0).trans rfl, (blk_cell BK312.out 1).trans rfl, (blk_cell BK312.out 2).trans rfl⟩ (fun hHeld => ?_)
          clear hK K
          refine norm_ (a' := ?_) ?_ ?_
          rotate_left
          · show Act.put _ (some 20) _ = _
            simp only [Act.put, List.setIfInBounds_toArray, List.set_cons_zero, List.set_cons_succ, i64_w, i32_w]
            rfl
          refine pure_ (i := 6) (N := some 21) (v := ?_) (a' := ?_) #[true, true, true, true, true, true, true, false, false] rfl rfl (any_of HT_.out (by kernel_rfl)) (fun _ _ _ h => h) (Or.inl ⟨by rfl, ?_⟩) ?_ ?_
          rotate_left
          · intro w'
            go_simp
            with_reducible rfl
          rotate_left
          · simp only [Act.put, List.setIfInBounds_toArray, List.set_cons_zero, List.set_cons_succ, i64_w, i32_w]
            rfl
          refine one_ (i := 7) (N := some 5) #[true, true, true, true, true, true, true, true, false] rfl rfl (one_of HT_.out (by kernel_rfl)) (by decide) (fun K hK => ?_)
          refine box_step ?hg (N := 5) ?hd (cs := #[.slice none 0 0, .slice none 0 0, .slice none 0 0]) (t := 25) ?hr ?_; (case hd => rfl); (case hg => rfl); (case hr => (go_simp; done))
          intro gb321 hg w16 hbox hb
          have n0_ := Aside0.mk (Kd.S_below (by (with_reducible repeat (fail)); exact HO317.out) hb)
          have n1_ := Aside0.mk (Kd.S_below (by (with_reducible repeat (fail)); exact HO320.out) hb)
          have n2_ := Aside0.mk (blk_below (g := gb312) (o := .cells #[.slice A0_0 l0_0.length c0_0, .slice A0_1 l0_1.length c0_1, .slice A0_2 l0_2.length c0_2] 25 (0, 0)) (by (with_reducible repeat (fail)); exact BK312.out) hb)
          have n3_ := Aside0.mk (blk_below (g := gb313) (o := .cells #[.slice none 0 0, .slice none 0 0, .slice none 0 0] 25 (0, 0)) (by (with_reducible repeat (fail)); exact BK313.out) hb)
          have n4_ := Aside0.mk (below_step (by repeat ((with_reducible exact HB.out))) hb)
          have n5_ := Aside0.mk (hbox)
          have n6_ := Aside0.mk ((by rw [hg]; exact (below_size (by repeat ((with_reducible exact HB.out)))) : w.heap.size ≤ gb321))
          have n7_ := Aside0.mk ((by rw [hg]; exact (below_size (by repeat ((with_reducible exact HB.out)))) : w.heap.size ≤ gb321))
          have n8_ := Aside0.mk ((by rw [hg]; exact Nat.ne_of_lt (blk_lt (g := gb312) (o := .cells #[.slice A0_0 l0_0.length c0_0, .slice A0_1 l0_1.length c0_1, .slice A0_2 l0_2.length c0_2] 25 (0, 0)) (by (with_reducible repeat (fail)); exact BK312.out)) : gb312 ≠ gb321))
          have n9_ := Aside0.mk ((by rw [hg]; exact Nat.ne_of_gt (blk_lt (g := gb312) (o := .cells #[.slice A0_0 l0_0.length c0_0, .slice A0_1 l0_1.length c0_1, .slice A0_2 l0_2.length c0_2] 25 (0, 0)) (by (with_reducible repeat (fail)); exact BK312.out)) : gb321 ≠ gb312))
          have n10_ := Aside0.mk ((by rw [hg]; exact Nat.ne_of_lt (blk_lt (g := gb313) (o := .cells #[.slice none 0 0, .slice none 0 0, .slice none 0 0] 25 (0, 0)) (by (with_reducible repeat (fail)); exact BK313.out)) : gb313 ≠ gb321))
          have n11_ := Aside0.mk ((by rw [hg]; exact Nat.ne_of_gt (blk_lt (g := gb313) (o := .cells #[.slice none 0 0, .slice none 0 0, .slice none 0 0] 25 (0, 0)) (by (with_reducible repeat (fail)); exact BK313.out)) : gb321 ≠ gb313))
          clear HO317
          clear HO320
          clear BK312
          clear BK313
          clear HB
          have HO317 := n0_
          have HO320 := n1_
          have BK312 := n2_
          have BK313 := n3_
          have HB := n4_
          have BK321 := n5_
          have GW321 := n6_
          have GE321 := n7_
          have NB312_321 := n8_
          have NB321_312 := n9_
          have NB313_321 := n10_
          have NB321_313 := n11_
          clear n0_ n1_ n2_ n3_ n4_ n5_ n6_ n7_ n8_ n9_ n10_ n11_
          clear hb hbox hg
          refine hK.out _ _ ⟨(blk_cell BK312.out 0).trans rfl, (blk_cell BK312.out 1).trans rfl, (blk_cell BK312.out 2).trans rfl⟩ (fun hHeld => ?_)
          clear hK K
          refine norm_ (a' := ?_) ?_ ?_
          rotate_left
          · show Act.put _ (some 5) _ = _
            simp only [Act.put, List.setIfInBounds_toArray, List.set_cons_zero, List.set_cons_succ, i64_w, i32_w]
            rfl
          exact norm_ (by simp only [putAll, Act.put, List.setIfInBounds_toArray, List.set_cons_zero, List.set_cons_succ]) (hCont (.slice Ao15 t315.length co15, .slice Ao14 t318.length co14, gb321) _ ⟨hHeld, (by (with_reducible repeat (fail)); exact Kd.S_mono HO317.out (fun _ hk => hk.2)), (by (with_reducible repeat (fail)); exact Kd.S_mono HO320.out (fun _ hk => hk.2)), (by (with_reducible repeat (fail)); exact BK312.out), (by (with_reducible repeat (fail)); exact BK313.out), (by (with_reducible repeat (fail)); exact BK321.out), GW321.out, GE321.out, NB312_321.out, NB321_312.out, NB313_321.out, NB321_313.out, (by repeat ((with_reducible exact HB.out)))⟩)
        · skip
          refine box_step ?hg (N := 5) ?hd (cs := #[.slice none 0 0, .slice none 0 0, .slice none 0 0]) (t := 25) ?hr ?_; (case hd => rfl); (case hg => rfl); (case hr => (go_simp; done))
          intro gb321 hg w13 hbox hb
          have n0_ := Aside0.mk (Kd.S_below (by (with_reducible repeat (fail)); exact HO317.out) hb)
          have n1_ := Aside0.mk (blk_below (g := gb312) (o := .cells #[.slice A0_0 l0_0.length c0_0, .slice A0_1 l0_1.length c0_1, .slice A0_2 l0_2.length c0_2] 25 (0, 0)) (by (with_reducible repeat (fail)); exact BK312.out) hb)
          have n2_ := Aside0.mk (blk_below (g := gb313) (o := .cells #[.slice none 0 0, .slice none 0 0, .slice none 0 0] 25 (0, 0)) (by (with_reducible repeat (fail)); exact BK313.out) hb)
          have n3_ := Aside0.mk (below_step (by repeat ((with_reducible exact HB.out))) hb)
          have n4_ := Aside0.mk (hbox)
          have n5_ := Aside0.mk ((by rw [hg]; exact (below_size (by repeat ((with_reducible exact HB.out)))) : w.heap.size ≤ gb321))
          have n6_ := Aside0.mk ((by rw [hg]; exact (below_size (by repeat ((with_reducible exact HB.out)))) : w.heap.size ≤ gb321))
          have n7_ := Aside0.mk ((by rw [hg]; exact Nat.ne_of_lt (blk_lt (g := gb312) (o := .cells #[.slice A0_0 l0_0.length c0_0, .slice A0_1 l0_1.length c0_1, .slice A0_2 l0_2.length c0_2] 25 (0, 0)) (by (with_reducible repeat (fail)); exact BK312.out)) : gb312 ≠ gb321))
          have n8_ := Aside0.mk ((by rw [hg]; exact Nat.ne_of_gt (blk_lt (g := gb312) (o := .cells #[.slice A0_0 l0_0.length c0_0, .slice A0_1 l0_1.length c0_1, .slice A0_2 l0_2.length c0_2] 25 (0, 0)) (by (with_reducible repeat (fail)); exact BK312.out)) : gb321 ≠ gb312))
          have n9_ := Aside0.mk ((by rw [hg]; exact Nat.ne_of_lt (blk_lt (g := gb313) (o := .cells #[.slice none 0 0, .slice none 0 0, .slice none 0 0] 25 (0, 0)) (by (with_reducible repeat (fail)); exact BK313.out)) : gb313 ≠ gb321))
          have n10_ := Aside0.mk ((by rw [hg]; exact Nat.ne_of_gt (blk_lt (g := gb313) (o := .cells #[.slice none 0 0, .slice none 0 0, .slice none 0 0] 25 (0, 0)) (by (with_reducible repeat (fail)); exact BK313.out)) : gb321 ≠ gb313))
          clear HO317
          clear BK312
          clear BK313
          clear HB
          have HO317 := n0_
          have BK312 := n1_
          have BK313 := n2_
          have HB := n3_
          have BK321 := n4_
          have GW321 := n5_
          have GE321 := n6_
          have NB312_321 := n7_
          have NB321_312 := n8_
          have NB313_321 := n9_
          have NB321_313 := n10_
          clear n0_ n1_ n2_ n3_ n4_ n5_ n6_ n7_ n8_ n9_ n10_
          clear hb hbox hg
          refine hK.out _ _ ⟨(blk_cell BK312.out 0).trans rfl, (blk_cell BK312.out 1).trans rfl, (blk_cell BK312.out 2).trans rfl⟩ (fun hHeld => ?_)
          clear hK K
          refine norm_ (a' := ?_) ?_ ?_
          rotate_left
          · show Act.put _ (some 5) _ = _
            simp only [Act.put, List.setIfInBounds_toArray, List.set_cons_zero, List.set_cons_succ, i64_w, i32_w]
            rfl
          refine one_ (i := 5) (N := some 20) #[true, true, true, true, true, true, false, true, false] rfl rfl (one_of HT_.out (by kernel_rfl)) (by decide) (fun K hK => ?_)
          refine goes_ Try.func59 (by kernel_rfl) rfl #[.slice A0_0 l0_0.length c0_0] (by rfl) rfl rfl (by (try simp only [List.map_toArray, List.map_cons, List.map_nil]); rfl) ?_
          with_reducible refine (simplex_negative.calls k _ _ l0_0 t318 _ ?side1 ?side2 A5.out).mono ?_
          (case side1 => repeat (exact (Kd.C_below HR0_0.out HB.out)))
          (case side2 => exact HC0_0.out)
          rintro e w14 ⟨v319, rfl, ho0, hb⟩
          refine ⟨_, rfl, ?_⟩
          have n0_ := Aside0.mk (Kd.S_elder' (by (with_reducible repeat (fail)); exact HO317.out) (Kd.S_base ho0) hb)
          have n1_ := Aside0.mk (Kd.S_lower (Kd.S_new' ho0 (Kd.S_lt (by (with_reducible repeat (fail)); exact HO317.out))) (below_size (by repeat ((with_reducible exact HB.out)))))
          have n2_ := Aside0.mk (blk_below (g := gb312) (o := .cells #[.slice A0_0 l0_0.length c0_0, .slice A0_1 l0_1.length c0_1, .slice A0_2 l0_2.length c0_2] 25 (0, 0)) (by (with_reducible repeat (fail)); exact BK312.out) hb)
          have n3_ := Aside0.mk (blk_below (g := gb313) (o := .cells #[.slice none 0 0, .slice none 0 0, .slice none 0 0] 25 (0, 0)) (by (with_reducible repeat (fail)); exact BK313.out) hb)
          have n4_ := Aside0.mk (blk_below (g := gb321) (o := .cells #[.slice none 0 0, .slice none 0 0, .slice none 0 0] 25 (0, 0)) (by (with_reducible repeat (fail)); exact BK321.out) hb)
          have n5_ := Aside0.mk (below_step (by repeat ((with_reducible exact HB.out))) hb)
          clear HO317
          clear BK312
          clear BK313
          clear BK321
          clear HB
          have HO317 := n0_
          have HO320 := n1_
          have BK312 := n2_
          have BK313 := n3_
          have BK321 := n4_
          have HB := n5_
          clear n0_ n1_ n2_ n3_ n4_ n5_
          (try clear hb)
          (try clear ho0)
          obtain ⟨Ao15, co15, eo15⟩ := Kd.S_slice HO320.out
          (subst eo15)
          obtain ⟨Ao16, co16, eo16⟩ := Kd.S_slice HO317.out
          (subst eo16)
          refine hK.out _ _ ⟨(blk_cell BK312.out 0).trans rfl, (blk_cell BK312.out 1).trans rfl, (blk_cell BK312.out 2).trans rfl⟩ (fun hHeld => ?_)
          clear hK K
          refine norm_ (a' := ?_) ?_ ?_
          rotate_left
          · show Act.put _ (some 20) _ = _
            simp only [Act.put, List.setIfInBounds_toArray, List.set_cons_zero, List.set_cons_succ, i64_w, i32_w]
            rfl
          refine pure_ (i := 6) (N := some 21) (v := ?_) (a' := ?_) #[true, true, true, true, true, true, true, true, false] rfl rfl (any_of HT_.out (by kernel_rfl)) (fun _ _ _ h => h) (Or.inl ⟨by rfl, ?_⟩) ?_ ?_
          rotate_left
          · intro w'
            go_simp
            with_reducible rfl
          rotate_left
          · simp only [Act.put, List.setIfInBounds_toArray, List.set_cons_zero, List.set_cons_succ, i64_w, i32_w]
            rfl
          exact norm_ (by simp only [putAll, Act.put, List.setIfInBounds_toArray, List.set_cons_zero, List.set_cons_succ]) (hCont (.slice Ao16 t315.length co16, .slice Ao15 t318.length co15, gb321) _ ⟨hHeld, (by (with_reducible repeat (fail)); exact Kd.S_mono HO317.out (fun _ hk => hk.2)), (by (with_reducible repeat (fail)); exact Kd.S_mono HO320.out (fun _ hk => hk.2)), (by (with_reducible repeat (fail)); exact BK312.out), (by (with_reducible repeat (fail)); exact BK313.out), (by (with_reducible repeat (fail)); exact BK321.out), GW321.out, GE321.out, NB312_321.out, NB321_312.out, NB313_321.out, NB321_313.out, (by repeat ((with_reducible exact HB.out)))⟩)
      · skip
        refine box_step ?hg (N := 5) ?hd (cs := #[.slice none 0 0, .slice none 0 0, .slice none 0 0]) (t := 25) ?hr ?_; (case hd => rfl); (case hg => rfl); (case hr => (go_simp; done))
        intro gb321 hg w12 hbox hb
        have n0_ := Aside0.mk (blk_below (g := gb312) (o := .cells #[.slice A0_0 l0_0.length c0_0, .slice A0_1 l0_1.length c0_1, .slice A0_2 l0_2.length c0_2] 25 (0, 0)) (by (with_reducible repeat (fail)); exact BK312.out) hb)
        have n1_ := Aside0.mk (blk_below (g := gb313) (o := .cells #[.slice none 0 0, .slice none 0 0, .slice none 0 0] 25 (0, 0)) (by (with_reducible repeat (fail)); exact BK313.out) hb)
        have n2_ := Aside0.mk (below_step (by repeat ((with_reducible exact HB.out))) hb)
        have n3_ := Aside0.mk (hbox)
        have n4_ := Aside0.mk ((by rw [hg]; exact (below_size (by repeat ((with_reducible exact HB.out)))) : w.heap.size ≤ gb321))
        have n5_ := Aside0.mk ((by rw [hg]; exact (below_size (by repeat ((with_reducible exact HB.out)))) : w.heap.size ≤ gb321))
        have n6_ := Aside0.mk ((by rw [hg]; exact Nat.ne_of_lt (blk_lt (g := gb312) (o := .cells #[.slice A0_0 l0_0.length c0_0, .slice A0_1 l0_1.length c0_1, .slice A0_2 l0_2.length c0_2] 25 (0, 0)) (by (with_reducible repeat (fail)); exact BK312.out)) : gb312 ≠ gb321))
        have n7_ := Aside0.mk ((by rw [hg]; exact Nat.ne_of_gt (blk_lt (g := gb312) (o := .cells #[.slice A0_0 l0_0.length c0_0, .slice A0_1 l0_1.length c0_1, .slice A0_2 l0_2.length c0_2] 25 (0, 0)) (by (with_reducible repeat (fail)); exact BK312.out)) : gb321 ≠ gb312))
        have n8_ := Aside0.mk ((by rw [hg]; exact Nat.ne_of_lt (blk_lt (g := gb313) (o := .cells #[.slice none 0 0, .slice none 0 0, .slice none 0 0] 25 (0, 0)) (by (with_reducible repeat (fail)); exact BK313.out)) : gb313 ≠ gb321))
        have n9_ := Aside0.mk ((by rw [hg]; exact Nat.ne_of_gt (blk_lt (g := gb313) (o := .cells #[.slice none 0 0, .slice none 0 0, .slice none 0 0] 25 (0, 0)) (by (with_reducible repeat (fail)); exact BK313.out)) : gb321 ≠ gb313))
        clear BK312
        clear BK313
        clear HB
        have BK312 := n0_
        have BK313 := n1_
        have HB := n2_
        have BK321 := n3_
        have GW321 := n4_
        have GE321 := n5_
        have NB312_321 := n6_
        have NB321_312 := n7_
        have NB313_321 := n8_
        have NB321_313 := n9_
        clear n0_ n1_ n2_ n3_ n4_ n5_ n6_ n7_ n8_ n9_
        clear hb hbox hg
        refine hK.out _ _ ⟨(blk_cell BK312.out 0).trans rfl, (blk_cell BK312.out 1).trans rfl, (blk_cell BK312.out 2).trans rfl⟩ (fun hHeld => ?_)
        clear hK K
        refine norm_ (a' := ?_) ?_ ?_
        rotate_left
        · show Act.put _ (some 5) _ = _
          simp only [Act.put, List.setIfInBounds_toArray, List.set_cons_zero, List.set_cons_succ, i64_w, i32_w]
          rfl
        refine one_ (i := 2) (N := some 17) #[true, true, true, true, true, false, false, true, false] rfl rfl (one_of HT_.out (by kernel_rfl)) (by decide) (fun K hK => ?_)
        refine goes_ Try.func59 (by kernel_rfl) rfl #[.slice A0_2 l0_2.length c0_2] (by rfl) rfl rfl (by (try simp only [List.map_toArray, List.map_cons, List.map_nil]); rfl) ?_
        with_reducible refine (simplex_negative.calls k _ _ l0_2 t315 _ ?side1 ?side2 A4.out).mono ?_
        (case side1 => repeat (exact (Kd.C_below HR0_2.out HB.out)))
        (case side2 => exact HC0_2.out)
        rintro e w13 ⟨v316, rfl, ho0, hb⟩
        refine ⟨_, rfl, ?_⟩
        have n0_ := Aside0.mk (Kd.S_lower ho0 (below_size (by repeat ((with_reducible exact HB.out)))))
        have n1_ := Aside0.mk (blk_below (g := gb312) (o := .cells #[.slice A0_0 l0_0.length c0_0, .slice A0_1 l0_1.length c0_1, .slice A0_2 l0_2.length c0_2] 25 (0, 0)) (by (with_reducible repeat (fail)); exact BK312.out) hb)
        have n2_ := Aside0.mk (blk_below (g := gb313) (o := .cells #[.slice none 0 0, .slice none 0 0, .slice none 0 0] 25 (0, 0)) (by (with_reducible repeat (fail)); exact BK313.out) hb)
        have n3_ := Aside0.mk (blk_below (g := gb321) (o := .cells #[.slice none 0 0, .slice none 0 0, .slice none 0 0] 25 (0, 0)) (by (with_reducible repeat (fail)); exact BK321.out) hb)
        have n4_ := Aside0.mk (below_step (by repeat ((with_reducible exact HB.out))) hb)
        clear BK312
        clear BK313
        clear BK321
        clear HB
        have HO317 := n0_
        have BK312 := n1_
        have BK313 := n2_
        have BK321 := n3_
        have HB := n4_
        clear n0_ n1_ n2_ n3_ n4_
        (try clear hb)
        (try clear ho0)
        refine hK.out _ _ ⟨(blk_cell BK312.out 0).trans rfl, (blk_cell BK312.out 1).trans rfl, (blk_cell BK312.out 2).trans rfl⟩ (fun hHeld => ?_)
        clear hK K
        refine norm_ (a' := ?_) ?_ ?_
        rotate_left
        · show Act.put _ (some 17) _ = _
          simp only [Act.put, List.setIfInBounds_toArray, List.set_cons_zero, List.set_cons_succ, i64_w, i32_w]
          rfl
        refine one_ (i := 5) (N := some 20) #[true, true, true, true, true, true, false, true, false] rfl rfl (one_of HT_.out (by kernel_rfl)) (by decide) (fun K hK => ?_)
        refine goes_ Try.func59 (by kernel_rfl) rfl #[.slice A0_0 l0_0.length c0_0] (by rfl) rfl rfl (by (try simp only [List.map_toArray, List.map_cons, List.map_nil]); rfl) ?_
        with_reducible refine (simplex_negative.calls k _ _ l0_0 t318 _ ?side1 ?side2 A5.out).mono ?_
        (case side1 => repeat (exact (Kd.C_below HR0_0.out HB.out)))
        (case side2 => exact HC0_0.out)
        rintro e w14 ⟨v319, rfl, ho0, hb⟩
        refine ⟨_, rfl, ?_⟩
        have n0_ := Aside0.mk (Kd.S_elder' (by (with_reducible repeat (fail)); exact HO317.out) (Kd.S_base ho0) hb)
        have n1_ := Aside0.mk (Kd.S_lower (Kd.S_new' ho0 (Kd.S_lt (by (with_reducible repeat (fail)); exact HO317.out))) (below_size (by repeat ((with_reducible exact HB.out)))))
        have n2_ := Aside0.mk (blk_below (g := gb312) (o := .cells #[.slice A0_0 l0_0.length c0_0, .slice A0_1 l0_1.length c0_1, .slice A0_2 l0_2.length c0_2] 25 (0, 0)) (by (with_reducible repeat (fail)); exact BK312.out) hb)
        have n3_ := Aside0.mk (blk_below (g := gb313) (o := .cells #[.slice none 0 0, .slice none 0 0, .slice none 0 0] 25 (0, 0)) (by (with_reducible repeat (fail)); exact BK313.out) hb)
        have n4_ := Aside0.mk (blk_below (g := gb321) (o := .cells #[.slice none 0 0, .slice none 0 0, .slice none 0 0] 25 (0, 0)) (by (with_reducible repeat (fail)); exact BK321.out) hb)
        have n5_ := Aside0.mk (below_step (by repeat ((with_reducible exact HB.out))) hb)
        clear HO317
        clear BK312
        clear BK313
        clear BK321
        clear HB
        have HO317 := n0_
        have HO320 := n1_
        have BK312 := n2_
        have BK313 := n3_
        have BK321 := n4_
        have HB := n5_
        clear n0_ n1_ n2_ n3_ n4_ n5_
        (try clear hb)
        (try clear ho0)
        obtain ⟨Ao15, co15, eo15⟩ := Kd.S_slice HO320.out
        (subst eo15)
        obtain ⟨Ao16, co16, eo16⟩ := Kd.S_slice HO317.out
        (subst eo16)
        refine hK.out _ _ ⟨(blk_cell BK312.out 0).trans rfl, (blk_cell BK312.out 1).trans rfl, (blk_cell BK312.out 2).trans rfl⟩ (fun hHeld => ?_)
        clear hK K
        refine norm_ (a' := ?_) ?_ ?_
        rotate_left
        · show Act.put _ (some 20) _ = _
          simp only [Act.put, List.setIfInBounds_toArray, List.set_cons_zero, List.set_cons_succ, i64_w, i32_w]
          rfl
        refine pure_ (i := 6) (N := some 21) (v := ?_) (a' := ?_) #[true, true, true, true, true, true, true, true, false] rfl rfl (any_of HT_.out (by kernel_rfl)) (fun _ _ _ h => h) (Or.inl ⟨by rfl, ?_⟩) ?_ ?_
        rotate_left
        · intro w'
          go_simp
          with_reducible rfl
        rotate_left
        · simp only [Act.put, List.setIfInBounds_toArray, List.set_cons_zero, List.set_cons_succ, i64_w, i32_w]
          rfl
        exact norm_ (by simp only [putAll, Act.put, List.setIfInBounds_toArray, List.set_cons_zero, List.set_cons_succ]) (hCont (.slice Ao16 t315.length co16, .slice Ao15 t318.length co15, gb321) _ ⟨hHeld, (by (with_reducible repeat (fail)); exact Kd.S_mono HO317.out (fun _ hk => hk.2)), (by (with_reducible repeat (fail)); exact Kd.S_mono HO320.out (fun _ hk => hk.2)), (by (with_reducible repeat (fail)); exact BK312.out), (by (with_reducible repeat (fail)); exact BK313.out), (by (with_reducible repeat (fail)); exact BK321.out), GW321.out, GE321.out, NB312_321.out, NB321_312.out, NB313_321.out, NB321_313.out, (by repeat ((with_reducible exact HB.out)))⟩)
    rintro ⟨v316, v319, gb321⟩ w17 ⟨hS_, h0_, h1_, h2_, h3_, h4_, h5_, h6_, h7_, h8_, h9_, h10_, h11_⟩
    have n0_ : Aside0 (Kd.S k46 46 w17 w.heap.size (fun k_ => some k_ ≠ (v319 : Value).ownBlock) v316 t315) := ⟨h0_⟩
    have n1_ : Aside0 (Kd.S k46 46 w17 w.heap.size (fun k_ => some k_ ≠ (v316 : Value).ownBlock) v319 t318) := ⟨h1_⟩
    have n2_ : Aside0 (w17.heap[gb312]? = some (.cells #[.slice A0_0 l0_0.length c0_0, .slice A0_1 l0_1.length c0_1, .slice A0_2 l0_2.length c0_2] 25 (0, 0))) := ⟨h2_⟩
    have n3_ : Aside0 (w17.heap[gb313]? = some (.cells #[.slice none 0 0, .slice none 0 0, .slice none 0 0] 25 (0, 0))) := ⟨h3_⟩
    have n4_ : Aside0 (w17.heap[gb321]? = some (.cells #[.slice none 0 0, .slice none 0 0, .slice none 0 0] 25 (0, 0))) := ⟨h4_⟩
    have n5_ : Aside0 (w.heap.size ≤ gb321) := ⟨h5_⟩
    have n6_ : Aside0 (w.heap.size ≤ gb321) := ⟨h6_⟩
    have n7_ : Aside0 (gb312 ≠ gb321) := ⟨h7_⟩
    have n8_ : Aside0 (gb321 ≠ gb312) := ⟨h8_⟩
    have n9_ : Aside0 (gb313 ≠ gb321) := ⟨h9_⟩
    have n10_ : Aside0 (gb321 ≠ gb313) := ⟨h10_⟩
    have n11_ : Aside0 (Below w.heap.size w w17) := ⟨h11_⟩
    clear BK312
    clear BK313
    clear HB
    clear h0_ h1_ h2_ h3_ h4_ h5_ h6_ h7_ h8_ h9_ h10_ h11_
    have HO317 := n0_
    have HO320 := n1_
    have BK312 := n2_
    have BK313 := n3_
    have BK321 := n4_
    have GW321 := n5_
    have GE321 := n6_
    have NB312_321 := n7_
    have NB321_312 := n8_
    have NB313_321 := n9_
    have NB321_313 := n10_
    have HB := n11_
    clear n0_ n1_ n2_ n3_ n4_ n5_ n6_ n7_ n8_ n9_ n10_ n11_
    have hHeld : w17.cell? ⟨gb312, 0, none⟩ = some (.slice A0_0 l0_0.length c0_0) ∧ w17.cell? ⟨gb312, 1, none⟩ = some (.slice A0_1 l0_1.length c0_1) ∧ w17.cell? ⟨gb312, 2, none⟩ = some (.slice A0_2 l0_2.length c0_2) := hS_
    obtain ⟨Ao18, co18, eo18⟩ := Kd.S_slice HO320.out
    (subst eo18)
    obtain ⟨Ao19, co19, eo19⟩ := Kd.S_slice HO317.out
    (subst eo19)
    refine norm_ (a' := ?_) ?_ ?_
    rotate_left
    · simp only [putAll, Act.put, List.setIfInBounds_toArray, List.set_cons_zero, List.set_cons_succ]
      rfl
    refine one_ (i := 8) (N := none) #[true, true, true, true, true, true, true, true, true] rfl rfl (one_of HT_.out (by kernel_rfl)) (by decide) (fun K hK => ?_)
    have hs20 : w17.cell? ⟨gb321, 0, none⟩ = some (.slice none 0 0) := (blk_cell BK321.out 0).trans rfl
    have hfs20 := blk_frozen BK321.out 0
    have hns20_0 := NB312_321.out
    have hns20_1 := NB313_321.out
    have hms20_0 := NB321_312.out
    have hms20_1 := NB321_313.out
    have hs21 : w17.cell? ⟨gb321, 1, none⟩ = some (.slice none 0 0) := (blk_cell BK321.out 1).trans rfl
    have hfs21 := blk_frozen BK321.out 1
    have hns21_0 := NB312_321.out
    have hns21_1 := NB313_321.out
    have hms21_0 := NB321_312.out
    have hms21_1 := NB321_313.out
    have hs22 : w17.cell? ⟨gb321, 2, none⟩ = some (.slice none 0 0) := (blk_cell BK321.out 2).trans rfl
    have hfs22 := blk_frozen BK321.out 2
    have hns22_0 := NB312_321.out
    have hns22_1 := NB313_321.out
    have hms22_0 := NB321_312.out
    have hms22_1 := NB321_313.out
    refine skip_ (w1 := ?_) (by rfl) rfl ?_ ?_
    rotate_left
    · go_simp
      rfl
    refine hK.out _ _ ⟨((cell_far (p := ⟨gb321, _, none⟩) NB312_321.out _).trans (((cell_far (p := ⟨gb321, _, none⟩) NB312_321.out _).trans (((cell_far (p := ⟨gb321, _, none⟩) NB312_321.out _).trans (hHeld.1)))))), ((cell_far (p := ⟨gb321, _, none⟩) NB312_321.out _).trans (((cell_far (p := ⟨gb321, _, none⟩) NB312_321.out _).trans (((cell_far (p := ⟨gb321, _, none⟩) NB312_321.out _).trans (hHeld.2.1)))))), ((cell_far (p := ⟨gb321, _, none⟩) NB312_321.out _).trans (((cell_far (p := ⟨gb321, _, none⟩) NB312_321.out _).trans (((cell_far (p := ⟨gb321, _, none⟩) NB312_321.out _).trans (hHeld.2.2))))))⟩ (fun hHeld => ?_)
    clear hK K
    refine done_ (done_of HT_.out (by kernel_rfl)) ?_
    have hnb23 := NB312_321.out
    have hnc23 := NB321_312.out
    have hcz24_0 : w17.cell? ⟨gb312, 0, none⟩ = some (.slice A0_0 l0_0.length c0_0) := (blk_cell BK312.out 0).trans rfl
    have hcz24_1 : w17.cell? ⟨gb312, 1, none⟩ = some (.slice A0_1 l0_1.length c0_1) := (blk_cell BK312.out 1).trans rfl
    have hcz24_2 : w17.cell? ⟨gb312, 2, none⟩ = some (.slice A0_2 l0_2.length c0_2) := (blk_cell BK312.out 2).trans rfl
    have hfz24_0 := blk_frozen BK312.out 0
    have hfz24_1 := blk_frozen BK312.out 1
    have hfz24_2 := blk_frozen BK312.out 2
    try go_wp2
    go_loopg [25] k (fun kq v25 w' => ∃ (x25_1 : Int) (x322001_1 : List (List (S46))) (u322001 : Value), v25 = .int .i64 x25_1 ∧ Aside0 (simplex_Dual.l0 kq (l0_0.length : Int) x25_1 l0_0 l0_1 l0_2 t315 x322001_1 t318 = some (r1, r2, r3, r4)) ∧ Aside0 (kq ≤ k) ∧ Aside0 (Kd.S k46 46 w' w.heap.size (fun k_ => some k_ ≠ ((.slice Ao18 t318.length co18) : Value).ownBlock) (.slice Ao19 t315.length co19) t315) ∧ Aside0 (Kd.R (Kd.slice 46 k46) 22 w' w.heap.size (fun k_ => some k_ ≠ ((.slice Ao19 t315.length co19) : Value).ownBlock ∧ some k_ ≠ ((.slice Ao18 t318.length co18) : Value).ownBlock) u322001 x322001_1) ∧ Aside0 (Kd.S k46 46 w' w.heap.size (fun k_ => some k_ ≠ ((.slice Ao19 t315.length co19) : Value).ownBlock) (.slice Ao18 t318.length co18) t318) ∧ Aside0 (w'.heap[gb312]? = some (.cells #[(.slice A0_0 l0_0.length c0_0), (.slice A0_1 l0_1.length c0_1), (.slice A0_2 l0_2.length c0_2)] 25 (0, 0))) ∧ Aside0 (w'.heap[gb313]? = some (.cells #[(.slice none 0 0), (.slice none 0 0), (.slice none 0 0)] 25 (0, 0))) ∧ Aside0 (w'.heap[gb321]? = some (.cells #[(.slice Ao19 t315.length co19), u322001, (.slice Ao18 t318.length co18)] 25 (0, 0))) ∧ Aside0 (Below w.heap.size w w'))
    case atStart => exact ⟨(0), (([] : List (List (S46)))), (.slice none 0 0), (by rfl), H', ⟨Nat.le_refl _⟩, ⟨by (with_reducible repeat (fail)); exact Kd.S_mono (Kd.S_far (p := ⟨gb321, 2, none⟩) (Kd.S_far (p := ⟨gb321, 1, none⟩) (Kd.S_far (p := ⟨gb321, 0, none⟩) (Kd.S_types HO317.out BK321.out (by decide)) (fun _ hk => hk.2) (.slice Ao19 t315.length co19)) (fun _ hk => hk.2) (.slice none 0 0)) (fun _ hk => hk.2) (.slice Ao18 t318.length co18)) (fun _ hk => hk.1)⟩, ⟨by exact Kd.R_nil _ _ _ _ _⟩, ⟨by (with_reducible repeat (fail)); exact Kd.S_mono (Kd.S_far (p := ⟨gb321, 2, none⟩) (Kd.S_far (p := ⟨gb321, 1, none⟩) (Kd.S_far (p := ⟨gb321, 0, none⟩) (Kd.S_types HO320.out BK321.out (by decide)) (fun _ hk => hk.2) (.slice Ao19 t315.length co19)) (fun _ hk => hk.2) (.slice none 0 0)) (fun _ hk => hk.2) (.slice Ao18 t318.length co18)) (fun _ hk => hk.1)⟩, ⟨by (with_reducible repeat (fail)); refine blk_far ?_ NB312_321.out _; (with_reducible repeat (fail)); refine blk_far ?_ NB312_321.out _; (with_reducible repeat (fail)); refine blk_far ?_ NB312_321.out _; (with_reducible repeat (fail)); exact BK312.out⟩, ⟨by (with_reducible repeat (fail)); refine blk_far ?_ NB313_321.out _; (with_reducible repeat (fail)); refine blk_far ?_ NB313_321.out _; (with_reducible repeat (fail)); refine blk_far ?_ NB313_321.out _; (with_reducible repeat (fail)); exact BK313.out⟩, ⟨by (with_reducible repeat (fail)); refine blk_put (cs := #[.slice Ao19 t315.length co19, .slice none 0 0, .slice none 0 0]) ?_ 2 _ rfl; (with_reducible repeat (fail)); refine blk_put (cs := #[.slice Ao19 t315.length co19, .slice none 0 0, .slice none 0 0]) ?_ 1 _ rfl; (with_reducible repeat (fail)); refine blk_put (cs := #[.slice none 0 0, .slice none 0 0, .slice none 0 0]) ?_ 0 _ rfl; (with_reducible repeat (fail)); exact BK321.out⟩, ⟨by repeat ((with_reducible first | exact HB.out | refine below_set ?_ GE321.out))⟩⟩
    case round =>
      clear H'
      try clear c3b0
      try clear c3b1
      try clear hcz24_0
      try clear hcz24_1
      try clear hcz24_2
      try clear hcz9_0
      try clear hcz9_1
      try clear hcz9_2
      try clear hfz24_0
      try clear hfz24_1
      try clear hfz24_2
      try clear hfz9_0
      try clear hfz9_1
      try clear hfz9_2
      obtain ⟨x25_1, x322001_1, u322001, rfl, HA, HK1, HO_322000, HO_322001, HO_322002, BK312, BK313, BK321, HB⟩ := hrel
      cases gk with
      | zero => exact absurd HA.out (by simp [simplex_Dual.l0])
      | succ k1 =>
        have H := HA.out
        clear HA
        simp only [simplex_Dual.l0] at H
        by_cases c25 : x25_1 < (l0_0.length : Int)
        · rw [if_pos c25] at H
          have c25b0 : decide (x25_1 < (l0_0.length : Int)) = true := decide_eq_true c25
          clear c25
          have H' := Aside0.mk H
          clear H
          have hnb26 := NB312_313.out
          have hnc26 := NB313_312.out
          have hnb27 := NB312_321.out
          have hnc27 := NB321_312.out
          have hcz28_0 : wr.cell? ⟨gb312, 0, none⟩ = some (.slice A0_0 l0_0.length c0_0) := (blk_cell BK312.out 0).trans rfl
          have hcz28_1 : wr.cell? ⟨gb312, 1, none⟩ = some (.slice A0_1 l0_1.length c0_1) := (blk_cell BK312.out 1).trans rfl
          have hcz28_2 : wr.cell? ⟨gb312, 2, none⟩ = some (.slice A0_2 l0_2.length c0_2) := (blk_cell BK312.out 2).trans rfl
          have hfz28_0 := blk_frozen BK312.out 0
          have hfz28_1 := blk_frozen BK312.out 1
          have hfz28_2 := blk_frozen BK312.out 2
          go_wp2
          go_loopg [7, 31] k1 (fun kq v7 v31 w' => ∃ (x7_2 : List (S46)) (x31_2 : Int), v31 = .int .i64 x31_2 ∧ Aside0 (simplex_Dual.l1 kq x25_1 x7_2 (l0_0.length : Int) x25_1 (l0_1.length : Int) x31_2 l0_0 l0_1 l0_2 t315 x322001_1 t318 = some (r1, r2, r3, r4)) ∧ Aside0 (kq ≤ k1) ∧ Aside0 (Kd.S k46 46 w' w.heap.size (fun k_ => some k_ ≠ ((.slice Ao19 t315.length co19) : Value).ownBlock ∧ some k_ ≠ ((.slice Ao18 t318.length co18) : Value).ownBlock) v7 x7_2) ∧ Aside0 (Kd.S k46 46 w' w.heap.size (fun k_ => some k_ ≠ (v7 : Value).ownBlock ∧ some k_ ≠ ((.slice Ao18 t318.length co18) : Value).ownBlock) (.slice Ao19 t315.length co19) t315) ∧ Aside0 (Kd.R (Kd.slice 46 k46) 22 w' w.heap.size (fun k_ => some k_ ≠ (v7 : Value).ownBlock ∧ some k_ ≠ ((.slice Ao19 t315.length co19) : Value).ownBlock ∧ some k_ ≠ ((.slice Ao18 t318.length co18) : Value).ownBlock) u322001 x322001_1) ∧ Aside0 (Kd.S k46 46 w' w.heap.size (fun k_ => some k_ ≠ (v7 : Value).ownBlock ∧ some k_ ≠ ((.slice Ao19 t315.length co19) : Value).ownBlock) (.slice Ao18 t318.length co18) t318) ∧ Aside0 (w'.heap[gb312]? = some (.cells #[(.slice A0_0 l0_0.length c0_0), (.slice A0_1 l0_1.length c0_1), (.slice A0_2 l0_2.length c0_2)] 25 (0, 0))) ∧ Aside0 (w'.heap[gb313]? = some (.cells #[(.slice none 0 0), (.slice none 0 0), (.slice none 0 0)] 25 (0, 0))) ∧ Aside0 (w'.heap[gb321]? = some (.cells #[(.slice Ao19 t315.length co19), u322001, (.slice Ao18 t318.length co18)] 25 (0, 0))) ∧ Aside0 (Below w.heap.size w w'))
          case atStart => exact ⟨(([] : List (S46))), (0), (by rfl), H', ⟨Nat.le_refl _⟩, ⟨by exact Kd.S_nil _ _ _ _ _⟩, ⟨by (with_reducible repeat (fail)); exact Kd.S_mono HO_322000.out (fun _ hk => ⟨(by simp [Value.ownBlock]), hk⟩)⟩, ⟨by (with_reducible repeat (fail)); exact Kd.R_mono HO_322001.out (fun _ hk => ⟨(by simp [Value.ownBlock]), ⟨hk.1, hk.2⟩⟩)⟩, ⟨by (with_reducible repeat (fail)); exact Kd.S_mono HO_322002.out (fun _ hk => ⟨(by simp [Value.ownBlock]), hk⟩)⟩, ⟨by (with_reducible repeat (fail)); exact BK312.out⟩, ⟨by (with_reducible repeat (fail)); exact BK313.out⟩, ⟨by (with_reducible repeat (fail)); exact BK321.out⟩, ⟨by repeat ((with_reducible exact HB.out))⟩⟩
          case round =>
            clear H'
            try clear c25b0
            try clear hcz28_0
            try clear hcz28_1
            try clear hcz28_2
            try clear hfz28_0
            try clear hfz28_1
            try clear hfz28_2
            obtain ⟨x7_2, x31_2, rfl, HA, HK2, HO_7, HO_322000, HO_322001, HO_322002, BK312, BK313, BK321, HB⟩ := hrel
            cases gk with
            | zero => exact absurd HA.out (by simp [simplex_Dual.l1])
            | succ k2 =>
              have H := HA.out
              clear HA
              simp only [simplex_Dual.l1] at H
              by_cases c29 : x31_2 < (l0_1.length : Int)
              · rw [if_pos c29] at H
                have c29b0 : decide (x31_2 < (l0_1.length : Int)) = true := decide_eq_true c29
                clear c29
                by_cases c30 : 0 ≤ x31_2
                · rw [if_pos c30] at H
                  have c30b0 : decide (0 ≤ x31_2) = true := decide_eq_true c30
                  clear c30
                  by_cases c31 : x31_2 < (l0_1.length : Int)
                  · rw [if_pos c31] at H
                    have c31b0 : decide (x31_2 < (l0_1.length : Int)) = true := decide_eq_true c31
                    clear c31
                    by_cases c32 : 0 ≤ x25_1
                    · rw [if_pos c32] at H
                      have c32b0 : decide (0 ≤ x25_1) = true := decide_eq_true c32
                      clear c32
                      by_cases c33 : x25_1 < ((rd_L4 l0_1 x31_2).length : Int)
                      · rw [if_pos c33] at H
                        have c33b0 : decide (x25_1 < ((rd_L4 l0_1 x31_2).length : Int)) = true := decide_eq_true c33
                        clear c33
                        replace H := Option.bind_eq_some_iff.mp H
                        obtain ⟨⟨t324, t325, t328⟩, A340, H⟩ := H
                        replace H : (if x7_2.length < 2513169434916 then (simplex_Dual.l1 k2 x25_1 (x7_2 ++ [(⟨t324, t325, t328⟩ : S46)]) (l0_0.length : Int) x25_1 (l0_1.length : Int) (wrap64 (x31_2 + 1)) l0_0 l0_1 l0_2 t315 x322001_1 t318) else (none)) = some (r1, r2, r3, r4) := H
                        have A34 := Aside0.mk A340
                        clear A340
                        by_cases c35 : x7_2.length < 2513169434916
                        · rw [if_pos c35] at H
                          have LMc35 := Aside0.mk c35
                          clear c35
                          obtain ⟨y331, hy331⟩ : ∃ y_ : List (S46), y_ = (x7_2 ++ [(⟨t324, t325, t328⟩ : S46)]) := ⟨_, rfl⟩
                          replace H : (simplex_Dual.l1 k2 x25_1 y331 (l0_0.length : Int) x25_1 (l0_1.length : Int) (wrap64 (x31_2 + 1)) l0_0 l0_1 l0_2 t315 x322001_1 t318) = some (r1, r2, r3, r4) := by (rw [hy331]; with_reducible exact H)
                          have Ny331 := Aside0.mk hy331
                          clear hy331
                          have H' := Aside0.mk H
                          clear H
                          have hnb36 := NB312_313.out
                          have hnc36 := NB313_312.out
                          have hnb37 := NB312_321.out
                          have hnc37 := NB321_312.out
                          have hcz38_0 : wr.cell? ⟨gb312, 0, none⟩ = some (.slice A0_0 l0_0.length c0_0) := (blk_cell BK312.out 0).trans rfl
                          have hcz38_1 : wr.cell? ⟨gb312, 1, none⟩ = some (.slice A0_1 l0_1.length c0_1) := (blk_cell BK312.out 1).trans rfl
                          have hcz38_2 : wr.cell? ⟨gb312, 2, none⟩ = some (.slice A0_2 l0_2.length c0_2) := (blk_cell BK312.out 2).trans rfl
                          have hfz38_0 := blk_frozen BK312.out 0
                          have hfz38_1 := blk_frozen BK312.out 1
                          have hfz38_2 := blk_frozen BK312.out 2
                          have p322 : 0 ≤ (x31_2 : Int) := of_decide_eq_true (by (with_reducible assumption))
                          have q322 : x31_2 < (l0_1.length : Int) := of_decide_eq_true (by (with_reducible assumption))
                          obtain ⟨ad322, A322_0, c322_0, e322, hx322_0, hl322_0, hi322_0⟩ := at_L4 HR0_1.out x31_2 p322 q322
                          cases e322
                          replace hx322_0 := (HB.out.cell (World.block_lt_of_cell? w _ hx322_0)).trans hx322_0
                          have HR322_0 := Aside0.mk hi322_0
                          have HC322_0 := Aside0.mk hl322_0
                          clear hi322_0 hl322_0
                          replace p322 := eq_true p322
                          replace q322 := eq_true q322
                          have p323 : 0 ≤ (x25_1 : Int) := of_decide_eq_true (by (with_reducible assumption))
                          have q323 : x25_1 < ((rd_L4 l0_1 x31_2).length : Int) := of_decide_eq_true (by (with_reducible assumption))
                          obtain ⟨ad323, A323_1, c323_1, A323_2, c323_2, e323, hx323_0, hx323_1, hx323_2, hl323_1, hi323_1, hl323_2, hi323_2⟩ := at_T46 HR322_0.out x25_1 p323 q323
                          cases e323
                          replace hx323_0 := (HB.out.cell (World.block_lt_of_cell? w _ hx323_0)).trans hx323_0
                          replace hx323_1 := (HB.out.cell (World.block_lt_of_cell? w _ hx323_1)).trans hx323_1
                          replace hx323_2 := (HB.out.cell (World.block_lt_of_cell? w _ hx323_2)).trans hx323_2
                          have HR323_1 := Aside0.mk hi323_1
                          have HC323_1 := Aside0.mk hl323_1
                          clear hi323_1 hl323_1
                          have HR323_2 := Aside0.mk hi323_2
                          have HC323_2 := Aside0.mk hl323_2
                          clear hi323_2 hl323_2
                          replace p323 := eq_true p323
                          replace q323 := eq_true q323
                          go_wp2_with (first | ((with_reducible refine gate_callee (f := 60) rfl ?_); refine goesL_ (some 43) rfl rfl Try.func60 (by kernel_rfl) rfl #[.agg #[.bool ((rd_T46 (rd_L4 l0_1 x31_2) x25_1).f0), .slice A323_1 ((rd_T46 (rd_L4 l0_1 x31_2) x25_1).f1).length c323_1, .slice A323_2 ((rd_T46 (rd_L4 l0_1 x31_2) x25_1).f2).length c323_2]] rfl (by (try simp only [List.map_toArray, List.map_cons, List.map_nil]); rfl) ?_; (with_reducible refine (rational_Neg.calls k2 ((rd_T46 (rd_L4 l0_1 x31_2) x25_1).f0) _ _ ((rd_T46 (rd_L4 l0_1 x31_2) x25_1).f1) _ _ ((rd_T46 (rd_L4 l0_1 x31_2) x25_1).f2) t324 t325 t328 _ ?side1 ?side2 ?side3 ?side4 A34.out).mono ?_); (case side1 => repeat (exact (Kd.C_below HR323_1.out HB.out))); (case side2 => exact HC323_1.out); (case side3 => repeat (exact (Kd.C_below HR323_2.out HB.out))); (case side4 => exact HC323_2.out); rintro e w39 ⟨v326, v329, rfl, ho0, ho1, hb⟩; refine ⟨_, rfl, ?_⟩; have n0_ := Aside0.mk (Kd.S_mono (Kd.S_told (Kd.S_told (Kd.S_old (by (with_reducible repeat (fail)); exact HO_7.out) hb) (Kd.R_base ho0)) (Kd.R_base ho1)) (fun _ h_ => h_.1)); have n1_ := Aside0.mk (Kd.S_mono (Kd.S_told (Kd.S_told (Kd.S_old (by (with_reducible repeat (fail)); exact HO_322000.out) hb) (Kd.R_base ho0)) (Kd.R_base ho1)) (fun _ h_ => h_.1)); have n2_ := Aside0.mk (Kd.R_mono (Kd.R_told (Kd.R_told (Kd.R_old (by (with_reducible repeat (fail)); exact HO_322001.out) hb) (Kd.R_base ho0)) (Kd.R_base ho1)) (fun _ h_ => h_.1)); have n3_ := Aside0.mk (Kd.S_mono (Kd.S_told (Kd.S_told (Kd.S_old (by (with_reducible repeat (fail)); exact HO_322002.out) hb) (Kd.R_base ho0)) (Kd.R_base ho1)) (fun _ h_ => h_.1)); have n4_ := Aside0.mk (Kd.R_lower ho0 (below_size (by repeat ((with_reducible exact HB.out))))); have n5_ := Aside0.mk (Kd.R_lower ho1 (below_size (by repeat ((with_reducible exact HB.out))))); have n6_ := Aside0.mk (blk_below (g := gb312) (o := .cells #[.slice A0_0 l0_0.length c0_0, .slice (some ad322) l0_1.length c0_1, .slice A0_2 l0_2.length c0_2] 25 (0, 0)) (by (with_reducible repeat (fail)); exact BK312.out) hb); have n7_ := Aside0.mk (blk_below (g := gb313) (o := .cells #[.slice none 0 0, .slice none 0 0, .slice none 0 0] 25 (0, 0)) (by (with_reducible repeat (fail)); exact BK313.out) hb); have n8_ := Aside0.mk (blk_below (g := gb321) (o := .cells #[.slice Ao19 t315.length co19, u322001, .slice Ao18 t318.length co18] 25 (0, 0)) (by (with_reducible repeat (fail)); exact BK321.out) hb); have n9_ := Aside0.mk (below_step (by repeat ((with_reducible exact HB.out))) hb); clear HO_7; clear HO_322000; clear HO_322001; clear HO_322002; clear BK312; clear BK313; clear BK321; clear HB; have HO_7 := n0_; have HO_322000 := n1_; have HO_322001 := n2_; have HO_322002 := n3_; have HO327 := n4_; have HO330 := n5_; have BK312 := n6_; have BK313 := n7_; have BK321 := n8_; have HB := n9_; clear n0_ n1_ n2_ n3_ n4_ n5_ n6_ n7_ n8_ n9_; (try clear hb); (try clear ho0); (try clear ho1); obtain ⟨Ao41, co41, eo41⟩ := Kd.R_slice HO327.out; subst eo41; obtain ⟨Ao42, co42, eo42⟩ := Kd.R_slice HO330.out; subst eo42) | ((with_reducible refine gate_builtin (b := .append) (xs := #[.tmp 34, .tmp 44]) rfl ?_); at_builtin; refine Kd.S_append k46 (w0 := w) w.heap.size rfl (.tmp 34) (.tmp 44) 22 46 (.agg #[(.bool false), (.slice none 0 0), (.slice none 0 0)]) 56 rfl Try.underlying22 info46 rfl (by decide) (by omega) u7 x7_2 (⟨t324, t325, t328⟩ : S46) [.bool t324, .slice Ao41 t325.length co41, .slice Ao42 t328.length co42] (fun k_ => some k_ ≠ (.slice Ao19 t315.length co19 : Value).ownBlock ∧ some k_ ≠ (.slice Ao18 t318.length co18 : Value).ownBlock) (fun k_ => some k_ = (.slice Ao41 t325.length co41 : Value).ownBlock ∨ some k_ = (.slice Ao42 t328.length co42 : Value).ownBlock) rfl rfl ?aP (fun k_ hk_ => hk_.elim (fun h_ => ((Kd.R_mono (ok' := fun k_ => ((fun k_ => some k_ ≠ (.slice Ao19 t315.length co19 : Value).ownBlock ∧ some k_ ≠ (.slice Ao18 t318.length co18 : Value).ownBlock)) k_ ∧ some k_ ≠ (u7 : Value).ownBlock) (Kd.R_apart' (Kd.R_apart' (Kd.R_apart' (HO327.out) (Kd.S_typed HO_322000.out) (by decide)) (Kd.S_typed HO_322002.out) (by decide)) (Kd.S_typed HO_7.out) (by decide)) (fun k_ hk => ⟨⟨hk.1.1.2, hk.1.2⟩, hk.2⟩))).1 k_ h_.symm) (fun h_ => ((Kd.R_mono (ok' := fun k_ => ((fun k_ => some k_ ≠ (.slice Ao19 t315.length co19 : Value).ownBlock ∧ some k_ ≠ (.slice Ao18 t318.length co18 : Value).ownBlock)) k_ ∧ some k_ ≠ (u7 : Value).ownBlock) (Kd.R_apart' (Kd.R_apart' (Kd.R_apart' (HO330.out) (Kd.S_typed HO_322000.out) (by decide)) (Kd.S_typed HO_322002.out) (by decide)) (Kd.S_typed HO_7.out) (by decide)) (fun k_ hk => ⟨⟨hk.1.1.2, hk.1.2⟩, hk.2⟩))).1 k_ h_.symm)) ?aF ?aO ?aB ?aS ?aL ?_; (case aP => exact k46_mkM _ _ _ (⟨t324, t325, t328⟩ : S46) (Kd.R_mono (Kd.R_tight rfl (Kd.R_mono (ok' := fun k_ => ((fun k_ => some k_ ≠ (.slice Ao19 t315.length co19 : Value).ownBlock ∧ some k_ ≠ (.slice Ao18 t318.length co18 : Value).ownBlock)) k_ ∧ some k_ ≠ (u7 : Value).ownBlock) (Kd.R_apart' (Kd.R_apart' (Kd.R_apart' (HO327.out) (Kd.S_typed HO_322000.out) (by decide)) (Kd.S_typed HO_322002.out) (by decide)) (Kd.S_typed HO_7.out) (by decide)) (fun k_ hk => ⟨⟨hk.1.1.2, hk.1.2⟩, hk.2⟩))) (fun _ h_ => Or.inl h_)) (Kd.R_mono (Kd.R_tight rfl (Kd.R_mono (ok' := fun k_ => ((fun k_ => some k_ ≠ (.slice Ao19 t315.length co19 : Value).ownBlock ∧ some k_ ≠ (.slice Ao18 t318.length co18 : Value).ownBlock)) k_ ∧ some k_ ≠ (u7 : Value).ownBlock) (Kd.R_apart' (Kd.R_apart' (Kd.R_apart' (HO330.out) (Kd.S_typed HO_322000.out) (by decide)) (Kd.S_typed HO_322002.out) (by decide)) (Kd.S_typed HO_7.out) (by decide)) (fun k_ hk => ⟨⟨hk.1.1.2, hk.1.2⟩, hk.2⟩))) (fun _ h_ => Or.inr (h_)))); (case aB => exact (by repeat ((with_reducible exact HB.out)))); (case aF => exact (fun k_ hk => ⟨Kd.fresh' (Kd.S_lt (by (with_reducible repeat (fail)); exact HO_322000.out)) k_ hk, Kd.fresh' (Kd.S_lt (by (with_reducible repeat (fail)); exact HO_322002.out)) k_ hk⟩)); (case aO => exact (by (with_reducible repeat (fail)); exact Kd.S_mono HO_7.out (fun k_ hk => ⟨⟨hk.1.1.1, hk.1.1.2⟩, fun e_ => e_.elim (fun h_ => hk.1.2 h_) (fun h_ => hk.2 h_)⟩))); (case aS => exact (below_size (by repeat ((with_reducible exact HB.out))))); (case aL => have := LMc35.out; omega); intro v332 w40 ho hb hg hat; rw [← Ny331.out] at ho; have n0_ := Aside0.mk (Kd.S_after (ok := (fun k_ => some k_ ≠ (.slice Ao18 t318.length co18 : Value).ownBlock ∧ some k_ ≠ (.slice Ao41 t325.length co41 : Value).ownBlock ∧ some k_ ≠ (.slice Ao42 t328.length co42 : Value).ownBlock)) (by (with_reducible repeat (fail)); exact Kd.S_mono HO_322000.out (fun _ hk => ⟨⟨hk.1.1.2, ⟨hk.1.2, hk.2⟩⟩, hk.1.1.1⟩)) hg hat); have n1_ := Aside0.mk (Kd.R_after (ok := (fun k_ => some k_ ≠ (.slice Ao19 t315.length co19 : Value).ownBlock ∧ some k_ ≠ (.slice Ao18 t318.length co18 : Value).ownBlock ∧ some k_ ≠ (.slice Ao41 t325.length co41 : Value).ownBlock ∧ some k_ ≠ (.slice Ao42 t328.length co42 : Value).ownBlock)) (by (with_reducible repeat (fail)); exact Kd.R_mono HO_322001.out (fun _ hk => ⟨⟨hk.1.1.2.1, ⟨hk.1.1.2.2, ⟨hk.1.2, hk.2⟩⟩⟩, hk.1.1.1⟩)) hg hat); have n2_ := Aside0.mk (Kd.S_after (ok := (fun k_ => some k_ ≠ (.slice Ao19 t315.length co19 : Value).ownBlock ∧ some k_ ≠ (.slice Ao41 t325.length co41 : Value).ownBlock ∧ some k_ ≠ (.slice Ao42 t328.length co42 : Value).ownBlock)) (by (with_reducible repeat (fail)); exact Kd.S_mono HO_322002.out (fun _ hk => ⟨⟨hk.1.1.2, ⟨hk.1.2, hk.2⟩⟩, hk.1.1.1⟩)) hg hat); have n3_ := Aside0.mk (blk_grown (g := gb312) (o := .cells #[.slice A0_0 l0_0.length c0_0, .slice (some ad322) l0_1.length c0_1, .slice A0_2 l0_2.length c0_2] 25 (0, 0)) (by (with_reducible repeat (fail)); exact BK312.out) hg (Kd.S_ne HO_7.out BK312.out (by decide))); have n4_ := Aside0.mk (blk_grown (g := gb313) (o := .cells #[.slice none 0 0, .slice none 0 0, .slice none 0 0] 25 (0, 0)) (by (with_reducible repeat (fail)); exact BK313.out) hg (Kd.S_ne HO_7.out BK313.out (by decide))); have n5_ := Aside0.mk (blk_grown (g := gb321) (o := .cells #[.slice Ao19 t315.length co19, u322001, .slice Ao18 t318.length co18] 25 (0, 0)) (by (with_reducible repeat (fail)); exact BK321.out) hg (Kd.S_ne HO_7.out BK321.out (by decide))); have n6_ := Aside0.mk (hb); have n7_ := Aside0.mk (ho); clear HO_322000; clear HO_322001; clear HO_322002; clear BK312; clear BK313; clear BK321; clear HB; clear HO_7; clear HO327; clear HO330; have HO_322000 := n0_; have HO_322001 := n1_; have HO_322002 := n2_; have BK312 := n3_; have BK313 := n4_; have BK321 := n5_; have HB := n6_; have HO333 := n7_; clear n0_ n1_ n2_ n3_ n4_ n5_ n6_ n7_; clear ho hb hg hat))
                          go_roundg k2
                          case measure => have := HK1.out; have := HK2.out; omega
                          case rel => exact ⟨(y331), (wrap64 (x31_2 + 1)), (by rfl), H', ⟨by have := HK1.out; have := HK2.out; omega⟩, ⟨by (with_reducible repeat (fail)); exact HO333.out⟩, ⟨by (with_reducible repeat (fail)); exact Kd.S_mono HO_322000.out (fun _ hk => ⟨hk.2, hk.1.1⟩)⟩, ⟨by (with_reducible repeat (fail)); exact Kd.R_mono HO_322001.out (fun _ hk => ⟨hk.2, ⟨hk.1.1, hk.1.2.1⟩⟩)⟩, ⟨by (with_reducible repeat (fail)); exact Kd.S_mono HO_322002.out (fun _ hk => ⟨hk.2, hk.1.1⟩)⟩, ⟨by (with_reducible repeat (fail)); exact BK312.out⟩, ⟨by (with_reducible repeat (fail)); exact BK313.out⟩, ⟨by (with_reducible repeat (fail)); exact BK321.out⟩, ⟨by repeat ((with_reducible exact HB.out))⟩⟩
                        · rw [if_neg c35] at H
                          exact absurd H (by simp)
                      · rw [if_neg c33] at H
                        exact absurd H (by simp)
                    · rw [if_neg c32] at H
                      exact absurd H (by simp)
                  · rw [if_neg c31] at H
                    exact absurd H (by simp)
                · rw [if_neg c30] at H
                  exact absurd H (by simp)
              · rw [if_neg c29] at H
                have c29b0 : decide (x31_2 < (l0_1.length : Int)) = false := decide_eq_false c29
                clear c29
                by_cases c43 : x322001_1.length < 5864062014805
                · rw [if_pos c43] at H
                  have LMc43 := Aside0.mk c43
                  clear c43
                  obtain ⟨y334, hy334⟩ : ∃ y_ : List (List (S46)), y_ = (x322001_1 ++ [x7_2]) := ⟨_, rfl⟩
                  replace H : (simplex_Dual.l0 k2 (l0_0.length : Int) (wrap64 (x25_1 + 1)) l0_0 l0_1 l0_2 t315 y334 t318) = some (r1, r2, r3, r4) := by (rw [hy334]; with_reducible exact H)
                  have Ny334 := Aside0.mk hy334
                  clear hy334
                  have H' := Aside0.mk H
                  clear H
                  have hnb44 := NB321_312.out
                  have hnc44 := NB312_321.out
                  have hnb45 := NB321_313.out
                  have hnc45 := NB313_321.out
                  have hcz46_0 : wr.cell? ⟨gb321, 0, none⟩ = some (.slice Ao19 t315.length co19) := (blk_cell BK321.out 0).trans rfl
                  have hcz46_1 : wr.cell? ⟨gb321, 1, none⟩ = some (u322001) := (blk_cell BK321.out 1).trans rfl
                  have hcz46_2 : wr.cell? ⟨gb321, 2, none⟩ = some (.slice Ao18 t318.length co18) := (blk_cell BK321.out 2).trans rfl
                  have hfz46_0 := blk_frozen BK321.out 0
                  have hfz46_1 := blk_frozen BK321.out 1
                  have hfz46_2 := blk_frozen BK321.out 2
                  obtain ⟨Ao48, co48, eo48⟩ := Kd.S_slice HO_7.out
                  subst eo48
                  go_wp2_with (((with_reducible refine gate_builtin (b := .append) (xs := #[.tmp 48, .tmp 50]) rfl ?_); at_builtin; refine Kd.R_append (Kd.slice 46 k46) (w0 := w) w.heap.size rfl (.tmp 48) (.tmp 50) 23 22 (.slice none 0 0) 24 rfl Try.underlying23 info22 rfl (by decide) (by omega) u322001 x322001_1 x7_2 [.slice Ao48 x7_2.length co48] (fun k_ => some k_ ≠ (.slice Ao19 t315.length co19 : Value).ownBlock ∧ some k_ ≠ (.slice Ao18 t318.length co18 : Value).ownBlock) (fun k_ => ((fun k_ => some k_ ≠ (.slice Ao19 t315.length co19 : Value).ownBlock ∧ some k_ ≠ (.slice Ao18 t318.length co18 : Value).ownBlock)) k_ ∧ some k_ ≠ (u322001 : Value).ownBlock) rfl rfl ?aP (fun _ hk => hk) ?aF ?aO ?aB ?aS ?aL ?_; (case aP => exact Kd.M_row (Kd.R_mono (Kd.R_apart' ((Kd.S_R HO_7.out)) (Kd.R_typed HO_322001.out) (by decide)) (fun k_ hk => ⟨⟨hk.1.1, hk.1.2⟩, hk.2⟩))); (case aB => exact (by repeat ((with_reducible exact HB.out)))); (case aF => exact (fun k_ hk => ⟨Kd.fresh' (Kd.S_lt (by (with_reducible repeat (fail)); exact HO_322000.out)) k_ hk, Kd.fresh' (Kd.S_lt (by (with_reducible repeat (fail)); exact HO_322002.out)) k_ hk⟩)); (case aO => exact (by (with_reducible repeat (fail)); exact Kd.R_mono HO_322001.out (fun _ hk => ⟨hk.2.1, hk.2.2⟩))); (case aS => exact (below_size (by repeat ((with_reducible exact HB.out))))); (case aL => have := LMc43.out; omega); intro v335 w47 ho hb hg hat; rw [← Ny334.out] at ho; have n0_ := Aside0.mk (Kd.S_over' (by (with_reducible repeat (fail)); exact HO_322000.out) (Kd.R_typed (by (with_reducible repeat (fail)); exact HO_322001.out)) (by decide) hg); have n1_ := Aside0.mk (Kd.S_over' (by (with_reducible repeat (fail)); exact HO_322002.out) (Kd.R_typed (by (with_reducible repeat (fail)); exact HO_322001.out)) (by decide) hg); have n2_ := Aside0.mk (blk_grown (g := gb312) (o := .cells #[.slice A0_0 l0_0.length c0_0, .slice A0_1 l0_1.length c0_1, .slice A0_2 l0_2.length c0_2] 25 (0, 0)) (by (with_reducible repeat (fail)); exact BK312.out) hg (Kd.R_ne HO_322001.out BK312.out (by decide))); have n3_ := Aside0.mk (blk_grown (g := gb313) (o := .cells #[.slice none 0 0, .slice none 0 0, .slice none 0 0] 25 (0, 0)) (by (with_reducible repeat (fail)); exact BK313.out) hg (Kd.R_ne HO_322001.out BK313.out (by decide))); have n4_ := Aside0.mk (blk_grown (g := gb321) (o := .cells #[.slice Ao19 t315.length co19, u322001, .slice Ao18 t318.length co18] 25 (0, 0)) (by (with_reducible repeat (fail)); exact BK321.out) hg (Kd.R_ne HO_322001.out BK321.out (by decide))); have n5_ := Aside0.mk (hb); have n6_ := Aside0.mk (ho); clear HO_322000; clear HO_322002; clear BK312; clear BK313; clear BK321; clear HB; clear HO_322001; clear HO_7; have HO_322000 := n0_; have HO_322002 := n1_; have BK312 := n2_; have BK313 := n3_; have BK321 := n4_; have HB := n5_; have HO336 := n6_; clear n0_ n1_ n2_ n3_ n4_ n5_ n6_; clear ho hb hg hat; obtain ⟨Ao49, co49, eo49⟩ := Kd.R_slice HO336.out; subst eo49; have hcz50_0 : w47.cell? ⟨gb321, 0, none⟩ = some (.slice Ao19 t315.length co19) := (blk_cell BK321.out 0).trans rfl; have hcz50_1 : w47.cell? ⟨gb321, 1, none⟩ = some (u322001) := (blk_cell BK321.out 1).trans rfl; have hcz50_2 : w47.cell? ⟨gb321, 2, none⟩ = some (.slice Ao18 t318.length co18) := (blk_cell BK321.out 2).trans rfl; have hfz50_0 := blk_frozen BK321.out 0; have hfz50_1 := blk_frozen BK321.out 1; have hfz50_2 := blk_frozen BK321.out 2))
                  go_roundg k2
                  case measure => have := HK1.out; have := HK2.out; omega
                  case rel => exact ⟨(wrap64 (x25_1 + 1)), (y334), (.slice Ao49 y334.length co49), (by rfl), H', ⟨by have := HK1.out; have := HK2.out; omega⟩, ⟨by (with_reducible repeat (fail)); exact Kd.S_mono (Kd.S_far (p := ⟨gb321, 1, none⟩) (Kd.S_types HO_322000.out BK321.out (by decide)) (fun _ hk => hk.2) (.slice Ao49 y334.length co49)) (fun _ hk => hk.1.2)⟩, ⟨by (with_reducible repeat (fail)); exact Kd.R_mono (Kd.R_far (p := ⟨gb321, 1, none⟩) (Kd.R_types HO336.out BK321.out (by decide)) (fun _ hk => hk.2) (.slice Ao49 y334.length co49)) (fun _ hk => ⟨hk.1.1, hk.1.2⟩)⟩, ⟨by (with_reducible repeat (fail)); exact Kd.S_mono (Kd.S_far (p := ⟨gb321, 1, none⟩) (Kd.S_types HO_322002.out BK321.out (by decide)) (fun _ hk => hk.2) (.slice Ao49 y334.length co49)) (fun _ hk => hk.1.2)⟩, ⟨by (with_reducible repeat (fail)); refine blk_far ?_ NB312_321.out _; (with_reducible repeat (fail)); exact BK312.out⟩, ⟨by (with_reducible repeat (fail)); refine blk_far ?_ NB313_321.out _; (with_reducible repeat (fail)); exact BK313.out⟩, ⟨by (with_reducible repeat (fail)); refine blk_put (cs := #[.slice Ao19 t315.length co19, u322001, .slice Ao18 t318.length co18]) ?_ 1 _ rfl; (with_reducible repeat (fail)); exact BK321.out⟩, ⟨by repeat ((with_reducible first | exact HB.out | refine below_set ?_ GE321.out))⟩⟩
                · rw [if_neg c43] at H
                  exact absurd H (by simp)
        · rw [if_neg c25] at H
          have c25b0 : decide (x25_1 < (l0_0.length : Int)) = false := decide_eq_false c25
          clear c25
          simp only [Option.some.injEq, Prod.mk.injEq] at H
          obtain ⟨rfl, rfl, rfl, rfl⟩ := H
          have hnb51 := NB321_312.out
          have hnc51 := NB312_321.out
          have hnb52 := NB321_313.out
          have hnc52 := NB313_321.out
          have hcz53_0 : wr.cell? ⟨gb321, 0, none⟩ = some (.slice Ao19 t315.length co19) := (blk_cell BK321.out 0).trans rfl
          have hcz53_1 : wr.cell? ⟨gb321, 1, none⟩ = some (u322001) := (blk_cell BK321.out 1).trans rfl
          have hcz53_2 : wr.cell? ⟨gb321, 2, none⟩ = some (.slice Ao18 t318.length co18) := (blk_cell BK321.out 2).trans rfl
          have hfz53_0 := blk_frozen BK321.out 0
          have hfz53_1 := blk_frozen BK321.out 1
          have hfz53_2 := blk_frozen BK321.out 2
          have hnb54 := NB313_312.out
          have hnc54 := NB312_313.out
          have hcz55_0 : wr.cell? ⟨gb313, 0, none⟩ = some (.slice none 0 0) := (blk_cell BK313.out 0).trans rfl
          have hcz55_1 : wr.cell? ⟨gb313, 1, none⟩ = some (.slice none 0 0) := (blk_cell BK313.out 1).trans rfl
          have hcz55_2 : wr.cell? ⟨gb313, 2, none⟩ = some (.slice none 0 0) := (blk_cell BK313.out 2).trans rfl
          have hfz55_0 := blk_frozen BK313.out 0
          have hfz55_1 := blk_frozen BK313.out 1
          have hfz55_2 := blk_frozen BK313.out 2
          obtain ⟨Ao56, co56, eo56⟩ := Kd.R_slice HO_322001.out
          subst eo56
          go_wp2
          refine bodyPost_ret (results_ct rfl _ _ gb313 25 #[.slice Ao19 t315.length co19, .slice Ao56 x322001_1.length co56, .slice Ao18 t318.length co18] (0, 0) _ rfl (by (with_reducible repeat (fail)); refine blk_put (cs := #[.slice Ao19 t315.length co19, .slice Ao56 x322001_1.length co56, .slice none 0 0]) ?_ 2 _ rfl; (with_reducible repeat (fail)); refine blk_put (cs := #[.slice Ao19 t315.length co19, .slice none 0 0, .slice none 0 0]) ?_ 1 _ rfl; (with_reducible repeat (fail)); refine blk_put (cs := #[.slice none 0 0, .slice none 0 0, .slice none 0 0]) ?_ 0 _ rfl; (with_reducible repeat (fail)); exact BK313.out) Try.underlying25 rfl (by kernel_rfl)) rfl ?_
          exact ⟨_, _, _, by rfl, by (with_reducible repeat (fail)); exact Kd.S_mono (Kd.S_far (p := ⟨gb313, 2, none⟩) (Kd.S_far (p := ⟨gb313, 1, none⟩) (Kd.S_far (p := ⟨gb313, 0, none⟩) (Kd.S_types HO_322000.out BK313.out (by decide)) (fun _ hk => hk.2) (.slice Ao19 t315.length co19)) (fun _ hk => hk.2) (.slice Ao56 x322001_1.length co56)) (fun _ hk => hk.2) (.slice Ao18 t318.length co18)) (fun _ hk => hk.1), by (with_reducible repeat (fail)); exact Kd.R_mono (Kd.R_far (p := ⟨gb313, 2, none⟩) (Kd.R_far (p := ⟨gb313, 1, none⟩) (Kd.R_far (p := ⟨gb313, 0, none⟩) (Kd.R_types HO_322001.out BK313.out (by decide)) (fun _ hk => hk.2) (.slice Ao19 t315.length co19)) (fun _ hk => hk.2) (.slice Ao56 x322001_1.length co56)) (fun _ hk => hk.2) (.slice Ao18 t318.length co18)) (fun _ hk => ⟨hk.1.1, hk.1.2⟩), by (with_reducible repeat (fail)); exact Kd.S_mono (Kd.S_far (p := ⟨gb313, 2, none⟩) (Kd.S_far (p := ⟨gb313, 1, none⟩) (Kd.S_far (p := ⟨gb313, 0, none⟩) (Kd.S_types HO_322002.out BK313.out (by decide)) (fun _ hk => hk.2) (.slice Ao19 t315.length co19)) (fun _ hk => hk.2) (.slice Ao56 x322001_1.length co56)) (fun _ hk => hk.2) (.slice Ao18 t318.length co18)) (fun _ hk => hk.1), by repeat ((with_reducible first | exact HB.out | refine below_set ?_ GE313.out))⟩
  · rw [if_neg c3] at H
    have c3b0 : (t314 == 0) = false := beq_eq_false_iff_ne.mpr c3
    have c3b1 : (t314 != 0) = true := bne_iff_ne.mpr c3
    simp only [Option.some.injEq, Prod.mk.injEq] at H
    obtain ⟨rfl, rfl, rfl, rfl⟩ := H
    go_enter Try.func21, Try.ntmps21
    go_wp2_with (first | ((with_reducible refine gate_dst (N := 1) rfl ?_); refine box_event ?hg (N := 1) ?hd (cs := #[.slice A0_0 l0_0.length c0_0, .slice A0_1 l0_1.length c0_1, .slice A0_2 l0_2.length c0_2]) (t := 25) ?hr ?_; (case hd => rfl); (case hg => rfl); (case hr => (go_simp; done)); intro gb312 hg w57 hbox hb; have n0_ := Aside0.mk (below_step (by repeat ((with_reducible exact HB.out))) hb); have n1_ := Aside0.mk (hbox); have n2_ := Aside0.mk ((by rw [hg]; exact (below_size (by repeat ((with_reducible exact HB.out)))) : w.heap.size ≤ gb312)); have n3_ := Aside0.mk ((by rw [hg]; exact (below_size (by repeat ((with_reducible exact HB.out)))) : w.heap.size ≤ gb312)); clear HB; have HB := n0_; have BK312 := n1_; have GW312 := n2_; have GE312 := n3_; clear n0_ n1_ n2_ n3_; clear hb hbox hg) | ((with_reducible refine gate_dst (N := 2) rfl ?_); refine box_event ?hg (N := 2) ?hd (cs := #[.slice none 0 0, .slice none 0 0, .slice none 0 0]) (t := 25) ?hr ?_; (case hd => rfl); (case hg => rfl); (case hr => (go_simp; done)); intro gb313 hg w58 hbox hb; have n0_ := Aside0.mk (blk_below (g := gb312) (o := .cells #[.slice A0_0 l0_0.length c0_0, .slice A0_1 l0_1.length c0_1, .slice A0_2 l0_2.length c0_2] 25 (0, 0)) (by (with_reducible repeat (fail)); exact BK312.out) hb); have n1_ := Aside0.mk (below_step (by repeat ((with_reducible exact HB.out))) hb); have n2_ := Aside0.mk (hbox); have n3_ := Aside0.mk ((by rw [hg]; exact (below_size (by repeat ((with_reducible exact HB.out)))) : w.heap.size ≤ gb313)); have n4_ := Aside0.mk ((by rw [hg]; exact (below_size (by repeat ((with_reducible exact HB.out)))) : w.heap.size ≤ gb313)); have n5_ := Aside0.mk ((by rw [hg]; exact Nat.ne_of_lt (blk_lt (g := gb312) (o := .cells #[.slice A0_0 l0_0.length c0_0, .slice A0_1 l0_1.length c0_1, .slice A0_2 l0_2.length c0_2] 25 (0, 0)) (by (with_reducible repeat (fail)); exact BK312.out)) : gb312 ≠ gb313)); have n6_ := Aside0.mk ((by rw [hg]; exact Nat.ne_of_gt (blk_lt (g := gb312) (o := .cells #[.slice A0_0 l0_0.length c0_0, .slice A0_1 l0_1.length c0_1, .slice A0_2 l0_2.length c0_2] 25 (0, 0)) (by (with_reducible repeat (fail)); exact BK312.out)) : gb313 ≠ gb312)); clear BK312; clear HB; have BK312 := n0_; have HB := n1_; have BK313 := n2_; have GW313 := n3_; have GE313 := n4_; have NB312_313 := n5_; have NB313_312 := n6_; clear n0_ n1_ n2_ n3_ n4_ n5_ n6_; clear hb hbox hg; have hnb59 := NB312_313.out; have hnc59 := NB313_312.out; have hcz60_0 : w58.cell? ⟨gb312, 0, none⟩ = some (.slice A0_0 l0_0.length c0_0) := (blk_cell BK312.out 0).trans rfl; have hcz60_1 : w58.cell? ⟨gb312, 1, none⟩ = some (.slice A0_1 l0_1.length c0_1) := (blk_cell BK312.out 1).trans rfl; have hcz60_2 : w58.cell? ⟨gb312, 2, none⟩ = some (.slice A0_2 l0_2.length c0_2) := (blk_cell BK312.out 2).trans rfl; have hfz60_0 := blk_frozen BK312.out 0; have hfz60_1 := blk_frozen BK312.out 1; have hfz60_2 := blk_frozen BK312.out 2) | ((with_reducible refine gate_callee (f := 18) rfl ?_); refine goesL_ (some 10) rfl rfl Try.func18 (by kernel_rfl) rfl #[.agg #[.slice A0_0 l0_0.length c0_0, .slice A0_1 l0_1.length c0_1, .slice A0_2 l0_2.length c0_2]] rfl (by (try simp only [List.map_toArray, List.map_cons, List.map_nil]); rfl) ?_; (with_reducible refine (simplex_Check.calls k _ _ l0_0 _ _ l0_1 _ _ l0_2 t314 _ ?side1 ?side2 ?side3 ?side4 ?side5 ?side6 A2.out).mono ?_); (case side1 => repeat (exact (Kd.C_below HR0_0.out HB.out))); (case side2 => exact HC0_0.out); (case side3 => repeat (exact (Kd.C_below HR0_1.out HB.out))); (case side4 => exact HC0_1.out); (case side5 => repeat (exact (Kd.C_below HR0_2.out HB.out))); (case side6 => exact HC0_2.out); rintro e w61 ⟨rfl, hb⟩; refine ⟨_, rfl, ?_⟩; have n0_ := Aside0.mk (blk_below (g := gb312) (o := .cells #[.slice A0_0 l0_0.length c0_0, .slice A0_1 l0_1.length c0_1, .slice A0_2 l0_2.length c0_2] 25 (0, 0)) (by (with_reducible repeat (fail)); exact BK312.out) hb); have n1_ := Aside0.mk (blk_below (g := gb313) (o := .cells #[.slice none 0 0, .slice none 0 0, .slice none 0 0] 25 (0, 0)) (by (with_reducible repeat (fail)); exact BK313.out) hb); have n2_ := Aside0.mk (below_step (by repeat ((with_reducible exact HB.out))) hb); clear BK312; clear BK313; clear HB; have BK312 := n0_; have BK313 := n1_; have HB := n2_; clear n0_ n1_ n2_; (try clear hb); have hcz62_0 : w61.cell? ⟨gb313, 0, none⟩ = some (.slice none 0 0) := (blk_cell BK313.out 0).trans rfl; have hcz62_1 : w61.cell? ⟨gb313, 1, none⟩ = some (.slice none 0 0) := (blk_cell BK313.out 1).trans rfl; have hcz62_2 : w61.cell? ⟨gb313, 2, none⟩ = some (.slice none 0 0) := (blk_cell BK313.out 2).trans rfl; have hfz62_0 := blk_frozen BK313.out 0; have hfz62_1 := blk_frozen BK313.out 1; have hfz62_2 := blk_frozen BK313.out 2))
    refine bodyPost_ret (results_ct rfl _ _ gb313 25 #[.slice none 0 0, .slice none 0 0, .slice none 0 0] (0, 0) _ rfl (by (with_reducible repeat (fail)); refine blk_put (cs := #[.slice none 0 0, .slice none 0 0, .slice none 0 0]) ?_ 2 _ rfl; (with_reducible repeat (fail)); refine blk_put (cs := #[.slice none 0 0, .slice none 0 0, .slice none 0 0]) ?_ 1 _ rfl; (with_reducible repeat (fail)); refine blk_put (cs := #[.slice none 0 0, .slice none 0 0, .slice none 0 0]) ?_ 0 _ rfl; (with_reducible repeat (fail)); exact BK313.out) Try.underlying25 rfl (by kernel_rfl)) rfl ?_
    exact ⟨_, _, _, by rfl, by exact Kd.S_nil _ _ _ _ _, by exact Kd.R_nil _ _ _ _ _, by exact Kd.S_nil _ _ _ _ _, by repeat ((with_reducible first | exact HB.out | refine below_set ?_ GE313.out))⟩
end Go.Proofs.Ythheakfgmombdaa.F
end
section
namespace Go.Proofs.Ythheakfgmombdaa.F
open Go.RowKit Go.Proofs.YthheakfgmombdaaX.PrintWords Go.Proofs.YthheakfgmombdaaX.PrintLast Go.Proofs.YthheakfgmombdaaX.PrintMore
attribute [local go_sem] max2_int min2_int max_two min_two max_three min_three max_four min_four   -- for this text's walks alone
set_option linter.unusedVariables false
set_option linter.unusedSimpArgs false
set_option maxHeartbeats 8000000 in
set_option maxRecDepth 100000 in
theorem codewrightref01_Same.calls (k : Nat) (A0 : Option Addr) (c0 : Nat) (l0 : List Int) (A1 : Option Addr) (c1 : Nat) (l1 : List Int) (r : Bool) (w : World) (hr0 : Kd.C (Kd.int .u32) w A0 l0.length l0) (hc0 : l0.length ≤ c0) (hr1 : Kd.C (Kd.int .u32) w A1 l1.length l1) (hc1 : l1.length ≤ c1) (h : codewrightref01_Same.f k l0 l1 = some r) :
    Calls Try.prog 73 #[.slice A0 l0.length c0, .slice A1 l1.length c1] w fun e w' => e = .returned (.bool r) ∧ Drawn0 w w' := by
  have HR0 := Aside0.mk hr0
  have HC0 := Aside0.mk hc0
  clear hr0 hc0
  have HR1 := Aside0.mk hr1
  have HC1 := Aside0.mk hc1
  clear hr1 hc1
  have H : (if (l0.length : Int) = (l1.length : Int) then (codewrightref01_Same.l0 k l0 l1 0) else (some false)) = some r := h
  clear h
  by_cases c3 : (l0.length : Int) = (l1.length : Int)
  · rw [if_pos c3] at H
    have c3b0 : ((l0.length : Int) == (l1.length : Int)) = true := beq_iff_eq.mpr c3
    have c3b1 : ((l0.length : Int) != (l1.length : Int)) = false := bne_eq_false_iff_eq.mpr c3
    have c3b2 : (l0.length == l1.length) = true := by (simp at c3 ⊢; omega)
    clear c3
    have H' := Aside0.mk H
    clear H
    go_enter Try.func73, Try.ntmps73
    go_wp2
    repeat (go_quiet (fail); try go_wp2)
    go_loopg [5] k (fun kq v5 w' => ∃ (x5_1 : Int), v5 = .int .i64 x5_1 ∧ Aside0 (codewrightref01_Same.l0 kq l0 l1 x5_1 = some r) ∧ Aside0 (kq ≤ k) ∧ Drawn0 w w')
    case atStart => exact ⟨(0), (by rfl), H', ⟨Nat.le_refl _⟩, by repeat (exact Drawn0.refl _)⟩
    case round =>
      clear H'
      try clear c3b0
      try clear c3b1
      try clear c3b2
      obtain ⟨x5_1, rfl, HA, HK1, ⟨m1, rfl⟩⟩ := hrel
      cases gk with
      | zero => exact absurd HA.out (by simp [codewrightref01_Same.l0])
      | succ k1 =>
        have H := HA.out
        clear HA
        simp only [codewrightref01_Same.l0] at H
        by_cases c4 : x5_1 < (l0.length : Int)
        · rw [if_pos c4] at H
          have c4b0 : decide (x5_1 < (l0.length : Int)) = true := decide_eq_true c4
          clear c4
          by_cases c5 : 0 ≤ x5_1
          · rw [if_pos c5] at H
            have c5b0 : decide (0 ≤ x5_1) = true := decide_eq_true c5
            clear c5
            by_cases c6 : x5_1 < (l1.length : Int)
            · rw [if_pos c6] at H
              have c6b0 : decide (x5_1 < (l1.length : Int)) = true := decide_eq_true c6
              clear c6
              by_cases c7 : (rd l0 x5_1) = (rd l1 x5_1)
              · rw [if_pos c7] at H
                have c7b0 : ((rd l0 x5_1) == (rd l1 x5_1)) = true := beq_iff_eq.mpr c7
                have c7b1 : ((rd l0 x5_1) != (rd l1 x5_1)) = false := bne_eq_false_iff_eq.mpr c7
                clear c7
                have H' := Aside0.mk H
                clear H
                have p339 : 0 ≤ (x5_1 : Int) := of_decide_eq_true (by (with_reducible assumption))
                have q339 : x5_1 < (l0.length : Int) := of_decide_eq_true (by (with_reducible assumption))
                obtain ⟨ad339, e339, hx339_0⟩ := Kd.at_int HR0.out x5_1 p339 q339
                cases e339
                replace p339 := eq_true p339
                replace q339 := eq_true q339
                have p340 : 0 ≤ (x5_1 : Int) := of_decide_eq_true (by (with_reducible assumption))
                have q340 : x5_1 < (l1.length : Int) := of_decide_eq_true (by (with_reducible assumption))
                obtain ⟨ad340, e340, hx340_0⟩ := Kd.at_int HR1.out x5_1 p340 q340
                cases e340
                replace p340 := eq_true p340
                replace q340 := eq_true q340
                go_wp2
                repeat (go_quiet (fail); try go_wp2)
                go_roundg k1
                case measure => have := HK1.out; omega
                case rel => exact ⟨(wrap64 (x5_1 + 1)), (by rfl), H', ⟨by have := HK1.out; omega⟩, by repeat (first | exact Drawn0.refl _ | apply Drawn0.step)⟩
              · rw [if_neg c7] at H
                have c7b0 : ((rd l0 x5_1) == (rd l1 x5_1)) = false := beq_eq_false_iff_ne.mpr c7
                have c7b1 : ((rd l0 x5_1) != (rd l1 x5_1)) = true := bne_iff_ne.mpr c7
                obtain rfl := Option.some.inj H
                have p339 : 0 ≤ (x5_1 : Int) := of_decide_eq_true (by (with_reducible assumption))
                have q339 : x5_1 < (l0.length : Int) := of_decide_eq_true (by (with_reducible assumption))
                obtain ⟨ad339, e339, hx339_0⟩ := Kd.at_int HR0.out x5_1 p339 q339
                cases e339
                replace p339 := eq_true p339
                replace q339 := eq_true q339
                have p340 : 0 ≤ (x5_1 : Int) := of_decide_eq_true (by (with_reducible assumption))
                have q340 : x5_1 < (l1.length : Int) := of_decide_eq_true (by (with_reducible assumption))
                obtain ⟨ad340, e340, hx340_0⟩ := Kd.at_int HR1.out x5_1 p340 q340
                cases e340
                replace p340 := eq_true p340
                replace q340 := eq_true q340
                go_wp2
                repeat (go_quiet (fail); try go_wp2)
                go_ret
                exact ⟨by rfl, by repeat (first | exact Drawn0.refl _ | apply Drawn0.step)⟩
            · rw [if_neg c6] at H
              exact absurd H (by simp)
          · rw [if_neg c5] at H
            exact absurd H (by simp)
        · rw [if_neg c4] at H
          have c4b0 : decide (x5_1 < (l0.length : Int)) = false := decide_eq_false c4
          clear c4
          obtain rfl := Option.some.inj H
          go_wp2
          repeat (go_quiet (fail); try go_wp2)
          go_ret
          exact ⟨by rfl, by repeat (first | exact Drawn0.refl _ | apply Drawn0.step)⟩
  · rw [if_neg c3] at H
    have c3b0 : ((l0.length : Int) == (l1.length : Int)) = false := beq_eq_false_iff_ne.mpr c3
    have c3b1 : ((l0.length : Int) != (l1.length : Int)) = true := bne_iff_ne.mpr c3
    have c3b2 : (l0.length == l1.length) = false := by (simp at c3 ⊢; omega)
    obtain rfl := Option.some.inj H
    go_enter Try.func73, Try.ntmps73
    go_wp2
    repeat (go_quiet (fail); try go_wp2)
    go_ret
    exact ⟨by rfl, by repeat (exact Drawn0.refl _)⟩
end Go.Proofs.Ythheakfgmombdaa.F
end
section
namespace Go.Proofs.Ythheakfgmombdaa.F
open Go.RowKit Go.Proofs.YthheakfgmombdaaX.PrintWords Go.Proofs.YthheakfgmombdaaX.PrintLast Go.Proofs.YthheakfgmombdaaX.PrintMore
attribute [local go_sem] max2_int min2_int max_two min_two max_three min_three max_four min_four   -- for this text's walks alone
set_option linter.unusedVariables false
set_option linter.unusedSimpArgs false
set_option maxHeartbeats 8000000 in
set_option maxRecDepth 100000 in
theorem codewrightref02_Same.calls (k : Nat) (a0_0 : Bool) (A0_1 : Option Addr) (c0_1 : Nat) (l0_1 : List Int) (A0_2 : Option Addr) (c0_2 : Nat) (l0_2 : List Int) (a1_0 : Bool) (A1_1 : Option Addr) (c1_1 : Nat) (l1_1 : List Int) (A1_2 : Option Addr) (c1_2 : Nat) (l1_2 : List Int) (r : Bool) (w : World) (hr0_1 : Kd.C (Kd.int .u32) w A0_1 l0_1.length l0_1) (hc0_1 : l0_1.length ≤ c0_1) (hr0_2 : Kd.C (Kd.int .u32) w A0_2 l0_2.length l0_2) (hc0_2 : l0_2.length ≤ c0_2) (hr1_1 : Kd.C (Kd.int .u32) w A1_1 l1_1.length l1_1) (hc1_1 : l1_1.length ≤ c1_1) (hr1_2 : Kd.C (Kd.int .u32) w A1_2 l1_2.length l1_2) (hc1_2 : l1_2.length ≤ c1_2) (h : codewrightref02_Same.f k a0_0 l0_1 l0_2 a1_0 l1_1 l1_2 = some r) :
    Calls Try.prog 34 #[.agg #[.bool a0_0, .slice A0_1 l0_1.length c0_1, .slice A0_2 l0_2.length c0_2], .agg #[.bool a1_0, .slice A1_1 l1_1.length c1_1, .slice A1_2 l1_2.length c1_2]] w fun e w' => e = .returned (.bool r) ∧ Below w.heap.size w w' := by
  have hu46 := Try.underlying46
  have HR0_1 := Aside0.mk hr0_1
  have HC0_1 := Aside0.mk hc0_1
  clear hr0_1 hc0_1
  have HR0_2 := Aside0.mk hr0_2
  have HC0_2 := Aside0.mk hc0_2
  clear hr0_2 hc0_2
  have HR1_1 := Aside0.mk hr1_1
  have HC1_1 := Aside0.mk hc1_1
  clear hr1_1 hc1_1
  have HR1_2 := Aside0.mk hr1_2
  have HC1_2 := Aside0.mk hc1_2
  clear hr1_2 hc1_2
  have HB := Aside0.mk (Below.refl w.heap.size w)
  have H : (if (a0_0 == a1_0) = true then ((codewrightref01_Same.f k l0_1 l1_1).bind fun t343 => (if t343 = true then ((codewrightref01_Same.f k l0_2 l1_2).bind fun t344 => (some t344)) else (some false))) else (some false)) = some r := h
  clear h
  by_cases c3 : (a0_0 == a1_0) = true
  · rw [if_pos c3] at H
    have c3b0 : (a0_0 == a1_0) = true := c3
    (try (have c3b1 : decide (a0_0 = a1_0) = true := by simpa using c3))
    (try (have c3b2 : (a0_0 == a1_0) = true := by simpa using c3))
    clear c3
    replace H := Option.bind_eq_some_iff.mp H
    obtain ⟨t343, A40, H⟩ := H
    replace H : (if t343 = true then ((codewrightref01_Same.f k l0_2 l1_2).bind fun t344 => (some t344)) else (some false)) = some r := H
    have A4 := Aside0.mk A40
    clear A40
    by_cases c5 : t343 = true
    · subst c5
      have H1 : ((codewrightref01_Same.f k l0_2 l1_2).bind fun t344 => (some t344)) = some r := by rw [if_pos rfl] at H; exact H
      clear H
      have H := H1
      clear H1
      replace H := Option.bind_eq_some_iff.mp H
      obtain ⟨t344, A60, H⟩ := H
      replace H : (some t344) = some r := H
      have A6 := Aside0.mk A60
      clear A60
      obtain rfl := Option.some.inj H
      go_enter Try.func34, Try.ntmps34
      go_wp2_with (first | ((with_reducible refine gate_dst (N := 2) rfl ?_); refine box_event ?hg (N := 2) ?hd (cs := #[.bool a0_0, .slice A0_1 l0_1.length c0_1, .slice A0_2 l0_2.length c0_2]) (t := 46) ?hr ?_; (case hd => rfl); (case hg => rfl); (case hr => (go_simp; done)); intro gb341 hg w7 hbox hb; have n0_ := Aside0.mk (below_step (by repeat ((with_reducible exact HB.out))) hb); have n1_ := Aside0.mk (hbox); have n2_ := Aside0.mk ((by rw [hg]; exact (below_size (by repeat ((with_reducible exact HB.out)))) : w.heap.size ≤ gb341)); have n3_ := Aside0.mk ((by rw [hg]; exact (below_size (by repeat ((with_reducible exact HB.out)))) : w.heap.size ≤ gb341)); clear HB; have HB := n0_; have BK341 := n1_; have GW341 := n2_; have GE341 := n3_; clear n0_ n1_ n2_ n3_; clear hb hbox hg) | ((with_reducible refine gate_dst (N := 3) rfl ?_); refine box_event ?hg (N := 3) ?hd (cs := #[.bool a1_0, .slice A1_1 l1_1.length c1_1, .slice A1_2 l1_2.length c1_2]) (t := 46) ?hr ?_; (case hd => rfl); (case hg => rfl); (case hr => (go_simp; done)); intro gb342 hg w8 hbox hb; have n0_ := Aside0.mk (blk_below (g := gb341) (o := .cells #[.bool a0_0, .slice A0_1 l0_1.length c0_1, .slice A0_2 l0_2.length c0_2] 46 (0, 0)) (by (with_reducible repeat (fail)); exact BK341.out) hb); have n1_ := Aside0.mk (below_step (by repeat ((with_reducible exact HB.out))) hb); have n2_ := Aside0.mk (hbox); have n3_ := Aside0.mk ((by rw [hg]; exact (below_size (by repeat ((with_reducible exact HB.out)))) : w.heap.size ≤ gb342)); have n4_ := Aside0.mk ((by rw [hg]; exact (below_size (by repeat ((with_reducible exact HB.out)))) : w.heap.size ≤ gb342)); have n5_ := Aside0.mk ((by rw [hg]; exact Nat.ne_of_lt (blk_lt (g := gb341) (o := .cells #[.bool a0_0, .slice A0_1 l0_1.length c0_1, .slice A0_2 l0_2.length c0_2] 46 (0, 0)) (by (with_reducible repeat (fail)); exact BK341.out)) : gb341 ≠ gb342)); have n6_ := Aside0.mk ((by rw [hg]; exact Nat.ne_of_gt (blk_lt (g := gb341) (o := .cells #[.bool a0_0, .slice A0_1 l0_1.length c0_1, .slice A0_2 l0_2.length c0_2] 46 (0, 0)) (by (with_reducible repeat (fail)); exact BK341.out)) : gb342 ≠ gb341)); clear BK341; clear HB; have BK341 := n0_; have HB := n1_; have BK342 := n2_; have GW342 := n3_; have GE342 := n4_; have NB341_342 := n5_; have NB342_341 := n6_; clear n0_ n1_ n2_ n3_ n4_ n5_ n6_; clear hb hbox hg; have hnb9 := NB341_342.out; have hnc9 := NB342_341.out; have hcz10_0 : w8.cell? ⟨gb341, 0, none⟩ = some (.bool a0_0) := (blk_cell BK341.out 0).trans rfl; have hcz10_1 : w8.cell? ⟨gb341, 1, none⟩ = some (.slice A0_1 l0_1.length c0_1) := (blk_cell BK341.out 1).trans rfl; have hcz10_2 : w8.cell? ⟨gb341, 2, none⟩ = some (.slice A0_2 l0_2.length c0_2) := (blk_cell BK341.out 2).trans rfl; have hfz10_0 := blk_frozen BK341.out 0; have hfz10_1 := blk_frozen BK341.out 1; have hfz10_2 := blk_frozen BK341.out 2; have hcz11_0 : w8.cell? ⟨gb342, 0, none⟩ = some (.bool a1_0) := (blk_cell BK342.out 0).trans rfl; have hcz11_1 : w8.cell? ⟨gb342, 1, none⟩ = some (.slice A1_1 l1_1.length c1_1) := (blk_cell BK342.out 1).trans rfl; have hcz11_2 : w8.cell? ⟨gb342, 2, none⟩ = some (.slice A1_2 l1_2.length c1_2) := (blk_cell BK342.out 2).trans rfl; have hfz11_0 := blk_frozen BK342.out 0; have hfz11_1 := blk_frozen BK342.out 1; have hfz11_2 := blk_frozen BK342.out 2) | (go_at_call 73; (with_reducible refine (codewrightref01_Same.calls k _ _ l0_1 _ _ l1_1 true _ ?side1 ?side2 ?side3 ?side4 A4.out).mono ?_); (case side1 => repeat (exact (Kd.C_below HR0_1.out HB.out))); (case side2 => exact HC0_1.out); (case side3 => repeat (exact (Kd.C_below HR1_1.out HB.out))); (case side4 => exact HC1_1.out); rintro e w' ⟨rfl, ⟨nd, rfl⟩⟩) | (go_at_call 73; (with_reducible refine (codewrightref01_Same.calls k _ _ l0_2 _ _ l1_2 t344 _ ?side1 ?side2 ?side3 ?side4 A6.out).mono ?_); (case side1 => repeat (exact (Kd.C_below HR0_2.out (by repeat ((with_reducible first | exact HB.out | apply pw_below_drewN)))))); (case side2 => exact HC0_2.out); (case side3 => repeat (exact (Kd.C_below HR1_2.out (by repeat ((with_reducible first | exact HB.out | apply pw_below_drewN)))))); (case side4 => exact HC1_2.out); rintro e w' ⟨rfl, ⟨nd, rfl⟩⟩))
      go_ret
      exact ⟨by rfl, by repeat ((with_reducible first | exact HB.out | apply pw_below_drewN))⟩
    · replace c5 := Bool.eq_false_iff.mpr c5
      subst c5
      have H1 : (some false) = some r := by rw [if_neg (show ¬ (false = true) by decide)] at H; exact H
      clear H
      have H := H1
      clear H1
      obtain rfl := Option.some.inj H
      go_enter Try.func34, Try.ntmps34
      go_wp2_with (first | ((with_reducible refine gate_dst (N := 2) rfl ?_); refine box_event ?hg (N := 2) ?hd (cs := #[.bool a0_0, .slice A0_1 l0_1.length c0_1, .slice A0_2 l0_2.length c0_2]) (t := 46) ?hr ?_; (case hd => rfl); (case hg => rfl); (case hr => (go_simp; done)); intro gb341 hg w12 hbox hb; have n0_ := Aside0.mk (below_step (by repeat ((with_reducible exact HB.out))) hb); have n1_ := Aside0.mk (hbox); have n2_ := Aside0.mk ((by rw [hg]; exact (below_size (by repeat ((with_reducible exact HB.out)))) : w.heap.size ≤ gb341)); have n3_ := Aside0.mk ((by rw [hg]; exact (below_size (by repeat ((with_reducible exact HB.out)))) : w.heap.size ≤ gb341)); clear HB; have HB := n0_; have BK341 := n1_; have GW341 := n2_; have GE341 := n3_; clear n0_ n1_ n2_ n3_; clear hb hbox hg) | ((with_reducible refine gate_dst (N := 3) rfl ?_); refine box_event ?hg (N := 3) ?hd (cs := #[.bool a1_0, .slice A1_1 l1_1.length c1_1, .slice A1_2 l1_2.length c1_2]) (t := 46) ?hr ?_; (case hd => rfl); (case hg => rfl); (case hr => (go_simp; done)); intro gb342 hg w13 hbox hb; have n0_ := Aside0.mk (blk_below (g := gb341) (o := .cells #[.bool a0_0, .slice A0_1 l0_1.length c0_1, .slice A0_2 l0_2.length c0_2] 46 (0, 0)) (by (with_reducible repeat (fail)); exact BK341.out) hb); have n1_ := Aside0.mk (below_step (by repeat ((with_reducible exact HB.out))) hb); have n2_ := Aside0.mk (hbox); have n3_ := Aside0.mk ((by rw [hg]; exact (below_size (by repeat ((with_reducible exact HB.out)))) : w.heap.size ≤ gb342)); have n4_ := Aside0.mk ((by rw [hg]; exact (below_size (by repeat ((with_reducible exact HB.out)))) : w.heap.size ≤ gb342)); have n5_ := Aside0.mk ((by rw [hg]; exact Nat.ne_of_lt (blk_lt (g := gb341) (o := .cells #[.bool a0_0, .slice A0_1 l0_1.length c0_1, .slice A0_2 l0_2.length c0_2] 46 (0, 0)) (by (with_reducible repeat (fail)); exact BK341.out)) : gb341 ≠ gb342)); have n6_ := Aside0.mk ((by rw [hg]; exact Nat.ne_of_gt (blk_lt (g := gb341) (o := .cells #[.bool a0_0, .slice A0_1 l0_1.length c0_1, .slice A0_2 l0_2.length c0_2] 46 (0, 0)) (by (with_reducible repeat (fail)); exact BK341.out)) : gb342 ≠ gb341)); clear BK341; clear HB; have BK341 := n0_; have HB := n1_; have BK342 := n2_; have GW342 := n3_; have GE342 := n4_; have NB341_342 := n5_; have NB342_341 := n6_; clear n0_ n1_ n2_ n3_ n4_ n5_ n6_; clear hb hbox hg; have hnb14 := NB341_342.out; have hnc14 := NB342_341.out; have hcz15_0 : w13.cell? ⟨gb341, 0, none⟩ = some (.bool a0_0) := (blk_cell BK341.out 0).trans rfl; have hcz15_1 : w13.cell? ⟨gb341, 1, none⟩ = some (.slice A0_1 l0_1.length c0_1) := (blk_cell BK341.out 1).trans rfl; have hcz15_2 : w13.cell? ⟨gb341, 2, none⟩ = some (.slice A0_2 l0_2.length c0_2) := (blk_cell BK341.out 2).trans rfl; have hfz15_0 := blk_frozen BK341.out 0; have hfz15_1 := blk_frozen BK341.out 1; have hfz15_2 := blk_frozen BK341.out 2; have hcz16_0 : w13.cell? ⟨gb342, 0, none⟩ = some (.bool a1_0) := (blk_cell BK342.out 0).trans rfl; have hcz16_1 : w13.cell? ⟨gb342, 1, none⟩ = some (.slice A1_1 l1_1.length c1_1) := (blk_cell BK342.out 1).trans rfl; have hcz16_2 : w13.cell? ⟨gb342, 2, none⟩ = some (.slice A1_2 l1_2.length c1_2) := (blk_cell BK342.out 2).trans rfl; have hfz16_0 := blk_frozen BK342.out 0; have hfz16_1 := blk_frozen BK342.out 1; have hfz16_2 := blk_frozen BK342.out 2) | (go_at_call 73; (with_reducible refine (codewrightref01_Same.calls k _ _ l0_1 _ _ l1_1 false _ ?side1 ?side2 ?side3 ?side4 A4.out).mono ?_); (case side1 => repeat (exact (Kd.C_below HR0_1.out HB.out))); (case side2 => exact HC0_1.out); (case side3 => repeat (exact (Kd.C_below HR1_1.out HB.out))); (case side4 => exact HC1_1.out); rintro e w' ⟨rfl, ⟨nd, rfl⟩⟩))
      go_ret
      exact ⟨by rfl, by repeat ((with_reducible first | exact HB.out | apply pw_below_drewN))⟩
  · rw [if_neg c3] at H
    have c3b0 : (a0_0 == a1_0) = false := by simpa using c3
    (try (have c3b1 : decide (a0_0 = a1_0) = false := by simpa using c3))
    (try (have c3b2 : (a0_0 == a1_0) = false := by simpa using c3))
    (try (have c3b3 : ¬ (a0_0 = a1_0) := by simpa using c3))
    clear c3
    obtain rfl := Option.some.inj H
    go_enter Try.func34, Try.ntmps34
    go_wp2_with (first | ((with_reducible refine gate_dst (N := 2) rfl ?_); refine box_event ?hg (N := 2) ?hd (cs := #[.bool a0_0, .slice A0_1 l0_1.length c0_1, .slice A0_2 l0_2.length c0_2]) (t := 46) ?hr ?_; (case hd => rfl); (case hg => rfl); (case hr => (go_simp; done)); intro gb341 hg w17 hbox hb; have n0_ := Aside0.mk (below_step (by repeat ((with_reducible exact HB.out))) hb); have n1_ := Aside0.mk (hbox); have n2_ := Aside0.mk ((by rw [hg]; exact (below_size (by repeat ((with_reducible exact HB.out)))) : w.heap.size ≤ gb341)); have n3_ := Aside0.mk ((by rw [hg]; exact (below_size (by repeat ((with_reducible exact HB.out)))) : w.heap.size ≤ gb341)); clear HB; have HB := n0_; have BK341 := n1_; have GW341 := n2_; have GE341 := n3_; clear n0_ n1_ n2_ n3_; clear hb hbox hg) | ((with_reducible refine gate_dst (N := 3) rfl ?_); refine box_event ?hg (N := 3) ?hd (cs := #[.bool a1_0, .slice A1_1 l1_1.length c1_1, .slice A1_2 l1_2.length c1_2]) (t := 46) ?hr ?_; (case hd => rfl); (case hg => rfl); (case hr => (go_simp; done)); intro gb342 hg w18 hbox hb; have n0_ := Aside0.mk (blk_below (g := gb341) (o := .cells #[.bool a0_0, .slice A0_1 l0_1.length c0_1, .slice A0_2 l0_2.length c0_2] 46 (0, 0)) (by (with_reducible repeat (fail)); exact BK341.out) hb); have n1_ := Aside0.mk (below_step (by repeat ((with_reducible exact HB.out))) hb); have n2_ := Aside0.mk (hbox); have n3_ := Aside0.mk ((by rw [hg]; exact (below_size (by repeat ((with_reducible exact HB.out)))) : w.heap.size ≤ gb342)); have n4_ := Aside0.mk ((by rw [hg]; exact (below_size (by repeat ((with_reducible exact HB.out)))) : w.heap.size ≤ gb342)); have n5_ := Aside0.mk ((by rw [hg]; exact Nat.ne_of_lt (blk_lt (g := gb341) (o := .cells #[.bool a0_0, .slice A0_1 l0_1.length c0_1, .slice A0_2 l0_2.length c0_2] 46 (0, 0)) (by (with_reducible repeat (fail)); exact BK341.out)) : gb341 ≠ gb342)); have n6_ := Aside0.mk ((by rw [hg]; exact Nat.ne_of_gt (blk_lt (g := gb341) (o := .cells #[.bool a0_0, .slice A0_1 l0_1.length c0_1, .slice A0_2 l0_2.length c0_2] 46 (0, 0)) (by (with_reducible repeat (fail)); exact BK341.out)) : gb342 ≠ gb341)); clear BK341; clear HB; have BK341 := n0_; have HB := n1_; have BK342 := n2_; have GW342 := n3_; have GE342 := n4_; have NB341_342 := n5_; have NB342_341 := n6_; clear n0_ n1_ n2_ n3_ n4_ n5_ n6_; clear hb hbox hg; have hnb19 := NB341_342.out; have hnc19 := NB342_341.out; have hcz20_0 : w18.cell? ⟨gb341, 0, none⟩ = some (.bool a0_0) := (blk_cell BK341.out 0).trans rfl; have hcz20_1 : w18.cell? ⟨gb341, 1, none⟩ = some (.slice A0_1 l0_1.length c0_1) := (blk_cell BK341.out 1).trans rfl; have hcz20_2 : w18.cell? ⟨gb341, 2, none⟩ = some (.slice A0_2 l0_2.length c0_2) := (blk_cell BK341.out 2).trans rfl; have hfz20_0 := blk_frozen BK341.out 0; have hfz20_1 := blk_frozen BK341.out 1; have hfz20_2 := blk_frozen BK341.out 2; have hcz21_0 : w18.cell? ⟨gb342, 0, none⟩ = some (.bool a1_0) := (blk_cell BK342.out 0).trans rfl; have hcz21_1 : w18.cell? ⟨gb342, 1, none⟩ = some (.slice A1_1 l1_1.length c1_1) := (blk_cell BK342.out 1).trans rfl; have hcz21_2 : w18.cell? ⟨gb342, 2, none⟩ = some (.slice A1_2 l1_2.length c1_2) := (blk_cell BK342.out 2).trans rfl; have hfz21_0 := blk_frozen BK342.out 0; have hfz21_1 := blk_frozen BK342.out 1; have hfz21_2 := blk_frozen BK342.out 2))
    go_ret
    exact ⟨by rfl, by repeat ((with_reducible exact HB.out))⟩
end Go.Proofs.Ythheakfgmombdaa.F
end
section
namespace Go.Proofs.Ythheakfgmombdaa.F
open Go.RowKit Go.Proofs.YthheakfgmombdaaX.PrintWords Go.Proofs.YthheakfgmombdaaX.PrintLast Go.Proofs.YthheakfgmombdaaX.PrintMore
attribute [local go_sem] max2_int min2_int max_two min_two max_three min_three max_four min_four   -- for this text's walks alone
set_option linter.unusedVariables false
set_option linter.unusedSimpArgs false
def codewrightref02_SameList.T6 : Bool × List (List Nat × List Nat) := (true, [([], []), ([], []), ([0, 1], [0, 1]), ([2], [2]), ([], []), ([], []), ([4, 5], [4, 5]), ([6], [6]), ([3, 7], [3, 7]), ([8], [8])])
def codewrightref02_SameList.B6 : List Nat := [0, 0, 3, 7, 0, 0, 48, 112, 255, 511]
theorem codewrightref02_SameList.tab6 : rtab .any (opsOf Try.f27 6) = codewrightref02_SameList.T6 := by kernel_rfl
theorem codewrightref02_SameList.bits6 : waitsOk codewrightref02_SameList.T6.2 codewrightref02_SameList.B6 = true := by kernel_rfl
set_option maxHeartbeats 8000000 in
set_option maxRecDepth 100000 in
theorem codewrightref02_SameList.calls (k : Nat) (A0 : Option Addr) (c0 : Nat) (l0 : List (S46)) (A1 : Option Addr) (c1 : Nat) (l1 : List (S46)) (r : Bool) (w : World) (hr0 : Kd.C k46 w A0 l0.length l0) (hc0 : l0.length ≤ c0) (hr1 : Kd.C k46 w A1 l1.length l1) (hc1 : l1.length ≤ c1) (h : codewrightref02_SameList.f k l0 l1 = some r) :
    Calls Try.prog 27 #[.slice A0 l0.length c0, .slice A1 l1.length c1] w fun e w' => e = .returned (.bool r) ∧ Below w.heap.size w w' := by
  have hu46 := Try.underlying46
  have HR0 := Aside0.mk hr0
  have HC0 := Aside0.mk hc0
  clear hr0 hc0
  have HR1 := Aside0.mk hr1
  have HC1 := Aside0.mk hc1
  clear hr1 hc1
  have HB := Aside0.mk (Below.refl w.heap.size w)
  have H : (if (l0.length : Int) = (l1.length : Int) then (codewrightref02_SameList.l0 k l0 l1 0) else (some false)) = some r := h
  clear h
  by_cases c3 : (l0.length : Int) = (l1.length : Int)
  · rw [if_pos c3] at H
    have c3b0 : ((l0.length : Int) == (l1.length : Int)) = true := beq_iff_eq.mpr c3
    have c3b1 : ((l0.length : Int) != (l1.length : Int)) = false := bne_eq_false_iff_eq.mpr c3
    have c3b2 : (l0.length == l1.length) = true := by (simp at c3 ⊢; omega)
    clear c3
    have H' := Aside0.mk H
    clear H
    go_enter Try.func27, Try.ntmps27
    go_wp2
    go_loopg [5] k (fun kq v5 w' => ∃ (x5_1 : Int), v5 = .int .i64 x5_1 ∧ Aside0 (codewrightref02_SameList.l0 kq l0 l1 x5_1 = some r) ∧ Aside0 (kq ≤ k) ∧ Aside0 (Below w.heap.size w w'))
    case atStart => exact ⟨(0), (by rfl), H', ⟨Nat.le_refl _⟩, ⟨by repeat ((with_reducible exact HB.out))⟩⟩
    case round =>
      clear H'
      try clear c3b0
      try clear c3b1
      try clear c3b2
      obtain ⟨x5_1, rfl, HA, HK1, HB⟩ := hrel
      cases gk with
      | zero => exact absurd HA.out (by simp [codewrightref02_SameList.l0])
      | succ k1 =>
        have H := HA.out
        clear HA
        simp only [codewrightref02_SameList.l0] at H
        by_cases c4 : x5_1 < (l0.length : Int)
        · rw [if_pos c4] at H
          have c4b0 : decide (x5_1 < (l0.length : Int)) = true := decide_eq_true c4
          clear c4
          by_cases c5 : 0 ≤ x5_1
          · rw [if_pos c5] at H
            have c5b0 : decide (0 ≤ x5_1) = true := decide_eq_true c5
            clear c5
            by_cases c6 : x5_1 < (l1.length : Int)
            · rw [if_pos c6] at H
              have c6b0 : decide (x5_1 < (l1.length : Int)) = true := decide_eq_true c6
              clear c6
              replace H := Option.bind_eq_some_iff.mp H
              obtain ⟨t347, A70, H⟩ := H
              replace H : (if t347 = true then (codewrightref02_SameList.l0 k1 l0 l1 (wrap64 (x5_1 + 1))) else (some false)) = some r := H
              have A7 := Aside0.mk A70
              clear A70
              by_cases c8 : t347 = true
              · subst c8
                have H1 : (codewrightref02_SameList.l0 k1 l0 l1 (wrap64 (x5_1 + 1))) = some r := by rw [if_pos rfl] at H; exact H
                clear H
                have H := H1
                clear H1
                have H' := Aside0.mk H
                clear H
                try go_wp2
                have n0_ := Aside0.mk (below_drew1 HB.out)
                clear HB
                have HB := n0_
                clear n0_
                have p345 : 0 ≤ (x5_1 : Int) := of_decide_eq_true (by (with_reducible assumption))
                have q345 : x5_1 < (l0.length : Int) := of_decide_eq_true (by (with_reducible assumption))
                obtain ⟨ad345, A345_1, c345_1, A345_2, c345_2, e345, hx345_0, hx345_1, hx345_2, hl345_1, hi345_1, hl345_2, hi345_2⟩ := at_T46 HR0.out x5_1 p345 q345
                have hw345_2 := hx345_2
                have hw345_1 := hx345_1
                have hw345_0 := hx345_0
                cases e345
                replace hx345_0 := (HB.out.cell (World.block_lt_of_cell? w _ hx345_0)).trans hx345_0
                replace hx345_1 := (HB.out.cell (World.block_lt_of_cell? w _ hx345_1)).trans hx345_1
                replace hx345_2 := (HB.out.cell (World.block_lt_of_cell? w _ hx345_2)).trans hx345_2
                have HR345_1 := Aside0.mk hi345_1
                have HC345_1 := Aside0.mk hl345_1
                clear hi345_1 hl345_1
                have HR345_2 := Aside0.mk hi345_2
                have HC345_2 := Aside0.mk hl345_2
                clear hi345_2 hl345_2
                replace p345 := eq_true p345
                replace q345 := eq_true q345
                have p346 : 0 ≤ (x5_1 : Int) := of_decide_eq_true (by (with_reducible assumption))
                have q346 : x5_1 < (l1.length : Int) := of_decide_eq_true (by (with_reducible assumption))
                obtain ⟨ad346, A346_1, c346_1, A346_2, c346_2, e346, hx346_0, hx346_1, hx346_2, hl346_1, hi346_1, hl346_2, hi346_2⟩ := at_T46 HR1.out x5_1 p346 q346
                have hw346_2 := hx346_2
                have hw346_1 := hx346_1
                have hw346_0 := hx346_0
                cases e346
                replace hx346_0 := (HB.out.cell (World.block_lt_of_cell? w _ hx346_0)).trans hx346_0
                replace hx346_1 := (HB.out.cell (World.block_lt_of_cell? w _ hx346_1)).trans hx346_1
                replace hx346_2 := (HB.out.cell (World.block_lt_of_cell? w _ hx346_2)).trans hx346_2
                have HR346_1 := Aside0.mk hi346_1
                have HC346_1 := Aside0.mk hl346_1
                clear hi346_1 hl346_1
                have HR346_2 := Aside0.mk hi346_2
                have HC346_2 := Aside0.mk hl346_2
                clear hi346_2 hl346_2
                replace p346 := eq_true p346
                replace q346 := eq_true q346
                refine start_ (n := 10) (S := fun w' => w'.cell? (ad345.add ((x5_1).toNat * 3)) = some (.bool ((rd_T46 l0 x5_1).f0)) ∧ w'.cell? ⟨(ad345.add ((x5_1).toNat * 3)).block, (ad345.add ((x5_1).toNat * 3)).off + 1, none⟩ = some (.slice A345_1 ((rd_T46 l0 x5_1).f1).length c345_1) ∧ w'.cell? ⟨(ad345.add ((x5_1).toNat * 3)).block, (ad345.add ((x5_1).toNat * 3)).off + 2, none⟩ = some (.slice A345_2 ((rd_T46 l0 x5_1).f2).length c345_2) ∧ w'.cell? (ad346.add ((x5_1).toNat * 3)) = some (.bool ((rd_T46 l1 x5_1).f0)) ∧ w'.cell? ⟨(ad346.add ((x5_1).toNat * 3)).block, (ad346.add ((x5_1).toNat * 3)).off + 1, none⟩ = some (.slice A346_1 ((rd_T46 l1 x5_1).f1).length c346_1) ∧ w'.cell? ⟨(ad346.add ((x5_1).toNat * 3)).block, (ad346.add ((x5_1).toNat * 3)).off + 2, none⟩ = some (.slice A346_2 ((rd_T46 l1 x5_1).f2).length c346_2)) (ds := []) #[false, false, false, false, false, false, false, false, false, false] (by kernel_rfl) rfl rfl ⟨((HB.out.cell (World.block_lt_of_cell? w _ hw345_0)).trans hw345_0), ((HB.out.cell (World.block_lt_of_cell? w _ hw345_1)).trans hw345_1), ((HB.out.cell (World.block_lt_of_cell? w _ hw345_2)).trans hw345_2), ((HB.out.cell (World.block_lt_of_cell? w _ hw346_0)).trans hw346_0), ((HB.out.cell (World.block_lt_of_cell? w _ hw346_1)).trans hw346_1), ((HB.out.cell (World.block_lt_of_cell? w _ hw346_2)).trans hw346_2)⟩ (fun hHeld => ?_); refine with_tabW codewrightref02_SameList.tab6 codewrightref02_SameList.bits6 (fun HT_ HW_ => ?_)
                generalize wr.drew = w9 at HB HR345_1 HR345_2 HR346_1 HR346_2 hx345_0 hx345_1 hx345_2 hx346_0 hx346_1 hx346_2 hHeld ⊢
                refine pure_ (i := 0) (N := some 17) (v := ?_) (a' := ?_) #[true, false, false, false, false, false, false, false, false, false] rfl rfl (any_of HT_.out (by kernel_rfl)) (fun _ _ _ h => h) (Or.inl ⟨by rfl, ?_⟩) ?_ ?_
                rotate_left
                · intro w'
                  go_simp
                  with_reducible rfl
                rotate_left
                · simp only [Act.put, List.setIfInBounds_toArray, List.set_cons_zero, List.set_cons_succ, i64_w, i32_w]
                  rfl
                refine pure_ (i := 1) (N := some 18) (v := ?_) (a' := ?_) #[true, true, false, false, false, false, false, false, false, false] rfl rfl (any_of HT_.out (by kernel_rfl)) (fun _ _ _ h => h) (Or.inl ⟨by rfl, ?_⟩) ?_ ?_
                rotate_left
                · intro w'
                  go_simp
                  with_reducible rfl
                rotate_left
                · simp only [Act.put, List.setIfInBounds_toArray, List.set_cons_zero, List.set_cons_succ, i64_w, i32_w]
                  rfl
                refine pure_ (i := 2) (N := some 19) (v := ?_) (a' := ?_) #[true, true, true, false, false, false, false, false, false, false] rfl rfl (any_of HT_.out (by kernel_rfl)) (fun _ _ _ h => h) (Or.inl ⟨by rfl, ?_⟩) ?_ ?_
                rotate_left
                · intro w'
                  go_simp
                  with_reducible rfl
                rotate_left
                · simp only [Act.put, List.setIfInBounds_toArray, List.set_cons_zero, List.set_cons_succ, i64_w, i32_w]
                  rfl
                refine pure_ (i := 4) (N := some 21) (v := ?_) (a' := ?_) #[true, true, true, false, true, false, false, false, false, false] rfl rfl (any_of HT_.out (by kernel_rfl)) (fun _ _ _ h => h) (Or.inl ⟨by rfl, ?_⟩) ?_ ?_
                rotate_left
                · intro w'
                  go_simp
                  with_reducible rfl
                rotate_left
                · simp only [Act.put, List.setIfInBounds_toArray, List.set_cons_zero, List.set_cons_succ, i64_w, i32_w]
                  rfl
                refine pure_ (i := 5) (N := some 22) (v := ?_) (a' := ?_) #[true, true, true, false, true, true, false, false, false, false] rfl rfl (any_of HT_.out (by kernel_rfl)) (fun _ _ _ h => h) (Or.inl ⟨by rfl, ?_⟩) ?_ ?_
                rotate_left
                · intro w'
                  go_simp
                  with_reducible rfl
                rotate_left
                · simp only [Act.put, List.setIfInBounds_toArray, List.set_cons_zero, List.set_cons_succ, i64_w, i32_w]
                  rfl
                refine pure_ (i := 6) (N := some 23) (v := ?_) (a' := ?_) #[true, true, true, false, true, true, true, false, false, false] rfl rfl (any_of HT_.out (by kernel_rfl)) (fun _ _ _ h => h) (Or.inl ⟨by rfl, ?_⟩) ?_ ?_
                rotate_left
                · intro w'
                  go_simp
                  with_reducible rfl
                rotate_left
                · simp only [Act.put, List.setIfInBounds_toArray, List.set_cons_zero, List.set_cons_succ, i64_w, i32_w]
                  rfl
                refine take_ (i := 3) (N := some 20) (v := ?_) (a' := ?_) #[true, true, true, true, true, true, true, false, false, false] rfl rfl (take_ofW HT_.out HW_.out (by kernel_rfl)) (fun _ _ _ h => h) (Or.inl ⟨by rfl, ?_⟩) hHeld ?_ ?_
                rotate_left
                · rintro w' ⟨s0, s1, s2, s3, s4, s5⟩
                  go_simp
                  with_reducible rfl
                rotate_left
                · simp only [Act.put, List.setIfInBounds_toArray, List.set_cons_zero, List.set_cons_succ, i64_w, i32_w]
                  rfl
                refine take_ (i := 7) (N := some 24) (v := ?_) (a' := ?_) #[true, true, true, true, true, true, true, true, false, false] rfl rfl (take_ofW HT_.out HW_.out (by kernel_rfl)) (fun _ _ _ h => h) (Or.inl ⟨by rfl, ?_⟩) hHeld ?_ ?_
                rotate_left
                · rintro w' ⟨s0, s1, s2, s3, s4, s5⟩
                  go_simp
                  with_reducible rfl
                rotate_left
                · simp only [Act.put, List.setIfInBounds_toArray, List.set_cons_zero, List.set_cons_succ, i64_w, i32_w]
                  rfl
                refine one_ (i := 8) (N := some 25) #[true, true, true, true, true, true, true, true, true, false] rfl rfl (one_of HT_.out (by kernel_rfl)) (by decide) (fun K hK => ?_)
                refine goes_ Try.func34 (by kernel_rfl) rfl #[.agg #[.bool ((rd_T46 l0 x5_1).f0), .slice A345_1 ((rd_T46 l0 x5_1).f1).length c345_1, .slice A345_2 ((rd_T46 l0 x5_1).f2).length c345_2], .agg #[.bool ((rd_T46 l1 x5_1).f0), .slice A346_1 ((rd_T46 l1 x5_1).f1).length c346_1, .slice A346_2 ((rd_T46 l1 x5_1).f2).length c346_2]] (by rfl) rfl rfl (by (try simp only [List.map_toArray, List.map_cons, List.map_nil]); rfl) ?_
                with_reducible refine (codewrightref02_Same.calls k1 ((rd_T46 l0 x5_1).f0) _ _ ((rd_T46 l0 x5_1).f1) _ _ ((rd_T46 l0 x5_1).f2) ((rd_T46 l1 x5_1).f0) _ _ ((rd_T46 l1 x5_1).f1) _ _ ((rd_T46 l1 x5_1).f2) true _ ?side1 ?side2 ?side3 ?side4 ?side5 ?side6 ?side7 ?side8 A7.out).mono ?_
                (case side1 => repeat (exact (Kd.C_below HR345_1.out HB.out)))
                (case side2 => exact HC345_1.out)
                (case side3 => repeat (exact (Kd.C_below HR345_2.out HB.out)))
                (case side4 => exact HC345_2.out)
                (case side5 => repeat (exact (Kd.C_below HR346_1.out HB.out)))
                (case side6 => exact HC346_1.out)
                (case side7 => repeat (exact (Kd.C_below HR346_2.out HB.out)))
                (case side8 => exact HC346_2.out)
                rintro e w10 ⟨rfl, hb⟩
                refine ⟨_, rfl, ?_⟩
                have n0_ := Aside0.mk (below_step (by repeat ((with_reducible exact HB.out))) hb)
                clear HB
                have HB := n0_
                clear n0_
                (try clear hb)
                refine hK.out _ _ ⟨((HB.out.cell (World.block_lt_of_cell? w _ hw345_0)).trans hw345_0), ((HB.out.cell (World.block_lt_of_cell? w _ hw345_1)).trans hw345_1), ((HB.out.cell (World.block_lt_of_cell? w _ hw345_2)).trans hw345_2), ((HB.out.cell (World.block_lt_of_cell? w _ hw346_0)).trans hw346_0), ((HB.out.cell (World.block_lt_of_cell? w _ hw346_1)).trans hw346_1), ((HB.out.cell (World.block_lt_of_cell? w _ hw346_2)).trans hw346_2)⟩ (fun hHeld => ?_)
                clear hK K
                refine norm_ (a' := ?_) ?_ ?_
                rotate_left
                · show Act.put _ (some 25) _ = _
                  simp only [Act.put, List.setIfInBounds_toArray, List.set_cons_zero, List.set_cons_succ, i64_w, i32_w]
                  rfl
                refine pure_ (i := 9) (N := some 26) (v := ?_) (a' := ?_) #[true, true, true, true, true, true, true, true, true, true] rfl rfl (any_of HT_.out (by kernel_rfl)) (fun _ _ _ h => h) (Or.inl ⟨by rfl, ?_⟩) ?_ ?_
                rotate_left
                · intro w'
                  go_simp
                  with_reducible rfl
                rotate_left
                · simp only [Act.put, List.setIfInBounds_toArray, List.set_cons_zero, List.set_cons_succ, i64_w, i32_w]
                  rfl
                refine done_ (done_of HT_.out (by kernel_rfl)) ?_
                try go_wp2
                go_roundg k1
                case measure => have := HK1.out; omega
                case rel => exact ⟨(wrap64 (x5_1 + 1)), (by rfl), H', ⟨by have := HK1.out; omega⟩, ⟨by repeat ((with_reducible exact HB.out))⟩⟩
              · replace c8 := Bool.eq_false_iff.mpr c8
                subst c8
                have H1 : (some false) = some r := by rw [if_neg (show ¬ (false = true) by decide)] at H; exact H
                clear H
                have H := H1
                clear H1
                obtain rfl := Option.some.inj H
                try go_wp2
                have n0_ := Aside0.mk (below_drew1 HB.out)
                clear HB
                have HB := n0_
                clear n0_
                have p345 : 0 ≤ (x5_1 : Int) := of_decide_eq_true (by (with_reducible assumption))
                have q345 : x5_1 < (l0.length : Int) := of_decide_eq_true (by (with_reducible assumption))
                obtain ⟨ad345, A345_1, c345_1, A345_2, c345_2, e345, hx345_0, hx345_1, hx345_2, hl345_1, hi345_1, hl345_2, hi345_2⟩ := at_T46 HR0.out x5_1 p345 q345
                have hw345_2 := hx345_2
                have hw345_1 := hx345_1
                have hw345_0 := hx345_0
                cases e345
                replace hx345_0 := (HB.out.cell (World.block_lt_of_cell? w _ hx345_0)).trans hx345_0
                replace hx345_1 := (HB.out.cell (World.block_lt_of_cell? w _ hx345_1)).trans hx345_1
                replace hx345_2 := (HB.out.cell (World.block_lt_of_cell? w _ hx345_2)).trans hx345_2
                have HR345_1 := Aside0.mk hi345_1
                have HC345_1 := Aside0.mk hl345_1
                clear hi345_1 hl345_1
                have HR345_2 := Aside0.mk hi345_2
                have HC345_2 := Aside0.mk hl345_2
                clear hi345_2 hl345_2
                replace p345 := eq_true p345
                replace q345 := eq_true q345
                have p346 : 0 ≤ (x5_1 : Int) := of_decide_eq_true (by (with_reducible assumption))
                have q346 : x5_1 < (l1.length : Int) := of_decide_eq_true (by (with_reducible assumption))
                obtain ⟨ad346, A346_1, c346_1, A346_2, c346_2, e346, hx346_0, hx346_1, hx346_2, hl346_1, hi346_1, hl346_2, hi346_2⟩ := at_T46 HR1.out x5_1 p346 q346
                have hw346_2 := hx346_2
                have hw346_1 := hx346_1
                have hw346_0 := hx346_0
                cases e346
                replace hx346_0 := (HB.out.cell (World.block_lt_of_cell? w _ hx346_0)).trans hx346_0
                replace hx346_1 := (HB.out.cell (World.block_lt_of_cell? w _ hx346_1)).trans hx346_1
                replace hx346_2 := (HB.out.cell (World.block_lt_of_cell? w _ hx346_2)).trans hx346_2
                have HR346_1 := Aside0.mk hi346_1
                have HC346_1 := Aside0.mk hl346_1
                clear hi346_1 hl346_1
                have HR346_2 := Aside0.mk hi346_2
                have HC346_2 := Aside0.mk hl346_2
                clear hi346_2 hl346_2
                replace p346 := eq_true p346
                replace q346 := eq_true q346
                refine start_ (n := 10) (S := fun w' => w'.cell? (ad345.add ((x5_1).toNat * 3)) = some (.bool ((rd_T46 l0 x5_1).f0)) ∧ w'.cell? ⟨(ad345.add ((x5_1).toNat * 3)).block, (ad345.add ((x5_1).toNat * 3)).off + 1, none⟩ = some (.slice A345_1 ((rd_T46 l0 x5_1).f1).length c345_1) ∧ w'.cell? ⟨(ad345.add ((x5_1).toNat * 3)).block, (ad345.add ((x5_1).toNat * 3)).off + 2, none⟩ = some (.slice A345_2 ((rd_T46 l0 x5_1).f2).length c345_2) ∧ w'.cell? (ad346.add ((x5_1).toNat * 3)) = some (.bool ((rd_T46 l1 x5_1).f0)) ∧ w'.cell? ⟨(ad346.add ((x5_1).toNat * 3)).block, (ad346.add ((x5_1).toNat * 3)).off + 1, none⟩ = some (.slice A346_1 ((rd_T46 l1 x5_1).f1).length c346_1) ∧ w'.cell? ⟨(ad346.add ((x5_1).toNat * 3)).block, (ad346.add ((x5_1).toNat * 3)).off + 2, none⟩ = some (.slice A346_2 ((rd_T46 l1 x5_1).f2).length c346_2)) (ds := []) #[false, false, false, false, false, false, false, false, false, false] (by kernel_rfl) rfl rfl ⟨((HB.out.cell (World.block_lt_of_cell? w _ hw345_0)).trans hw345_0), ((HB.out.cell (World.block_lt_of_cell? w _ hw345_1)).trans hw345_1), ((HB.out.cell (World.block_lt_of_cell? w _ hw345_2)).trans hw345_2), ((HB.out.cell (World.block_lt_of_cell? w _ hw346_0)).trans hw346_0), ((HB.out.cell (World.block_lt_of_cell? w _ hw346_1)).trans hw346_1), ((HB.out.cell (World.block_lt_of_cell? w _ hw346_2)).trans hw346_2)⟩ (fun hHeld => ?_); refine with_tabW codewrightref02_SameList.tab6 codewrightref02_SameList.bits6 (fun HT_ HW_ => ?_)
                generalize wr.drew = w11 at HB HR345_1 HR345_2 HR346_1 HR346_2 hx345_0 hx345_1 hx345_2 hx346_0 hx346_1 hx346_2 hHeld ⊢
                refine pure_ (i := 0) (N := some 17) (v := ?_) (a' := ?_) #[true, false, false, false, false, false, false, false, false, false] rfl rfl (any_of HT_.out (by kernel_rfl)) (fun _ _ _ h => h) (Or.inl ⟨by rfl, ?_⟩) ?_ ?_
                rotate_left
                · intro w'
                  go_simp
                  with_reducible rfl
                rotate_left
                · simp only [Act.put, List.setIfInBounds_toArray, List.set_cons_zero, List.set_cons_succ, i64_w, i32_w]
                  rfl
                refine pure_ (i := 1) (N := some 18) (v := ?_) (a' := ?_) #[true, true, false, false, false, false, false, false, false, false] rfl rfl (any_of HT_.out (by kernel_rfl)) (fun _ _ _ h => h) (Or.inl ⟨by rfl, ?_⟩) ?_ ?_
                rotate_left
                · intro w'
                  go_simp
                  with_reducible rfl
                rotate_left
                · simp only [Act.put, List.setIfInBounds_toArray, List.set_cons_zero, List.set_cons_succ, i64_w, i32_w]
                  rfl
                refine pure_ (i := 2) (N := some 19) (v := ?_) (a' := ?_) #[true, true, true, false, false, false, false, false, false, false] rfl rfl (any_of HT_.out (by kernel_rfl)) (fun _ _ _ h => h) (Or.inl ⟨by rfl, ?_⟩) ?_ ?_
                rotate_left
                · intro w'
                  go_simp
                  with_reducible rfl
                rotate_left
                · simp only [Act.put, List.setIfInBounds_toArray, List.set_cons_zero, List.set_cons_succ, i64_w, i32_w]
                  rfl
                refine pure_ (i := 4) (N := some 21) (v := ?_) (a' := ?_) #[true, true, true, false, true, false, false, false, false, false] rfl rfl (any_of HT_.out (by kernel_rfl)) (fun _ _ _ h => h) (Or.inl ⟨by rfl, ?_⟩) ?_ ?_
                rotate_left
                · intro w'
                  go_simp
                  with_reducible rfl
                rotate_left
                · simp only [Act.put, List.setIfInBounds_toArray, List.set_cons_zero, List.set_cons_succ, i64_w, i32_w]
                  rfl
                refine pure_ (i := 5) (N := some 22) (v := ?_) (a' := ?_) #[true, true, true, false, true, true, false, false, false, false] rfl rfl (any_of HT_.out (by kernel_rfl)) (fun _ _ _ h => h) (Or.inl ⟨by rfl, ?_⟩) ?_ ?_
                rotate_left
                · intro w'
                  go_simp
                  with_reducible rfl
                rotate_left
                · simp only [Act.put, List.setIfInBounds_toArray, List.set_cons_zero, List.set_cons_succ, i64_w, i32_w]
                  rfl
                refine pure_ (i := 6) (N := some 23) (v := ?_) (a' := ?_) #[true, true, true, false, true, true, true, false, false, false] rfl rfl (any_of HT_.out (by kernel_rfl)) (fun _ _ _ h => h) (Or.inl ⟨by rfl, ?_⟩) ?_ ?_
                rotate_left
                · intro w'
                  go_simp
                  with_reducible rfl
                rotate_left
                · simp only [Act.put, List.setIfInBounds_toArray, List.set_cons_zero, List.set_cons_succ, i64_w, i32_w]
                  rfl
                refine take_ (i := 3) (N := some 20) (v := ?_) (a' := ?_) #[true, true, true, true, true, true, true, false, false, false] rfl rfl (take_ofW HT_.out HW_.out (by kernel_rfl)) (fun _ _ _ h => h) (Or.inl ⟨by rfl, ?_⟩) hHeld ?_ ?_
                rotate_left
                · rintro w' ⟨s0, s1, s2, s3, s4, s5⟩
                  go_simp
                  with_reducible rfl
                rotate_left
                · simp only [Act.put, List.setIfInBounds_toArray, List.set_cons_zero, List.set_cons_succ, i64_w, i32_w]
                  rfl
                refine take_ (i := 7) (N := some 24) (v := ?_) (a' := ?_) #[true, true, true, true, true, true, true, true, false, false] rfl rfl (take_ofW HT_.out HW_.out (by kernel_rfl)) (fun _ _ _ h => h) (Or.inl ⟨by rfl, ?_⟩) hHeld ?_ ?_
                rotate_left
                · rintro w' ⟨s0, s1, s2, s3, s4, s5⟩
                  go_simp
                  with_reducible rfl
                rotate_left
                · simp only [Act.put, List.setIfInBounds_toArray, List.set_cons_zero, List.set_cons_succ, i64_w, i32_w]
                  rfl
                refine one_ (i := 8) (N := some 25) #[true, true, true, true, true, true, true, true, true, false] rfl rfl (one_of HT_.out (by kernel_rfl)) (by decide) (fun K hK => ?_)
                refine goes_ Try.func34 (by kernel_rfl) rfl #[.agg #[.bool ((rd_T46 l0 x5_1).f0), .slice A345_1 ((rd_T46 l0 x5_1).f1).length c345_1, .slice A345_2 ((rd_T46 l0 x5_1).f2).length c345_2], .agg #[.bool ((rd_T46 l1 x5_1).f0), .slice A346_1 ((rd_T46 l1 x5_1).f1).length c346_1, .slice A346_2 ((rd_T46 l1 x5_1).f2).length c346_2]] (by rfl) rfl rfl (by (try simp only [List.map_toArray, List.map_cons, List.map_nil]); rfl) ?_
                with_reducible refine (codewrightref02_Same.calls k1 ((rd_T46 l0 x5_1).f0) _ _ ((rd_T46 l0 x5_1).f1) _ _ ((rd_T46 l0 x5_1).f2) ((rd_T46 l1 x5_1).f0) _ _ ((rd_T46 l1 x5_1).f1) _ _ ((rd_T46 l1 x5_1).f2) false _ ?side1 ?side2 ?side3 ?side4 ?side5 ?side6 ?side7 ?side8 A7.out).mono ?_
                (case side1 => repeat (exact (Kd.C_below HR345_1.out HB.out)))
                (case side2 => exact HC345_1.out)
                (case side3 => repeat (exact (Kd.C_below HR345_2.out HB.out)))
                (case side4 => exact HC345_2.out)
                (case side5 => repeat (exact (Kd.C_below HR346_1.out HB.out)))
                (case side6 => exact HC346_1.out)
                (case side7 => repeat (exact (Kd.C_below HR346_2.out HB.out)))
                (case side8 => exact HC346_2.out)
                rintro e w12 ⟨rfl, hb⟩
                refine ⟨_, rfl, ?_⟩
                have n0_ := Aside0.mk (below_step (by repeat ((with_reducible exact HB.out))) hb)
                clear HB
                have HB := n0_
                clear n0_
                (try clear hb)
                refine hK.out _ _ ⟨((HB.out.cell (World.block_lt_of_cell? w _ hw345_0)).trans hw345_0), ((HB.out.cell (World.block_lt_of_cell? w _ hw345_1)).trans hw345_1), ((HB.out.cell (World.block_lt_of_cell? w _ hw345_2)).trans hw345_2), ((HB.out.cell (World.block_lt_of_cell? w _ hw346_0)).trans hw346_0), ((HB.out.cell (World.block_lt_of_cell? w _ hw346_1)).trans hw346_1), ((HB.out.cell (World.block_lt_of_cell? w _ hw346_2)).trans hw346_2)⟩ (fun hHeld => ?_)
                clear hK K
                refine norm_ (a' := ?_) ?_ ?_
                rotate_left
                · show Act.put _ (some 25) _ = _
                  simp only [Act.put, List.setIfInBounds_toArray, List.set_cons_zero, List.set_cons_succ, i64_w, i32_w]
                  rfl
                refine pure_ (i := 9) (N := some 26) (v := ?_) (a' := ?_) #[true, true, true, true, true, true, true, true, true, true] rfl rfl (any_of HT_.out (by kernel_rfl)) (fun _ _ _ h => h) (Or.inl ⟨by rfl, ?_⟩) ?_ ?_
                rotate_left
                · intro w'
                  go_simp
                  with_reducible rfl
                rotate_left
                · simp only [Act.put, List.setIfInBounds_toArray, List.set_cons_zero, List.set_cons_succ, i64_w, i32_w]
                  rfl
                refine done_ (done_of HT_.out (by kernel_rfl)) ?_
                try go_wp2
                go_ret
                exact ⟨by rfl, by repeat ((with_reducible exact HB.out))⟩
            · rw [if_neg c6] at H
              exact absurd H (by simp)
          · rw [if_neg c5] at H
            exact absurd H (by simp)
        · rw [if_neg c4] at H
          have c4b0 : decide (x5_1 < (l0.length : Int)) = false := decide_eq_false c4
          clear c4
          obtain rfl := Option.some.inj H
          go_wp2
          go_ret
          exact ⟨by rfl, by repeat ((with_reducible exact HB.out))⟩
  · rw [if_neg c3] at H
    have c3b0 : ((l0.length : Int) == (l1.length : Int)) = false := beq_eq_false_iff_ne.mpr c3
    have c3b1 : ((l0.length : Int) != (l1.length : Int)) = true := bne_iff_ne.mpr c3
    have c3b2 : (l0.length == l1.length) = false := by (simp at c3 ⊢; omega)
    obtain rfl := Option.some.inj H
    go_enter Try.func27, Try.ntmps27
    go_wp2
    go_ret
    exact ⟨by rfl, by repeat ((with_reducible exact HB.out))⟩
end Go.Proofs.Ythheakfgmombdaa.F
end
section
namespace Go.Proofs.Ythheakfgmombdaa.F
open Go.RowKit Go.Proofs.YthheakfgmombdaaX.PrintWords Go.Proofs.YthheakfgmombdaaX.PrintLast Go.Proofs.YthheakfgmombdaaX.PrintMore
attribute [local go_sem] max2_int min2_int max_two min_two max_three min_three max_four min_four   -- for this text's walks alone
set_option linter.unusedVariables false
set_option linter.unusedSimpArgs false
def codewrightref35_Same.T6 : Bool × List (List Nat × List Nat) := (true, [([], []), ([0], [0]), ([], []), ([1, 2], [1, 2]), ([3], [3]), ([], []), ([5], [5]), ([], []), ([6, 7], [6, 7]), ([8], [8]), ([4, 9], [4, 9]), ([10], [10])])
def codewrightref35_Same.B6 : List Nat := [0, 1, 0, 7, 15, 0, 32, 0, 224, 480, 1023, 2047]
theorem codewrightref35_Same.tab6 : rtab .any (opsOf Try.f22 6) = codewrightref35_Same.T6 := by kernel_rfl
theorem codewrightref35_Same.bits6 : waitsOk codewrightref35_Same.T6.2 codewrightref35_Same.B6 = true := by kernel_rfl
set_option maxHeartbeats 8000000 in
set_option maxRecDepth 100000 in
theorem codewrightref35_Same.calls (k : Nat) (A0_0 : Option Addr) (c0_0 : Nat) (l0_0 : List (S46)) (A0_1 : Option Addr) (c0_1 : Nat) (l0_1 : List (List (S46))) (A0_2 : Option Addr) (c0_2 : Nat) (l0_2 : List (S46)) (A1_0 : Option Addr) (c1_0 : Nat) (l1_0 : List (S46)) (A1_1 : Option Addr) (c1_1 : Nat) (l1_1 : List (List (S46))) (A1_2 : Option Addr) (c1_2 : Nat) (l1_2 : List (S46)) (r : Bool) (w : World) (hr0_0 : Kd.C k46 w A0_0 l0_0.length l0_0) (hc0_0 : l0_0.length ≤ c0_0) (hr0_1 : Kd.C (Kd.slice 46 k46) w A0_1 l0_1.length l0_1) (hc0_1 : l0_1.length ≤ c0_1) (hr0_2 : Kd.C k46 w A0_2 l0_2.length l0_2) (hc0_2 : l0_2.length ≤ c0_2) (hr1_0 : Kd.C k46 w A1_0 l1_0.length l1_0) (hc1_0 : l1_0.length ≤ c1_0) (hr1_1 : Kd.C (Kd.slice 46 k46) w A1_1 l1_1.length l1_1) (hc1_1 : l1_1.length ≤ c1_1) (hr1_2 : Kd.C k46 w A1_2 l1_2.length l1_2) (hc1_2 : l1_2.length ≤ c1_2) (h : codewrightref35_Same.f k l0_0 l0_1 l0_2 l1_0 l1_1 l1_2 = some r) :
    Calls Try.prog 22 #[.agg #[.slice A0_0 l0_0.length c0_0, .slice A0_1 l0_1.length c0_1, .slice A0_2 l0_2.length c0_2], .agg #[.slice A1_0 l1_0.length c1_0, .slice A1_1 l1_1.length c1_1, .slice A1_2 l1_2.length c1_2]] w fun e w' => e = .returned (.bool r) ∧ Below w.heap.size w w' := by
  have hu25 := Try.underlying25
  have HR0_0 := Aside0.mk hr0_0
  have HC0_0 := Aside0.mk hc0_0
  clear hr0_0 hc0_0
  have HR0_1 := Aside0.mk hr0_1
  have HC0_1 := Aside0.mk hc0_1
  clear hr0_1 hc0_1
  have HR0_2 := Aside0.mk hr0_2
  have HC0_2 := Aside0.mk hc0_2
  clear hr0_2 hc0_2
  have HR1_0 := Aside0.mk hr1_0
  have HC1_0 := Aside0.mk hc1_0
  clear hr1_0 hc1_0
  have HR1_1 := Aside0.mk hr1_1
  have HC1_1 := Aside0.mk hc1_1
  clear hr1_1 hc1_1
  have HR1_2 := Aside0.mk hr1_2
  have HC1_2 := Aside0.mk hc1_2
  clear hr1_2 hc1_2
  have HB := Aside0.mk (Below.refl w.heap.size w)
  have H : ((codewrightref02_SameList.f k l0_0 l1_0).bind fun t350 => (if t350 = true then ((codewrightref02_SameList.f k l0_2 l1_2).bind fun t351 => (if t351 = true then (codewrightref35_Same.j0 k ((l0_1.length : Int) != (l1_1.length : Int)) l0_0 l0_1 l0_2 l1_0 l1_1 l1_2) else (codewrightref35_Same.j0 k true l0_0 l0_1 l0_2 l1_0 l1_1 l1_2))) else (codewrightref35_Same.j0 k true l0_0 l0_1 l0_2 l1_0 l1_1 l1_2))) = some r := h
  clear h
  have HC3 := Aside0.mk H
  clear H
  go_enter Try.func22, Try.ntmps22
  go_upto_region 1 with (first | ((with_reducible refine gate_dst (N := 2) rfl ?_); (try (refine gate_guard (by rfl) ?_; dsimp only)); refine box_event ?hg (N := 2) ?hd (cs := #[.slice A0_0 l0_0.length c0_0, .slice A0_1 l0_1.length c0_1, .slice A0_2 l0_2.length c0_2]) (t := 25) ?hr ?_; (case hd => rfl); (case hg => rfl); (case hr => (go_simp; done)); intro gb348 hg w4 hbox hb; have n0_ := Aside0.mk (below_step (by repeat ((with_reducible exact HB.out))) hb); have n1_ := Aside0.mk (hbox); have n2_ := Aside0.mk ((by rw [hg]; exact (below_size (by repeat ((with_reducible exact HB.out)))) : w.heap.size ≤ gb348)); have n3_ := Aside0.mk ((by rw [hg]; exact (below_size (by repeat ((with_reducible exact HB.out)))) : w.heap.size ≤ gb348)); clear HB; have HB := n0_; have BK348 := n1_; have GW348 := n2_; have GE348 := n3_; clear n0_ n1_ n2_ n3_; clear hb hbox hg) | ((with_reducible refine gate_dst (N := 3) rfl ?_); (try (refine gate_guard (by rfl) ?_; dsimp only)); refine box_event ?hg (N := 3) ?hd (cs := #[.slice A1_0 l1_0.length c1_0, .slice A1_1 l1_1.length c1_1, .slice A1_2 l1_2.length c1_2]) (t := 25) ?hr ?_; (case hd => rfl); (case hg => rfl); (case hr => (go_simp; done)); intro gb349 hg w5 hbox hb; have n0_ := Aside0.mk (blk_below (g := gb348) (o := .cells #[.slice A0_0 l0_0.length c0_0, .slice A0_1 l0_1.length c0_1, .slice A0_2 l0_2.length c0_2] 25 (0, 0)) (by (with_reducible repeat (fail)); exact BK348.out) hb); have n1_ := Aside0.mk (below_step (by repeat ((with_reducible exact HB.out))) hb); have n2_ := Aside0.mk (hbox); have n3_ := Aside0.mk ((by rw [hg]; exact (below_size (by repeat ((with_reducible exact HB.out)))) : w.heap.size ≤ gb349)); have n4_ := Aside0.mk ((by rw [hg]; exact (below_size (by repeat ((with_reducible exact HB.out)))) : w.heap.size ≤ gb349)); have n5_ := Aside0.mk ((by rw [hg]; exact Nat.ne_of_lt (blk_lt (g := gb348) (o := .cells #[.slice A0_0 l0_0.length c0_0, .slice A0_1 l0_1.length c0_1, .slice A0_2 l0_2.length c0_2] 25 (0, 0)) (by (with_reducible repeat (fail)); exact BK348.out)) : gb348 ≠ gb349)); have n6_ := Aside0.mk ((by rw [hg]; exact Nat.ne_of_gt (blk_lt (g := gb348) (o := .cells #[.slice A0_0 l0_0.length c0_0, .slice A0_1 l0_1.length c0_1, .slice A0_2 l0_2.length c0_2] 25 (0, 0)) (by (with_reducible repeat (fail)); exact BK348.out)) : gb349 ≠ gb348)); clear BK348; clear HB; have BK348 := n0_; have HB := n1_; have BK349 := n2_; have GW349 := n3_; have GE349 := n4_; have NB348_349 := n5_; have NB349_348 := n6_; clear n0_ n1_ n2_ n3_ n4_ n5_ n6_; clear hb hbox hg))
  go_cut [28] (fun v28 wc => ∃ (kq : Nat) (x28_2 : Bool), v28 = .bool x28_2 ∧ Aside0 (codewrightref35_Same.j0 kq x28_2 l0_0 l0_1 l0_2 l1_0 l1_1 l1_2 = some r) ∧ Aside0 (kq ≤ k) ∧ Aside0 (wc.heap[gb348]? = some (.cells #[(.slice A0_0 l0_0.length c0_0), (.slice A0_1 l0_1.length c0_1), (.slice A0_2 l0_2.length c0_2)] 25 (0, 0))) ∧ Aside0 (wc.heap[gb349]? = some (.cells #[(.slice A1_0 l1_0.length c1_0), (.slice A1_1 l1_1.length c1_1), (.slice A1_2 l1_2.length c1_2)] 25 (0, 0))) ∧ Aside0 (Below w.heap.size w wc))
  case first =>
    have H := HC3.out
    clear HC3
    replace H := Option.bind_eq_some_iff.mp H
    obtain ⟨t350, A60, H⟩ := H
    replace H : (if t350 = true then ((codewrightref02_SameList.f k l0_2 l1_2).bind fun t351 => (if t351 = true then (codewrightref35_Same.j0 k ((l0_1.length : Int) != (l1_1.length : Int)) l0_0 l0_1 l0_2 l1_0 l1_1 l1_2) else (codewrightref35_Same.j0 k true l0_0 l0_1 l0_2 l1_0 l1_1 l1_2))) else (codewrightref35_Same.j0 k true l0_0 l0_1 l0_2 l1_0 l1_1 l1_2)) = some r := H
    have A6 := Aside0.mk A60
    clear A60
    by_cases c7 : t350 = true
    · subst c7
      have H1 : ((codewrightref02_SameList.f k l0_2 l1_2).bind fun t351 => (if t351 = true then (codewrightref35_Same.j0 k ((l0_1.length : Int) != (l1_1.length : Int)) l0_0 l0_1 l0_2 l1_0 l1_1 l1_2) else (codewrightref35_Same.j0 k true l0_0 l0_1 l0_2 l1_0 l1_1 l1_2))) = some r := by rw [if_pos rfl] at H; exact H
      clear H
      have H := H1
      clear H1
      replace H := Option.bind_eq_some_iff.mp H
      obtain ⟨t351, A80, H⟩ := H
      replace H : (if t351 = true then (codewrightref35_Same.j0 k ((l0_1.length : Int) != (l1_1.length : Int)) l0_0 l0_1 l0_2 l1_0 l1_1 l1_2) else (codewrightref35_Same.j0 k true l0_0 l0_1 l0_2 l1_0 l1_1 l1_2)) = some r := H
      have A8 := Aside0.mk A80
      clear A80
      by_cases c9 : t351 = true
      · subst c9
        have H1 : (codewrightref35_Same.j0 k ((l0_1.length : Int) != (l1_1.length : Int)) l0_0 l0_1 l0_2 l1_0 l1_1 l1_2) = some r := by rw [if_pos rfl] at H; exact H
        clear H
        have H := H1
        clear H1
        have H' := Aside0.mk H
        clear H
        have hnb10 := NB348_349.out
        have hnc10 := NB349_348.out
        have hcz11_0 : w5.cell? ⟨gb348, 0, none⟩ = some (.slice A0_0 l0_0.length c0_0) := (blk_cell BK348.out 0).trans rfl
        have hcz11_1 : w5.cell? ⟨gb348, 1, none⟩ = some (.slice A0_1 l0_1.length c0_1) := (blk_cell BK348.out 1).trans rfl
        have hcz11_2 : w5.cell? ⟨gb348, 2, none⟩ = some (.slice A0_2 l0_2.length c0_2) := (blk_cell BK348.out 2).trans rfl
        have hfz11_0 := blk_frozen BK348.out 0
        have hfz11_1 := blk_frozen BK348.out 1
        have hfz11_2 := blk_frozen BK348.out 2
        have hcz12_0 : w5.cell? ⟨gb349, 0, none⟩ = some (.slice A1_0 l1_0.length c1_0) := (blk_cell BK349.out 0).trans rfl
        have hcz12_1 : w5.cell? ⟨gb349, 1, none⟩ = some (.slice A1_1 l1_1.length c1_1) := (blk_cell BK349.out 1).trans rfl
        have hcz12_2 : w5.cell? ⟨gb349, 2, none⟩ = some (.slice A1_2 l1_2.length c1_2) := (blk_cell BK349.out 2).trans rfl
        have hfz12_0 := blk_frozen BK349.out 0
        have hfz12_1 := blk_frozen BK349.out 1
        have hfz12_2 := blk_frozen BK349.out 2
        go_wp2_with (first | ((with_reducible refine gate_callee (f := 27) rfl ?_); refine goesL_ (some 10) rfl rfl Try.func27 (by kernel_rfl) rfl #[.slice A0_0 l0_0.length c0_0, .slice A1_0 l1_0.length c1_0] rfl (by (try simp only [List.map_toArray, List.map_cons, List.map_nil]); rfl) ?_; (with_reducible refine (codewrightref02_SameList.calls k _ _ l0_0 _ _ l1_0 true _ ?side1 ?side2 ?side3 ?side4 A6.out).mono ?_); (case side1 => repeat (exact (Kd.C_below HR0_0.out HB.out))); (case side2 => exact HC0_0.out); (case side3 => repeat (exact (Kd.C_below HR1_0.out HB.out))); (case side4 => exact HC1_0.out); rintro e w13 ⟨rfl, hb⟩; refine ⟨_, rfl, ?_⟩; have n0_ := Aside0.mk (blk_below (g := gb348) (o := .cells #[.slice A0_0 l0_0.length c0_0, .slice A0_1 l0_1.length c0_1, .slice A0_2 l0_2.length c0_2] 25 (0, 0)) (by (with_reducible repeat (fail)); exact BK348.out) hb); have n1_ := Aside0.mk (blk_below (g := gb349) (o := .cells #[.slice A1_0 l1_0.length c1_0, .slice A1_1 l1_1.length c1_1, .slice A1_2 l1_2.length c1_2] 25 (0, 0)) (by (with_reducible repeat (fail)); exact BK349.out) hb); have n2_ := Aside0.mk (below_step (by repeat ((with_reducible exact HB.out))) hb); clear BK348; clear BK349; clear HB; have BK348 := n0_; have BK349 := n1_; have HB := n2_; clear n0_ n1_ n2_; (try clear hb); have hcz14_0 : w13.cell? ⟨gb348, 0, none⟩ = some (.slice A0_0 l0_0.length c0_0) := (blk_cell BK348.out 0).trans rfl; have hcz14_1 : w13.cell? ⟨gb348, 1, none⟩ = some (.slice A0_1 l0_1.length c0_1) := (blk_cell BK348.out 1).trans rfl; have hcz14_2 : w13.cell? ⟨gb348, 2, none⟩ = some (.slice A0_2 l0_2.length c0_2) := (blk_cell BK348.out 2).trans rfl; have hfz14_0 := blk_frozen BK348.out 0; have hfz14_1 := blk_frozen BK348.out 1; have hfz14_2 := blk_frozen BK348.out 2; have hcz15_0 : w13.cell? ⟨gb349, 0, none⟩ = some (.slice A1_0 l1_0.length c1_0) := (blk_cell BK349.out 0).trans rfl; have hcz15_1 : w13.cell? ⟨gb349, 1, none⟩ = some (.slice A1_1 l1_1.length c1_1) := (blk_cell BK349.out 1).trans rfl; have hcz15_2 : w13.cell? ⟨gb349, 2, none⟩ = some (.slice A1_2 l1_2.length c1_2) := (blk_cell BK349.out 2).trans rfl; have hfz15_0 := blk_frozen BK349.out 0; have hfz15_1 := blk_frozen BK349.out 1; have hfz15_2 := blk_frozen BK349.out 2) | (go_at_call 27; (with_reducible refine (codewrightref02_SameList.calls k _ _ l0_2 _ _ l1_2 true _ ?side1 ?side2 ?side3 ?side4 A8.out).mono ?_); (case side1 => repeat (exact (Kd.C_below HR0_2.out HB.out))); (case side2 => exact HC0_2.out); (case side3 => repeat (exact (Kd.C_below HR1_2.out HB.out))); (case side4 => exact HC1_2.out); rintro e w16 ⟨rfl, hb⟩; have n0_ := Aside0.mk (blk_below (g := gb348) (o := .cells #[.slice A0_0 l0_0.length c0_0, .slice A0_1 l0_1.length c0_1, .slice A0_2 l0_2.length c0_2] 25 (0, 0)) (by (with_reducible repeat (fail)); exact BK348.out) hb); have n1_ := Aside0.mk (blk_below (g := gb349) (o := .cells #[.slice A1_0 l1_0.length c1_0, .slice A1_1 l1_1.length c1_1, .slice A1_2 l1_2.length c1_2] 25 (0, 0)) (by (with_reducible repeat (fail)); exact BK349.out) hb); have n2_ := Aside0.mk (below_step (by repeat ((with_reducible exact HB.out))) hb); clear BK348; clear BK349; clear HB; have BK348 := n0_; have BK349 := n1_; have HB := n2_; clear n0_ n1_ n2_; (try clear hb); have hcz17_0 : w16.cell? ⟨gb348, 0, none⟩ = some (.slice A0_0 l0_0.length c0_0) := (blk_cell BK348.out 0).trans rfl; have hcz17_1 : w16.cell? ⟨gb348, 1, none⟩ = some (.slice A0_1 l0_1.length c0_1) := (blk_cell BK348.out 1).trans rfl; have hcz17_2 : w16.cell? ⟨gb348, 2, none⟩ = some (.slice A0_2 l0_2.length c0_2) := (blk_cell BK348.out 2).trans rfl; have hfz17_0 := blk_frozen BK348.out 0; have hfz17_1 := blk_frozen BK348.out 1; have hfz17_2 := blk_frozen BK348.out 2; have hcz18_0 : w16.cell? ⟨gb349, 0, none⟩ = some (.slice A1_0 l1_0.length c1_0) := (blk_cell BK349.out 0).trans rfl; have hcz18_1 : w16.cell? ⟨gb349, 1, none⟩ = some (.slice A1_1 l1_1.length c1_1) := (blk_cell BK349.out 1).trans rfl; have hcz18_2 : w16.cell? ⟨gb349, 2, none⟩ = some (.slice A1_2 l1_2.length c1_2) := (blk_cell BK349.out 2).trans rfl; have hfz18_0 := blk_frozen BK349.out 0; have hfz18_1 := blk_frozen BK349.out 1; have hfz18_2 := blk_frozen BK349.out 2))
        go_meet
        case rel => exact ⟨_, (((l0_1.length : Int) != (l1_1.length : Int))), (by rfl), H', ⟨by omega⟩, ⟨by (with_reducible repeat (fail)); exact BK348.out⟩, ⟨by (with_reducible repeat (fail)); exact BK349.out⟩, ⟨by repeat ((with_reducible exact HB.out))⟩⟩
      · replace c9 := Bool.eq_false_iff.mpr c9
        subst c9
        have H1 : (codewrightref35_Same.j0 k true l0_0 l0_1 l0_2 l1_0 l1_1 l1_2) = some r := by rw [if_neg (show ¬ (false = true) by decide)] at H; exact H
        clear H
        have H := H1
        clear H1
        have H' := Aside0.mk H
        clear H
        have hnb19 := NB348_349.out
        have hnc19 := NB349_348.out
        have hcz20_0 : w5.cell? ⟨gb348, 0, none⟩ = some (.slice A0_0 l0_0.length c0_0) := (blk_cell BK348.out 0).trans rfl
        have hcz20_1 : w5.cell? ⟨gb348, 1, none⟩ = some (.slice A0_1 l0_1.length c0_1) := (blk_cell BK348.out 1).trans rfl
        have hcz20_2 : w5.cell? ⟨gb348, 2, none⟩ = some (.slice A0_2 l0_2.length c0_2) := (blk_cell BK348.out 2).trans rfl
        have hfz20_0 := blk_frozen BK348.out 0
        have hfz20_1 := blk_frozen BK348.out 1
        have hfz20_2 := blk_frozen BK348.out 2
        have hcz21_0 : w5.cell? ⟨gb349, 0, none⟩ = some (.slice A1_0 l1_0.length c1_0) := (blk_cell BK349.out 0).trans rfl
        have hcz21_1 : w5.cell? ⟨gb349, 1, none⟩ = some (.slice A1_1 l1_1.length c1_1) := (blk_cell BK349.out 1).trans rfl
        have hcz21_2 : w5.cell? ⟨gb349, 2, none⟩ = some (.slice A1_2 l1_2.length c1_2) := (blk_cell BK349.out 2).trans rfl
        have hfz21_0 := blk_frozen BK349.out 0
        have hfz21_1 := blk_frozen BK349.out 1
        have hfz21_2 := blk_frozen BK349.out 2
        go_wp2_with (first | ((with_reducible refine gate_callee (f := 27) rfl ?_); refine goesL_ (some 10) rfl rfl Try.func27 (by kernel_rfl) rfl #[.slice A0_0 l0_0.length c0_0, .slice A1_0 l1_0.length c1_0] rfl (by (try simp only [List.map_toArray, List.map_cons, List.map_nil]); rfl) ?_; (with_reducible refine (codewrightref02_SameList.calls k _ _ l0_0 _ _ l1_0 true _ ?side1 ?side2 ?side3 ?side4 A6.out).mono ?_); (case side1 => repeat (exact (Kd.C_below HR0_0.out HB.out))); (case side2 => exact HC0_0.out); (case side3 => repeat (exact (Kd.C_below HR1_0.out HB.out))); (case side4 => exact HC1_0.out); rintro e w22 ⟨rfl, hb⟩; refine ⟨_, rfl, ?_⟩; have n0_ := Aside0.mk (blk_below (g := gb348) (o := .cells #[.slice A0_0 l0_0.length c0_0, .slice A0_1 l0_1.length c0_1, .slice A0_2 l0_2.length c0_2] 25 (0, 0)) (by (with_reducible repeat (fail)); exact BK348.out) hb); have n1_ := Aside0.mk (blk_below (g := gb349) (o := .cells #[.slice A1_0 l1_0.length c1_0, .slice A1_1 l1_1.length c1_1, .slice A1_2 l1_2.length c1_2] 25 (0, 0)) (by (with_reducible repeat (fail)); exact BK349.out) hb); have n2_ := Aside0.mk (below_step (by repeat ((with_reducible exact HB.out))) hb); clear BK348; clear BK349; clear HB; have BK348 := n0_; have BK349 := n1_; have HB := n2_; clear n0_ n1_ n2_; (try clear hb); have hcz23_0 : w22.cell? ⟨gb348, 0, none⟩ = some (.slice A0_0 l0_0.length c0_0) := (blk_cell BK348.out 0).trans rfl; have hcz23_1 : w22.cell? ⟨gb348, 1, none⟩ = some (.slice A0_1 l0_1.length c0_1) := (blk_cell BK348.out 1).trans rfl; have hcz23_2 : w22.cell? ⟨gb348, 2, none⟩ = some (.slice A0_2 l0_2.length c0_2) := (blk_cell BK348.out 2).trans rfl; have hfz23_0 := blk_frozen BK348.out 0; have hfz23_1 := blk_frozen BK348.out 1; have hfz23_2 := blk_frozen BK348.out 2; have hcz24_0 : w22.cell? ⟨gb349, 0, none⟩ = some (.slice A1_0 l1_0.length c1_0) := (blk_cell BK349.out 0).trans rfl; have hcz24_1 : w22.cell? ⟨gb349, 1, none⟩ = some (.slice A1_1 l1_1.length c1_1) := (blk_cell BK349.out 1).trans rfl; have hcz24_2 : w22.cell? ⟨gb349, 2, none⟩ = some (.slice A1_2 l1_2.length c1_2) := (blk_cell BK349.out 2).trans rfl; have hfz24_0 := blk_frozen BK349.out 0; have hfz24_1 := blk_frozen BK349.out 1; have hfz24_2 := blk_frozen BK349.out 2) | (go_at_call 27; (with_reducible refine (codewrightref02_SameList.calls k _ _ l0_2 _ _ l1_2 false _ ?side1 ?side2 ?side3 ?side4 A8.out).mono ?_); (case side1 => repeat (exact (Kd.C_below HR0_2.out HB.out))); (case side2 => exact HC0_2.out); (case side3 => repeat (exact (Kd.C_below HR1_2.out HB.out))); (case side4 => exact HC1_2.out); rintro e w25 ⟨rfl, hb⟩; have n0_ := Aside0.mk (blk_below (g := gb348) (o := .cells #[.slice A0_0 l0_0.length c0_0, .slice A0_1 l0_1.length c0_1, .slice A0_2 l0_2.length c0_2] 25 (0, 0)) (by (with_reducible repeat (fail)); exact BK348.out) hb); have n1_ := Aside0.mk (blk_below (g := gb349) (o := .cells #[.slice A1_0 l1_0.length c1_0, .slice A1_1 l1_1.length c1_1, .slice A1_2 l1_2.length c1_2] 25 (0, 0)) (by (with_reducible repeat (fail)); exact BK349.out) hb); have n2_ := Aside0.mk (below_step (by repeat ((with_reducible exact HB.out))) hb); clear BK348; clear BK349; clear HB; have BK348 := n0_; have BK349 := n1_; have HB := n2_; clear n0_ n1_ n2_; (try clear hb)))
        go_meet
        case rel => exact ⟨_, (true), (by rfl), H', ⟨by omega⟩, ⟨by (with_reducible repeat (fail)); exact BK348.out⟩, ⟨by (with_reducible repeat (fail)); exact BK349.out⟩, ⟨by repeat ((with_reducible exact HB.out))⟩⟩
    · replace c7 := Bool.eq_false_iff.mpr c7
      subst c7
      have H1 : (codewrightref35_Same.j0 k true l0_0 l0_1 l0_2 l1_0 l1_1 l1_2) = some r := by rw [if_neg (show ¬ (false = true) by decide)] at H; exact H
      clear H
      have H := H1
      clear H1
      have H' := Aside0.mk H
      clear H
      have hnb26 := NB348_349.out
      have hnc26 := NB349_348.out
      have hcz27_0 : w5.cell? ⟨gb348, 0, none⟩ = some (.slice A0_0 l0_0.length c0_0) := (blk_cell BK348.out 0).trans rfl
      have hcz27_1 : w5.cell? ⟨gb348, 1, none⟩ = some (.slice A0_1 l0_1.length c0_1) := (blk_cell BK348.out 1).trans rfl
      have hcz27_2 : w5.cell? ⟨gb348, 2, none⟩ = some (.slice A0_2 l0_2.length c0_2) := (blk_cell BK348.out 2).trans rfl
      have hfz27_0 := blk_frozen BK348.out 0
      have hfz27_1 := blk_frozen BK348.out 1
      have hfz27_2 := blk_frozen BK348.out 2
      have hcz28_0 : w5.cell? ⟨gb349, 0, none⟩ = some (.slice A1_0 l1_0.length c1_0) := (blk_cell BK349.out 0).trans rfl
      have hcz28_1 : w5.cell? ⟨gb349, 1, none⟩ = some (.slice A1_1 l1_1.length c1_1) := (blk_cell BK349.out 1).trans rfl
      have hcz28_2 : w5.cell? ⟨gb349, 2, none⟩ = some (.slice A1_2 l1_2.length c1_2) := (blk_cell BK349.out 2).trans rfl
      have hfz28_0 := blk_frozen BK349.out 0
      have hfz28_1 := blk_frozen BK349.out 1
      have hfz28_2 := blk_frozen BK349.out 2
      go_wp2_with (((with_reducible refine gate_callee (f := 27) rfl ?_); refine goesL_ (some 10) rfl rfl Try.func27 (by kernel_rfl) rfl #[.slice A0_0 l0_0.length c0_0, .slice A1_0 l1_0.length c1_0] rfl (by (try simp only [List.map_toArray, List.map_cons, List.map_nil]); rfl) ?_; (with_reducible refine (codewrightref02_SameList.calls k _ _ l0_0 _ _ l1_0 false _ ?side1 ?side2 ?side3 ?side4 A6.out).mono ?_); (case side1 => repeat (exact (Kd.C_below HR0_0.out HB.out))); (case side2 => exact HC0_0.out); (case side3 => repeat (exact (Kd.C_below HR1_0.out HB.out))); (case side4 => exact HC1_0.out); rintro e w29 ⟨rfl, hb⟩; refine ⟨_, rfl, ?_⟩; have n0_ := Aside0.mk (blk_below (g := gb348) (o := .cells #[.slice A0_0 l0_0.length c0_0, .slice A0_1 l0_1.length c0_1, .slice A0_2 l0_2.length c0_2] 25 (0, 0)) (by (with_reducible repeat (fail)); exact BK348.out) hb); have n1_ := Aside0.mk (blk_below (g := gb349) (o := .cells #[.slice A1_0 l1_0.length c1_0, .slice A1_1 l1_1.length c1_1, .slice A1_2 l1_2.length c1_2] 25 (0, 0)) (by (with_reducible repeat (fail)); exact BK349.out) hb); have n2_ := Aside0.mk (below_step (by repeat ((with_reducible exact HB.out))) hb); clear BK348; clear BK349; clear HB; have BK348 := n0_; have BK349 := n1_; have HB := n2_; clear n0_ n1_ n2_; (try clear hb)))
      go_meet
      case rel => exact ⟨_, (true), (by rfl), H', ⟨by omega⟩, ⟨by (with_reducible repeat (fail)); exact BK348.out⟩, ⟨by (with_reducible repeat (fail)); exact BK349.out⟩, ⟨by repeat ((with_reducible exact HB.out))⟩⟩
  case rest =>
    clear HC3
    obtain ⟨kq, x28_2, rfl, HA, HJ2, BK348, BK349, HB⟩ := hcut
    cases kq with
    | zero => exact absurd HA.out (by simp [codewrightref35_Same.j0])
    | succ kj2 =>
      have H := HA.out
      clear HA
      simp only [codewrightref35_Same.j0] at H
      by_cases c30 : x28_2 = true
      · subst c30
        have H1 : (some false) = some r := by rw [if_pos rfl] at H; exact H
        clear H
        have H := H1
        clear H1
        obtain rfl := Option.some.inj H
        go_wp2
        go_ret
        exact ⟨by rfl, by repeat ((with_reducible exact HB.out))⟩
      · replace c30 := Bool.eq_false_iff.mpr c30
        subst c30
        have H1 : (codewrightref35_Same.l0 kj2 0 l0_0 l0_1 l0_2 l1_0 l1_1 l1_2) = some r := by rw [if_neg (show ¬ (false = true) by decide)] at H; exact H
        clear H
        have H := H1
        clear H1
        have H' := Aside0.mk H
        clear H
        go_wp2
        go_loopg [5] kj2 (fun kq v5 w' => ∃ (x5_2 : Int), v5 = .int .i64 x5_2 ∧ Aside0 (codewrightref35_Same.l0 kq x5_2 l0_0 l0_1 l0_2 l1_0 l1_1 l1_2 = some r) ∧ Aside0 (kq ≤ kj2) ∧ Aside0 (w'.heap[gb348]? = some (.cells #[(.slice A0_0 l0_0.length c0_0), (.slice A0_1 l0_1.length c0_1), (.slice A0_2 l0_2.length c0_2)] 25 (0, 0))) ∧ Aside0 (w'.heap[gb349]? = some (.cells #[(.slice A1_0 l1_0.length c1_0), (.slice A1_1 l1_1.length c1_1), (.slice A1_2 l1_2.length c1_2)] 25 (0, 0))) ∧ Aside0 (Below w.heap.size w w'))
        case atStart => exact ⟨(0), (by rfl), H', ⟨Nat.le_refl _⟩, ⟨by (with_reducible repeat (fail)); exact BK348.out⟩, ⟨by (with_reducible repeat (fail)); exact BK349.out⟩, ⟨by repeat ((with_reducible exact HB.out))⟩⟩
        case round =>
          clear H'
          obtain ⟨x5_2, rfl, HA, HK2, BK348, BK349, HB⟩ := hrel
          cases gk with
          | zero => exact absurd HA.out (by simp [codewrightref35_Same.l0])
          | succ k2 =>
            have H := HA.out
            clear HA
            simp only [codewrightref35_Same.l0] at H
            by_cases c31 : x5_2 < (l0_1.length : Int)
            · rw [if_pos c31] at H
              have c31b0 : decide (x5_2 < (l0_1.length : Int)) = true := decide_eq_true c31
              clear c31
              by_cases c32 : 0 ≤ x5_2
              · rw [if_pos c32] at H
                have c32b0 : decide (0 ≤ x5_2) = true := decide_eq_true c32
                clear c32
                by_cases c33 : x5_2 < (l1_1.length : Int)
                · rw [if_pos c33] at H
                  have c33b0 : decide (x5_2 < (l1_1.length : Int)) = true := decide_eq_true c33
                  clear c33
                  replace H := Option.bind_eq_some_iff.mp H
                  obtain ⟨t354, A340, H⟩ := H
                  replace H : (if t354 = true then (codewrightref35_Same.l0 k2 (wrap64 (x5_2 + 1)) l0_0 l0_1 l0_2 l1_0 l1_1 l1_2) else (some false)) = some r := H
                  have A34 := Aside0.mk A340
                  clear A340
                  by_cases c35 : t354 = true
                  · subst c35
                    have H1 : (codewrightref35_Same.l0 k2 (wrap64 (x5_2 + 1)) l0_0 l0_1 l0_2 l1_0 l1_1 l1_2) = some r := by rw [if_pos rfl] at H; exact H
                    clear H
                    have H := H1
                    clear H1
                    have H' := Aside0.mk H
                    clear H
                    have hnb36 := NB348_349.out
                    have hnc36 := NB349_348.out
                    have hcz37_0 : wr.cell? ⟨gb348, 0, none⟩ = some (.slice A0_0 l0_0.length c0_0) := (blk_cell BK348.out 0).trans rfl
                    have hcz37_1 : wr.cell? ⟨gb348, 1, none⟩ = some (.slice A0_1 l0_1.length c0_1) := (blk_cell BK348.out 1).trans rfl
                    have hcz37_2 : wr.cell? ⟨gb348, 2, none⟩ = some (.slice A0_2 l0_2.length c0_2) := (blk_cell BK348.out 2).trans rfl
                    have hfz37_0 := blk_frozen BK348.out 0
                    have hfz37_1 := blk_frozen BK348.out 1
                    have hfz37_2 := blk_frozen BK348.out 2
                    try go_wp2
                    have n0_ := Aside0.mk (blk_drew BK348.out)
                    have n1_ := Aside0.mk (blk_drew BK349.out)
                    have n2_ := Aside0.mk (below_drew1 HB.out)
                    clear BK348
                    clear BK349
                    clear HB
                    have BK348 := n0_
                    have BK349 := n1_
                    have HB := n2_
                    clear n0_ n1_ n2_
                    have p352 : 0 ≤ (x5_2 : Int) := of_decide_eq_true (by (with_reducible assumption))
                    have q352 : x5_2 < (l0_1.length : Int) := of_decide_eq_true (by (with_reducible assumption))
                    obtain ⟨ad352, A352_0, c352_0, e352, hx352_0, hl352_0, hi352_0⟩ := at_L4 HR0_1.out x5_2 p352 q352
                    have hw352_0 := hx352_0
                    cases e352
                    replace hx352_0 := (HB.out.cell (World.block_lt_of_cell? w _ hx352_0)).trans hx352_0
                    have HR352_0 := Aside0.mk hi352_0
                    have HC352_0 := Aside0.mk hl352_0
                    clear hi352_0 hl352_0
                    replace p352 := eq_true p352
                    replace q352 := eq_true q352
                    have p353 : 0 ≤ (x5_2 : Int) := of_decide_eq_true (by (with_reducible assumption))
                    have q353 : x5_2 < (l1_1.length : Int) := of_decide_eq_true (by (with_reducible assumption))
                    obtain ⟨ad353, A353_0, c353_0, e353, hx353_0, hl353_0, hi353_0⟩ := at_L4 HR1_1.out x5_2 p353 q353
                    have hw353_0 := hx353_0
                    cases e353
                    replace hx353_0 := (HB.out.cell (World.block_lt_of_cell? w _ hx353_0)).trans hx353_0
                    have HR353_0 := Aside0.mk hi353_0
                    have HC353_0 := Aside0.mk hl353_0
                    clear hi353_0 hl353_0
                    replace p353 := eq_true p353
                    replace q353 := eq_true q353
                    refine start_ (n := 12) (S := fun w' => w'.cell? ⟨gb348, 0, none⟩ = some (.slice A0_0 l0_0.length c0_0) ∧ w'.cell? ⟨gb348, 1, none⟩ = some (.slice (some ad352) l0_1.length c0_1) ∧ w'.cell? ⟨gb348, 2, none⟩ = some (.slice A0_2 l0_2.length c0_2) ∧ w'.cell? ⟨gb349, 0, none⟩ = some (.slice A1_0 l1_0.length c1_0) ∧ w'.cell? ⟨gb349, 1, none⟩ = some (.slice (some ad353) l1_1.length c1_1) ∧ w'.cell? ⟨gb349, 2, none⟩ = some (.slice A1_2 l1_2.length c1_2) ∧ w'.cell? (ad352.add (x5_2).toNat) = some (.slice A352_0 (rd_L4 l0_1 x5_2).length c352_0) ∧ w'.cell? (ad353.add (x5_2).toNat) = some (.slice A353_0 (rd_L4 l1_1 x5_2).length c353_0)) (ds := []) #[false, false, false, false, false, false, false, false, false, false, false, false] (by kernel_rfl) rfl rfl ⟨(blk_cell BK348.out 0).trans rfl, (blk_cell BK348.out 1).trans rfl, (blk_cell BK348.out 2).trans rfl, (blk_cell BK349.out 0).trans rfl, (blk_cell BK349.out 1).trans rfl, (blk_cell BK349.out 2).trans rfl, ((HB.out.cell (World.block_lt_of_cell? w _ hw352_0)).trans hw352_0), ((HB.out.cell (World.block_lt_of_cell? w _ hw353_0)).trans hw353_0)⟩ (fun hHeld => ?_); refine with_tabW codewrightref35_Same.tab6 codewrightref35_Same.bits6 (fun HT_ HW_ => ?_)
                    generalize wr.drew = w38 at BK348 BK349 HB HR352_0 HR353_0 hx352_0 hx353_0 hHeld ⊢
                    refine pure_ (i := 0) (N := some 36) (v := ?_) (a' := ?_) #[true, false, false, false, false, false, false, false, false, false, false, false] rfl rfl (any_of HT_.out (by kernel_rfl)) (fun _ _ _ h => h) (Or.inl ⟨by rfl, ?_⟩) ?_ ?_
                    rotate_left
                    · intro w'
                      go_simp
                      with_reducible rfl
                    rotate_left
                    · simp only [Act.put, List.setIfInBounds_toArray, List.set_cons_zero, List.set_cons_succ, i64_w, i32_w]
                      rfl
                    refine pure_ (i := 2) (N := some 38) (v := ?_) (a' := ?_) #[true, false, true, false, false, false, false, false, false, false, false, false] rfl rfl (any_of HT_.out (by kernel_rfl)) (fun _ _ _ h => h) (Or.inl ⟨by rfl, ?_⟩) ?_ ?_
                    rotate_left
                    · intro w'
                      go_simp
                      with_reducible rfl
                    rotate_left
                    · simp only [Act.put, List.setIfInBounds_toArray, List.set_cons_zero, List.set_cons_succ, i64_w, i32_w]
                      rfl
                    refine pure_ (i := 5) (N := some 41) (v := ?_) (a' := ?_) #[true, false, true, false, false, true, false, false, false, false, false, false] rfl rfl (any_of HT_.out (by kernel_rfl)) (fun _ _ _ h => h) (Or.inl ⟨by rfl, ?_⟩) ?_ ?_
                    rotate_left
                    · intro w'
                      go_simp
                      with_reducible rfl
                    rotate_left
                    · simp only [Act.put, List.setIfInBounds_toArray, List.set_cons_zero, List.set_cons_succ, i64_w, i32_w]
                      rfl
                    refine pure_ (i := 7) (N := some 43) (v := ?_) (a' := ?_) #[true, false, true, false, false, true, false, true, false, false, false, false] rfl rfl (any_of HT_.out (by kernel_rfl)) (fun _ _ _ h => h) (Or.inl ⟨by rfl, ?_⟩) ?_ ?_
                    rotate_left
                    · intro w'
                      go_simp
                      with_reducible rfl
                    rotate_left
                    · simp only [Act.put, List.setIfInBounds_toArray, List.set_cons_zero, List.set_cons_succ, i64_w, i32_w]
                      rfl
                    refine take_ (i := 1) (N := some 37) (v := ?_) (a' := ?_) #[true, true, true, false, false, true, false, true, false, false, false, false] rfl rfl (take_ofW HT_.out HW_.out (by kernel_rfl)) (fun _ _ _ h => h) (Or.inl ⟨by rfl, ?_⟩) hHeld ?_ ?_
                    rotate_left
                    · rintro w' ⟨s0, s1, s2, s3, s4, s5, s6, s7⟩
                      go_simp
                      with_reducible rfl
                    rotate_left
                    · simp only [Act.put, List.setIfInBounds_toArray, List.set_cons_zero, List.set_cons_succ, i64_w, i32_w]
                      rfl
                    refine pure_ (i := 3) (N := some 39) (v := ?_) (a' := ?_) #[true, true, true, true, false, true, false, true, false, false, false, false] rfl rfl (any_of HT_.out (by kernel_rfl)) (fun _ _ _ h => h) (Or.inl ⟨by rfl, ?_⟩) ?_ ?_
                    rotate_left
                    · intro w'
                      go_simp
                      with_reducible rfl
                    rotate_left
                    · simp only [Act.put, List.setIfInBounds_toArray, List.set_cons_zero, List.set_cons_succ, i64_w, i32_w]
                      rfl
                    refine take_ (i := 4) (N := some 40) (v := ?_) (a' := ?_) #[true, true, true, true, true, true, false, true, false, false, false, false] rfl rfl (take_ofW HT_.out HW_.out (by kernel_rfl)) (fun _ _ _ h => h) (Or.inl ⟨by rfl, ?_⟩) hHeld ?_ ?_
                    rotate_left
                    · rintro w' ⟨s0, s1, s2, s3, s4, s5, s6, s7⟩
                      go_simp
                      with_reducible rfl
                    rotate_left
                    · simp only [Act.put, List.setIfInBounds_toArray, List.set_cons_zero, List.set_cons_succ, i64_w, i32_w]
                      rfl
                    refine take_ (i := 6) (N := some 42) (v := ?_) (a' := ?_) #[true, true, true, true, true, true, true, true, false, false, false, false] rfl rfl (take_ofW HT_.out HW_.out (by kernel_rfl)) (fun _ _ _ h => h) (Or.inl ⟨by rfl, ?_⟩) hHeld ?_ ?_
                    rotate_left
                    · rintro w' ⟨s0, s1, s2, s3, s4, s5, s6, s7⟩
                      go_simp
                      with_reducible rfl
                    rotate_left
                    · simp only [Act.put, List.setIfInBounds_toArray, List.set_cons_zero, List.set_cons_succ, i64_w, i32_w]
                      rfl
                    refine pure_ (i := 8) (N := some 44) (v := ?_) (a' := ?_) #[true, true, true, true, true, true, true, true, true, false, false, false] rfl rfl (any_of HT_.out (by kernel_rfl)) (fun _ _ _ h => h) (Or.inl ⟨by rfl, ?_⟩) ?_ ?_
                    rotate_left
                    · intro w'
                      go_simp
                      with_reducible rfl
                    rotate_left
                    · simp only [Act.put, List.setIfInBounds_toArray, List.set_cons_zero, List.set_cons_succ, i64_w, i32_w]
                      rfl
                    refine take_ (i := 9) (N := some 45) (v := ?_) (a' := ?_) #[true, true, true, true, true, true, true, true, true, true, false, false] rfl rfl (take_ofW HT_.out HW_.out (by kernel_rfl)) (fun _ _ _ h => h) (Or.inl ⟨by rfl, ?_⟩) hHeld ?_ ?_
                    rotate_left
                    · rintro w' ⟨s0, s1, s2, s3, s4, s5, s6, s7⟩
                      go_simp
                      with_reducible rfl
                    rotate_left
                    · simp only [Act.put, List.setIfInBounds_toArray, List.set_cons_zero, List.set_cons_succ, i64_w, i32_w]
                      rfl
                    refine one_ (i := 10) (N := some 46) #[true, true, true, true, true, true, true, true, true, true, true, false] rfl rfl (one_of HT_.out (by kernel_rfl)) (by decide) (fun K hK => ?_)
                    refine goes_ Try.func27 (by kernel_rfl) rfl #[.slice A352_0 (rd_L4 l0_1 x5_2).length c352_0, .slice A353_0 (rd_L4 l1_1 x5_2).length c353_0] (by rfl) rfl rfl (by (try simp only [List.map_toArray, List.map_cons, List.map_nil]); rfl) ?_
                    with_reducible refine (codewrightref02_SameList.calls k2 _ _ (rd_L4 l0_1 x5_2) _ _ (rd_L4 l1_1 x5_2) true _ ?side1 ?side2 ?side3 ?side4 A34.out).mono ?_
                    (case side1 => repeat (exact (Kd.C_below HR352_0.out HB.out)))
                    (case side2 => exact HC352_0.out)
                    (case side3 => repeat (exact (Kd.C_below HR353_0.out HB.out)))
                    (case side4 => exact HC353_0.out)
                    rintro e w39 ⟨rfl, hb⟩
                    refine ⟨_, rfl, ?_⟩
                    have n0_ := Aside0.mk (blk_below (g := gb348) (o := .cells #[.slice A0_0 l0_0.length c0_0, .slice (some ad352) l0_1.length c0_1, .slice A0_2 l0_2.length c0_2] 25 (0, 0)) (by (with_reducible repeat (fail)); exact BK348.out) hb)
                    have n1_ := Aside0.mk (blk_below (g := gb349) (o := .cells #[.slice A1_0 l1_0.length c1_0, .slice (some ad353) l1_1.length c1_1, .slice A1_2 l1_2.length c1_2] 25 (0, 0)) (by (with_reducible repeat (fail)); exact BK349.out) hb)
                    have n2_ := Aside0.mk (below_step (by repeat ((with_reducible exact HB.out))) hb)
                    clear BK348
                    clear BK349
                    clear HB
                    have BK348 := n0_
                    have BK349 := n1_
                    have HB := n2_
                    clear n0_ n1_ n2_
                    (try clear hb)
                    refine hK.out _ _ ⟨(blk_cell BK348.out 0).trans rfl, (blk_cell BK348.out 1).trans rfl, (blk_cell BK348.out 2).trans rfl, (blk_cell BK349.out 0).trans rfl, (blk_cell BK349.out 1).trans rfl, (blk_cell BK349.out 2).trans rfl, ((HB.out.cell (World.block_lt_of_cell? w _ hw352_0)).trans hw352_0), ((HB.out.cell (World.block_lt_of_cell? w _ hw353_0)).trans hw353_0)⟩ (fun hHeld => ?_)
                    clear hK K
                    refine norm_ (a' := ?_) ?_ ?_
                    rotate_left
                    · show Act.put _ (some 46) _ = _
                      simp only [Act.put, List.setIfInBounds_toArray, List.set_cons_zero, List.set_cons_succ, i64_w, i32_w]
                      rfl
                    refine pure_ (i := 11) (N := some 47) (v := ?_) (a' := ?_) #[true, true, true, true, true, true, true, true, true, true, true, true] rfl rfl (any_of HT_.out (by kernel_rfl)) (fun _ _ _ h => h) (Or.inl ⟨by rfl, ?_⟩) ?_ ?_
                    rotate_left
                    · intro w'
                      go_simp
                      with_reducible rfl
                    rotate_left
                    · simp only [Act.put, List.setIfInBounds_toArray, List.set_cons_zero, List.set_cons_succ, i64_w, i32_w]
                      rfl
                    refine done_ (done_of HT_.out (by kernel_rfl)) ?_
                    try go_wp2
                    go_roundg k2
                    case measure => have := HJ2.out; have := HK2.out; omega
                    case rel => exact ⟨(wrap64 (x5_2 + 1)), (by rfl), H', ⟨by have := HJ2.out; have := HK2.out; omega⟩, ⟨by (with_reducible repeat (fail)); exact BK348.out⟩, ⟨by (with_reducible repeat (fail)); exact BK349.out⟩, ⟨by repeat ((with_reducible exact HB.out))⟩⟩
                  · replace c35 := Bool.eq_false_iff.mpr c35
                    subst c35
                    have H1 : (some false) = some r := by rw [if_neg (show ¬ (false = true) by decide)] at H; exact H
                    clear H
                    have H := H1
                    clear H1
                    obtain rfl := Option.some.inj H
                    have hnb40 := NB348_349.out
                    have hnc40 := NB349_348.out
                    have hcz41_0 : wr.cell? ⟨gb348, 0, none⟩ = some (.slice A0_0 l0_0.length c0_0) := (blk_cell BK348.out 0).trans rfl
                    have hcz41_1 : wr.cell? ⟨gb348, 1, none⟩ = some (.slice A0_1 l0_1.length c0_1) := (blk_cell BK348.out 1).trans rfl
                    have hcz41_2 : wr.cell? ⟨gb348, 2, none⟩ = some (.slice A0_2 l0_2.length c0_2) := (blk_cell BK348.out 2).trans rfl
                    have hfz41_0 := blk_frozen BK348.out 0
                    have hfz41_1 := blk_frozen BK348.out 1
                    have hfz41_2 := blk_frozen BK348.out 2
                    try go_wp2
                    have n0_ := Aside0.mk (blk_drew BK348.out)
                    have n1_ := Aside0.mk (blk_drew BK349.out)
                    have n2_ := Aside0.mk (below_drew1 HB.out)
                    clear BK348
                    clear BK349
                    clear HB
                    have BK348 := n0_
                    have BK349 := n1_
                    have HB := n2_
                    clear n0_ n1_ n2_
                    have p352 : 0 ≤ (x5_2 : Int) := of_decide_eq_true (by (with_reducible assumption))
                    have q352 : x5_2 < (l0_1.length : Int) := of_decide_eq_true (by (with_reducible assumption))
                    obtain ⟨ad352, A352_0, c352_0, e352, hx352_0, hl352_0, hi352_0⟩ := at_L4 HR0_1.out x5_2 p352 q352
                    have hw352_0 := hx352_0
                    cases e352
                    replace hx352_0 := (HB.out.cell (World.block_lt_of_cell? w _ hx352_0)).trans hx352_0
                    have HR352_0 := Aside0.mk hi352_0
                    have HC352_0 := Aside0.mk hl352_0
                    clear hi352_0 hl352_0
                    replace p352 := eq_true p352
                    replace q352 := eq_true q352
                    have p353 : 0 ≤ (x5_2 : Int) := of_decide_eq_true (by (with_reducible assumption))
                    have q353 : x5_2 < (l1_1.length : Int) := of_decide_eq_true (by (with_reducible assumption))
                    obtain ⟨ad353, A353_0, c353_0, e353, hx353_0, hl353_0, hi353_0⟩ := at_L4 HR1_1.out x5_2 p353 q353
                    have hw353_0 := hx353_0
                    cases e353
                    replace hx353_0 := (HB.out.cell (World.block_lt_of_cell? w _ hx353_0)).trans hx353_0
                    have HR353_0 := Aside0.mk hi353_0
                    have HC353_0 := Aside0.mk hl353_0
                    clear hi353_0 hl353_0
                    replace p353 := eq_true p353
                    replace q353 := eq_true q353
                    refine start_ (n := 12) (S := fun w' => w'.cell? ⟨gb348, 0, none⟩ = some (.slice A0_0 l0_0.length c0_0) ∧ w'.cell? ⟨gb348, 1, none⟩ = some (.slice (some ad352) l0_1.length c0_1) ∧ w'.cell? ⟨gb348, 2, none⟩ = some (.slice A0_2 l0_2.length c0_2) ∧ w'.cell? ⟨gb349, 0, none⟩ = some (.slice A1_0 l1_0.length c1_0) ∧ w'.cell? ⟨gb349, 1, none⟩ = some (.slice (some ad353) l1_1.length c1_1) ∧ w'.cell? ⟨gb349, 2, none⟩ = some (.slice A1_2 l1_2.length c1_2) ∧ w'.cell? (ad352.add (x5_2).toNat) = some (.slice A352_0 (rd_L4 l0_1 x5_2).length c352_0) ∧ w'.cell? (ad353.add (x5_2).toNat) = some (.slice A353_0 (rd_L4 l1_1 x5_2).length c353_0)) (ds := []) #[false, false, false, false, false, false, false, false, false, false, false, false] (by kernel_rfl) rfl rfl ⟨(blk_cell BK348.out 0).trans rfl, (blk_cell BK348.out 1).trans rfl, (blk_cell BK348.out 2).trans rfl, (blk_cell BK349.out 0).trans rfl, (blk_cell BK349.out 1).trans rfl, (blk_cell BK349.out 2).trans rfl, ((HB.out.cell (World.block_lt_of_cell? w _ hw352_0)).trans hw352_0), ((HB.out.cell (World.block_lt_of_cell? w _ hw353_0)).trans hw353_0)⟩ (fun hHeld => ?_); refine with_tabW codewrightref35_Same.tab6 codewrightref35_Same.bits6 (fun HT_ HW_ => ?_)
                    generalize wr.drew = w42 at BK348 BK349 HB HR352_0 HR353_0 hx352_0 hx353_0 hHeld ⊢
                    refine pure_ (i := 0) (N := some 36) (v := ?_) (a' := ?_) #[true, false, false, false, false, false, false, false, false, false, false, false] rfl rfl (any_of HT_.out (by kernel_rfl)) (fun _ _ _ h => h) (Or.inl ⟨by rfl, ?_⟩) ?_ ?_
                    rotate_left
                    · intro w'
                      go_simp
                      with_reducible rfl
                    rotate_left
                    · simp only [Act.put, List.setIfInBounds_toArray, List.set_cons_zero, List.set_cons_succ, i64_w, i32_w]
                      rfl
                    refine pure_ (i := 2) (N := some 38) (v := ?_) (a' := ?_) #[true, false, true, false, false, false, false, false, false, false, false, false] rfl rfl (any_of HT_.out (by kernel_rfl)) (fun _ _ _ h => h) (Or.inl ⟨by rfl, ?_⟩) ?_ ?_
                    rotate_left
                    · intro w'
                      go_simp
                      with_reducible rfl
                    rotate_left
                    · simp only [Act.put, List.setIfInBounds_toArray, List.set_cons_zero, List.set_cons_succ, i64_w, i32_w]
                      rfl
                    refine pure_ (i := 5) (N := some 41) (v := ?_) (a' := ?_) #[true, false, true, false, false, true, false, false, false, false, false, false] rfl rfl (any_of HT_.out (by kernel_rfl)) (fun _ _ _ h => h) (Or.inl ⟨by rfl, ?_⟩) ?_ ?_
                    rotate_left
                    · intro w'
                      go_simp
                      with_reducible rfl
                    rotate_left
                    · simp only [Act.put, List.setIfInBounds_toArray, List.set_cons_zero, List.set_cons_succ, i64_w, i32_w]
                      rfl
                    refine pure_ (i := 7) (N := some 43) (v := ?_) (a' := ?_) #[true, false, true, false, false, true, false, true, false, false, false, false] rfl rfl (any_of HT_.out (by kernel_rfl)) (fun _ _ _ h => h) (Or.inl ⟨by rfl, ?_⟩) ?_ ?_
                    rotate_left
                    · intro w'
                      go_simp
                      with_reducible rfl
                    rotate_left
                    · simp only [Act.put, List.setIfInBounds_toArray, List.set_cons_zero, List.set_cons_succ, i64_w, i32_w]
                      rfl
                    refine take_ (i := 1) (N := some 37) (v := ?_) (a' := ?_) #[true, true, true, false, false, true, false, true, false, false, false, false] rfl rfl (take_ofW HT_.out HW_.out (by kernel_rfl)) (fun _ _ _ h => h) (Or.inl ⟨by rfl, ?_⟩) hHeld ?_ ?_
                    rotate_left
                    · rintro w' ⟨s0, s1, s2, s3, s4, s5, s6, s7⟩
                      go_simp
                      with_reducible rfl
                    rotate_left
                    · simp only [Act.put, List.setIfInBounds_toArray, List.set_cons_zero, List.set_cons_succ, i64_w, i32_w]
                      rfl
                    refine pure_ (i := 3) (N := some 39) (v := ?_) (a' := ?_) #[true, true, true, true, false, true, false, true, false, false, false, false] rfl rfl (any_of HT_.out (by kernel_rfl)) (fun _ _ _ h => h) (Or.inl ⟨by rfl, ?_⟩) ?_ ?_
                    rotate_left
                    · intro w'
                      go_simp
                      with_reducible rfl
                    rotate_left
                    · simp only [Act.put, List.setIfInBounds_toArray, List.set_cons_zero, List.set_cons_succ, i64_w, i32_w]
                      rfl
                    refine take_ (i := 4) (N := some 40) (v := ?_) (a' := ?_) #[true, true, true, true, true, true, false, true, false, false, false, false] rfl rfl (take_ofW HT_.out HW_.out (by kernel_rfl)) (fun _ _ _ h => h) (Or.inl ⟨by rfl, ?_⟩) hHeld ?_ ?_
                    rotate_left
                    · rintro w' ⟨s0, s1, s2, s3, s4, s5, s6, s7⟩
                      go_simp
                      with_reducible rfl
                    rotate_left
                    · simp only [Act.put, List.setIfInBounds_toArray, List.set_cons_zero, List.set_cons_succ, i64_w, i32_w]
                      rfl
                    refine take_ (i := 6) (N := some 42) (v := ?_) (a' := ?_) #[true, true, true, true, true, true, true, true, false, false, false, false] rfl rfl (take_ofW HT_.out HW_.out (by kernel_rfl)) (fun _ _ _ h => h) (Or.inl ⟨by rfl, ?_⟩) hHeld ?_ ?_
                    rotate_left
                    · rintro w' ⟨s0, s1, s2, s3, s4, s5, s6, s7⟩
                      go_simp
                      with_reducible rfl
                    rotate_left
                    · simp only [Act.put, List.setIfInBounds_toArray, List.set_cons_zero, List.set_cons_succ, i64_w, i32_w]
                      rfl
                    refine pure_ (i := 8) (N := some 44) (v := ?_) (a' := ?_) #[true, true, true, true, true, true, true, true, true, false, false, false] rfl rfl (any_of HT_.out (by kernel_rfl)) (fun _ _ _ h => h) (Or.inl ⟨by rfl, ?_⟩) ?_ ?_
                    rotate_left
                    · intro w'
                      go_simp
                      with_reducible rfl
                    rotate_left
                    · simp only [Act.put, List.setIfInBounds_toArray, List.set_cons_zero, List.set_cons_succ, i64_w, i32_w]
                      rfl
                    refine take_ (i := 9) (N := some 45) (v := ?_) (a' := ?_) #[true, true, true, true, true, true, true, true, true, true, false, false] rfl rfl (take_ofW HT_.out HW_.out (by kernel_rfl)) (fun _ _ _ h => h) (Or.inl ⟨by rfl, ?_⟩) hHeld ?_ ?_
                    rotate_left
                    · rintro w' ⟨s0, s1, s2, s3, s4, s5, s6, s7⟩
                      go_simp
                      with_reducible rfl
                    rotate_left
                    · simp only [Act.put, List.setIfInBounds_toArray, List.set_cons_zero, List.set_cons_succ, i64_w, i32_w]
                      rfl
                    refine one_ (i := 10) (N := some 46) #[true, true, true, true, true, true, true, true, true, true, true, false] rfl rfl (one_of HT_.out (by kernel_rfl)) (by decide) (fun K hK => ?_)
                    refine goes_ Try.func27 (by kernel_rfl) rfl #[.slice A352_0 (rd_L4 l0_1 x5_2).length c352_0, .slice A353_0 (rd_L4 l1_1 x5_2).length c353_0] (by rfl) rfl rfl (by (try simp only [List.map_toArray, List.map_cons, List.map_nil]); rfl) ?_
                    with_reducible refine (codewrightref02_SameList.calls k2 _ _ (rd_L4 l0_1 x5_2) _ _ (rd_L4 l1_1 x5_2) false _ ?side1 ?side2 ?side3 ?side4 A34.out).mono ?_
                    (case side1 => repeat (exact (Kd.C_below HR352_0.out HB.out)))
                    (case side2 => exact HC352_0.out)
                    (case side3 => repeat (exact (Kd.C_below HR353_0.out HB.out)))
                    (case side4 => exact HC353_0.out)
                    rintro e w43 ⟨rfl, hb⟩
                    refine ⟨_, rfl, ?_⟩
                    have n0_ := Aside0.mk (blk_below (g := gb348) (o := .cells #[.slice A0_0 l0_0.length c0_0, .slice (some ad352) l0_1.length c0_1, .slice A0_2 l0_2.length c0_2] 25 (0, 0)) (by (with_reducible repeat (fail)); exact BK348.out) hb)
                    have n1_ := Aside0.mk (blk_below (g := gb349) (o := .cells #[.slice A1_0 l1_0.length c1_0, .slice (some ad353) l1_1.length c1_1, .slice A1_2 l1_2.length c1_2] 25 (0, 0)) (by (with_reducible repeat (fail)); exact BK349.out) hb)
                    have n2_ := Aside0.mk (below_step (by repeat ((with_reducible exact HB.out))) hb)
                    clear BK348
                    clear BK349
                    clear HB
                    have BK348 := n0_
                    have BK349 := n1_
                    have HB := n2_
                    clear n0_ n1_ n2_
                    (try clear hb)
                    refine hK.out _ _ ⟨(blk_cell BK348.out 0).trans rfl, (blk_cell BK348.out 1).trans rfl, (blk_cell BK348.out 2).trans rfl, (blk_cell BK349.out 0).trans rfl, (blk_cell BK349.out 1).trans rfl, (blk_cell BK349.out 2).trans rfl, ((HB.out.cell (World.block_lt_of_cell? w _ hw352_0)).trans hw352_0), ((HB.out.cell (World.block_lt_of_cell? w _ hw353_0)).trans hw353_0)⟩ (fun hHeld => ?_)
                    clear hK K
                    refine norm_ (a' := ?_) ?_ ?_
                    rotate_left
                    · show Act.put _ (some 46) _ = _
                      simp only [Act.put, List.setIfInBounds_toArray, List.set_cons_zero, List.set_cons_succ, i64_w, i32_w]
                      rfl
                    refine pure_ (i := 11) (N := some 47) (v := ?_) (a' := ?_) #[true, true, true, true, true, true, true, true, true, true, true, true] rfl rfl (any_of HT_.out (by kernel_rfl)) (fun _ _ _ h => h) (Or.inl ⟨by rfl, ?_⟩) ?_ ?_
                    rotate_left
                    · intro w'
                      go_simp
                      with_reducible rfl
                    rotate_left
                    · simp only [Act.put, List.setIfInBounds_toArray, List.set_cons_zero, List.set_cons_succ, i64_w, i32_w]
                      rfl
                    refine done_ (done_of HT_.out (by kernel_rfl)) ?_
                    try go_wp2
                    go_ret
                    exact ⟨by rfl, by repeat ((with_reducible exact HB.out))⟩
                · rw [if_neg c33] at H
                  exact absurd H (by simp)
              · rw [if_neg c32] at H
                exact absurd H (by simp)
            · rw [if_neg c31] at H
              have c31b0 : decide (x5_2 < (l0_1.length : Int)) = false := decide_eq_false c31
              clear c31
              obtain rfl := Option.some.inj H
              have hnb44 := NB348_349.out
              have hnc44 := NB349_348.out
              have hcz45_0 : wr.cell? ⟨gb348, 0, none⟩ = some (.slice A0_0 l0_0.length c0_0) := (blk_cell BK348.out 0).trans rfl
              have hcz45_1 : wr.cell? ⟨gb348, 1, none⟩ = some (.slice A0_1 l0_1.length c0_1) := (blk_cell BK348.out 1).trans rfl
              have hcz45_2 : wr.cell? ⟨gb348, 2, none⟩ = some (.slice A0_2 l0_2.length c0_2) := (blk_cell BK348.out 2).trans rfl
              have hfz45_0 := blk_frozen BK348.out 0
              have hfz45_1 := blk_frozen BK348.out 1
              have hfz45_2 := blk_frozen BK348.out 2
              go_wp2
              go_ret
              exact ⟨by rfl, by repeat ((with_reducible exact HB.out))⟩
end Go.Proofs.Ythheakfgmombdaa.F
end
section
namespace Go.Proofs.Ythheakfgmombdaa.F
open Go.RowKit Go.Proofs.YthheakfgmombdaaX.PrintWords Go.Proofs.YthheakfgmombdaaX.PrintLast Go.Proofs.YthheakfgmombdaaX.PrintMore
attribute [local go_sem] max2_int min2_int max_two min_two max_three min_three max_four min_four   -- for this text's walks alone
set_option linter.unusedVariables false
set_option linter.unusedSimpArgs false
set_option maxHeartbeats 8000000 in
set_option maxRecDepth 100000 in
theorem codewrightref01_Trim.calls (k : Nat) (A0 : Option Addr) (c0 : Nat) (l0 : List Int) (r : List Int) (w : World) (hr0 : Kd.C (Kd.int .u32) w A0 l0.length l0) (hc0 : l0.length ≤ c0) (h : codewrightref01_Trim.f k l0 = some r) :
  Calls Try.prog 97 #[.slice A0 l0.length c0] w fun e w' => ∃ v0_ : Value, e = .returned (v0_) ∧ Kd.R (Kd.int .u32) 100 w' w.heap.size (fun _ => True) v0_ r ∧ Below w.heap.size w w' := by
 have HR0 := Aside0.mk hr0
 have HC0 := Aside0.mk hc0
 clear hr0 hc0
 have HB := Aside0.mk (Below.refl w.heap.size w)
 have H : (codewrightref01_Trim.l0 k l0 (l0.length : Int)) = some r := h
 clear h
 have H' := Aside0.mk H
 clear H
 go_enter Try.func97, Try.ntmps97
 go_wp2
 go_loopg [3] k (fun kq v3 w' => ∃ (x3_1 : Int), v3 = .int .i64 x3_1 ∧ Aside0 (codewrightref01_Trim.l0 kq l0 x3_1 = some r) ∧ Aside0 (kq ≤ k) ∧ Aside0 (Below w.heap.size w w'))
 case atStart => exact ⟨((l0.length : Int)), rfl, H', ⟨Nat.le_refl _⟩, ⟨HB.out⟩⟩
 case round =>
  clear H'
  obtain ⟨x3_1, rfl, HA, HK1, HB⟩ := hrel
  cases gk with
  | zero => exact absurd HA.out (by simp [codewrightref01_Trim.l0])
  | succ k1 =>
   have H := HA.out
   clear HA
   simp only [codewrightref01_Trim.l0] at H
   by_cases c2 : x3_1 > 0
   ·rw [if_pos c2] at H
    have c2b0 : decide (0 < x3_1) = true := decide_eq_true c2
    clear c2
    obtain ⟨ji3, hji3⟩ : ∃ j_ : Int, (wrap64 (x3_1 - 1)) = j_ := ⟨_, rfl⟩
    rw [hji3] at H
    have hji3w : (IntKind.i64.wrap (x3_1 - 1)) = ji3 := (i64_w _).trans hji3
    by_cases c4 : 0 ≤ (ji3)
    ·rw [if_pos c4] at H
     have c4b0 : decide (0 ≤ (ji3)) = true := decide_eq_true c4
     clear c4
     by_cases c5 : (ji3) < (l0.length : Int)
     ·rw [if_pos c5] at H
      have c5b0 : decide ((ji3) < (l0.length : Int)) = true := decide_eq_true c5
      clear c5
      by_cases c6 : (rd l0 (ji3)) = 0
      ·rw [if_pos c6] at H
       have c6b1 : ((rd l0 (ji3)) != 0) = false := bne_eq_false_iff_eq.mpr c6
       clear c6
       have H' := Aside0.mk H
       clear H
       have p337 : 0 ≤ ((ji3) : Int) := of_decide_eq_true (by assumption)
       have q337 : (ji3) < (l0.length : Int) := of_decide_eq_true (by assumption)
       obtain ⟨ad337, e337, hx337_0⟩ := Kd.at_int HR0.out (ji3) p337 q337
       cases e337
       replace hx337_0 := (HB.out.cell (World.block_lt_of_cell? w _ hx337_0)).trans hx337_0
       replace q337 := eq_true q337
       go_wp2
       go_roundg k1
       case measure => have := HK1.out; omega
       case rel => exact ⟨(ji3), rfl, H', ⟨by have := HK1.out; omega⟩, ⟨HB.out⟩⟩
      ·rw [if_neg c6] at H
       obtain ⟨y338, hy338⟩ : ∃ y_ : List Int, y_ = (([] : List Int)) := ⟨_, rfl⟩
       (try replace H := (Option.bind_some _ _).symm.trans H); rw [← hy338] at H
       have Ny338 := Aside0.mk hy338
       clear hy338
       by_cases c7 : 0 ≤ x3_1
       ·rw [if_pos c7] at H
        have c7b1 : decide (0 ≤ x3_1) = true := decide_eq_true c7
        clear c7
        by_cases c8 : x3_1 ≤ (l0.length : Int)
        ·rw [if_pos c8] at H
         have c8b0 := eq_true c8
         have c8b1 : decide (x3_1 ≤ (l0.length : Int)) = true := decide_eq_true c8
         clear c8
         by_cases c9 : y338.length + (l0.take (x3_1 : Int).toNat).length < 35184372088832
         ·rw [if_pos c9] at H
          have LMc9 := Aside0.mk c9
          clear c9
          obtain ⟨y342, hy342⟩ : ∃ y_ : List Int, y_ = (y338 ++ (l0.take (x3_1 : Int).toNat)) := ⟨_, rfl⟩
          (try replace H := (Option.bind_some _ _).symm.trans H); rw [← hy342] at H
          have Ny342 := Aside0.mk hy342
          clear hy342
          obtain rfl := Option.some.inj H
          have p337 : 0 ≤ ((ji3) : Int) := of_decide_eq_true (by assumption)
          have q337 : (ji3) < (l0.length : Int) := of_decide_eq_true (by assumption)
          obtain ⟨ad337, e337, hx337_0⟩ := Kd.at_int HR0.out (ji3) p337 q337
          cases e337
          replace hx337_0 := (HB.out.cell (World.block_lt_of_cell? w _ hx337_0)).trans hx337_0
          replace q337 := eq_true q337
          go_wp2_with (first | (refine Kd.R_lit (Kd.int .u32) _ 100 ?hg (N := 18) ?hd (xs := ([] : List Int)) (inner := []) (ok := fun _ => True) (okp := fun _ => True) ?hr ?hp (fun _ hk => hk) trivial (Below.refl _ _) (Nat.le_refl _) (by simp) ?_; (case hd => rfl); (case hg => rfl); (case hr => go_simp; done); (case hp => exact (Reps.none _ _)); intro v339 w10 ho11 hb hg_ hnew_; clear hg_ hnew_; (rw [← Ny338.out] at ho11); have HO340 := Aside0.mk (Kd.R_lower ho11 (below_size (HB.out))); replace HB := Aside0.mk (below_step (HB.out) hb); clear hb ho11; obtain ⟨i012, hi012, _, hsz12, _⟩ := info_parts info100; obtain ⟨hcut12, hA12, hC12⟩ := print_take_of (P := Try.prog) (Value.int .u32) 0 44 100 .i64 Try.underlying44 hi012 hsz12 (some ad337) c0 l0 x3_1 (of_decide_eq_true (by assumption)) (of_decide_eq_true (by assumption)) HC0.out; have HR341 := Aside0.mk (Kd.C_of_reads (h1 := fun _ => rfl) (hA12 _ (Kd.reads_of_C HR0.out))); have HC341 := Aside0.mk hC12; clear hA12 hC12 hi012 hsz12) | ((with_reducible refine gate_builtin (b := .append) (xs := #[.tmp 18, .tmp 21]) rfl ?_); at_builtin; refine Kd.R_append_rows (Kd.int .u32) (w0 := w) w.heap.size rfl (.tmp 18) (.tmp 21) 44 100 (.int .u32 0) 4 rfl Try.underlying44 info100 rfl (by decide) (by omega) v339 y338 (l0.take (x3_1 : Int).toNat) _ _ _ (fun _ => True) (fun _ => False) rfl rfl ?aO ?aR (fun _ _ h => h) (fun _ h => h.elim) ?aF ?aB ?aS ?aL ?_; (case aR => (refine Kd.C_len_ (show (l0.take (x3_1 : Int).toNat).length = x3_1.toNat from (by rw [List.length_take]; have h_ : (x3_1 : Int) ≤ (l0.length : Int) := of_decide_eq_true (by assumption); omega)).symm ?_; repeat (exact (Kd.C_below HR341.out HB.out)))); (case aB => exact (HB.out)); (case aF => exact (fun _ _ => trivial)); (case aO => exact (HO340.out)); (case aS => exact (below_size (HB.out))); (case aL => have := LMc9.out; have hlx_ := (show (l0.take (x3_1 : Int).toNat).length = x3_1.toNat from (by rw [List.length_take]; have h_ : (x3_1 : Int) ≤ (l0.length : Int) := of_decide_eq_true (by assumption); omega)); omega); intro v343 w13 ho hb hg hat; rw [← Ny342.out] at ho; replace HB := Aside0.mk (hb); have HO344 := Aside0.mk (ho); clear HO340; clear ho hb hg hat))
          go_ret
          exact ⟨_, rfl, HO344.out, HB.out⟩
         ·rw [if_neg c9] at H
          exact absurd H (by simp)
        ·rw [if_neg c8] at H
         exact absurd H (by simp)
       ·rw [if_neg c7] at H
        exact absurd H (by simp)
     ·rw [if_neg c5] at H
      exact absurd H (by simp)
    ·rw [if_neg c4] at H
     exact absurd H (by simp)
   ·rw [if_neg c2] at H
    have c2b0 : decide (0 < x3_1) = false := decide_eq_false c2
    clear c2
    obtain ⟨y345, hy345⟩ : ∃ y_ : List Int, y_ = (([] : List Int)) := ⟨_, rfl⟩
    (try replace H := (Option.bind_some _ _).symm.trans H); rw [← hy345] at H
    have Ny345 := Aside0.mk hy345
    clear hy345
    by_cases c14 : 0 ≤ x3_1
    ·rw [if_pos c14] at H
     have c14b1 : decide (0 ≤ x3_1) = true := decide_eq_true c14
     clear c14
     by_cases c15 : x3_1 ≤ (l0.length : Int)
     ·rw [if_pos c15] at H
      have c15b0 := eq_true c15
      have c15b1 : decide (x3_1 ≤ (l0.length : Int)) = true := decide_eq_true c15
      clear c15
      by_cases c16 : y345.length + (l0.take (x3_1 : Int).toNat).length < 35184372088832
      ·rw [if_pos c16] at H
       have LMc16 := Aside0.mk c16
       clear c16
       obtain ⟨y349, hy349⟩ : ∃ y_ : List Int, y_ = (y345 ++ (l0.take (x3_1 : Int).toNat)) := ⟨_, rfl⟩
       (try replace H := (Option.bind_some _ _).symm.trans H); rw [← hy349] at H
       have Ny349 := Aside0.mk hy349
       clear hy349
       obtain rfl := Option.some.inj H
       go_wp2_with (first | (refine Kd.R_lit (Kd.int .u32) _ 100 ?hg (N := 18) ?hd (xs := ([] : List Int)) (inner := []) (ok := fun _ => True) (okp := fun _ => True) ?hr ?hp (fun _ hk => hk) trivial (Below.refl _ _) (Nat.le_refl _) (by simp) ?_; (case hd => rfl); (case hg => rfl); (case hr => go_simp; done); (case hp => exact (Reps.none _ _)); intro v346 w17 ho18 hb hg_ hnew_; clear hg_ hnew_; (rw [← Ny345.out] at ho18); have HO347 := Aside0.mk (Kd.R_lower ho18 (below_size (HB.out))); replace HB := Aside0.mk (below_step (HB.out) hb); clear hb ho18; obtain ⟨i019, hi019, _, hsz19, _⟩ := info_parts info100; obtain ⟨hcut19, hA19, hC19⟩ := print_take_of (P := Try.prog) (Value.int .u32) 0 44 100 .i64 Try.underlying44 hi019 hsz19 A0 c0 l0 x3_1 (of_decide_eq_true (by assumption)) (of_decide_eq_true (by assumption)) HC0.out; have HR348 := Aside0.mk (Kd.C_of_reads (h1 := fun _ => rfl) (hA19 _ (Kd.reads_of_C HR0.out))); have HC348 := Aside0.mk hC19; clear hA19 hC19 hi019 hsz19) | ((with_reducible refine gate_builtin (b := .append) (xs := #[.tmp 18, .tmp 21]) rfl ?_); at_builtin; refine Kd.R_append_rows (Kd.int .u32) (w0 := w) w.heap.size rfl (.tmp 18) (.tmp 21) 44 100 (.int .u32 0) 4 rfl Try.underlying44 info100 rfl (by decide) (by omega) v346 y345 (l0.take (x3_1 : Int).toNat) _ _ _ (fun _ => True) (fun _ => False) rfl rfl ?aO ?aR (fun _ _ h => h) (fun _ h => h.elim) ?aF ?aB ?aS ?aL ?_; (case aR => (refine Kd.C_len_ (show (l0.take (x3_1 : Int).toNat).length = x3_1.toNat from (by rw [List.length_take]; have h_ : (x3_1 : Int) ≤ (l0.length : Int) := of_decide_eq_true (by assumption); omega)).symm ?_; repeat (exact (Kd.C_below HR348.out HB.out)))); (case aB => exact (HB.out)); (case aF => exact (fun _ _ => trivial)); (case aO => exact (HO347.out)); (case aS => exact (below_size (HB.out))); (case aL => have := LMc16.out; have hlx_ := (show (l0.take (x3_1 : Int).toNat).length = x3_1.toNat from (by rw [List.length_take]; have h_ : (x3_1 : Int) ≤ (l0.length : Int) := of_decide_eq_true (by assumption); omega)); omega); intro v350 w20 ho hb hg hat; rw [← Ny349.out] at ho; replace HB := Aside0.mk (hb); have HO351 := Aside0.mk (ho); clear HO347; clear ho hb hg hat))
       go_ret
       exact ⟨_, rfl, HO351.out, HB.out⟩
      ·rw [if_neg c16] at H
       exact absurd H (by simp)
     ·rw [if_neg c15] at H
      exact absurd H (by simp)
    ·rw [if_neg c14] at H
     exact absurd H (by simp)
end Go.Proofs.Ythheakfgmombdaa.F
end
section
namespace Go.Proofs.Ythheakfgmombdaa.F
open Go.RowKit Go.Proofs.YthheakfgmombdaaX.PrintWords Go.Proofs.YthheakfgmombdaaX.PrintLast Go.Proofs.YthheakfgmombdaaX.PrintMore
attribute [local go_sem] max2_int min2_int max_two min_two max_three min_three max_four min_four   -- for this text's walks alone
set_option linter.unusedVariables false
set_option linter.unusedSimpArgs false
set_option maxHeartbeats 8000000 in
set_option maxRecDepth 100000 in
theorem codewrightref01_Zero.calls (k : Nat) (A0 : Option Addr) (c0 : Nat) (l0 : List Int) (r : Bool) (w : World) (hr0 : Kd.C (Kd.int .u32) w A0 l0.length l0) (hc0 : l0.length ≤ c0) (h : codewrightref01_Zero.f k l0 = some r) :
  Calls Try.prog 98 #[.slice A0 l0.length c0] w fun e w' => e = .returned (.bool r) ∧ Below w.heap.size w w' := by
 have HR0 := Aside0.mk hr0
 have HC0 := Aside0.mk hc0
 clear hr0 hc0
 have HB := Aside0.mk (Below.refl w.heap.size w)
 have H : ((codewrightref01_Trim.f k l0).bind fun t352 => (some ((t352.length : Int) == 0))) = some r := h
 clear h
 obtain ⟨t352, A2, H⟩ := bindA H
 obtain rfl := Option.some.inj H
 go_enter Try.func98, Try.ntmps98
 go_wp2_with ((refine goesL_ (some 4) rfl rfl Try.func97 (by kernel_rfl) rfl #[.slice A0 l0.length c0] rfl (by simp only [List.map_toArray, List.map_cons, List.map_nil]; rfl) ?_; (with_reducible refine (codewrightref01_Trim.calls k _ _ l0 t352 _ HR0.out HC0.out A2.out).mono ?_); rintro e w3 ⟨v353, rfl, ho0, hb⟩; refine ⟨_, rfl, ?_⟩; have HO354 := Aside0.mk (Kd.R_lower ho0 (below_size (HB.out))); replace HB := Aside0.mk (below_step (HB.out) hb); (try clear hb); (try clear ho0); obtain ⟨Ao4, co4, eo4⟩ := Kd.R_slice HO354.out; subst eo4))
 go_ret
 exact ⟨rfl, HB.out⟩
end Go.Proofs.Ythheakfgmombdaa.F
end
section
namespace Go.Proofs.Ythheakfgmombdaa.F
open Go.RowKit Go.Proofs.YthheakfgmombdaaX.PrintWords Go.Proofs.YthheakfgmombdaaX.PrintLast Go.Proofs.YthheakfgmombdaaX.PrintMore
attribute [local go_sem] max2_int min2_int max_two min_two max_three min_three max_four min_four   -- for this text's walks alone
set_option linter.unusedVariables false
set_option linter.unusedSimpArgs false
set_option maxHeartbeats 8000000 in
set_option maxRecDepth 100000 in
theorem codewrightref01_limb.calls (A0 : Option Addr) (c0 : Nat) (l0 : List Int) (a1 : Int) (r : Int) (w : World) (hr0 : Kd.C (Kd.int .u32) w A0 l0.length l0) (hc0 : l0.length ≤ c0) (h : codewrightref01_limb.f l0 a1 = some r) :
  Calls Try.prog 101 #[.slice A0 l0.length c0, .int .i64 a1] w fun e w' => e = .returned (.int .u64 r) ∧ Drawn0 w w' := by
 have HR0 := Aside0.mk hr0
 have HC0 := Aside0.mk hc0
 clear hr0 hc0
 have H : (if a1 < (l0.length : Int) then (if 0 ≤ a1 then (some (IntKind.u64.wrap (rd l0 a1))) else (none)) else (some 0)) = some r := h
 clear h
 by_cases c3 : a1 < (l0.length : Int)
 ·rw [if_pos c3] at H
  have c3b0 : decide (a1 < (l0.length : Int)) = true := decide_eq_true c3
  clear c3
  by_cases c4 : 0 ≤ a1
  ·rw [if_pos c4] at H
   have c4b0 : decide (0 ≤ a1) = true := decide_eq_true c4
   clear c4
   obtain rfl := Option.some.inj H
   have p355 : 0 ≤ (a1 : Int) := of_decide_eq_true (by assumption)
   have q355 : a1 < (l0.length : Int) := of_decide_eq_true (by assumption)
   obtain ⟨ad355, e355, hx355_0⟩ := Kd.at_int HR0.out a1 p355 q355
   cases e355
   replace q355 := eq_true q355
   go_enter Try.func101, Try.ntmps101
   go_wp2
   go_ret
   exact ⟨by rfl, by repeat (exact Drawn0.refl _)⟩
  ·rw [if_neg c4] at H
   exact absurd H (by simp)
 ·rw [if_neg c3] at H
  have c3b0 : decide (a1 < (l0.length : Int)) = false := decide_eq_false c3
  clear c3
  obtain rfl := Option.some.inj H
  go_enter Try.func101, Try.ntmps101
  go_wp2
  go_ret
  exact ⟨by rfl, by repeat (exact Drawn0.refl _)⟩
end Go.Proofs.Ythheakfgmombdaa.F
end
section
namespace Go.Proofs.Ythheakfgmombdaa.F
open Go.RowKit Go.Proofs.YthheakfgmombdaaX.PrintWords Go.Proofs.YthheakfgmombdaaX.PrintLast Go.Proofs.YthheakfgmombdaaX.PrintMore
attribute [local go_sem] max2_int min2_int max_two min_two max_three min_three max_four min_four   -- for this text's walks alone
set_option linter.unusedVariables false
set_option linter.unusedSimpArgs false
set_option maxHeartbeats 8000000 in
set_option maxRecDepth 100000 in
theorem codewrightref01_Add.calls (k : Nat) (A0 : Option Addr) (c0 : Nat) (l0 : List Int) (A1 : Option Addr) (c1 : Nat) (l1 : List Int) (r : List Int) (w : World) (hr0 : Kd.C (Kd.int .u32) w A0 l0.length l0) (hc0 : l0.length ≤ c0) (hr1 : Kd.C (Kd.int .u32) w A1 l1.length l1) (hc1 : l1.length ≤ c1) (h : codewrightref01_Add.f k l0 l1 = some r) :
  Calls Try.prog 70 #[.slice A0 l0.length c0, .slice A1 l1.length c1] w fun e w' => ∃ v0_ : Value, e = .returned (v0_) ∧ Kd.R (Kd.int .u32) 100 w' w.heap.size (fun _ => True) v0_ r ∧ Below w.heap.size w w' := by
 have HR0 := Aside0.mk hr0
 have HC0 := Aside0.mk hc0
 clear hr0 hc0
 have HR1 := Aside0.mk hr1
 have HC1 := Aside0.mk hc1
 clear hr1 hc1
 have HB := Aside0.mk (Below.refl w.heap.size w)
 have H : (codewrightref01_Add.l0 k l0 l1 ([] : List Int) 0 0) = some r := h
 clear h
 have H' := Aside0.mk H
 clear H
 go_enter Try.func70, Try.ntmps70
 go_wp2
 go_loopg [5, 6, 7] k (fun kq v5 v6 v7 w' => ∃ (x5_1 : List Int) (x6_1 : Int) (x7_1 : Int), v6 = .int .u64 x6_1 ∧ v7 = .int .i64 x7_1 ∧ Aside0 (codewrightref01_Add.l0 kq l0 l1 x5_1 x6_1 x7_1 = some r) ∧ Aside0 (kq ≤ k) ∧ Aside0 (Kd.R (Kd.int .u32) 100 w' w.heap.size (fun _ => True) v5 x5_1) ∧ Aside0 (Below w.heap.size w w'))
 case atStart => exact ⟨(([] : List Int)), (0), (0), rfl, rfl, H', ⟨Nat.le_refl _⟩, ⟨by exact Kd.R_nil _ _ _ _ _⟩, ⟨HB.out⟩⟩
 case round =>
  clear H'
  obtain ⟨x5_1, x6_1, x7_1, rfl, rfl, HA, HK1, HO_5, HB⟩ := hrel
  cases gk with
  | zero => exact absurd HA.out (by simp [codewrightref01_Add.l0])
  | succ k1 =>
   have H := HA.out
   clear HA
   simp only [codewrightref01_Add.l0] at H
   have HC3 := Aside0.mk H
   clear H
   go_upto_region 4 with (fail)
   go_cut [22] (fun v22 wc => ∃ (kq : Nat) (x22_2 : Bool), v22 = .bool x22_2 ∧ Aside0 (codewrightref01_Add.j1 kq l0 l1 x5_1 x6_1 x7_1 x22_2 = some r) ∧ Aside0 (kq ≤ k1) ∧ Aside0 (Kd.R (Kd.int .u32) 100 wc w.heap.size (fun _ => True) u5 x5_1) ∧ Aside0 (Below w.heap.size w wc))
   case first =>
    have H := HC3.out
    clear HC3
    by_cases c4 : x7_1 < (l0.length : Int)
    ·rw [if_pos c4] at H
     have c4b0 : decide (x7_1 < (l0.length : Int)) = true := decide_eq_true c4
     clear c4
     (skip)
     have H' := Aside0.mk H
     clear H
     go_wp2
     go_meet
     case rel => exact ⟨_, (true), rfl, H', ⟨by have := HK1.out; omega⟩, ⟨HO_5.out⟩, ⟨HB.out⟩⟩
    ·rw [if_neg c4] at H
     have c4b0 : decide (x7_1 < (l0.length : Int)) = false := decide_eq_false c4
     clear c4
     (skip)
     by_cases c5 : x7_1 < (l1.length : Int)
     ·rw [if_pos c5] at H
      have c5b0 : decide (x7_1 < (l1.length : Int)) = true := decide_eq_true c5
      clear c5
      have H' := Aside0.mk H
      clear H
      go_wp2
      go_meet
      case rel => exact ⟨_, (true), rfl, H', ⟨by have := HK1.out; omega⟩, ⟨HO_5.out⟩, ⟨HB.out⟩⟩
     ·rw [if_neg c5] at H
      have c5b0 : decide (x7_1 < (l1.length : Int)) = false := decide_eq_false c5
      clear c5
      have H' := Aside0.mk H
      clear H
      go_wp2
      go_meet
      case rel => exact ⟨_, (decide (x6_1 > 0)), rfl, H', ⟨by have := HK1.out; omega⟩, ⟨HO_5.out⟩, ⟨HB.out⟩⟩
   case rest =>
    clear HC3
    obtain ⟨kq, x22_2, rfl, HA, HJ2, HO_5, HB⟩ := hcut
    cases kq with
    | zero => exact absurd HA.out (by simp [codewrightref01_Add.j1])
    | succ kj2 =>
     have H := HA.out
     clear HA
     simp only [codewrightref01_Add.j1] at H
     by_cases c6 : x22_2 = true
     ·subst c6
      rw [if_pos rfl] at H
      obtain ⟨t359, A7, H⟩ := bindA H
      obtain ⟨t360, A8, H⟩ := bindA H
      by_cases c9 : x5_1.length < 35184372088832
      ·rw [if_pos c9] at H
       have LMc9 := Aside0.mk c9
       clear c9
       obtain ⟨y361, hy361⟩ : ∃ y_ : List Int, y_ = (x5_1 ++ [(Int.tmod (IntKind.u64.wrap ((IntKind.u64.wrap (t359 + t360)) + x6_1)) 4294967296) % 4294967296]) := ⟨_, rfl⟩
       (try replace H := (Option.bind_some _ _).symm.trans H); rw [← hy361] at H
       have Ny361 := Aside0.mk hy361
       clear hy361
       have H' := Aside0.mk H
       clear H
       go_wp2_with (first | (refine goesL_ (some 27) rfl rfl Try.func101 (by kernel_rfl) rfl #[.slice A0 l0.length c0, .int .i64 x7_1] rfl (by simp only [List.map_toArray, List.map_cons, List.map_nil]; rfl) ?_; (with_reducible refine (codewrightref01_limb.calls _ _ l0 x7_1 t359 _ (Kd.C_below HR0.out HB.out) HC0.out A7.out).mono ?_); rintro e w' ⟨rfl, ⟨nd, rfl⟩⟩; refine ⟨_, rfl, ?_⟩) | (refine goesL_ (some 30) rfl rfl Try.func101 (by kernel_rfl) rfl #[.slice A1 l1.length c1, .int .i64 x7_1] rfl (by simp only [List.map_toArray, List.map_cons, List.map_nil]; rfl) ?_; (with_reducible refine (codewrightref01_limb.calls _ _ l1 x7_1 t360 _ ?side1 ?side2 A8.out).mono ?_); (case side1 => repeat (first | exact (Kd.C_below HR1.out (HB.out)) | (with_reducible refine Kd.C_drewN ?_ _))); (case side2 => exact HC1.out); rintro e w' ⟨rfl, ⟨nd, rfl⟩⟩; refine ⟨_, rfl, ?_⟩) | ((with_reducible refine gate_builtin (b := .append) (xs := #[.tmp 34, .tmp 38]) rfl ?_); (try (refine gate_guard (by rfl) ?_; dsimp only)); at_builtin; refine Kd.R_append (Kd.int .u32) (w0 := w) w.heap.size rfl (.tmp 34) (.tmp 38) 44 100 (.int .u32 0) 4 rfl Try.underlying44 info100 rfl (by decide) (by omega) u5 x5_1 ((Int.tmod (IntKind.u64.wrap ((IntKind.u64.wrap (t359 + t360)) + x6_1)) 4294967296) % 4294967296) [.int .u32 ((Int.tmod (IntKind.u64.wrap ((IntKind.u64.wrap (t359 + t360)) + x6_1)) 4294967296) % 4294967296)] (fun _ => True) (fun _ => False) rfl rfl ?aP (fun _ hk => hk.elim) ?aF ?aO ?aB ?aS ?aL ?_; (case aP => exact rfl); (case aB => exact (by repeat ((with_reducible first | exact HB.out | apply pw_below_drewN)))); (case aF => exact (fun _ _ => trivial)); (case aO => exact (HO_5.out)); (case aS => exact (below_size (by repeat ((with_reducible first | exact HB.out | apply pw_below_drewN))))); (case aL => have := LMc9.out; omega); intro v362 w10 ho hb hg hat; rw [← Ny361.out] at ho; replace HB := Aside0.mk (hb); have HO363 := Aside0.mk (ho); clear HO_5; clear ho hb hg hat))
       go_roundg kj2
       case measure => have := HK1.out; have := HJ2.out; omega
       case rel => exact ⟨(y361), (IntKind.u64.wrap (Int.tdiv (IntKind.u64.wrap ((IntKind.u64.wrap (t359 + t360)) + x6_1)) 4294967296)), (wrap64 (x7_1 + 1)), rfl, rfl, H', ⟨by have := HK1.out; have := HJ2.out; omega⟩, ⟨HO363.out⟩, ⟨HB.out⟩⟩
      ·rw [if_neg c9] at H
       exact absurd H (by simp)
     ·replace c6 := Bool.eq_false_iff.mpr c6
      subst c6
      rw [if_neg (show ¬ (false = true) by decide)] at H
      obtain ⟨t356, A11, H⟩ := bindA H
      obtain rfl := Option.some.inj H
      obtain ⟨Ao12, co12, eo12⟩ := Kd.R_slice HO_5.out
      subst eo12
      go_wp2_with ((refine goesL_ (some 43) rfl rfl Try.func97 (by kernel_rfl) rfl #[.slice Ao12 x5_1.length co12] rfl (by simp only [List.map_toArray, List.map_cons, List.map_nil]; rfl) ?_; (with_reducible refine (codewrightref01_Trim.calls kj2 _ _ x5_1 t356 _ ?side1 ?side2 A11.out).mono ?_); (case side1 => exact (Kd.R_reads' HO_5.out).2.2); (case side2 => exact (Kd.R_reads' HO_5.out).2.1); rintro e w13 ⟨v357, rfl, ho0, hb⟩; refine ⟨_, rfl, ?_⟩; have n0_ := Aside0.mk (Kd.R_elder' (HO_5.out) (Kd.R_base ho0) hb); have n1_ := Aside0.mk (Kd.R_lower (Kd.R_new' ho0 (Kd.R_lt (HO_5.out))) (below_size (HB.out))); have n2_ := Aside0.mk (below_step (HB.out) hb); clear HO_5; clear HB; have HO_5 := n0_; have HO358 := n1_; have HB := n2_; clear n0_ n1_ n2_))
      go_ret
      exact ⟨_, rfl, Kd.R_mono HO358.out (fun _ hk => trivial), HB.out⟩
end Go.Proofs.Ythheakfgmombdaa.F
end
section
namespace Go.Proofs.Ythheakfgmombdaa.F
open Go.RowKit Go.Proofs.YthheakfgmombdaaX.PrintWords Go.Proofs.YthheakfgmombdaaX.PrintLast Go.Proofs.YthheakfgmombdaaX.PrintMore
attribute [local go_sem] max2_int min2_int max_two min_two max_three min_three max_four min_four   -- for this text's walks alone
set_option linter.unusedVariables false
set_option linter.unusedSimpArgs false
set_option maxHeartbeats 8000000 in
set_option maxRecDepth 100000 in
theorem codewrightref01_Cmp.calls (k : Nat) (A0 : Option Addr) (c0 : Nat) (l0 : List Int) (A1 : Option Addr) (c1 : Nat) (l1 : List Int) (r : Int) (w : World) (hr0 : Kd.C (Kd.int .u32) w A0 l0.length l0) (hc0 : l0.length ≤ c0) (hr1 : Kd.C (Kd.int .u32) w A1 l1.length l1) (hc1 : l1.length ≤ c1) (h : codewrightref01_Cmp.f k l0 l1 = some r) :
  Calls Try.prog 71 #[.slice A0 l0.length c0, .slice A1 l1.length c1] w fun e w' => e = .returned (.int .i64 r) ∧ Below w.heap.size w w' := by
 have HR0 := Aside0.mk hr0
 have HC0 := Aside0.mk hc0
 clear hr0 hc0
 have HR1 := Aside0.mk hr1
 have HC1 := Aside0.mk hc1
 clear hr1 hc1
 have HB := Aside0.mk (Below.refl w.heap.size w)
 have H : (codewrightref01_Cmp.l0 k l0 l1 (wrap64 ((mx (l0.length : Int) (l1.length : Int)) - 1))) = some r := h
 clear h
 obtain ⟨ji3, hji3⟩ : ∃ j_ : Int, (mx (l0.length : Int) (l1.length : Int)) = j_ := ⟨_, rfl⟩
 rw [hji3] at H
 (try (have hji3l : 0 ≤ ji3 := by (rw [← hji3]; unfold mx; (repeat' split) <;> omega)))
 (try (have hji3m : 0 ≤ ji3 := by omega))
 have hji3n_ : (if l0.length < l1.length then (l1.length : Int) else (l0.length : Int)) = ji3 := by rw [← hji3]; simp only [mx, mn]; split <;> split <;> omega
 have H' := Aside0.mk H
 clear H
 go_enter Try.func71, Try.ntmps71
 go_wp2
 go_loopg [5] k (fun kq v5 w' => ∃ (x5_1 : Int), v5 = .int .i64 x5_1 ∧ Aside0 (codewrightref01_Cmp.l0 kq l0 l1 x5_1 = some r) ∧ Aside0 (kq ≤ k) ∧ Aside0 (Below w.heap.size w w'))
 case atStart => exact ⟨(wrap64 ((ji3) - 1)), rfl, H', ⟨Nat.le_refl _⟩, ⟨HB.out⟩⟩
 case round =>
  clear H'
  obtain ⟨x5_1, rfl, HA, HK1, HB⟩ := hrel
  cases gk with
  | zero => exact absurd HA.out (by simp [codewrightref01_Cmp.l0])
  | succ k1 =>
   have H := HA.out
   clear HA
   simp only [codewrightref01_Cmp.l0] at H
   by_cases c4 : x5_1 ≥ 0
   ·rw [if_pos c4] at H
    have c4b0 : decide (0 ≤ x5_1) = true := decide_eq_true c4
    clear c4
    obtain ⟨t364, A5, H⟩ := bindA H
    obtain ⟨t365, A6, H⟩ := bindA H
    by_cases c7 : t364 < t365
    ·rw [if_pos c7] at H
     have c7b0 : decide (t364 < t365) = true := decide_eq_true c7
     clear c7
     obtain rfl := Option.some.inj H
     go_wp2_with (first | (refine goesL_ (some 18) rfl rfl Try.func101 (by kernel_rfl) rfl #[.slice A0 l0.length c0, .int .i64 x5_1] rfl (by simp only [List.map_toArray, List.map_cons, List.map_nil]; rfl) ?_; (with_reducible refine (codewrightref01_limb.calls _ _ l0 x5_1 t364 _ (Kd.C_below HR0.out HB.out) HC0.out A5.out).mono ?_); rintro e w' ⟨rfl, ⟨nd, rfl⟩⟩; refine ⟨_, rfl, ?_⟩) | (refine goesL_ (some 21) rfl rfl Try.func101 (by kernel_rfl) rfl #[.slice A1 l1.length c1, .int .i64 x5_1] rfl (by simp only [List.map_toArray, List.map_cons, List.map_nil]; rfl) ?_; (with_reducible refine (codewrightref01_limb.calls _ _ l1 x5_1 t365 _ ?side1 ?side2 A6.out).mono ?_); (case side1 => repeat (first | exact (Kd.C_below HR1.out (HB.out)) | (with_reducible refine Kd.C_drewN ?_ _))); (case side2 => exact HC1.out); rintro e w' ⟨rfl, ⟨nd, rfl⟩⟩; refine ⟨_, rfl, ?_⟩))
     go_ret
     exact ⟨rfl, by repeat ((with_reducible first | exact HB.out | apply pw_below_drewN))⟩
    ·rw [if_neg c7] at H
     have c7b0 : decide (t364 < t365) = false := decide_eq_false c7
     clear c7
     obtain ⟨t366, A8, H⟩ := bindA H
     obtain ⟨t367, A9, H⟩ := bindA H
     by_cases c10 : t366 > t367
     ·rw [if_pos c10] at H
      have c10b0 : decide (t367 < t366) = true := decide_eq_true c10
      clear c10
      obtain rfl := Option.some.inj H
      go_wp2_with (first | (refine goesL_ (some 18) rfl rfl Try.func101 (by kernel_rfl) rfl #[.slice A0 l0.length c0, .int .i64 x5_1] rfl (by simp only [List.map_toArray, List.map_cons, List.map_nil]; rfl) ?_; (with_reducible refine (codewrightref01_limb.calls _ _ l0 x5_1 t364 _ (Kd.C_below HR0.out HB.out) HC0.out A5.out).mono ?_); rintro e w' ⟨rfl, ⟨nd, rfl⟩⟩; refine ⟨_, rfl, ?_⟩) | (refine goesL_ (some 21) rfl rfl Try.func101 (by kernel_rfl) rfl #[.slice A1 l1.length c1, .int .i64 x5_1] rfl (by simp only [List.map_toArray, List.map_cons, List.map_nil]; rfl) ?_; (with_reducible refine (codewrightref01_limb.calls _ _ l1 x5_1 t365 _ ?side1 ?side2 A6.out).mono ?_); (case side1 => repeat (first | exact (Kd.C_below HR1.out (HB.out)) | (with_reducible refine Kd.C_drewN ?_ _))); (case side2 => exact HC1.out); rintro e w' ⟨rfl, ⟨nd, rfl⟩⟩; refine ⟨_, rfl, ?_⟩) | (refine goesL_ (some 25) rfl rfl Try.func101 (by kernel_rfl) rfl #[.slice A0 l0.length c0, .int .i64 x5_1] rfl (by simp only [List.map_toArray, List.map_cons, List.map_nil]; rfl) ?_; (with_reducible refine (codewrightref01_limb.calls _ _ l0 x5_1 t366 _ ?side1 ?side2 A8.out).mono ?_); (case side1 => repeat (first | exact (Kd.C_below HR0.out (HB.out)) | (with_reducible refine Kd.C_drewN ?_ _))); (case side2 => exact HC0.out); rintro e w' ⟨rfl, ⟨nd, rfl⟩⟩; refine ⟨_, rfl, ?_⟩) | (refine goesL_ (some 28) rfl rfl Try.func101 (by kernel_rfl) rfl #[.slice A1 l1.length c1, .int .i64 x5_1] rfl (by simp only [List.map_toArray, List.map_cons, List.map_nil]; rfl) ?_; (with_reducible refine (codewrightref01_limb.calls _ _ l1 x5_1 t367 _ ?side1 ?side2 A9.out).mono ?_); (case side1 => repeat (first | exact (Kd.C_below HR1.out (HB.out)) | (with_reducible refine Kd.C_drewN ?_ _))); (case side2 => exact HC1.out); rintro e w' ⟨rfl, ⟨nd, rfl⟩⟩; refine ⟨_, rfl, ?_⟩))
      go_ret
      exact ⟨rfl, by repeat ((with_reducible first | exact HB.out | apply pw_below_drewN))⟩
     ·rw [if_neg c10] at H
      have c10b0 : decide (t367 < t366) = false := decide_eq_false c10
      clear c10
      have H' := Aside0.mk H
      clear H
      go_wp2_with (first | (refine goesL_ (some 18) rfl rfl Try.func101 (by kernel_rfl) rfl #[.slice A0 l0.length c0, .int .i64 x5_1] rfl (by simp only [List.map_toArray, List.map_cons, List.map_nil]; rfl) ?_; (with_reducible refine (codewrightref01_limb.calls _ _ l0 x5_1 t364 _ (Kd.C_below HR0.out HB.out) HC0.out A5.out).mono ?_); rintro e w' ⟨rfl, ⟨nd, rfl⟩⟩; refine ⟨_, rfl, ?_⟩) | (refine goesL_ (some 21) rfl rfl Try.func101 (by kernel_rfl) rfl #[.slice A1 l1.length c1, .int .i64 x5_1] rfl (by simp only [List.map_toArray, List.map_cons, List.map_nil]; rfl) ?_; (with_reducible refine (codewrightref01_limb.calls _ _ l1 x5_1 t365 _ ?side1 ?side2 A6.out).mono ?_); (case side1 => repeat (first | exact (Kd.C_below HR1.out (HB.out)) | (with_reducible refine Kd.C_drewN ?_ _))); (case side2 => exact HC1.out); rintro e w' ⟨rfl, ⟨nd, rfl⟩⟩; refine ⟨_, rfl, ?_⟩) | (refine goesL_ (some 25) rfl rfl Try.func101 (by kernel_rfl) rfl #[.slice A0 l0.length c0, .int .i64 x5_1] rfl (by simp only [List.map_toArray, List.map_cons, List.map_nil]; rfl) ?_; (with_reducible refine (codewrightref01_limb.calls _ _ l0 x5_1 t366 _ ?side1 ?side2 A8.out).mono ?_); (case side1 => repeat (first | exact (Kd.C_below HR0.out (HB.out)) | (with_reducible refine Kd.C_drewN ?_ _))); (case side2 => exact HC0.out); rintro e w' ⟨rfl, ⟨nd, rfl⟩⟩; refine ⟨_, rfl, ?_⟩) | (refine goesL_ (some 28) rfl rfl Try.func101 (by kernel_rfl) rfl #[.slice A1 l1.length c1, .int .i64 x5_1] rfl (by simp only [List.map_toArray, List.map_cons, List.map_nil]; rfl) ?_; (with_reducible refine (codewrightref01_limb.calls _ _ l1 x5_1 t367 _ ?side1 ?side2 A9.out).mono ?_); (case side1 => repeat (first | exact (Kd.C_below HR1.out (HB.out)) | (with_reducible refine Kd.C_drewN ?_ _))); (case side2 => exact HC1.out); rintro e w' ⟨rfl, ⟨nd, rfl⟩⟩; refine ⟨_, rfl, ?_⟩))
      go_roundg k1
      case measure => have := HK1.out; omega
      case rel => exact ⟨(wrap64 (x5_1 - 1)), rfl, H', ⟨by have := HK1.out; omega⟩, ⟨by repeat ((with_reducible first | exact HB.out | apply pw_below_drewN))⟩⟩
   ·rw [if_neg c4] at H
    have c4b0 : decide (0 ≤ x5_1) = false := decide_eq_false c4
    clear c4
    obtain rfl := Option.some.inj H
    go_wp2
    go_ret
    exact ⟨rfl, HB.out⟩
end Go.Proofs.Ythheakfgmombdaa.F
end
section
namespace Go.Proofs.Ythheakfgmombdaa.F
open Go.RowKit Go.Proofs.YthheakfgmombdaaX.PrintWords Go.Proofs.YthheakfgmombdaaX.PrintLast Go.Proofs.YthheakfgmombdaaX.PrintMore
attribute [local go_sem] max2_int min2_int max_two min_two max_three min_three max_four min_four   -- for this text's walks alone
set_option linter.unusedVariables false
set_option linter.unusedSimpArgs false
set_option maxHeartbeats 8000000 in
set_option maxRecDepth 100000 in
theorem codewrightref01_Sub.calls (k : Nat) (A0 : Option Addr) (c0 : Nat) (l0 : List Int) (A1 : Option Addr) (c1 : Nat) (l1 : List Int) (r : List Int) (w : World) (hr0 : Kd.C (Kd.int .u32) w A0 l0.length l0) (hc0 : l0.length ≤ c0) (hr1 : Kd.C (Kd.int .u32) w A1 l1.length l1) (hc1 : l1.length ≤ c1) (h : codewrightref01_Sub.f k l0 l1 = some r) :
  Calls Try.prog 72 #[.slice A0 l0.length c0, .slice A1 l1.length c1] w fun e w' => ∃ v0_ : Value, e = .returned (v0_) ∧ Kd.R (Kd.int .u32) 100 w' w.heap.size (fun _ => True) v0_ r ∧ Below w.heap.size w w' := by
 have HR0 := Aside0.mk hr0
 have HC0 := Aside0.mk hc0
 clear hr0 hc0
 have HR1 := Aside0.mk hr1
 have HC1 := Aside0.mk hc1
 clear hr1 hc1
 have HB := Aside0.mk (Below.refl w.heap.size w)
 have H : (codewrightref01_Sub.l0 k l0 l1 ([] : List Int) 0 0) = some r := h
 clear h
 have H' := Aside0.mk H
 clear H
 go_enter Try.func72, Try.ntmps72
 go_wp2
 go_loopg [5, 6, 7] k (fun kq v5 v6 v7 w' => ∃ (x5_1 : List Int) (x6_1 : Int) (x7_1 : Int), v6 = .int .u64 x6_1 ∧ v7 = .int .i64 x7_1 ∧ Aside0 (codewrightref01_Sub.l0 kq l0 l1 x5_1 x6_1 x7_1 = some r) ∧ Aside0 (kq ≤ k) ∧ Aside0 (Kd.R (Kd.int .u32) 100 w' w.heap.size (fun _ => True) v5 x5_1) ∧ Aside0 (Below w.heap.size w w'))
 case atStart => exact ⟨(([] : List Int)), (0), (0), rfl, rfl, H', ⟨Nat.le_refl _⟩, ⟨by exact Kd.R_nil _ _ _ _ _⟩, ⟨HB.out⟩⟩
 case round =>
  clear H'
  obtain ⟨x5_1, x6_1, x7_1, rfl, rfl, HA, HK1, HO_5, HB⟩ := hrel
  cases gk with
  | zero => exact absurd HA.out (by simp [codewrightref01_Sub.l0])
  | succ k1 =>
   have H := HA.out
   clear HA
   simp only [codewrightref01_Sub.l0] at H
   by_cases c3 : x7_1 < (l0.length : Int)
   ·rw [if_pos c3] at H
    have c3b0 : decide (x7_1 < (l0.length : Int)) = true := decide_eq_true c3
    clear c3
    obtain ⟨t371, A4, H⟩ := bindA H
    obtain ⟨t372, A5, H⟩ := bindA H
    by_cases c6 : x5_1.length < 35184372088832
    ·rw [if_pos c6] at H
     have LMc6 := Aside0.mk c6
     clear c6
     obtain ⟨y373, hy373⟩ : ∃ y_ : List Int, y_ = (x5_1 ++ [(Int.tmod (IntKind.u64.wrap ((IntKind.u64.wrap ((IntKind.u64.wrap (t371 + 4294967296)) - t372)) - x6_1)) 4294967296) % 4294967296]) := ⟨_, rfl⟩
     (try replace H := (Option.bind_some _ _).symm.trans H); rw [← hy373] at H
     have Ny373 := Aside0.mk hy373
     clear hy373
     have H' := Aside0.mk H
     clear H
     go_wp2_with (first | (refine goesL_ (some 17) rfl rfl Try.func101 (by kernel_rfl) rfl #[.slice A0 l0.length c0, .int .i64 x7_1] rfl (by simp only [List.map_toArray, List.map_cons, List.map_nil]; rfl) ?_; (with_reducible refine (codewrightref01_limb.calls _ _ l0 x7_1 t371 _ (Kd.C_below HR0.out HB.out) HC0.out A4.out).mono ?_); rintro e w' ⟨rfl, ⟨nd, rfl⟩⟩; refine ⟨_, rfl, ?_⟩) | (refine goesL_ (some 21) rfl rfl Try.func101 (by kernel_rfl) rfl #[.slice A1 l1.length c1, .int .i64 x7_1] rfl (by simp only [List.map_toArray, List.map_cons, List.map_nil]; rfl) ?_; (with_reducible refine (codewrightref01_limb.calls _ _ l1 x7_1 t372 _ ?side1 ?side2 A5.out).mono ?_); (case side1 => repeat (first | exact (Kd.C_below HR1.out (HB.out)) | (with_reducible refine Kd.C_drewN ?_ _))); (case side2 => exact HC1.out); rintro e w' ⟨rfl, ⟨nd, rfl⟩⟩; refine ⟨_, rfl, ?_⟩) | ((with_reducible refine gate_builtin (b := .append) (xs := #[.tmp 25, .tmp 29]) rfl ?_); at_builtin; refine Kd.R_append (Kd.int .u32) (w0 := w) w.heap.size rfl (.tmp 25) (.tmp 29) 44 100 (.int .u32 0) 4 rfl Try.underlying44 info100 rfl (by decide) (by omega) u5 x5_1 ((Int.tmod (IntKind.u64.wrap ((IntKind.u64.wrap ((IntKind.u64.wrap (t371 + 4294967296)) - t372)) - x6_1)) 4294967296) % 4294967296) [.int .u32 ((Int.tmod (IntKind.u64.wrap ((IntKind.u64.wrap ((IntKind.u64.wrap (t371 + 4294967296)) - t372)) - x6_1)) 4294967296) % 4294967296)] (fun _ => True) (fun _ => False) rfl rfl ?aP (fun _ hk => hk.elim) ?aF ?aO ?aB ?aS ?aL ?_; (case aP => exact rfl); (case aB => exact (by repeat ((with_reducible first | exact HB.out | apply pw_below_drewN)))); (case aF => exact (fun _ _ => trivial)); (case aO => exact (HO_5.out)); (case aS => exact (below_size (by repeat ((with_reducible first | exact HB.out | apply pw_below_drewN))))); (case aL => have := LMc6.out; omega); intro v374 w7 ho hb hg hat; rw [← Ny373.out] at ho; replace HB := Aside0.mk (hb); have HO375 := Aside0.mk (ho); clear HO_5; clear ho hb hg hat))
     go_roundg k1
     case measure => have := HK1.out; omega
     case rel => exact ⟨(y373), (IntKind.u64.wrap (1 - (IntKind.u64.wrap (Int.tdiv (IntKind.u64.wrap ((IntKind.u64.wrap ((IntKind.u64.wrap (t371 + 4294967296)) - t372)) - x6_1)) 4294967296)))), (wrap64 (x7_1 + 1)), rfl, rfl, H', ⟨by have := HK1.out; omega⟩, ⟨HO375.out⟩, ⟨HB.out⟩⟩
    ·rw [if_neg c6] at H
     exact absurd H (by simp)
   ·rw [if_neg c3] at H
    have c3b0 : decide (x7_1 < (l0.length : Int)) = false := decide_eq_false c3
    clear c3
    obtain ⟨t368, A8, H⟩ := bindA H
    obtain rfl := Option.some.inj H
    obtain ⟨Ao9, co9, eo9⟩ := Kd.R_slice HO_5.out
    subst eo9
    go_wp2_with ((refine goesL_ (some 35) rfl rfl Try.func97 (by kernel_rfl) rfl #[.slice Ao9 x5_1.length co9] rfl (by simp only [List.map_toArray, List.map_cons, List.map_nil]; rfl) ?_; (with_reducible refine (codewrightref01_Trim.calls k1 _ _ x5_1 t368 _ ?side1 ?side2 A8.out).mono ?_); (case side1 => exact (Kd.R_reads' HO_5.out).2.2); (case side2 => exact (Kd.R_reads' HO_5.out).2.1); rintro e w10 ⟨v369, rfl, ho0, hb⟩; refine ⟨_, rfl, ?_⟩; have n0_ := Aside0.mk (Kd.R_elder' (HO_5.out) (Kd.R_base ho0) hb); have n1_ := Aside0.mk (Kd.R_lower (Kd.R_new' ho0 (Kd.R_lt (HO_5.out))) (below_size (HB.out))); have n2_ := Aside0.mk (below_step (HB.out) hb); clear HO_5; clear HB; have HO_5 := n0_; have HO370 := n1_; have HB := n2_; clear n0_ n1_ n2_))
    go_ret
    exact ⟨_, rfl, Kd.R_mono HO370.out (fun _ hk => trivial), HB.out⟩
end Go.Proofs.Ythheakfgmombdaa.F
end
section
namespace Go.Proofs.Ythheakfgmombdaa.F
open Go.RowKit Go.Proofs.YthheakfgmombdaaX.PrintWords Go.Proofs.YthheakfgmombdaaX.PrintLast Go.Proofs.YthheakfgmombdaaX.PrintMore
attribute [local go_sem] max2_int min2_int max_two min_two max_three min_three max_four min_four   -- for this text's walks alone
set_option linter.unusedVariables false
set_option linter.unusedSimpArgs false
set_option maxHeartbeats 8000000 in
set_option maxRecDepth 100000 in
theorem codewrightref01_Bits.calls (k : Nat) (A0 : Option Addr) (c0 : Nat) (l0 : List Int) (r : Int) (w : World) (hr0 : Kd.C (Kd.int .u32) w A0 l0.length l0) (hc0 : l0.length ≤ c0) (h : codewrightref01_Bits.f k l0 = some r) :
  Calls Try.prog 116 #[.slice A0 l0.length c0] w fun e w' => e = .returned (.int .i64 r) ∧ Below w.heap.size w w' := by
 have HR0 := Aside0.mk hr0
 have HC0 := Aside0.mk hc0
 clear hr0 hc0
 have HB := Aside0.mk (Below.refl w.heap.size w)
 have H : ((codewrightref01_Trim.f k l0).bind fun t376 => (if (t376.length : Int) = 0 then (some 0) else (if 0 ≤ (wrap64 ((t376.length : Int) - 1)) then (if (wrap64 ((t376.length : Int) - 1)) < (t376.length : Int) then (codewrightref01_Bits.l0 k (wrap64 (32 * (wrap64 ((t376.length : Int) - 1)))) (rd t376 (wrap64 ((t376.length : Int) - 1)))) else (none)) else (none)))) = some r := h
 clear h
 obtain ⟨t376, A2, H⟩ := bindA H
 by_cases c3 : (t376.length : Int) = 0
 ·rw [if_pos c3] at H
  have c3b1 : ((t376.length : Int) != 0) = false := bne_eq_false_iff_eq.mpr c3
  clear c3
  obtain rfl := Option.some.inj H
  go_enter Try.func116, Try.ntmps116
  go_wp2_with ((refine goesL_ (some 6) rfl rfl Try.func97 (by kernel_rfl) rfl #[.slice A0 l0.length c0] rfl (by simp only [List.map_toArray, List.map_cons, List.map_nil]; rfl) ?_; (with_reducible refine (codewrightref01_Trim.calls k _ _ l0 t376 _ HR0.out HC0.out A2.out).mono ?_); rintro e w4 ⟨v377, rfl, ho0, hb⟩; refine ⟨_, rfl, ?_⟩; have HO378 := Aside0.mk (Kd.R_lower ho0 (below_size (HB.out))); replace HB := Aside0.mk (below_step (HB.out) hb); (try clear hb); (try clear ho0); obtain ⟨Ao5, co5, eo5⟩ := Kd.R_slice HO378.out; subst eo5))
  go_ret
  exact ⟨rfl, HB.out⟩
 ·rw [if_neg c3] at H
  obtain ⟨ji6, hji6⟩ : ∃ j_ : Int, (wrap64 ((t376.length : Int) - 1)) = j_ := ⟨_, rfl⟩
  rw [hji6] at H
  by_cases c7 : 0 ≤ (ji6)
  ·rw [if_pos c7] at H
   have c7b0 : decide (0 ≤ (ji6)) = true := decide_eq_true c7
   clear c7
   by_cases c8 : (ji6) < (t376.length : Int)
   ·rw [if_pos c8] at H
    have c8b0 : decide ((ji6) < (t376.length : Int)) = true := decide_eq_true c8
    clear c8
    have H' := Aside0.mk H
    clear H
    go_enter Try.func116, Try.ntmps116
    go_wp2_with ((refine goesL_ (some 6) rfl rfl Try.func97 (by kernel_rfl) rfl #[.slice A0 l0.length c0] rfl (by simp only [List.map_toArray, List.map_cons, List.map_nil]; rfl) ?_; (with_reducible refine (codewrightref01_Trim.calls k _ _ l0 t376 _ HR0.out HC0.out A2.out).mono ?_); rintro e w9 ⟨v377, rfl, ho0, hb⟩; refine ⟨_, rfl, ?_⟩; have HO378 := Aside0.mk (Kd.R_lower ho0 (below_size (HB.out))); replace HB := Aside0.mk (below_step (HB.out) hb); (try clear hb); (try clear ho0); obtain ⟨Ao10, co10, eo10⟩ := Kd.R_slice HO378.out; subst eo10; have p379 : 0 ≤ ((ji6) : Int) := of_decide_eq_true (by assumption); have q379 : (ji6) < (t376.length : Int) := of_decide_eq_true (by assumption); obtain ⟨ad379, e379, hx379_0⟩ := Kd.at_int (Kd.R_reads' HO378.out).2.2 (ji6) p379 q379; cases e379; replace p379 := eq_true p379; replace q379 := eq_true q379))
    go_loopg [3, 4] k (fun kq v3 v4 w' => ∃ (x3_1 : Int) (x4_1 : Int), v3 = .int .i64 x3_1 ∧ v4 = .int .u32 x4_1 ∧ Aside0 (codewrightref01_Bits.l0 kq x3_1 x4_1 = some r) ∧ Aside0 (kq ≤ k) ∧ Aside0 (Below w.heap.size w w'))
    case atStart => exact ⟨(wrap64 (32 * (ji6))), (rd t376 (ji6)), rfl, rfl, H', ⟨Nat.le_refl _⟩, ⟨HB.out⟩⟩
    case round =>
     clear H'
     obtain ⟨x3_1, x4_1, rfl, rfl, HA, HK1, HB⟩ := hrel
     cases gk with
     | zero => exact absurd HA.out (by simp [codewrightref01_Bits.l0])
     | succ k1 =>
      have H := HA.out
      clear HA
      simp only [codewrightref01_Bits.l0] at H
      by_cases c11 : x4_1 > 0
      ·rw [if_pos c11] at H
       have c11b0 : decide (0 < x4_1) = true := decide_eq_true c11
       clear c11
       have H' := Aside0.mk H
       clear H
       go_wp2
       go_roundg k1
       case measure => have := HK1.out; omega
       case rel => exact ⟨(wrap64 (x3_1 + 1)), ((Int.tdiv x4_1 2) % 4294967296), rfl, rfl, H', ⟨by have := HK1.out; omega⟩, ⟨HB.out⟩⟩
      ·rw [if_neg c11] at H
       have c11b0 : decide (0 < x4_1) = false := decide_eq_false c11
       clear c11
       obtain rfl := Option.some.inj H
       go_wp2
       go_ret
       exact ⟨rfl, HB.out⟩
   ·rw [if_neg c8] at H
    exact absurd H (by simp)
  ·rw [if_neg c7] at H
   exact absurd H (by simp)
end Go.Proofs.Ythheakfgmombdaa.F
end
section
namespace Go.Proofs.Ythheakfgmombdaa.F
open Go.RowKit Go.Proofs.YthheakfgmombdaaX.PrintWords Go.Proofs.YthheakfgmombdaaX.PrintLast Go.Proofs.YthheakfgmombdaaX.PrintMore
attribute [local go_sem] max2_int min2_int max_two min_two max_three min_three max_four min_four   -- for this text's walks alone
set_option linter.unusedVariables false
set_option linter.unusedSimpArgs false
set_option maxHeartbeats 8000000 in
set_option maxRecDepth 100000 in
theorem codewrightref01_shift.calls (k : Nat) (A0 : Option Addr) (c0 : Nat) (l0 : List Int) (a1 : Int) (r : List Int) (w : World) (hr0 : Kd.C (Kd.int .u32) w A0 l0.length l0) (hc0 : l0.length ≤ c0) (h : codewrightref01_shift.f k l0 a1 = some r) :
  Calls Try.prog 120 #[.slice A0 l0.length c0, .int .i64 a1] w fun e w' => ∃ v0_ : Value, e = .returned (v0_) ∧ Kd.R (Kd.int .u32) 100 w' w.heap.size (fun _ => True) v0_ r ∧ Below w.heap.size w w' := by
 have HR0 := Aside0.mk hr0
 have HC0 := Aside0.mk hc0
 clear hr0 hc0
 have HB := Aside0.mk (Below.refl w.heap.size w)
 have H : (if 0 ≤ (wrap64 (Int.tdiv a1 32)) then (if (wrap64 (Int.tdiv a1 32) : Int).toNat ≤ 70368744177664 then (codewrightref01_shift.l0 k l0 a1 (List.replicate (wrap64 (Int.tdiv a1 32) : Int).toNat 0) 0 0) else (none)) else (none)) = some r := h
 clear h
 obtain ⟨ji3, hji3⟩ : ∃ j_ : Int, (wrap64 (Int.tdiv a1 32)) = j_ := ⟨_, rfl⟩
 rw [hji3] at H
 have hji3w : (IntKind.i64.wrap (Int.tdiv a1 32)) = ji3 := (i64_w _).trans hji3
 by_cases c4 : 0 ≤ (ji3)
 ·rw [if_pos c4] at H
  have c4b1 : decide (0 ≤ (ji3)) = true := decide_eq_true c4
  clear c4
  by_cases c5 : (ji3 : Int).toNat ≤ 70368744177664
  ·rw [if_pos c5] at H
   have c5b1 : decide ((ji3 : Int).toNat ≤ 70368744177664) = true := decide_eq_true c5
   clear c5
   obtain ⟨y380, hy380⟩ : ∃ y_ : List Int, y_ = (List.replicate (ji3 : Int).toNat 0) := ⟨_, rfl⟩
   (try replace H := (Option.bind_some _ _).symm.trans H); rw [← hy380] at H
   have Ny380 := Aside0.mk hy380
   clear hy380
   have H' := Aside0.mk H
   clear H
   go_enter Try.func120, Try.ntmps120
   go_wp2_with ((refine Kd.R_make (Kd.int .u32) _ 100 rfl (N := 11) rfl 44 _ _ rfl ji3 rfl rfl Try.underlying44 (.int .u32 0) 4 info100 rfl (by decide) (by omega) 0 (ok := fun _ => True) (okp := fun _ => True) rfl (fun _ hk => hk) trivial (of_decide_eq_true (by assumption)) (Nat.le_trans (Nat.mul_le_mul_right _ (of_decide_eq_true (by assumption) : ji3.toNat ≤ 70368744177664)) (by omega)) (Below.refl _ _) (Nat.le_refl _) ?_; intro v381 w6 ho7 hb hg_ hnew_; clear hg_ hnew_; (rw [← Ny380.out] at ho7); have HO382 := Aside0.mk (Kd.R_lower ho7 (below_size (HB.out))); replace HB := Aside0.mk (below_step (HB.out) hb); clear hb ho7))
   go_loopg [5, 6, 7] k (fun kq v5 v6 v7 w' => ∃ (x5_1 : List Int) (x6_1 : Int) (x7_1 : Int), v6 = .int .u64 x6_1 ∧ v7 = .int .i64 x7_1 ∧ Aside0 (codewrightref01_shift.l0 kq l0 a1 x5_1 x6_1 x7_1 = some r) ∧ Aside0 (kq ≤ k) ∧ Aside0 (Kd.R (Kd.int .u32) 100 w' w.heap.size (fun _ => True) v5 x5_1) ∧ Aside0 (Below w.heap.size w w'))
   case atStart => exact ⟨(y380), (0), (0), rfl, rfl, H', ⟨Nat.le_refl _⟩, ⟨HO382.out⟩, ⟨HB.out⟩⟩
   case round =>
    clear H'
    obtain ⟨x5_1, x6_1, x7_1, rfl, rfl, HA, HK1, HO_5, HB⟩ := hrel
    cases gk with
    | zero => exact absurd HA.out (by simp [codewrightref01_shift.l0])
    | succ k1 =>
     have H := HA.out
     clear HA
     simp only [codewrightref01_shift.l0] at H
     by_cases c8 : x7_1 < (l0.length : Int)
     ·rw [if_pos c8] at H
      have c8b0 : decide (x7_1 < (l0.length : Int)) = true := decide_eq_true c8
      clear c8
      by_cases c9 : 0 ≤ x7_1
      ·rw [if_pos c9] at H
       have c9b0 : decide (0 ≤ x7_1) = true := decide_eq_true c9
       clear c9
       obtain ⟨ji10, hji10⟩ : ∃ j_ : Int, (Int.tmod a1 32) = j_ := ⟨_, rfl⟩
       rw [hji10] at H
       by_cases c11 : 0 ≤ (ji10)
       ·rw [if_pos c11] at H
        have c11b0 := eq_true c11
        clear c11
        obtain ⟨ji12, hji12⟩ : ∃ j_ : Int, (shl .u64 (IntKind.u64.wrap (rd l0 x7_1)) (ji10)) = j_ := ⟨_, rfl⟩
        rw [hji12] at H
        have hji12_ : (IntKind.u64.wrap ((IntKind.u64.wrap (rd l0 x7_1)) * 2 ^ min (ji10).toNat 64)) = ji12 := hji12
        by_cases c13 : x5_1.length < 35184372088832
        ·rw [if_pos c13] at H
         have LMc13 := Aside0.mk c13
         clear c13
         obtain ⟨y384, hy384⟩ : ∃ y_ : List Int, y_ = (x5_1 ++ [(Int.tmod (IntKind.u64.wrap ((ji12) + x6_1)) 4294967296) % 4294967296]) := ⟨_, rfl⟩
         (try replace H := (Option.bind_some _ _).symm.trans H); rw [← hy384] at H
         have Ny384 := Aside0.mk hy384
         clear hy384
         have H' := Aside0.mk H
         clear H
         have p383 : 0 ≤ (x7_1 : Int) := of_decide_eq_true (by assumption)
         have q383 : x7_1 < (l0.length : Int) := of_decide_eq_true (by assumption)
         obtain ⟨ad383, e383, hx383_0⟩ := Kd.at_int HR0.out x7_1 p383 q383
         cases e383
         replace hx383_0 := (HB.out.cell (World.block_lt_of_cell? w _ hx383_0)).trans hx383_0
         replace q383 := eq_true q383
         go_wp2_with (((with_reducible refine gate_builtin (b := .append) (xs := #[.tmp 28, .tmp 32]) rfl ?_); at_builtin; refine Kd.R_append (Kd.int .u32) (w0 := w) w.heap.size rfl (.tmp 28) (.tmp 32) 44 100 (.int .u32 0) 4 rfl Try.underlying44 info100 rfl (by decide) (by omega) u5 x5_1 ((Int.tmod (IntKind.u64.wrap ((ji12) + x6_1)) 4294967296) % 4294967296) [.int .u32 ((Int.tmod (IntKind.u64.wrap ((ji12) + x6_1)) 4294967296) % 4294967296)] (fun _ => True) (fun _ => False) rfl rfl ?aP (fun _ hk => hk.elim) ?aF ?aO ?aB ?aS ?aL ?_; (case aP => exact rfl); (case aB => exact (HB.out)); (case aF => exact (fun _ _ => trivial)); (case aO => exact (HO_5.out)); (case aS => exact (below_size (HB.out))); (case aL => have := LMc13.out; omega); intro v385 w14 ho hb hg hat; rw [← Ny384.out] at ho; replace HB := Aside0.mk (hb); have HO386 := Aside0.mk (ho); clear HO_5; clear ho hb hg hat))
         go_roundg k1
         case measure => have := HK1.out; omega
         case rel => exact ⟨(y384), (IntKind.u64.wrap (Int.tdiv (IntKind.u64.wrap ((ji12) + x6_1)) 4294967296)), (wrap64 (x7_1 + 1)), rfl, rfl, H', ⟨by have := HK1.out; omega⟩, ⟨HO386.out⟩, ⟨HB.out⟩⟩
        ·rw [if_neg c13] at H
         exact absurd H (by simp)
       ·rw [if_neg c11] at H
        exact absurd H (by simp)
      ·rw [if_neg c9] at H
       exact absurd H (by simp)
     ·rw [if_neg c8] at H
      have c8b0 : decide (x7_1 < (l0.length : Int)) = false := decide_eq_false c8
      clear c8
      by_cases c15 : x5_1.length < 35184372088832
      ·rw [if_pos c15] at H
       have LMc15 := Aside0.mk c15
       clear c15
       obtain ⟨y387, hy387⟩ : ∃ y_ : List Int, y_ = (x5_1 ++ [(x6_1) % 4294967296]) := ⟨_, rfl⟩
       (try replace H := (Option.bind_some _ _).symm.trans H); rw [← hy387] at H
       have Ny387 := Aside0.mk hy387
       clear hy387
       obtain ⟨t390, A16, H⟩ := bindA H
       obtain rfl := Option.some.inj H
       go_wp2_with (first | ((with_reducible refine gate_builtin (b := .append) (xs := #[.tmp 36, .tmp 39]) rfl ?_); at_builtin; refine Kd.R_append (Kd.int .u32) (w0 := w) w.heap.size rfl (.tmp 36) (.tmp 39) 44 100 (.int .u32 0) 4 rfl Try.underlying44 info100 rfl (by decide) (by omega) u5 x5_1 ((x6_1) % 4294967296) [.int .u32 ((x6_1) % 4294967296)] (fun _ => True) (fun _ => False) rfl rfl ?aP (fun _ hk => hk.elim) ?aF ?aO ?aB ?aS ?aL ?_; (case aP => exact rfl); (case aB => exact (HB.out)); (case aF => exact (fun _ _ => trivial)); (case aO => exact (HO_5.out)); (case aS => exact (below_size (HB.out))); (case aL => have := LMc15.out; omega); intro v388 w17 ho hb hg hat; rw [← Ny387.out] at ho; replace HB := Aside0.mk (hb); have HO389 := Aside0.mk (ho); clear HO_5; clear ho hb hg hat; obtain ⟨Ao18, co18, eo18⟩ := Kd.R_slice HO389.out; subst eo18) | (refine goesL_ (some 41) rfl rfl Try.func97 (by kernel_rfl) rfl #[.slice Ao18 y387.length co18] rfl (by simp only [List.map_toArray, List.map_cons, List.map_nil]; rfl) ?_; (with_reducible refine (codewrightref01_Trim.calls k1 _ _ y387 t390 _ ?side1 ?side2 A16.out).mono ?_); (case side1 => exact (Kd.R_reads' HO389.out).2.2); (case side2 => exact (Kd.R_reads' HO389.out).2.1); rintro e w19 ⟨v391, rfl, ho0, hb⟩; refine ⟨_, rfl, ?_⟩; have n0_ := Aside0.mk (Kd.R_elder' (HO389.out) (Kd.R_base ho0) hb); have n1_ := Aside0.mk (Kd.R_lower (Kd.R_new' ho0 (Kd.R_lt (HO389.out))) (below_size (HB.out))); have n2_ := Aside0.mk (below_step (HB.out) hb); clear HO389; clear HB; have HO389 := n0_; have HO392 := n1_; have HB := n2_; clear n0_ n1_ n2_))
       go_ret
       exact ⟨_, rfl, Kd.R_mono HO392.out (fun _ hk => trivial), HB.out⟩
      ·rw [if_neg c15] at H
       exact absurd H (by simp)
  ·rw [if_neg c5] at H
   exact absurd H (by simp)
 ·rw [if_neg c4] at H
  exact absurd H (by simp)
end Go.Proofs.Ythheakfgmombdaa.F
end
section
namespace Go.Proofs.Ythheakfgmombdaa.F
open Go.RowKit Go.Proofs.YthheakfgmombdaaX.PrintWords Go.Proofs.YthheakfgmombdaaX.PrintLast Go.Proofs.YthheakfgmombdaaX.PrintMore
attribute [local go_sem] max2_int min2_int max_two min_two max_three min_three max_four min_four   -- for this text's walks alone
set_option linter.unusedVariables false
set_option linter.unusedSimpArgs false
set_option maxHeartbeats 8000000 in
set_option maxRecDepth 100000 in
theorem codewrightref01_DivMod.calls (k : Nat) (A0 : Option Addr) (c0 : Nat) (l0 : List Int) (A1 : Option Addr) (c1 : Nat) (l1 : List Int) (r1 : List Int) (r2 : List Int) (w : World) (hr0 : Kd.C (Kd.int .u32) w A0 l0.length l0) (hc0 : l0.length ≤ c0) (hr1 : Kd.C (Kd.int .u32) w A1 l1.length l1) (hc1 : l1.length ≤ c1) (h : codewrightref01_DivMod.f k l0 l1 = some (r1, r2)) :
  Calls Try.prog 100 #[.slice A0 l0.length c0, .slice A1 l1.length c1] w fun e w' => ∃ v0_ v1_ : Value, e = .returned (.tuple #[v0_, v1_]) ∧ Kd.R (Kd.int .u32) 100 w' w.heap.size (fun k_ => some k_ ≠ (v1_ : Value).ownBlock) v0_ r1 ∧ Kd.R (Kd.int .u32) 100 w' w.heap.size (fun k_ => some k_ ≠ (v0_ : Value).ownBlock) v1_ r2 ∧ Below w.heap.size w w' := by
 have HR0 := Aside0.mk hr0
 have HC0 := Aside0.mk hc0
 clear hr0 hc0
 have HR1 := Aside0.mk hr1
 have HC1 := Aside0.mk hc1
 clear hr1 hc1
 have HB := Aside0.mk (Below.refl w.heap.size w)
 have H : ((codewrightref01_Trim.f k l0).bind fun t393 => ((codewrightref01_Bits.f k l0).bind fun t396 => ((codewrightref01_Bits.f k l1).bind fun t397 => (codewrightref01_DivMod.l0 k l1 ([] : List Int) t393 (wrap64 (t396 - t397)))))) = some (r1, r2) := h
 clear h
 obtain ⟨t393, A3, H⟩ := bindA H
 obtain ⟨t396, A4, H⟩ := bindA H
 obtain ⟨t397, A5, H⟩ := bindA H
 have H' := Aside0.mk H
 clear H
 go_enter Try.func100, Try.ntmps100
 go_wp2_with (first | (refine goesL_ (some 10) rfl rfl Try.func97 (by kernel_rfl) rfl #[.slice A0 l0.length c0] rfl (by simp only [List.map_toArray, List.map_cons, List.map_nil]; rfl) ?_; (with_reducible refine (codewrightref01_Trim.calls k _ _ l0 t393 _ HR0.out HC0.out A3.out).mono ?_); rintro e w6 ⟨v394, rfl, ho0, hb⟩; refine ⟨_, rfl, ?_⟩; have HO395 := Aside0.mk (Kd.R_lower ho0 (below_size (HB.out))); replace HB := Aside0.mk (below_step (HB.out) hb)) | (refine goesL_ (some 12) rfl rfl Try.func116 (by kernel_rfl) rfl #[.slice A0 l0.length c0] rfl (by simp only [List.map_toArray, List.map_cons, List.map_nil]; rfl) ?_; (with_reducible refine (codewrightref01_Bits.calls k _ _ l0 t396 _ (Kd.C_below HR0.out HB.out) HC0.out A4.out).mono ?_); rintro e w7 ⟨rfl, hb⟩; refine ⟨_, rfl, ?_⟩; replace HO395 := Aside0.mk (Kd.R_below (HO395.out) hb); replace HB := Aside0.mk (below_step (HB.out) hb)) | (refine goesL_ (some 14) rfl rfl Try.func116 (by kernel_rfl) rfl #[.slice A1 l1.length c1] rfl (by simp only [List.map_toArray, List.map_cons, List.map_nil]; rfl) ?_; (with_reducible refine (codewrightref01_Bits.calls k _ _ l1 t397 _ (Kd.C_below HR1.out HB.out) HC1.out A5.out).mono ?_); rintro e w8 ⟨rfl, hb⟩; refine ⟨_, rfl, ?_⟩; replace HO395 := Aside0.mk (Kd.R_below (HO395.out) hb); replace HB := Aside0.mk (below_step (HB.out) hb)))
 go_loopg [4, 5, 7] k (fun kq v4 v5 v7 w' => ∃ (x4_1 : List Int) (x5_1 : List Int) (x7_1 : Int), v7 = .int .i64 x7_1 ∧ Aside0 (codewrightref01_DivMod.l0 kq l1 x4_1 x5_1 x7_1 = some (r1, r2)) ∧ Aside0 (kq ≤ k) ∧ Aside0 (Kd.R (Kd.int .u32) 100 w' w.heap.size (fun k_ => some k_ ≠ (v5 : Value).ownBlock) v4 x4_1) ∧ Aside0 (Kd.R (Kd.int .u32) 100 w' w.heap.size (fun k_ => some k_ ≠ (v4 : Value).ownBlock) v5 x5_1) ∧ Aside0 (Below w.heap.size w w'))
 case atStart => exact ⟨(([] : List Int)), (t393), (wrap64 (t396 - t397)), rfl, H', ⟨Nat.le_refl _⟩, ⟨by exact Kd.R_nil _ _ _ _ _⟩, ⟨Kd.R_mono HO395.out (fun _ hk => (by simp [Value.ownBlock]))⟩, ⟨HB.out⟩⟩
 case round =>
  clear H'
  obtain ⟨x4_1, x5_1, x7_1, rfl, HA, HK1, HO_4, HO_5, HB⟩ := hrel
  cases gk with
  | zero => exact absurd HA.out (by simp [codewrightref01_DivMod.l0])
  | succ k1 =>
   have H := HA.out
   clear HA
   simp only [codewrightref01_DivMod.l0] at H
   by_cases c9 : x7_1 ≥ 0
   ·rw [if_pos c9] at H
    have c9b0 : decide (0 ≤ x7_1) = true := decide_eq_true c9
    clear c9
    obtain ⟨t401, A10, H⟩ := bindA H
    obtain ⟨t404, A11, H⟩ := bindA H
    by_cases c12 : t404 ≥ 0
    ·rw [if_pos c12] at H
     have c12b0 : decide (0 ≤ t404) = true := decide_eq_true c12
     clear c12
     obtain ⟨t405, A13, H⟩ := bindA H
     obtain ⟨y408, hy408⟩ : ∃ y_ : List Int, y_ = (([1] : List Int)) := ⟨_, rfl⟩
     (try replace H := (Option.bind_some _ _).symm.trans H); rw [← hy408] at H
     have Ny408 := Aside0.mk hy408
     clear hy408
     obtain ⟨t411, A14, H⟩ := bindA H
     obtain ⟨t414, A15, H⟩ := bindA H
     have H' := Aside0.mk H
     clear H
     go_wp2_with (first | (refine goesL_ (some 23) rfl rfl Try.func120 (by kernel_rfl) rfl #[.slice A1 l1.length c1, .int .i64 x7_1] rfl (by simp only [List.map_toArray, List.map_cons, List.map_nil]; rfl) ?_; (with_reducible refine (codewrightref01_shift.calls k1 _ _ l1 x7_1 t401 _ (Kd.C_below HR1.out HB.out) HC1.out A10.out).mono ?_); rintro e w16 ⟨v402, rfl, ho0, hb⟩; refine ⟨_, rfl, ?_⟩; have n0_ := Aside0.mk (Kd.R_elder' (HO_4.out) (Kd.R_base ho0) hb); have n1_ := Aside0.mk (Kd.R_elder' (HO_5.out) (Kd.R_base ho0) hb); have n2_ := Aside0.mk (Kd.R_lower (Kd.R_new' (Kd.R_new' ho0 (Kd.R_lt (HO_4.out))) (Kd.R_lt (HO_5.out))) (below_size (HB.out))); have n3_ := Aside0.mk (below_step (HB.out) hb); clear HO_4; clear HO_5; clear HB; have HO_4 := n0_; have HO_5 := n1_; have HO403 := n2_; have HB := n3_; clear n0_ n1_ n2_ n3_; (try clear hb); (try clear ho0); obtain ⟨Ao17, co17, eo17⟩ := Kd.R_slice HO_5.out; subst eo17; obtain ⟨Ao18, co18, eo18⟩ := Kd.R_slice HO403.out; subst eo18) | (refine goesL_ (some 26) rfl rfl Try.func71 (by kernel_rfl) rfl #[.slice Ao17 x5_1.length co17, .slice Ao18 t401.length co18] rfl (by simp only [List.map_toArray, List.map_cons, List.map_nil]; rfl) ?_; (with_reducible refine (codewrightref01_Cmp.calls k1 _ _ x5_1 _ _ t401 t404 _ ?side1 ?side2 ?side3 ?side4 A11.out).mono ?_); (case side1 => exact (Kd.R_reads' HO_5.out).2.2); (case side2 => exact (Kd.R_reads' HO_5.out).2.1); (case side3 => exact (Kd.R_reads' HO403.out).2.2); (case side4 => exact (Kd.R_reads' HO403.out).2.1); rintro e w19 ⟨rfl, hb⟩; refine ⟨_, rfl, ?_⟩; replace HO_4 := Aside0.mk (Kd.R_below (HO_4.out) hb); replace HO_5 := Aside0.mk (Kd.R_below (HO_5.out) hb); replace HO403 := Aside0.mk (Kd.R_below (HO403.out) hb); replace HB := Aside0.mk (below_step (HB.out) hb)) | (refine goesL_ (some 30) rfl rfl Try.func72 (by kernel_rfl) rfl #[.slice Ao17 x5_1.length co17, .slice Ao18 t401.length co18] rfl (by simp only [List.map_toArray, List.map_cons, List.map_nil]; rfl) ?_; (with_reducible refine (codewrightref01_Sub.calls k1 _ _ x5_1 _ _ t401 t405 _ ?side1 ?side2 ?side3 ?side4 A13.out).mono ?_); (case side1 => exact (Kd.R_reads' HO_5.out).2.2); (case side2 => exact (Kd.R_reads' HO_5.out).2.1); (case side3 => exact (Kd.R_reads' HO403.out).2.2); (case side4 => exact (Kd.R_reads' HO403.out).2.1); rintro e w20 ⟨v406, rfl, ho0, hb⟩; refine ⟨_, rfl, ?_⟩; have n0_ := Aside0.mk (Kd.R_elder' (HO_4.out) (Kd.R_base ho0) hb); have n1_ := Aside0.mk (Kd.R_elder' (HO_5.out) (Kd.R_base ho0) hb); have n2_ := Aside0.mk (Kd.R_elder' (HO403.out) (Kd.R_base ho0) hb); have n3_ := Aside0.mk (Kd.R_lower (Kd.R_new' (Kd.R_new' (Kd.R_new' ho0 (Kd.R_lt (HO_4.out))) (Kd.R_lt (HO_5.out))) (Kd.R_lt (HO403.out))) (below_size (HB.out))); have n4_ := Aside0.mk (below_step (HB.out) hb); clear HO_4; clear HO_5; clear HO403; clear HB; have HO_4 := n0_; have HO_5 := n1_; have HO403 := n2_; have HO407 := n3_; have HB := n4_; clear n0_ n1_ n2_ n3_ n4_) | (refine Kd.R_lit (Kd.int .u32) _ 100 ?hg (N := 32) ?hd (xs := ([1] : List Int)) (inner := [.int .u32 1]) (ok := fun _ => True) (okp := fun _ => True) ?hr ?hp (fun _ hk => hk) trivial (Below.refl _ _) (Nat.le_refl _) (by simp) ?_; (case hd => rfl); (case hg => rfl); (case hr => go_simp; done); (case hp => exact (Reps.one (show Kd.M (Kd.int .u32) _ _ _ 1 [.int .u32 1] from rfl) (Reps.none _ _))); intro v409 w21 ho22 hb hg_ hnew_; clear hg_ hnew_; (rw [← Ny408.out] at ho22); have n0_ := Aside0.mk (Kd.R_elder' (HO_4.out) (Kd.R_base ho22) hb); have n1_ := Aside0.mk (Kd.R_elder' (HO_5.out) (Kd.R_base ho22) hb); have n2_ := Aside0.mk (Kd.R_elder' (HO403.out) (Kd.R_base ho22) hb); have n3_ := Aside0.mk (Kd.R_elder' (HO407.out) (Kd.R_base ho22) hb); have n4_ := Aside0.mk (Kd.R_lower (Kd.R_new' (Kd.R_new' (Kd.R_new' (Kd.R_new' ho22 (Kd.R_lt (HO_4.out))) (Kd.R_lt (HO_5.out))) (Kd.R_lt (HO403.out))) (Kd.R_lt (HO407.out))) (below_size (HB.out))); have n5_ := Aside0.mk (below_step (HB.out) hb); clear HO_4; clear HO_5; clear HO403; clear HO407; clear HB; have HO_4 := n0_; have HO_5 := n1_; have HO403 := n2_; have HO407 := n3_; have HO410 := n4_; have HB := n5_; clear n0_ n1_ n2_ n3_ n4_ n5_; clear hb ho22; obtain ⟨Ao23, co23, eo23⟩ := Kd.R_slice HO410.out; subst eo23) | (refine goesL_ (some 34) rfl rfl Try.func120 (by kernel_rfl) rfl #[.slice Ao23 y408.length co23, .int .i64 x7_1] rfl (by simp only [List.map_toArray, List.map_cons, List.map_nil]; rfl) ?_; (with_reducible refine (codewrightref01_shift.calls k1 _ _ y408 x7_1 t411 _ ?side1 ?side2 A14.out).mono ?_); (case side1 => exact (Kd.R_reads' HO410.out).2.2); (case side2 => exact (Kd.R_reads' HO410.out).2.1); rintro e w24 ⟨v412, rfl, ho0, hb⟩; refine ⟨_, rfl, ?_⟩; have n0_ := Aside0.mk (Kd.R_elder' (HO_4.out) (Kd.R_base ho0) hb); have n1_ := Aside0.mk (Kd.R_elder' (HO_5.out) (Kd.R_base ho0) hb); have n2_ := Aside0.mk (Kd.R_elder' (HO403.out) (Kd.R_base ho0) hb); have n3_ := Aside0.mk (Kd.R_elder' (HO407.out) (Kd.R_base ho0) hb); have n4_ := Aside0.mk (Kd.R_elder' (HO410.out) (Kd.R_base ho0) hb); have n5_ := Aside0.mk (Kd.R_lower (Kd.R_new' (Kd.R_new' (Kd.R_new' (Kd.R_new' (Kd.R_new' ho0 (Kd.R_lt (HO_4.out))) (Kd.R_lt (HO_5.out))) (Kd.R_lt (HO403.out))) (Kd.R_lt (HO407.out))) (Kd.R_lt (HO410.out))) (below_size (HB.out))); have n6_ := Aside0.mk (below_step (HB.out) hb); clear HO_4; clear HO_5; clear HO403; clear HO407; clear HO410; clear HB; have HO_4 := n0_; have HO_5 := n1_; have HO403 := n2_; have HO407 := n3_; have HO410 := n4_; have HO413 := n5_; have HB := n6_; clear n0_ n1_ n2_ n3_ n4_ n5_ n6_; (try clear hb); (try clear ho0); obtain ⟨Ao25, co25, eo25⟩ := Kd.R_slice HO_4.out; subst eo25; obtain ⟨Ao26, co26, eo26⟩ := Kd.R_slice HO413.out; subst eo26) | (refine goesL_ (some 35) rfl rfl Try.func70 (by kernel_rfl) rfl #[.slice Ao25 x4_1.length co25, .slice Ao26 t411.length co26] rfl (by simp only [List.map_toArray, List.map_cons, List.map_nil]; rfl) ?_; (with_reducible refine (codewrightref01_Add.calls k1 _ _ x4_1 _ _ t411 t414 _ ?side1 ?side2 ?side3 ?side4 A15.out).mono ?_); (case side1 => exact (Kd.R_reads' HO_4.out).2.2); (case side2 => exact (Kd.R_reads' HO_4.out).2.1); (case side3 => exact (Kd.R_reads' HO413.out).2.2); (case side4 => exact (Kd.R_reads' HO413.out).2.1); rintro e w27 ⟨v415, rfl, ho0, hb⟩; refine ⟨_, rfl, ?_⟩; have n0_ := Aside0.mk (Kd.R_elder' (HO_4.out) (Kd.R_base ho0) hb); have n1_ := Aside0.mk (Kd.R_elder' (HO_5.out) (Kd.R_base ho0) hb); have n2_ := Aside0.mk (Kd.R_elder' (HO403.out) (Kd.R_base ho0) hb); have n3_ := Aside0.mk (Kd.R_elder' (HO407.out) (Kd.R_base ho0) hb); have n4_ := Aside0.mk (Kd.R_elder' (HO410.out) (Kd.R_base ho0) hb); have n5_ := Aside0.mk (Kd.R_elder' (HO413.out) (Kd.R_base ho0) hb); have n6_ := Aside0.mk (Kd.R_lower (Kd.R_new' (Kd.R_new' (Kd.R_new' (Kd.R_new' (Kd.R_new' (Kd.R_new' ho0 (Kd.R_lt (HO_4.out))) (Kd.R_lt (HO_5.out))) (Kd.R_lt (HO403.out))) (Kd.R_lt (HO407.out))) (Kd.R_lt (HO410.out))) (Kd.R_lt (HO413.out))) (below_size (HB.out))); have n7_ := Aside0.mk (below_step (HB.out) hb); clear HO_4; clear HO_5; clear HO403; clear HO407; clear HO410; clear HO413; clear HB; have HO_4 := n0_; have HO_5 := n1_; have HO403 := n2_; have HO407 := n3_; have HO410 := n4_; have HO413 := n5_; have HO416 := n6_; have HB := n7_; clear n0_ n1_ n2_ n3_ n4_ n5_ n6_ n7_))
     go_roundg k1
     case measure => have := HK1.out; omega
     case rel => exact ⟨(t414), (t405), (wrap64 (x7_1 - 1)), rfl, H', ⟨by have := HK1.out; omega⟩, ⟨Kd.R_mono HO416.out (fun _ hk => hk.1.1.2)⟩, ⟨Kd.R_mono HO407.out (fun _ hk => hk.2)⟩, ⟨HB.out⟩⟩
    ·rw [if_neg c12] at H
     have c12b0 : decide (0 ≤ t404) = false := decide_eq_false c12
     clear c12
     have H' := Aside0.mk H
     clear H
     go_wp2_with (first | (refine goesL_ (some 23) rfl rfl Try.func120 (by kernel_rfl) rfl #[.slice A1 l1.length c1, .int .i64 x7_1] rfl (by simp only [List.map_toArray, List.map_cons, List.map_nil]; rfl) ?_; (with_reducible refine (codewrightref01_shift.calls k1 _ _ l1 x7_1 t401 _ (Kd.C_below HR1.out HB.out) HC1.out A10.out).mono ?_); rintro e w28 ⟨v402, rfl, ho0, hb⟩; refine ⟨_, rfl, ?_⟩; have n0_ := Aside0.mk (Kd.R_elder' (HO_4.out) (Kd.R_base ho0) hb); have n1_ := Aside0.mk (Kd.R_elder' (HO_5.out) (Kd.R_base ho0) hb); have n2_ := Aside0.mk (Kd.R_lower (Kd.R_new' (Kd.R_new' ho0 (Kd.R_lt (HO_4.out))) (Kd.R_lt (HO_5.out))) (below_size (HB.out))); have n3_ := Aside0.mk (below_step (HB.out) hb); clear HO_4; clear HO_5; clear HB; have HO_4 := n0_; have HO_5 := n1_; have HO403 := n2_; have HB := n3_; clear n0_ n1_ n2_ n3_; (try clear hb); (try clear ho0); obtain ⟨Ao29, co29, eo29⟩ := Kd.R_slice HO_5.out; subst eo29; obtain ⟨Ao30, co30, eo30⟩ := Kd.R_slice HO403.out; subst eo30) | (refine goesL_ (some 26) rfl rfl Try.func71 (by kernel_rfl) rfl #[.slice Ao29 x5_1.length co29, .slice Ao30 t401.length co30] rfl (by simp only [List.map_toArray, List.map_cons, List.map_nil]; rfl) ?_; (with_reducible refine (codewrightref01_Cmp.calls k1 _ _ x5_1 _ _ t401 t404 _ ?side1 ?side2 ?side3 ?side4 A11.out).mono ?_); (case side1 => exact (Kd.R_reads' HO_5.out).2.2); (case side2 => exact (Kd.R_reads' HO_5.out).2.1); (case side3 => exact (Kd.R_reads' HO403.out).2.2); (case side4 => exact (Kd.R_reads' HO403.out).2.1); rintro e w31 ⟨rfl, hb⟩; refine ⟨_, rfl, ?_⟩; replace HO_4 := Aside0.mk (Kd.R_below (HO_4.out) hb); replace HO_5 := Aside0.mk (Kd.R_below (HO_5.out) hb); replace HO403 := Aside0.mk (Kd.R_below (HO403.out) hb); replace HB := Aside0.mk (below_step (HB.out) hb)))
     go_roundg k1
     case measure => have := HK1.out; omega
     case rel => exact ⟨(x4_1), (x5_1), (wrap64 (x7_1 - 1)), rfl, H', ⟨by have := HK1.out; omega⟩, ⟨Kd.R_mono HO_4.out (fun _ hk => hk.1)⟩, ⟨Kd.R_mono HO_5.out (fun _ hk => hk.1)⟩, ⟨HB.out⟩⟩
   ·rw [if_neg c9] at H
    have c9b0 : decide (0 ≤ x7_1) = false := decide_eq_false c9
    clear c9
    obtain ⟨t398, A32, H⟩ := bindA H
    simp only [Option.some.injEq, Prod.mk.injEq] at H
    obtain ⟨rfl, rfl⟩ := H
    obtain ⟨Ao33, co33, eo33⟩ := Kd.R_slice HO_4.out
    subst eo33
    go_wp2_with ((refine goesL_ (some 37) rfl rfl Try.func97 (by kernel_rfl) rfl #[.slice Ao33 x4_1.length co33] rfl (by simp only [List.map_toArray, List.map_cons, List.map_nil]; rfl) ?_; (with_reducible refine (codewrightref01_Trim.calls k1 _ _ x4_1 t398 _ ?side1 ?side2 A32.out).mono ?_); (case side1 => exact (Kd.R_reads' HO_4.out).2.2); (case side2 => exact (Kd.R_reads' HO_4.out).2.1); rintro e w34 ⟨v399, rfl, ho0, hb⟩; refine ⟨_, rfl, ?_⟩; have n0_ := Aside0.mk (Kd.R_elder' (HO_4.out) (Kd.R_base ho0) hb); have n1_ := Aside0.mk (Kd.R_elder' (HO_5.out) (Kd.R_base ho0) hb); have n2_ := Aside0.mk (Kd.R_lower (Kd.R_new' (Kd.R_new' ho0 (Kd.R_lt (HO_4.out))) (Kd.R_lt (HO_5.out))) (below_size (HB.out))); have n3_ := Aside0.mk (below_step (HB.out) hb); clear HO_4; clear HO_5; clear HB; have HO_4 := n0_; have HO_5 := n1_; have HO400 := n2_; have HB := n3_; clear n0_ n1_ n2_ n3_))
    go_ret2
    exact ⟨_, _, rfl, Kd.R_mono HO400.out (fun _ hk => hk.2), Kd.R_mono HO_5.out (fun _ hk => hk.2), HB.out⟩
end Go.Proofs.Ythheakfgmombdaa.F
end
section
namespace Go.Proofs.Ythheakfgmombdaa.F
open Go.RowKit Go.Proofs.YthheakfgmombdaaX.PrintWords Go.Proofs.YthheakfgmombdaaX.PrintLast Go.Proofs.YthheakfgmombdaaX.PrintMore
attribute [local go_sem] max2_int min2_int max_two min_two max_three min_three max_four min_four   -- for this text's walks alone
set_option linter.unusedVariables false
set_option linter.unusedSimpArgs false
set_option maxHeartbeats 8000000 in
set_option maxRecDepth 100000 in
theorem codewrightref01_Gcd.calls (k : Nat) (P0_ : Nat → Prop) (A0 : Option Addr) (c0 : Nat) (l0 : List Int) (P1_ : Nat → Prop) (A1 : Option Addr) (c1 : Nat) (l1 : List Int) (r : List Int) (w : World) (hs0 : Kd.V (Kd.int .u32) 100 w w.heap.size (fun k_ => P0_ k_) (.slice A0 l0.length c0) l0) (hs1 : Kd.V (Kd.int .u32) 100 w w.heap.size (fun k_ => P1_ k_) (.slice A1 l1.length c1) l1) (h : codewrightref01_Gcd.f k l0 l1 = some r) :
  Calls Try.prog 99 #[.slice A0 l0.length c0, .slice A1 l1.length c1] w fun e w' => ∃ v0_ : Value, e = .returned (v0_) ∧ Kd.R (Kd.int .u32) 100 w' w.heap.size (fun k_ => (w.heap.size ≤ k_)) v0_ r ∧ Below w.heap.size w w' := by
 have HO0 := Aside0.mk (show Kd.V (Kd.int .u32) 100 w w.heap.size (fun k_ => ((P0_ k_ ∨ P1_ k_) ∨ w.heap.size ≤ k_)) (.slice A0 l0.length c0) l0 from Kd.V_mono hs0 (fun k_ hk => .inl (.inl hk)))
 have HO1 := Aside0.mk (show Kd.V (Kd.int .u32) 100 w w.heap.size (fun k_ => ((P0_ k_ ∨ P1_ k_) ∨ w.heap.size ≤ k_)) (.slice A1 l1.length c1) l1 from Kd.V_mono hs1 (fun k_ hk => .inl (.inr hk)))
 have HB := Aside0.mk (Below.refl w.heap.size w)
 have H : (codewrightref01_Gcd.l0 k l0 l1) = some r := h
 clear h
 have H' := Aside0.mk H
 clear H
 go_enter Try.func99, Try.ntmps99
 go_wp2
 go_loopg [0, 1] k (fun kq v0 v1 w' => ∃ (x0_1 : List Int) (x1_1 : List Int), Aside0 (codewrightref01_Gcd.l0 kq x0_1 x1_1 = some r) ∧ Aside0 (kq ≤ k) ∧ Aside0 (Kd.V (Kd.int .u32) 100 w' w.heap.size (fun k_ => ((P0_ k_ ∨ P1_ k_) ∨ w.heap.size ≤ k_)) v0 x0_1) ∧ Aside0 (Kd.V (Kd.int .u32) 100 w' w.heap.size (fun k_ => ((P0_ k_ ∨ P1_ k_) ∨ w.heap.size ≤ k_)) v1 x1_1) ∧ Aside0 (Below w.heap.size w w'))
 case atStart => exact ⟨(l0), (l1), H', ⟨Nat.le_refl _⟩, ⟨HO0.out⟩, ⟨HO1.out⟩, ⟨HB.out⟩⟩
 case round =>
  clear H'
  obtain ⟨x0_1, x1_1, HA, HK1, HO_0, HO_1, HB⟩ := hrel
  cases gk with
  | zero => exact absurd HA.out (by simp [codewrightref01_Gcd.l0])
  | succ k1 =>
   have H := HA.out
   clear HA
   simp only [codewrightref01_Gcd.l0] at H
   obtain ⟨t417, A3, H⟩ := bindA H
   by_cases c4 : t417 = true
   ·subst c4
    rw [if_pos rfl] at H
    obtain ⟨t418, A5, H⟩ := bindA H
    obtain rfl := Option.some.inj H
    obtain ⟨Ao6, co6, eo6⟩ := Kd.V_slice HO_1.out
    subst eo6
    go_wp2_with (first | (refine goesL_ (some 8) rfl rfl Try.func98 (by kernel_rfl) rfl #[.slice Ao6 x1_1.length co6] rfl (by simp only [List.map_toArray, List.map_cons, List.map_nil]; rfl) ?_; (with_reducible refine (codewrightref01_Zero.calls k1 _ _ x1_1 true _ ?side1 ?side2 A3.out).mono ?_); (case side1 => exact (Kd.V_reads' HO_1.out).2.2); (case side2 => exact (Kd.V_reads' HO_1.out).2.1); rintro e w7 ⟨rfl, hb⟩; refine ⟨_, rfl, ?_⟩; replace HO_0 := Aside0.mk (Kd.V_below (HO_0.out) hb); replace HO_1 := Aside0.mk (Kd.V_below (HO_1.out) hb); replace HB := Aside0.mk (below_step (HB.out) hb); (try clear hb); obtain ⟨Ao8, co8, eo8⟩ := Kd.V_slice HO_0.out; subst eo8) | (refine goesL_ (some 19) rfl rfl Try.func97 (by kernel_rfl) rfl #[.slice Ao8 x0_1.length co8] rfl (by simp only [List.map_toArray, List.map_cons, List.map_nil]; rfl) ?_; (with_reducible refine (codewrightref01_Trim.calls k1 _ _ x0_1 t418 _ ?side1 ?side2 A5.out).mono ?_); (case side1 => exact (Kd.V_reads' HO_0.out).2.2); (case side2 => exact (Kd.V_reads' HO_0.out).2.1); rintro e w9 ⟨v419, rfl, ho0, hb⟩; refine ⟨_, rfl, ?_⟩; replace HO_0 := Aside0.mk (Kd.V_elder' (HO_0.out) (Kd.R_base ho0) hb); replace HO_1 := Aside0.mk (Kd.V_elder' (HO_1.out) (Kd.R_base ho0) hb); have HO420 := Aside0.mk (Kd.R_lower (Kd.R_newM (M := fun k_ => (w.heap.size ≤ k_)) ho0 (below_size (HB.out)) (fun k_ h_ => h_)) (below_size (HB.out))); replace HB := Aside0.mk (below_step (HB.out) hb)))
    go_ret
    exact ⟨_, rfl, Kd.R_mono HO420.out (fun _ hk => hk.1), HB.out⟩
   ·replace c4 := Bool.eq_false_iff.mpr c4
    subst c4
    rw [if_neg (show ¬ (false = true) by decide)] at H
    obtain ⟨⟨t421, t422⟩, A10, H⟩ := bindA H
    have H' := Aside0.mk H
    clear H
    obtain ⟨Ao11, co11, eo11⟩ := Kd.V_slice HO_1.out
    subst eo11
    go_wp2_with (first | (refine goesL_ (some 8) rfl rfl Try.func98 (by kernel_rfl) rfl #[.slice Ao11 x1_1.length co11] rfl (by simp only [List.map_toArray, List.map_cons, List.map_nil]; rfl) ?_; (with_reducible refine (codewrightref01_Zero.calls k1 _ _ x1_1 false _ ?side1 ?side2 A3.out).mono ?_); (case side1 => exact (Kd.V_reads' HO_1.out).2.2); (case side2 => exact (Kd.V_reads' HO_1.out).2.1); rintro e w12 ⟨rfl, hb⟩; refine ⟨_, rfl, ?_⟩; replace HO_0 := Aside0.mk (Kd.V_below (HO_0.out) hb); replace HO_1 := Aside0.mk (Kd.V_below (HO_1.out) hb); replace HB := Aside0.mk (below_step (HB.out) hb); (try clear hb); obtain ⟨Ao13, co13, eo13⟩ := Kd.V_slice HO_0.out; subst eo13) | (refine goesL_ (some 13) rfl rfl Try.func100 (by kernel_rfl) rfl #[.slice Ao13 x0_1.length co13, .slice Ao11 x1_1.length co11] rfl (by simp only [List.map_toArray, List.map_cons, List.map_nil]; rfl) ?_; (with_reducible refine (codewrightref01_DivMod.calls k1 _ _ x0_1 _ _ x1_1 t421 t422 _ ?side1 ?side2 ?side3 ?side4 A10.out).mono ?_); (case side1 => exact (Kd.V_reads' HO_0.out).2.2); (case side2 => exact (Kd.V_reads' HO_0.out).2.1); (case side3 => exact (Kd.V_reads' HO_1.out).2.2); (case side4 => exact (Kd.V_reads' HO_1.out).2.1); rintro e w14 ⟨v423, v425, rfl, ho0, ho1, hb⟩; refine ⟨_, rfl, ?_⟩; replace HO_0 := Aside0.mk (Kd.V_mono (Kd.V_told (Kd.V_told (Kd.V_old (HO_0.out) hb) (Kd.R_base ho0)) (Kd.R_base ho1)) (fun _ h_ => h_.1)); replace HO_1 := Aside0.mk (Kd.V_mono (Kd.V_told (Kd.V_told (Kd.V_old (HO_1.out) hb) (Kd.R_base ho0)) (Kd.R_base ho1)) (fun _ h_ => h_.1)); have HO424 := Aside0.mk (Kd.R_lower (Kd.R_newM (M := fun k_ => (w.heap.size ≤ k_)) ho0 (below_size (HB.out)) (fun k_ h_ => h_)) (below_size (HB.out))); have HO426 := Aside0.mk (Kd.R_lower (Kd.R_newM (M := fun k_ => (w.heap.size ≤ k_)) ho1 (below_size (HB.out)) (fun k_ h_ => h_)) (below_size (HB.out))); replace HB := Aside0.mk (below_step (HB.out) hb)))
    go_roundg k1
    case measure => have := HK1.out; omega
    case rel => exact ⟨(x1_1), (t422), H', ⟨by have := HK1.out; omega⟩, ⟨Kd.V_mono HO_1.out (fun _ hk => hk.1.1)⟩, ⟨Kd.V_mono (Kd.R_V (HO426.out)) (fun k_ hk => by ((have hk := hk.1; exact (.inr (hk)))))⟩, ⟨HB.out⟩⟩
end Go.Proofs.Ythheakfgmombdaa.F
end
