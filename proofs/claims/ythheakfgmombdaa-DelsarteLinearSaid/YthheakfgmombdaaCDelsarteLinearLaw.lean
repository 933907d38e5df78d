/- For every field, length and list of rows, the distance distribution of the words that the rows span is their weight distribution. No condition. -/
import Derived.Test.YthheakfgmombdaaRows
import Derived.WalkKit
import Derived.ProofKit
import Derived.OpenShut
import Derived.ShutString
import Derived.ChangeOld
import Derived.Below
import Derived.SizedLaws
import Derived.Test.YthheakfgmombdaaCDelsarteLinearI
namespace Go.Proofs.Ythheakfgmombdaa.delsarteLinear
open Go.ChangeShapes Go.WideShapes Go.ChangeAt Go.RowKit Go.Joins Go.Proofs.YthheakfgmombdaaX.PrintWords Go.Proofs.Ythheakfgmombdaa.F Go.Proofs.Ythheakfgmombdaa.RowHead Go.Proofs.Ythheakfgmombdaa.Clo
set_option linter.unusedVariables false
set_option maxRecDepth 100000 in
theorem lifted (os : Os) (started : os.Started) (H : Type) (enc : TypeId × Value → H) :
    ReturnsInHanded {} Try.checked os 8 .any (Rows.delsarteLinearSpec.pre6 enc Try.prog Try.f8 Rows.delsarteLinearRow.domain false) (Rows.delsarteLinearSpec.post enc Try.prog Try.f8 false true false false) := by
  refine returnsInHanded_of_change_sized (C := Try.checked) own started (by kernel_rfl) Try.func8
    (ChangeSpec.witness6 (enc := enc) (C := Try.checked) false ⟨#[], #[.agg #[.int .i64 0, .int .i64 0, .slice none 0 0], .int .u8 0, .slice none 0 0], []⟩ 8 (by kernel_rfl) (by kernel_rfl) (by kernel_rfl) (by kernel_rfl)) ?_
  intro W base args ds gs before hval0 hW hcnd hsz0 _
  have hsz : (DataW.weightsEach Try.prog (Try.f8.params.toList ++ Rows.delsarteLinearSpec.plain.varTypes Try.prog) (ds ++ gs)).all (· ≤ reachBytes) = true := hsz0
  have hval : ∀ (j : Nat) t v, Try.f8.params[j]? = some t → args[j]? = some v → Value.okWide Try.prog W .any base t v := hval0
  have hW' := hW
  obtain ⟨p, q, hA0, hV, rfl, hfz, hnd⟩ := hW
  have hA : DataW.TrodAll enc Try.prog W 0 (fun _ => true) true Try.f8.params.toList args.toList ds p := hA0
  rw [Try.params8] at hA hval hsz
  obtain ⟨v0, vs0, d0, ds0, p0, q0, hargs, rfl, rfl, h0, r0⟩ := trodAll_cons hA
  obtain ⟨v1, vs1, d1, ds1, p1, q1, rfl, rfl, rfl, h1, r1⟩ := trodAll_cons r0
  obtain ⟨v2, vs2, d2, ds2, p2, q2, rfl, rfl, rfl, h2, r2⟩ := trodAll_cons r1
  obtain ⟨rfl, rfl, rfl⟩ := trodAll_nil r2
  obtain rfl : args = #[v0, v1, v2] := by cases args; simp_all
  obtain ⟨rfl, rfl⟩ := trodVars_none hV
  have k0 := h0
  have lt0 : ∀ x ∈ p0, x.block < W.heap.size := by obtain ⟨m, hm⟩ := k0; exact DataW.trod_lt m _ _ _ hm
  have ws0 : ∀ n ∈ d0.weights Try.prog 53, n ≤ reachBytes := fun n hn => by
    have := List.all_eq_true.1 hsz n (DataW.weights_mem_each (j := 0) rfl rfl n hn)
    simpa using this
  obtain ⟨va, vb, vc, y0, y1, y2, n0, rfl, rfl, rfl, t0, t1, t2⟩ := open_agg3 Try.underlying53 (by kernel_rfl) (by kernel_rfl) (hval 0 53 v0 rfl rfl) h0
  have we : ∀ n ∈ DataW.weightsEach Try.prog [3, 3, 41] [y0.1, y1.1, y2.1], n ≤ reachBytes := fun n hn => ws0 n (by simp only [DataW.weights, Try.underlying53]; exact hn)
  obtain ⟨a0_0, e0_0, w0_0⟩ := opens_int Try.underlying3 n0 [va] y0 rfl t0 (fun k hk => we k (DataW.weights_mem_each (j := 0) rfl rfl k hk))
  obtain rfl : va = _ := List.head_eq_of_cons_eq e0_0
  obtain ⟨a0_1, e0_1, w0_1⟩ := opens_int Try.underlying3 n0 [vb] y1 rfl t1 (fun k hk => we k (DataW.weights_mem_each (j := 1) rfl rfl k hk))
  obtain rfl : vb = _ := List.head_eq_of_cons_eq e0_1
  obtain ⟨l0_2, ⟨A0_2, c0_2, e0_2, hc0_2, hr0_2⟩, wf0_2⟩ := opensInts n0 [vc] y2 rfl t2 (fun k hk => we k (DataW.weights_mem_each (j := 2) rfl rfl k hk))
  obtain rfl : vc = _ := List.head_eq_of_cons_eq e0_2
  obtain ⟨a1, rfl, rfl, rfl, w1⟩ := open_int Try.underlying5 (hval 1 5 v1 rfl rfl) h1
  have k2 := h2
  have lt2 : ∀ x ∈ p2, x.block < W.heap.size := by obtain ⟨m, hm⟩ := k2; exact DataW.trod_lt m _ _ _ hm
  have ws2 : ∀ n ∈ d2.weights Try.prog 34, n ≤ reachBytes := fun n hn => by
    have := List.all_eq_true.1 hsz n (DataW.weights_mem_each (j := 2) rfl rfl n hn)
    simpa using this
  obtain ⟨aa2, ln2, cp2, rfl⟩ := okWide_slice Try.underlying34 (hval 2 34 v2 rfl rfl)
  obtain ⟨m2, hm2⟩ := h2
  obtain ⟨l2, ⟨A2, c2, e2, hc2, hr2⟩, wf2⟩ := opensWords m2 [.slice aa2 ln2 cp2] (d2, p2) rfl hm2 ws2
  have qe2 := List.head_eq_of_cons_eq e2
  injection qe2 with qa2 qb2 qc2
  subst qa2 qb2 qc2
  obtain ⟨k, hk⟩ := (Num.DelsarteLinear a0_0 a0_1 l0_2 a1 l2 (by have := w0_0; simp [Lit.wf, IntKind.min, IntKind.max, IntKind.signed, IntKind.bits] at this; omega) (by have := w1; simp [Lit.wf, IntKind.min, IntKind.max, IntKind.signed, IntKind.bits] at this; omega) (by have := w1; simp [Lit.wf, IntKind.min, IntKind.max, IntKind.signed, IntKind.bits] at this; omega) (by have := wf2.1; omega)).some
  clear hA0 hval0 hsz0 hsz
  refine (codewrightlaw36_DelsarteLinear.calls k a0_0 a0_1 A0_2 c0_2 l0_2 a1 _ _ l2 true W hr0_2 hc0_2 hr2 hc2 hk).mono fun e W' ⟨he, bel⟩ => ?_
  subst he
  exact ⟨_, rfl, _, _, _, [], _, [], hW', trodAll_mk1 (shut_bool Try.underlying4 _), (trodAll_cons_mk (Below.trod laidOut (by kernel_rfl) (of_decide_eq_true (by kernel_rfl)) k0 bel lt0) (trodAll_cons_mk (shut_int Try.underlying5 w1) (trodAll_cons_mk (Below.trod laidOut (by kernel_rfl) (of_decide_eq_true (by kernel_rfl)) k2 bel lt2) trodAll_mk0))), rfl, bel.frame _, fun h => by cases h⟩
def clo : List Nat := cloT tab (fuelT tab) [8] []
theorem cloIs : Try.prog.closure 8 = clo := clo_tab leads 8
theorem cPlace : Try.prog.inPlace 8 = [] := by
  unfold Program.inPlace; rw [cloIs]; kernel_rfl
theorem cFollow : Try.prog.unfollowed 8 = false := by
  unfold Program.unfollowed; rw [cloIs]; kernel_rfl
theorem cNamed : Try.prog.varsNamed 8 = [] := by
  unfold Program.varsNamed; rw [cloIs]; kernel_rfl
theorem cRecurses : Try.prog.recurses 8 = false := recurses_tab leads ranked cFollow
theorem closed : joinedFacts Try.prog 8 Try.f8 Rows.delsarteLinearSpec Rows.delsarteLinearRow = true := by
  unfold joinedFacts
  rw [cPlace, cFollow, cNamed, cRecurses, gStops, gKnobs, gMaps, gHeard, gEnter, laidOut]
  kernel_rfl
theorem wrapper : Try.f8.isWrapper Try.prog Rows.delsarteLinearRow.wrapper Rows.delsarteLinearRow.mainSum := by unfold Func.isWrapper; first | (rw [if_pos (by decide +kernel)]; kernel_rfl) | (rw [if_neg (by decide +kernel)]; exact ⟨rfl, rfl⟩)
theorem named : Try.checked.prog.funcNamed Rows.delsarteLinearRow.func = some 8 := by kernel_rfl
theorem inst : Try.f8.isInstance Try.prog Rows.delsarteLinearRow.origin Rows.delsarteLinearRow.targs := of_decide_eq_true (by kernel_rfl)
theorem over : Rows.delsarteLinearRow.holds Try.pinned (OpenSpec.ofChange Rows.delsarteLinearSpec) :=
  OpenClaim.holds_of_wide 8 Try.f8 rfl rfl rfl rfl rfl rfl rfl ⟨rfl, rfl, rfl, rfl, rfl⟩ rfl rfl rfl rfl rfl named Try.func8 closed inst wrapper
    (fun os started H enc _ => lifted os started H enc)
theorem proved : Rows.DelsarteLinearSaid := over
#print axioms proved
end Go.Proofs.Ythheakfgmombdaa.delsarteLinear
namespace Go.Proofs.Ythheakfgmombdaa
theorem delsarteLinear_holds : Rows.DelsarteLinearSaid := delsarteLinear.proved
end Go.Proofs.Ythheakfgmombdaa
