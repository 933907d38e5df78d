/- For every linear program, simplex.Dual returns the specified program or the error of Check, and the dual of the dual is the program. No condition. -/
import Derived.Test.YthheakfgmombdaaRows
import Derived.WalkKit
import Derived.ProofKit
import Derived.OpenShut
import Derived.ShutString
import Derived.ChangeOld
import Derived.Below
import Derived.SizedLaws
import Derived.Test.YthheakfgmombdaaCSimplexDualsI
namespace Go.Proofs.Ythheakfgmombdaa.simplexDuals
open Go.ChangeShapes Go.WideShapes Go.ChangeAt Go.RowKit Go.Joins Go.Proofs.YthheakfgmombdaaX.PrintWords Go.Proofs.Ythheakfgmombdaa.F Go.Proofs.Ythheakfgmombdaa.RowHead Go.Proofs.Ythheakfgmombdaa.Clo
set_option linter.unusedVariables false
set_option maxRecDepth 100000 in
theorem lifted (os : Os) (started : os.Started) (H : Type) (enc : TypeId × Value → H) :
    ReturnsInHanded {} Try.checked os 4 .any (Rows.simplexDualsSpec.pre6 enc Try.prog Try.f4 Rows.simplexDualsRow.domain false) (Rows.simplexDualsSpec.post enc Try.prog Try.f4 false true false false) := by
  refine returnsInHanded_of_change_sized (C := Try.checked) own started (by kernel_rfl) Try.func4
    (ChangeSpec.witness6 (enc := enc) (C := Try.checked) false ⟨#[], #[.agg #[.slice none 0 0, .slice none 0 0, .slice none 0 0]], []⟩ 8 (by kernel_rfl) (by kernel_rfl) (by kernel_rfl) (by kernel_rfl)) ?_
  intro W base args ds gs before hval0 hW hcnd hsz0 _
  have hsz : (DataW.weightsEach Try.prog (Try.f4.params.toList ++ Rows.simplexDualsSpec.plain.varTypes Try.prog) (ds ++ gs)).all (· ≤ reachBytes) = true := hsz0
  have hval : ∀ (j : Nat) t v, Try.f4.params[j]? = some t → args[j]? = some v → Value.okWide Try.prog W .any base t v := hval0
  have hW' := hW
  obtain ⟨p, q, hA0, hV, rfl, hfz, hnd⟩ := hW
  have hA : DataW.TrodAll enc Try.prog W 0 (fun _ => true) true Try.f4.params.toList args.toList ds p := hA0
  rw [Try.params4] at hA hval hsz
  obtain ⟨v0, vs0, d0, ds0, p0, q0, hargs, rfl, rfl, h0, r0⟩ := trodAll_cons hA
  obtain ⟨rfl, rfl, rfl⟩ := trodAll_nil r0
  obtain rfl : args = #[v0] := by cases args; simp_all
  obtain ⟨rfl, rfl⟩ := trodVars_none hV
  have k0 := h0
  have lt0 : ∀ x ∈ p0, x.block < W.heap.size := by obtain ⟨m, hm⟩ := k0; exact DataW.trod_lt m _ _ _ hm
  have ws0 : ∀ n ∈ d0.weights Try.prog 25, n ≤ reachBytes := fun n hn => by
    have := List.all_eq_true.1 hsz n (DataW.weights_mem_each (j := 0) rfl rfl n hn)
    simpa using this
  obtain ⟨va, vb, vc, y0, y1, y2, n0, rfl, rfl, rfl, t0, t1, t2⟩ := open_agg3 Try.underlying25 (by kernel_rfl) (by kernel_rfl) (hval 0 25 v0 rfl rfl) h0
  have we : ∀ n ∈ DataW.weightsEach Try.prog [22, 23, 22] [y0.1, y1.1, y2.1], n ≤ reachBytes := fun n hn => ws0 n (by simp only [DataW.weights, Try.underlying25]; exact hn)
  obtain ⟨l0, ⟨A0, c0, e0, hc0, hr0⟩, wf0⟩ := opensRats n0 [va] y0 rfl t0 (fun k hk => we k (DataW.weights_mem_each (j := 0) rfl rfl k hk))
  obtain ⟨l1, ⟨A1, c1, e1, hc1, hr1⟩, wf1⟩ := opensMat n0 [vb] y1 rfl t1 (fun k hk => we k (DataW.weights_mem_each (j := 1) rfl rfl k hk))
  obtain ⟨l2, ⟨A2, c2, e2, hc2, hr2⟩, wf2⟩ := opensRats n0 [vc] y2 rfl t2 (fun k hk => we k (DataW.weights_mem_each (j := 2) rfl rfl k hk))
  obtain rfl : va = _ := List.head_eq_of_cons_eq e0
  obtain rfl : vb = _ := List.head_eq_of_cons_eq e1
  obtain rfl : vc = _ := List.head_eq_of_cons_eq e2
  obtain ⟨k, hk⟩ := (Num.SimplexDuals l0 l1 l2 (limsOf wf0) (fun r hr => limsOf (wf1.2 r hr)) (limsOf wf2)).some
  clear hA0 hval0 hsz0 hsz
  refine (codewrightlaw35_SimplexDuals.calls k A0 c0 l0 A1 c1 l1 A2 c2 l2 true W hr0 hc0 hr1 hc1 hr2 hc2 hk).mono fun e W' ⟨he, bel⟩ => ?_
  subst he
  exact ⟨_, rfl, _, _, _, [], _, [], hW', trodAll_mk1 (shut_bool Try.underlying4 _), (trodAll_cons_mk (Below.trod laidOut (by kernel_rfl) (of_decide_eq_true (by kernel_rfl)) k0 bel lt0) trodAll_mk0), rfl, bel.frame _, fun h => by cases h⟩
def clo : List Nat := cloT tab (fuelT tab) [4] []
theorem cloIs : Try.prog.closure 4 = clo := clo_tab leads 4
theorem cPlace : Try.prog.inPlace 4 = [] := by
  unfold Program.inPlace; rw [cloIs]; kernel_rfl
theorem cFollow : Try.prog.unfollowed 4 = false := by
  unfold Program.unfollowed; rw [cloIs]; kernel_rfl
theorem cNamed : Try.prog.varsNamed 4 = [] := by
  unfold Program.varsNamed; rw [cloIs]; kernel_rfl
theorem cRecurses : Try.prog.recurses 4 = false := recurses_tab leads ranked cFollow
theorem cNamedTie : namedTie Try.prog Rows.simplexDualsRow.named Rows.simplexDualsSpec.vars = true := by kernel_rfl
theorem cMaps : (Rows.simplexDualsRow.maps == (Try.f4.params.toList ++ Rows.simplexDualsSpec.plain.varTypes Try.prog).any (Try.prog.mapsRec ·)) = true := by kernel_rfl
theorem cRead : Try.f4.params.all (Try.prog.readableRec ·) = true := by kernel_rfl
theorem closed : joinedFacts Try.prog 4 Try.f4 Rows.simplexDualsSpec Rows.simplexDualsRow = true := by
  unfold joinedFacts
  rw [cPlace, cFollow, cNamed, cRecurses, gStops, gKnobs, gMaps, gHeard, gEnter, laidOut]
  kernel_rfl
theorem wrapper : Try.f4.isWrapper Try.prog Rows.simplexDualsRow.wrapper Rows.simplexDualsRow.mainSum := by unfold Func.isWrapper; first | (rw [if_pos (by decide +kernel)]; kernel_rfl) | (rw [if_neg (by decide +kernel)]; exact ⟨rfl, rfl⟩)
theorem named : Try.checked.prog.funcNamed Rows.simplexDualsRow.func = some 4 := by kernel_rfl
theorem inst : Try.f4.isInstance Try.prog Rows.simplexDualsRow.origin Rows.simplexDualsRow.targs := of_decide_eq_true (by kernel_rfl)
theorem over : Rows.simplexDualsRow.holds Try.pinned (OpenSpec.ofChange Rows.simplexDualsSpec) :=
  OpenClaim.holds_of_wide 4 Try.f4 rfl rfl rfl rfl rfl rfl rfl ⟨rfl, rfl, rfl, rfl, rfl⟩ rfl rfl rfl rfl rfl named Try.func4 closed inst wrapper
    (fun os started H enc _ => lifted os started H enc)
theorem proved : Rows.SimplexDualsSaid := over
#print axioms proved
end Go.Proofs.Ythheakfgmombdaa.simplexDuals
namespace Go.Proofs.Ythheakfgmombdaa
theorem simplexDuals_holds : Rows.SimplexDualsSaid := simplexDuals.proved
end Go.Proofs.Ythheakfgmombdaa
