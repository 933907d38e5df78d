/- For every q and every list of words, the entries of the distance distribution add up to the number of words, none is negative, and the order of the words does not matter. No condition. -/
import Derived.Test.YthheakfgmombdaaRows
import Derived.WalkKit
import Derived.ProofKit
import Derived.OpenShut
import Derived.ShutString
import Derived.ChangeOld
import Derived.Below
import Derived.SizedLaws
import Derived.Test.YthheakfgmombdaaCDelsarteSumsI
namespace Go.Proofs.Ythheakfgmombdaa.delsarteSums
open Go.ChangeShapes Go.WideShapes Go.ChangeAt Go.RowKit Go.Joins Go.Proofs.YthheakfgmombdaaX.PrintWords Go.Proofs.Ythheakfgmombdaa.F Go.Proofs.Ythheakfgmombdaa.RowHead Go.Proofs.Ythheakfgmombdaa.Clo
set_option linter.unusedVariables false
set_option maxRecDepth 100000 in
theorem lifted (os : Os) (started : os.Started) (H : Type) (enc : TypeId × Value → H) :
    ReturnsInHanded {} Try.checked os 7 .any (Rows.delsarteSumsSpec.pre6 enc Try.prog Try.f7 Rows.delsarteSumsRow.domain false) (Rows.delsarteSumsSpec.post enc Try.prog Try.f7 false true false false) := by
  refine returnsInHanded_of_change_sized (C := Try.checked) own started (by kernel_rfl) Try.func7
    (ChangeSpec.witness6 (enc := enc) (C := Try.checked) false ⟨#[], #[.int .i64 0, .slice none 0 0], []⟩ 8 (by kernel_rfl) (by kernel_rfl) (by kernel_rfl) (by kernel_rfl)) ?_
  intro W base args ds gs before hval0 hW hcnd hsz0 _
  have hsz : (DataW.weightsEach Try.prog (Try.f7.params.toList ++ Rows.delsarteSumsSpec.plain.varTypes Try.prog) (ds ++ gs)).all (· ≤ reachBytes) = true := hsz0
  have hval : ∀ (j : Nat) t v, Try.f7.params[j]? = some t → args[j]? = some v → Value.okWide Try.prog W .any base t v := hval0
  have hW' := hW
  obtain ⟨p, q, hA0, hV, rfl, hfz, hnd⟩ := hW
  have hA : DataW.TrodAll enc Try.prog W 0 (fun _ => true) true Try.f7.params.toList args.toList ds p := hA0
  rw [Try.params7] at hA hval hsz
  obtain ⟨v0, vs0, d0, ds0, p0, q0, hargs, rfl, rfl, h0, r0⟩ := trodAll_cons hA
  obtain ⟨v1, vs1, d1, ds1, p1, q1, rfl, rfl, rfl, h1, r1⟩ := trodAll_cons r0
  obtain ⟨rfl, rfl, rfl⟩ := trodAll_nil r1
  obtain rfl : args = #[v0, v1] := by cases args; simp_all
  obtain ⟨rfl, rfl⟩ := trodVars_none hV
  obtain ⟨a0, rfl, rfl, rfl, w0⟩ := open_int Try.underlying3 (hval 0 3 v0 rfl rfl) h0
  have k1 := h1
  have lt1 : ∀ x ∈ p1, x.block < W.heap.size := by obtain ⟨m, hm⟩ := k1; exact DataW.trod_lt m _ _ _ hm
  have ws1 : ∀ n ∈ d1.weights Try.prog 34, n ≤ reachBytes := fun n hn => by
    have := List.all_eq_true.1 hsz n (DataW.weights_mem_each (j := 1) rfl rfl n hn)
    simpa using this
  obtain ⟨aa1, ln1, cp1, rfl⟩ := okWide_slice Try.underlying34 (hval 1 34 v1 rfl rfl)
  obtain ⟨m1, hm1⟩ := h1
  obtain ⟨l1, ⟨A1, c1, e1, hc1, hr1⟩, wf1⟩ := opensWords m1 [.slice aa1 ln1 cp1] (d1, p1) rfl hm1 ws1
  have qe1 := List.head_eq_of_cons_eq e1
  injection qe1 with qa1 qb1 qc1
  subst qa1 qb1 qc1
  obtain ⟨k, hk⟩ := (Num.DelsarteSums a0 l1 (by have := wf1.1; omega)).some
  clear hA0 hval0 hsz0 hsz
  refine (codewrightlaw36_DelsarteSums.calls k a0 (fun k_ => k_ < W.heap.size) _ _ l1 true W (Kd.V_mk hc1 (Kd.C_F (Kd.heap_slice 3 (Kd.heap_int .i64)) hr1)) hk).mono fun e W' ⟨he, bel⟩ => ?_
  subst he
  exact ⟨_, rfl, _, _, _, [], _, [], hW', trodAll_mk1 (shut_bool Try.underlying4 _), (trodAll_cons_mk (shut_int Try.underlying3 w0) (trodAll_cons_mk (Below.trod laidOut (by kernel_rfl) (of_decide_eq_true (by kernel_rfl)) k1 bel lt1) trodAll_mk0)), rfl, bel.frame _, fun h => by cases h⟩
def clo : List Nat := cloT tab (fuelT tab) [7] []
theorem cloIs : Try.prog.closure 7 = clo := clo_tab leads 7
theorem cPlace : Try.prog.inPlace 7 = [] := by
  unfold Program.inPlace; rw [cloIs]; kernel_rfl
theorem cFollow : Try.prog.unfollowed 7 = false := by
  unfold Program.unfollowed; rw [cloIs]; kernel_rfl
theorem cNamed : Try.prog.varsNamed 7 = [] := by
  unfold Program.varsNamed; rw [cloIs]; kernel_rfl
theorem cRecurses : Try.prog.recurses 7 = false := recurses_tab leads ranked cFollow
theorem closed : joinedFacts Try.prog 7 Try.f7 Rows.delsarteSumsSpec Rows.delsarteSumsRow = true := by
  unfold joinedFacts
  rw [cPlace, cFollow, cNamed, cRecurses, gStops, gKnobs, gMaps, gHeard, gEnter, laidOut]
  kernel_rfl
theorem wrapper : Try.f7.isWrapper Try.prog Rows.delsarteSumsRow.wrapper Rows.delsarteSumsRow.mainSum := by unfold Func.isWrapper; first | (rw [if_pos (by decide +kernel)]; kernel_rfl) | (rw [if_neg (by decide +kernel)]; exact ⟨rfl, rfl⟩)
theorem named : Try.checked.prog.funcNamed Rows.delsarteSumsRow.func = some 7 := by kernel_rfl
theorem inst : Try.f7.isInstance Try.prog Rows.delsarteSumsRow.origin Rows.delsarteSumsRow.targs := of_decide_eq_true (by kernel_rfl)
theorem over : Rows.delsarteSumsRow.holds Try.pinned (OpenSpec.ofChange Rows.delsarteSumsSpec) :=
  OpenClaim.holds_of_wide 7 Try.f7 rfl rfl rfl rfl rfl rfl rfl ⟨rfl, rfl, rfl, rfl, rfl⟩ rfl rfl rfl rfl rfl named Try.func7 closed inst wrapper
    (fun os started H enc _ => lifted os started H enc)
theorem proved : Rows.DelsarteSumsSaid := over
#print axioms proved
end Go.Proofs.Ythheakfgmombdaa.delsarteSums
namespace Go.Proofs.Ythheakfgmombdaa
theorem delsarteSums_holds : Rows.DelsarteSumsSaid := delsarteSums.proved
end Go.Proofs.Ythheakfgmombdaa
