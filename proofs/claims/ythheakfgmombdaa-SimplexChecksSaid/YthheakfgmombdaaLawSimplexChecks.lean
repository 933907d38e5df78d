/- For every linear program, simplex.Check returns just what the reference's Check returns. No condition. -/
import Derived.Test.YthheakfgmombdaaRows
import Derived.Test.YthheakfgmombdaaPureSimplexChecks
import Derived.Test.YthheakfgmombdaaXOpen
import Derived.WalkKit
import Derived.ProofKit
import Derived.OpenShut
import Derived.ShutString
import Derived.ChangeOld
import Derived.Below
import Derived.SizedLaws
namespace Go.Proofs.Ythheakfgmombdaa.simplexChecks
open Go.ChangeShapes Go.WideShapes Go.ChangeAt Go.RowKit Go.Joins Go.Proofs.YthheakfgmombdaaX.PrintWords Go.Proofs.Ythheakfgmombdaa.QSimplexChecks
set_option linter.unusedVariables false
theorem own : ownKnob Try.prog.godebug = none := by kernel_rfl
theorem laidOut : laidOutB Try.prog = true := by kernel_rfl
instance : Inhabited S46 := ⟨z46⟩
def okNat (l : List Int) : Prop := l.length * 4 ≤ 140737488351232 ∧ ∀ x ∈ l, (Lit.int .u32 x).wf = true
def okRat (x : S46) : Prop := True ∧ okNat x.f1 ∧ okNat x.f2
def okRats (l : List S46) : Prop := l.length * 56 ≤ 140737488351232 ∧ ∀ x ∈ l, okRat x
def okMat (l : List (List S46)) : Prop := l.length * 24 ≤ 140737488351232 ∧ ∀ x ∈ l, okRats x
section
variable {H : Type} {enc : TypeId × Value → H} {w : World} {base : Nat} {spare : Nat → Bool} {held : Bool}
theorem opensNat : Opens enc Try.prog w base spare held 44 (Kd.slice 100 (Kd.int .u32)) okNat :=
  opens_slice Try.underlying44 (by kernel_rfl) (by kernel_rfl) (opens_int Try.underlying100)
theorem opensRat : Opens enc Try.prog w base spare held 46 k46 okRat :=
  opens_struct3 Try.underlying46 (by kernel_rfl) (opens_bool (by kernel_rfl)) opensNat opensNat rfl rfl rfl (fun x : S46 => (x.f0, x.f1, x.f2)) (fun a b c => ⟨a, b, c⟩) (fun _ _ _ => rfl)
theorem opensRats : Opens enc Try.prog w base spare held 22 (Kd.slice 46 k46) okRats := opens_slice Try.underlying22 (by kernel_rfl) (by kernel_rfl) opensRat
theorem opensMat : Opens enc Try.prog w base spare held 23 (Kd.slice 22 (Kd.slice 46 k46)) okMat := opens_slice Try.underlying23 (by kernel_rfl) (by kernel_rfl) opensRats
end
set_option maxRecDepth 100000 in
theorem lifted (os : Os) (started : os.Started) (H : Type) (enc : TypeId × Value → H) :
    ReturnsInHanded {} Try.checked os 3 .any (Rows.simplexChecksSpec.pre6 enc Try.prog Try.f3 Rows.simplexChecksRow.domain false) (Rows.simplexChecksSpec.post enc Try.prog Try.f3 false true false false) := by
  refine returnsInHanded_of_change_sized (C := Try.checked) own started (by kernel_rfl) Try.func3
    (ChangeSpec.witness6 (enc := enc) (C := Try.checked) false ⟨#[], #[.agg #[.slice none 0 0, .slice none 0 0, .slice none 0 0]], []⟩ 8 (by kernel_rfl) (by kernel_rfl) (by kernel_rfl) (by kernel_rfl)) ?_
  intro W base args ds gs before hval0 hW hcnd hsz0 _
  have hsz : (DataW.weightsEach Try.prog (Try.f3.params.toList ++ Rows.simplexChecksSpec.plain.varTypes Try.prog) (ds ++ gs)).all (· ≤ reachBytes) = true := hsz0
  have hval : ∀ (j : Nat) t v, Try.f3.params[j]? = some t → args[j]? = some v → Value.okWide Try.prog W .any base t v := hval0
  have hW' := hW
  obtain ⟨p, q, hA0, hV, rfl, hfz, hnd⟩ := hW
  have hA : DataW.TrodAll enc Try.prog W 0 (fun _ => true) true Try.f3.params.toList args.toList ds p := hA0
  rw [Try.params3] at hA hval hsz
  obtain ⟨v0, vs0, d0, ds0, p0, q0, hargs, rfl, rfl, h0, r0⟩ := trodAll_cons hA
  obtain ⟨rfl, rfl, rfl⟩ := trodAll_nil r0
  obtain rfl : args = #[v0] := by cases args; simp_all
  obtain ⟨rfl, rfl⟩ := trodVars_none hV
  have k0 := h0
  have lt0 : ∀ x ∈ p0, x.block < W.heap.size := by obtain ⟨m, hm⟩ := k0; exact DataW.trod_lt m _ _ _ hm
  have ws0 : ∀ n ∈ d0.weights Try.prog 25, n ≤ reachBytes := fun n hn => by
    have := List.all_eq_true.1 hsz n (DataW.weights_mem_each (j := 0) rfl rfl n hn)
    simpa using this
  obtain ⟨va, vb, vc, y0, y1, y2, n0, rfl, rfl, rfl, t0, t1, t2⟩ := open_agg3 Try.underlying25 (by kernel_rfl) (by kernel_rfl) (hval 0 25 v0 rfl rfl) h0
  have we : ∀ n ∈ DataW.weightsEach Try.prog [22, 23, 22] [y0.1, y1.1, y2.1], n ≤ reachBytes := fun n hn => ws0 n (by simp only [DataW.weights, Try.underlying25]; exact hn)
  obtain ⟨l0, ⟨A0, c0, e0, hc0, hr0⟩, wf0⟩ := opensRats n0 [va] y0 rfl t0 (fun k hk => we k (DataW.weights_mem_each (j := 0) rfl rfl k hk))
  obtain ⟨l1, ⟨A1, c1, e1, hc1, hr1⟩, wf1⟩ := opensMat n0 [vb] y1 rfl t1 (fun k hk => we k (DataW.weights_mem_each (j := 1) rfl rfl k hk))
  obtain ⟨l2, ⟨A2, c2, e2, hc2, hr2⟩, wf2⟩ := opensRats n0 [vc] y2 rfl t2 (fun k hk => we k (DataW.weights_mem_each (j := 2) rfl rfl k hk))
  obtain rfl : va = _ := List.head_eq_of_cons_eq e0
  obtain rfl : vb = _ := List.head_eq_of_cons_eq e1
  obtain rfl : vc = _ := List.head_eq_of_cons_eq e2
  obtain ⟨k, hk⟩ := Pure.SimplexChecks l0 l1 l2 (by have := wf1.1; omega)
  clear hA0 hval0 hsz0 hsz
  refine (codewrightlaw35_SimplexChecks.calls k A0 c0 l0 A1 c1 l1 A2 c2 l2 true W hr0 hc0 hr1 hc1 hr2 hc2 hk).mono fun e W' ⟨he, bel⟩ => ?_
  subst he
  exact ⟨_, rfl, _, _, _, [], _, [], hW', trodAll_mk1 (shut_bool Try.underlying4 _), (trodAll_cons_mk (Below.trod laidOut (by kernel_rfl) (of_decide_eq_true (by kernel_rfl)) k0 bel lt0) trodAll_mk0), rfl, bel.frame _, fun h => by cases h⟩
theorem closed : joinedFacts Try.prog 3 Try.f3 Rows.simplexChecksSpec Rows.simplexChecksRow = true := by kernel_rfl
theorem wrapper : Try.f3.isWrapper Try.prog Rows.simplexChecksRow.wrapper Rows.simplexChecksRow.mainSum := by unfold Func.isWrapper; first | (rw [if_pos (by decide +kernel)]; kernel_rfl) | (rw [if_neg (by decide +kernel)]; exact ⟨rfl, rfl⟩)
theorem named : Try.checked.prog.funcNamed Rows.simplexChecksRow.func = some 3 := by kernel_rfl
theorem inst : Try.f3.isInstance Try.prog Rows.simplexChecksRow.origin Rows.simplexChecksRow.targs := of_decide_eq_true (by kernel_rfl)
theorem over : Rows.simplexChecksRow.holds Try.pinned (OpenSpec.ofChange Rows.simplexChecksSpec) :=
  OpenClaim.holds_of_wide 3 Try.f3 rfl rfl rfl rfl rfl rfl rfl ⟨rfl, rfl, rfl, rfl, rfl⟩ rfl rfl rfl rfl rfl named Try.func3 closed inst wrapper
    (fun os started H enc _ => lifted os started H enc)
theorem proved : Rows.SimplexChecksSaid := over
#print axioms proved
end Go.Proofs.Ythheakfgmombdaa.simplexChecks
namespace Go.Proofs.Ythheakfgmombdaa
/-- The row, under a short name, for the claim. -/
theorem simplexChecks_holds : Rows.SimplexChecksSaid := simplexChecks.proved
end Go.Proofs.Ythheakfgmombdaa
