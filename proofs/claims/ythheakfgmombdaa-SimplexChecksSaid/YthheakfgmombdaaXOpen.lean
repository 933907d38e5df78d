import Derived.Test.YthheakfgmombdaaXWords
import Derived.Deep.Slices
import Derived.Deep.Strs
import Derived.ChangeArms
import Derived.Lib.SmallJoins
import Derived.SizedLaws
/- What came in, read as data, is read as the lists of the printed functions: by the values' kinds. -/
namespace Go.Proofs.YthheakfgmombdaaX.PrintWords
open Go.RowKit Go.ChangeShapes Go.Deep Go.Deep Go.Joins 
/-- Data of type t open as values of the kind d that meet wf. -/
def Opens {α : Type} {H : Type} (enc : TypeId × Value → H) (P : Program) (w : World) (base : Nat) (spare : Nat → Bool) (held : Bool) (t : TypeId) (d : Kd α) (wf : α → Prop) : Prop :=
  ∀ fuel cs x, cs.length = d.sz → DataW.trod enc P w base spare held fuel t cs = some x → (∀ n ∈ x.1.weights P t, n ≤ reachBytes) → ∃ a, d.K w a cs ∧ wf a
section
variable {H : Type} {enc : TypeId × Value → H} {P : Program} {w : World} {base : Nat} {spare : Nat → Bool} {held : Bool}
theorem opens_int {t : TypeId} {k : IntKind} (ht : P.underlying t = some (.int k)) : Opens enc P w base spare held t (Kd.int k) (fun x => (Lit.int k x).wf = true) := by
  intro fuel cs x _ h _
  obtain ⟨n, rfl, _, hw⟩ := DataW.trod_int ht h
  exact ⟨n, rfl, hw⟩
theorem opens_bool {t : TypeId} (ht : P.underlying t = some .bool) : Opens enc P w base spare held t Kd.bool (fun _ => True) := by
  intro fuel cs x _ h _
  obtain ⟨n, rfl, _⟩ := DataW.trod_bool ht h
  exact ⟨n, rfl, trivial⟩
theorem weights_all {e : TypeId} : ∀ (l : List (DataW H)) (x : DataW H), x ∈ l → ∀ n ∈ x.weights P e, n ∈ DataW.weightsAll P e l
  | [], _, hx, _, _ => by cases hx
  | d :: r, x, hx, n, hn => by
    simp only [DataW.weightsAll, List.mem_append]
    rcases List.mem_cons.1 hx with rfl | hx
    · exact .inl hn
    · exact .inr (weights_all r x hx n hn)
theorem opens_slice {α : Type} [Inhabited α] {d : Kd α} {wf : α → Prop} {t e : TypeId} (ht : P.underlying t = some (.slice e)) (hc : P.cellsOf e = d.sz) {B : Nat} (hB : P.bytesOf e = B) (h : Opens enc P w base spare held e d wf) :
    Opens enc P w base spare held t (Kd.slice e d) (fun xs => xs.length * B ≤ 140737488351232 ∧ ∀ x ∈ xs, wf x) := by
  intro fuel cs x _ hx hw
  rcases open_slice ht hx with ⟨rfl, rfl⟩ | ⟨a, len, cap, m, n, D, Pl, rfl, _, hl, hm, hmm, rfl, hi⟩
  · exact ⟨[], ⟨none, 0, rfl, Nat.le_refl _, rfl, by simp, fun h => absurd h (by simp)⟩, by simp, by simp⟩
  · have hlm : len ≤ m := by rw [hmm]; split <;> omega
    have hwt : len * B ≤ 140737488351232 := by
      have := hw ((len + (m - len)) * B) (by simp only [DataW.weights, ht, hB]; simp)
      have hle : len * B ≤ (len + (m - len)) * B := Nat.mul_le_mul_right _ (by omega)
      have hr : reachBytes = 140737488351232 := rfl
      omega
    have hwe : ∀ i, i < len → ∀ n ∈ (D i).weights P e, n ≤ reachBytes := by
      intro i hi n hn
      refine hw n ?_
      simp only [DataW.weights, ht, List.mem_cons, List.mem_append]
      exact .inr (.inl (weights_all _ (D i) (List.mem_map.2 ⟨i, List.mem_range.2 hi, rfl⟩) n hn))
    obtain ⟨f, hf⟩ := choose_lt (α := α) (n := len) (p := fun i x => ∃ cs', cs'.length = d.sz ∧ d.K w x cs' ∧ (∀ j u, cs'[j]? = some u → w.cell? (a.add (i * d.sz + j)) = some u) ∧ wf x) (fun i hil => by
      obtain ⟨cs', h1, h2⟩ := hi i (by omega)
      rw [hc] at h1
      obtain ⟨_, hlen, hcell⟩ := World.cells?_some h1
      obtain ⟨x, hx1, hx2⟩ := h n cs' _ hlen h2 (hwe i hil)
      refine ⟨x, cs', hlen, hx1, fun j u hu => ?_, hx2⟩
      have hj : j < d.sz := by
        obtain ⟨hj, _⟩ := List.getElem?_eq_some_iff.1 hu
        omega
      rw [← add_add, hcell j hj, hu])
    have hll : ((List.range len).map f).length = len := by simp
    refine ⟨(List.range len).map f, ⟨some a, cap, by rw [hll], by rw [hll]; exact hl, rfl, by rw [hll]; have := hm; simp only [maxLen] at this; omega, fun _ => ⟨a, rfl, fun j p hp => ?_⟩⟩, by rw [hll]; exact hwt, fun x hx => ?_⟩
    · have hj : j < len := by
        obtain ⟨hj, _⟩ := List.getElem?_eq_some_iff.1 hp
        simpa using hj
      have he : p = f j := by
        rw [List.getElem?_map, List.getElem?_range hj] at hp
        exact (Option.some.inj hp).symm
      subst he
      obtain ⟨cs', h1, h2, h3, _⟩ := hf j hj
      exact ⟨cs', h1, h2, h3⟩
    · obtain ⟨i, hi', rfl⟩ := List.mem_map.1 hx
      obtain ⟨_, _, _, _, h4⟩ := hf i (List.mem_range.1 hi')
      exact h4
/-- A struct of three fields of one cell each. -/
theorem opens_struct3 {α β γ δ : Type} {da : Kd α} {db : Kd β} {dc : Kd γ} {wa : α → Prop} {wb : β → Prop} {wc : γ → Prop} {t : TypeId} {f0 f1 f2 : Field} (hs : P.underlying t = some (.struct #[f0, f1, f2])) (hone : oneCellFields P #[f0, f1, f2] = true)
    (ha : Opens enc P w base spare held f0.type da wa) (hb : Opens enc P w base spare held f1.type db wb) (hc : Opens enc P w base spare held f2.type dc wc) (sa : da.sz = 1) (sb : db.sz = 1) (sc : dc.sz = 1)
    (g : δ → α × β × γ) (gi : α → β → γ → δ) (hg : ∀ a b c, g (gi a b c) = (a, b, c)) : Opens enc P w base spare held t (Kd.iso (Kd.pair da (Kd.pair db dc)) g) (fun x => wa (g x).1 ∧ wb (g x).2.1 ∧ wc (g x).2.2) := by
  intro fuel cs x hl hx hw
  have hl' : cs.length = 3 := by rw [hl]; show da.sz + (db.sz + dc.sz) = 3; omega
  match cs, hl' with
  | [c0, c1, c2], _ =>
    obtain ⟨y0, y1, y2, n, rfl, _, h0, h1, h2⟩ := trod_struct3 hs hx
    obtain ⟨o0, k0⟩ := hone_of hone 0 f0 rfl
    obtain ⟨o1, k1⟩ := hone_of hone 1 f1 rfl
    obtain ⟨o2, k2⟩ := hone_of hone 2 f2 rfl
    have e0 : DataW.trod enc P w base spare held n f0.type [c0] = some y0 := by simpa [o0, k0] using h0
    have e1 : DataW.trod enc P w base spare held n f1.type [c1] = some y1 := by simpa [o1, k1] using h1
    have e2 : DataW.trod enc P w base spare held n f2.type [c2] = some y2 := by simpa [o2, k2] using h2
    have hwe : ∀ k, k ∈ DataW.weightsEach P [f0.type, f1.type, f2.type] [y0.1, y1.1, y2.1] → k ≤ reachBytes := fun k hk => hw k (by simp only [DataW.weights, hs]; exact hk)
    obtain ⟨a, a1, a2⟩ := ha n [c0] y0 sa.symm e0 (fun k hk => hwe k (DataW.weights_mem_each (j := 0) rfl rfl k hk))
    obtain ⟨b, b1, b2⟩ := hb n [c1] y1 sb.symm e1 (fun k hk => hwe k (DataW.weights_mem_each (j := 1) rfl rfl k hk))
    obtain ⟨c, d1, d2⟩ := hc n [c2] y2 sc.symm e2 (fun k hk => hwe k (DataW.weights_mem_each (j := 2) rfl rfl k hk))
    refine ⟨gi a b c, ?_, by show wa (g (gi a b c)).1 ∧ wb (g (gi a b c)).2.1 ∧ wc (g (gi a b c)).2.2; rw [hg]; exact ⟨a2, b2, d2⟩⟩
    show ∃ c0' c1', _
    rw [hg]
    exact ⟨[c0], [c1, c2], rfl, a1, [c1], [c2], rfl, b1, d1⟩
end
end Go.Proofs.YthheakfgmombdaaX.PrintWords
