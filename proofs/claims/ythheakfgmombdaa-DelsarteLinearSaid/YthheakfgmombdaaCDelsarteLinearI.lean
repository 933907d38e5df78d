import Derived.Deep.Slices
import Derived.Deep.Strs
import Derived.ChangeArms
import Derived.Lib.SmallJoins
import Derived.SizedLaws
import Derived.JoinedOf
import Derived.Test.YthheakfgmombdaaRows
import Derived.WalkKit
import Derived.ProofKit
import Derived.OpenShut
import Derived.ShutString
import Derived.ChangeOld
import Derived.Below
import Derived.Test.YthheakfgmombdaaCDelsarteLinearH
/- Part I of the proof: XOpen, Clo, RowHead, RowHead2. -/
section
namespace Go.Proofs.YthheakfgmombdaaX.PrintWords
open Go.RowKit Go.ChangeShapes Go.Deep Go.Deep Go.Joins 
def Opens {α : Type} {H : Type} (enc : TypeId × Value → H) (P : Program) (w : World) (base : Nat) (spare : Nat → Bool) (held : Bool) (t : TypeId) (d : Kd α) (wf : α → Prop) : Prop :=
  ∀ fuel cs x, cs.length = d.sz → DataW.trod enc P w base spare held fuel t cs = some x → (∀ n ∈ x.1.weights P t, n ≤ reachBytes) → ∃ a, d.K w a cs ∧ wf a
section
variable {H : Type} {enc : TypeId × Value → H} {P : Program} {w : World} {base : Nat} {spare : Nat → Bool} {held : Bool}
theorem opens_int {t : TypeId} {k : IntKind} (ht : P.underlying t = some (.int k)) : Opens enc P w base spare held t (Kd.int k) (fun x => (Lit.int k x).wf = true) := by
  intro fuel cs x _ h _
  obtain ⟨n, rfl, _, hw⟩ := DataW.trod_int ht h
  exact ⟨n, rfl, hw⟩
theorem opens_bool {t : TypeId} (ht : P.underlying t = some .bool) : Opens enc P w base spare held t Kd.bool (fun _ => True) := by
  intro fuel cs x _ h _
  obtain ⟨n, rfl, _⟩ := DataW.trod_bool ht h
  exact ⟨n, rfl, trivial⟩
theorem weights_all {e : TypeId} : ∀ (l : List (DataW H)) (x : DataW H), x ∈ l → ∀ n ∈ x.weights P e, n ∈ DataW.weightsAll P e l
  | [], _, hx, _, _ => by cases hx
  | d :: r, x, hx, n, hn => by
    simp only [DataW.weightsAll, List.mem_append]
    rcases List.mem_cons.1 hx with rfl | hx
    · exact .inl hn
    · exact .inr (weights_all r x hx n hn)
theorem opens_slice {α : Type} [Inhabited α] {d : Kd α} {wf : α → Prop} {t e : TypeId} (ht : P.underlying t = some (.slice e)) (hc : P.cellsOf e = d.sz) {B : Nat} (hB : P.bytesOf e = B) (h : Opens enc P w base spare held e d wf) :
    Opens enc P w base spare held t (Kd.slice e d) (fun xs => xs.length * B ≤ 140737488351232 ∧ ∀ x ∈ xs, wf x) := by
  intro fuel cs x _ hx hw
  rcases open_slice ht hx with ⟨rfl, rfl⟩ | ⟨a, len, cap, m, n, D, Pl, rfl, _, hl, hm, hmm, rfl, hi⟩
  · exact ⟨[], ⟨none, 0, rfl, Nat.le_refl _, rfl, by simp, fun h => absurd h (by simp)⟩, by simp, by simp⟩
  · have hlm : len ≤ m := by rw [hmm]; split <;> omega
    have hwt : len * B ≤ 140737488351232 := by
      have := hw ((len + (m - len)) * B) (by simp only [DataW.weights, ht, hB]; simp)
      have hle : len * B ≤ (len + (m - len)) * B := Nat.mul_le_mul_right _ (by omega)
      have hr : reachBytes = 140737488351232 := rfl
      omega
    have hwe : ∀ i, i < len → ∀ n ∈ (D i).weights P e, n ≤ reachBytes := by
      intro i hi n hn
      refine hw n ?_
      simp only [DataW.weights, ht, List.mem_cons, List.mem_append]
      exact .inr (.inl (weights_all _ (D i) (List.mem_map.2 ⟨i, List.mem_range.2 hi, rfl⟩) n hn))
    obtain ⟨f, hf⟩ := choose_lt (α := α) (n := len) (p := fun i x => ∃ cs', cs'.length = d.sz ∧ d.K w x cs' ∧ (∀ j u, cs'[j]? = some u → w.cell? (a.add (i * d.sz + j)) = some u) ∧ wf x) (fun i hil => by
      obtain ⟨cs', h1, h2⟩ := hi i (by omega)
      rw [hc] at h1
      obtain ⟨_, hlen, hcell⟩ := World.cells?_some h1
      obtain ⟨x, hx1, hx2⟩ := h n cs' _ hlen h2 (hwe i hil)
      refine ⟨x, cs', hlen, hx1, fun j u hu => ?_, hx2⟩
      have hj : j < d.sz := by
        obtain ⟨hj, _⟩ := List.getElem?_eq_some_iff.1 hu
        omega
      rw [← add_add, hcell j hj, hu])
    have hll : ((List.range len).map f).length = len := by simp
    refine ⟨(List.range len).map f, ⟨some a, cap, by rw [hll], by rw [hll]; exact hl, rfl, by rw [hll]; have := hm; simp only [maxLen] at this; omega, fun _ => ⟨a, rfl, fun j p hp => ?_⟩⟩, by rw [hll]; exact hwt, fun x hx => ?_⟩
    · have hj : j < len := by
        obtain ⟨hj, _⟩ := List.getElem?_eq_some_iff.1 hp
        simpa using hj
      have he : p = f j := by
        rw [List.getElem?_map, List.getElem?_range hj] at hp
        exact (Option.some.inj hp).symm
      subst he
      obtain ⟨cs', h1, h2, h3, _⟩ := hf j hj
      exact ⟨cs', h1, h2, h3⟩
    · obtain ⟨i, hi', rfl⟩ := List.mem_map.1 hx
      obtain ⟨_, _, _, _, h4⟩ := hf i (List.mem_range.1 hi')
      exact h4
theorem opens_struct3 {α β γ δ : Type} {da : Kd α} {db : Kd β} {dc : Kd γ} {wa : α → Prop} {wb : β → Prop} {wc : γ → Prop} {t : TypeId} {f0 f1 f2 : Field} (hs : P.underlying t = some (.struct #[f0, f1, f2])) (hone : oneCellFields P #[f0, f1, f2] = true)
    (ha : Opens enc P w base spare held f0.type da wa) (hb : Opens enc P w base spare held f1.type db wb) (hc : Opens enc P w base spare held f2.type dc wc) (sa : da.sz = 1) (sb : db.sz = 1) (sc : dc.sz = 1)
    (g : δ → α × β × γ) (gi : α → β → γ → δ) (hg : ∀ a b c, g (gi a b c) = (a, b, c)) : Opens enc P w base spare held t (Kd.iso (Kd.pair da (Kd.pair db dc)) g) (fun x => wa (g x).1 ∧ wb (g x).2.1 ∧ wc (g x).2.2) := by
  intro fuel cs x hl hx hw
  have hl' : cs.length = 3 := by rw [hl]; show da.sz + (db.sz + dc.sz) = 3; omega
  match cs, hl' with
  | [c0, c1, c2], _ =>
    obtain ⟨y0, y1, y2, n, rfl, _, h0, h1, h2⟩ := trod_struct3 hs hx
    obtain ⟨o0, k0⟩ := hone_of hone 0 f0 rfl
    obtain ⟨o1, k1⟩ := hone_of hone 1 f1 rfl
    obtain ⟨o2, k2⟩ := hone_of hone 2 f2 rfl
    have e0 : DataW.trod enc P w base spare held n f0.type [c0] = some y0 := by simpa [o0, k0] using h0
    have e1 : DataW.trod enc P w base spare held n f1.type [c1] = some y1 := by simpa [o1, k1] using h1
    have e2 : DataW.trod enc P w base spare held n f2.type [c2] = some y2 := by simpa [o2, k2] using h2
    have hwe : ∀ k, k ∈ DataW.weightsEach P [f0.type, f1.type, f2.type] [y0.1, y1.1, y2.1] → k ≤ reachBytes := fun k hk => hw k (by simp only [DataW.weights, hs]; exact hk)
    obtain ⟨a, a1, a2⟩ := ha n [c0] y0 sa.symm e0 (fun k hk => hwe k (DataW.weights_mem_each (j := 0) rfl rfl k hk))
    obtain ⟨b, b1, b2⟩ := hb n [c1] y1 sb.symm e1 (fun k hk => hwe k (DataW.weights_mem_each (j := 1) rfl rfl k hk))
    obtain ⟨c, d1, d2⟩ := hc n [c2] y2 sc.symm e2 (fun k hk => hwe k (DataW.weights_mem_each (j := 2) rfl rfl k hk))
    refine ⟨gi a b c, ?_, by show wa (g (gi a b c)).1 ∧ wb (g (gi a b c)).2.1 ∧ wc (g (gi a b c)).2.2; rw [hg]; exact ⟨a2, b2, d2⟩⟩
    show ∃ c0' c1', _
    rw [hg]
    exact ⟨[c0], [c1, c2], rfl, a1, [c1], [c2], rfl, b1, d1⟩
end
end Go.Proofs.YthheakfgmombdaaX.PrintWords
end
section
namespace Go.Proofs.Ythheakfgmombdaa.Clo
open Go
def cloT (tab : List (List Nat)) : Nat → List Nat → List Nat → List Nat
  | 0, _, seen => seen.reverse
  | _, [], seen => seen.reverse
  | n + 1, f :: todo, seen => if seen.contains f then cloT tab n todo seen else cloT tab n (tab.getD f [] ++ todo) (f :: seen)
theorem leads_tab {P : Program} {tab : List (List Nat)} (h : P.funcs.toList.map P.leadsTo = tab) (f : Nat) : (P.funcs[f]?).elim [] P.leadsTo = tab.getD f [] := by
  rw [← h, List.getD_eq_getElem?_getD, List.getElem?_map, Array.getElem?_toList]
  cases P.funcs[f]? <;> rfl
theorem via_tab {P : Program} {tab : List (List Nat)} (h : P.funcs.toList.map P.leadsTo = tab) : ∀ (n : Nat) (todo seen : List Nat), P.closureVia n todo seen = cloT tab n todo seen
  | 0, _, _ => rfl
  | n + 1, [], _ => rfl
  | n + 1, f :: todo, seen => by
    show (if seen.contains f then P.closureVia n todo seen else P.closureVia n ((P.funcs[f]?).elim [] P.leadsTo ++ todo) (f :: seen)) = (if seen.contains f then cloT tab n todo seen else cloT tab n (tab.getD f [] ++ todo) (f :: seen))
    rw [via_tab h, leads_tab h, via_tab h]
def fuelT (tab : List (List Nat)) : Nat := 1 + (tab.map fun l => l.length + 1).sum
theorem clo_tab {P : Program} {tab : List (List Nat)} (h : P.funcs.toList.map P.leadsTo = tab) (f : Nat) : P.closure f = cloT tab (fuelT tab) [f] [] := by
  have e : (P.funcs.toList.map fun g => (P.leadsTo g).length + 1) = tab.map fun l => l.length + 1 := by
    rw [← h, List.map_map]; rfl
  unfold Program.closure fuelT
  rw [via_tab h, e]
def falls (rk : List Nat) : List (List Nat) → List Nat → Bool
  | [], _ => true
  | l :: tab, r :: rs => l.all (fun h => decide (rk.getD h 0 < r)) && falls rk tab rs
  | _ :: _, [] => false
theorem falls_at {rk : List Nat} : ∀ {tab : List (List Nat)} {rs : List Nat}, falls rk tab rs = true → ∀ f h, h ∈ tab.getD f [] → rk.getD h 0 < rs.getD f 0
  | [], _, _, f, h, hm => by simp at hm
  | l :: tab, [], hf, _, _, _ => by simp [falls] at hf
  | l :: tab, r :: rs, hf, 0, h, hm => by
    simp only [falls, Bool.and_eq_true] at hf
    have := List.all_eq_true.1 hf.1 h (by simpa using hm)
    simpa using this
  | l :: tab, r :: rs, hf, f + 1, h, hm => by
    simp only [falls, Bool.and_eq_true] at hf
    have := falls_at hf.2 f h (by simpa using hm)
    simpa using this
theorem cloT_rank {rk : List Nat} {tab : List (List Nat)} (hf : falls rk tab rk = true) {R : Nat} : ∀ (n : Nat) (todo seen : List Nat), (∀ y ∈ todo, rk.getD y 0 ≤ R) → (∀ y ∈ seen, rk.getD y 0 ≤ R) → ∀ x ∈ cloT tab n todo seen, rk.getD x 0 ≤ R
  | 0, _, _, _, hs, x, hx => hs x (List.mem_reverse.1 hx)
  | n + 1, [], _, _, hs, x, hx => hs x (List.mem_reverse.1 hx)
  | n + 1, f :: todo, seen, ht, hs, x, hx => by
    rw [cloT] at hx
    have hfR := ht f List.mem_cons_self
    split at hx
    · exact cloT_rank hf n todo seen (fun y hy => ht y (List.mem_cons_of_mem _ hy)) hs x hx
    · refine cloT_rank hf n _ _ (fun y hy => ?_) (fun y hy => ?_) x hx
      · rcases List.mem_append.1 hy with h | h
        · exact Nat.le_trans (Nat.le_of_lt (falls_at hf f y h)) hfR
        · exact ht y (List.mem_cons_of_mem _ h)
      · rcases List.mem_cons.1 hy with rfl | h
        · exact hfR
        · exact hs y h
theorem recurses_tab {P : Program} {tab : List (List Nat)} {rk : List Nat} (h : P.funcs.toList.map P.leadsTo = tab) (hf : falls rk tab rk = true) {f : Nat} (hu : P.unfollowed f = false) : P.recurses f = false := by
  unfold Program.recurses
  rw [hu, Bool.false_or]
  refine List.any_eq_false.2 fun g _ => ?_
  rw [leads_tab h]
  intro ha
  obtain ⟨c, hc, hcon⟩ := List.any_eq_true.1 ha
  rw [clo_tab h] at hcon
  have hm : g ∈ cloT tab (fuelT tab) [c] [] := by simpa using hcon
  have h1 := cloT_rank hf _ _ _ (R := rk.getD c 0) (fun y hy => by rw [List.mem_singleton.1 hy]; exact Nat.le_refl _) (fun y hy => by cases hy) g hm
  have h2 := falls_at hf g c hc
  omega
theorem and_tt {a b : Bool} (ha : a = true) (hb : b = true) : (a && b) = true := by rw [ha, hb]; rfl
end Go.Proofs.Ythheakfgmombdaa.Clo
end
section
namespace Go.Proofs.Ythheakfgmombdaa.RowHead
open Go.ChangeShapes Go.WideShapes Go.ChangeAt Go.RowKit Go.Joins Go.Proofs.YthheakfgmombdaaX.PrintWords Go.Proofs.Ythheakfgmombdaa.F Go.Proofs.Ythheakfgmombdaa.Num Go.Proofs.Ythheakfgmombdaa.Clo
set_option linter.unusedVariables false
theorem own : ownKnob Try.prog.godebug = none := by kernel_rfl
theorem laidOut : laidOutB Try.prog = true := by kernel_rfl
instance : Inhabited S46 := ⟨z46⟩
def okNat (l : List Int) : Prop := l.length * 4 ≤ 140737488351232 ∧ ∀ x ∈ l, (Lit.int .u32 x).wf = true
def okRat (x : S46) : Prop := True ∧ okNat x.f1 ∧ okNat x.f2
def okRats (l : List S46) : Prop := l.length * 56 ≤ 140737488351232 ∧ ∀ x ∈ l, okRat x
def okMat (l : List (List S46)) : Prop := l.length * 24 ≤ 140737488351232 ∧ ∀ x ∈ l, okRats x
section
variable {H : Type} {enc : TypeId × Value → H} {w : World} {base : Nat} {spare : Nat → Bool} {held : Bool}
theorem opensNat : Opens enc Try.prog w base spare held 44 (Kd.slice 100 (Kd.int .u32)) okNat :=
  opens_slice Try.underlying44 (by kernel_rfl) (by kernel_rfl) (opens_int Try.underlying100)
theorem opensRat : Opens enc Try.prog w base spare held 46 k46 okRat :=
  opens_struct3 Try.underlying46 (by kernel_rfl) (opens_bool (by kernel_rfl)) opensNat opensNat rfl rfl rfl (fun x : S46 => (x.f0, x.f1, x.f2)) (fun a b c => ⟨a, b, c⟩) (fun _ _ _ => rfl)
theorem opensRats : Opens enc Try.prog w base spare held 22 (Kd.slice 46 k46) okRats := opens_slice Try.underlying22 (by kernel_rfl) (by kernel_rfl) opensRat
theorem opensMat : Opens enc Try.prog w base spare held 23 (Kd.slice 22 (Kd.slice 46 k46)) okMat := opens_slice Try.underlying23 (by kernel_rfl) (by kernel_rfl) opensRats
end
theorem limOf {x : S46} (h : okRat x) : Lim x.f1 ∧ Lim x.f2 := ⟨Lim_wf h.2.1.2, Lim_wf h.2.2.2⟩
theorem limsOf {l : List S46} (h : okRats l) : ∀ a ∈ l, Lim a.f1 ∧ Lim a.f2 := fun a ha => limOf (h.2 a ha)
def tab : List (List Nat) := [[], [], [1], [18, 19], [19, 20, 21, 19, 19, 22, 21, 23, 22, 24, 22], [25, 26, 26, 28, 27], [26, 25, 30, 29, 31, 32], [26, 25, 25, 30, 33, 32, 27, 30, 34], [35, 36, 37, 25, 38, 39, 34], [20, 40, 41, 41, 42, 42, 29], [20, 40, 41, 43, 43, 29], [20, 40, 41, 43], [20, 40, 41, 43, 42, 32, 30, 29, 45, 46, 44, 33, 44, 33, 43, 29], [20, 40, 41, 32, 42, 29, 21, 32, 42, 29], [47, 48, 47, 49, 27, 27, 27], [47, 50, 51, 47, 52, 53, 34], [50, 54, 26, 55, 51, 30, 29], [47, 56, 51, 57, 34], [], [], [58], [18, 59, 59, 60], [27, 27, 27], [61, 61, 62], [23, 23], [63], [], [34], [64, 65], [45, 32], [65], [30, 66, 44, 33], [67], [67, 67, 68, 68, 68, 70, 69, 71, 72, 69, 72, 69], [73, 73], [37, 74, 75], [76, 77, 37, 37, 79, 78], [], [64, 80], [69], [30, 30, 30, 30, 30, 30, 30, 41, 41], [18, 81, 82, 84, 84, 83, 82, 84, 85, 81, 81, 84, 85], [30, 44, 33], [18, 81, 84], [67, 67, 68, 68, 69], [62, 33], [67], [], [86, 87, 88, 87, 60], [30, 66, 62, 66], [], [86, 88, 83, 85, 87, 89, 85, 87, 89], [], [30, 29, 32, 90, 32, 90], [30, 65, 65, 30, 51, 30, 65, 30, 30, 51, 30, 34, 52], [64], [91, 91, 69], [80, 92, 39], [93, 93, 93], [60], [94], [62], [67, 69], [95, 95, 94], [], [96, 96, 69], [30, 80, 92, 91, 91, 68, 68, 39, 62, 33], [69], [97], [98, 98, 99, 100, 100], [101, 101, 97], [101, 101, 101, 101], [101, 101, 97], [], [], [103, 102], [104], [64], [105, 105, 106], [105, 105, 106], [97], [107, 84, 83], [107, 108, 83], [109, 85], [89], [110, 110], [], [88, 111], [], [112, 114, 113], [30, 66, 44, 33], [115], [97, 116, 68, 68], [], [110, 110, 112, 117, 118, 118], [119, 119], [80, 70, 80], [], [97], [98, 100, 97], [97, 116, 116, 120, 71, 72, 120, 70, 97], [], [], [], [121], [104, 103], [], [85], [84], [122, 60, 113], [123, 124], [125, 122, 117, 118, 126, 118, 126, 127, 128], [], [126, 126, 126, 129, 94, 130, 131, 94], [112, 112, 122, 126, 126, 94], [80, 68, 97], [97], [123, 123, 118, 132], [123, 123, 130, 132, 133, 119, 134, 132, 132], [132], [97], [37], [94], [], [], [135], [123, 136, 132], [137, 139, 138], [122], [123, 140, 132], [123, 123], [130, 132, 123], [123], [123], [141, 142, 123, 142, 143], [], [123], [144, 119, 145, 126, 146, 147, 139, 147], [129, 130, 131], [126], [123], [124], [], [], [136, 133, 132], [110, 123, 136, 136, 132], [119], [138], [], [], [], [], [], [], [], [], [], [], [], [], [], [], [], []]
def rk : List Nat := [0, 0, 1, 1, 10, 8, 9, 8, 8, 14, 14, 14, 14, 14, 11, 11, 12, 11, 0, 0, 2, 8, 3, 8, 9, 7, 0, 2, 6, 8, 6, 8, 6, 6, 1, 2, 5, 0, 2, 5, 13, 12, 7, 11, 6, 7, 6, 0, 10, 8, 0, 10, 0, 9, 11, 1, 5, 6, 1, 7, 6, 7, 6, 6, 0, 5, 7, 5, 1, 4, 1, 1, 1, 0, 0, 1, 3, 1, 4, 4, 1, 10, 11, 8, 9, 2, 0, 9, 0, 8, 8, 3, 2, 0, 5, 3, 2, 0, 1, 3, 2, 0, 0, 0, 2, 3, 0, 3, 10, 7, 1, 8, 0, 6, 7, 2, 1, 4, 3, 2, 1, 1, 6, 0, 0, 1, 2, 6, 7, 2, 1, 2, 1, 1, 2, 0, 1, 5, 3, 3, 1, 1, 0, 0, 2, 2, 3, 4, 0, 0, 0, 0, 0, 0, 0, 0, 0, 0, 0, 0, 0, 0, 0, 0]
theorem leads : Try.prog.funcs.toList.map Try.prog.leadsTo = tab := by kernel_rfl
theorem ranked : falls rk tab rk = true := by kernel_rfl
theorem gStops : Try.prog.stops = [] := by kernel_rfl
theorem gKnobs : Try.prog.stopKnobs = [] := by kernel_rfl
theorem gMaps : mapsRowed Try.prog = true := by kernel_rfl
theorem gHeard : Try.prog.stopsHeard = true := by kernel_rfl
theorem gEnter : Try.prog.mayEnter = true := by kernel_rfl
end Go.Proofs.Ythheakfgmombdaa.RowHead
end
section
namespace Go.Proofs.Ythheakfgmombdaa.RowHead
open Go.ChangeShapes Go.WideShapes Go.ChangeAt Go.RowKit Go.Joins Go.Proofs.YthheakfgmombdaaX.PrintWords
set_option linter.unusedVariables false
def okInts (l : List Int) : Prop := l.length * 8 ≤ 140737488351232 ∧ ∀ x ∈ l, (Lit.int .i64 x).wf = true
def okWords (l : List (List Int)) : Prop := l.length * 24 ≤ 140737488351232 ∧ ∀ x ∈ l, okInts x
section
variable {H : Type} {enc : TypeId × Value → H} {w : World} {base : Nat} {spare : Nat → Bool} {held : Bool}
theorem opensInts : Opens enc Try.prog w base spare held 41 (Kd.slice 3 (Kd.int .i64)) okInts :=
  opens_slice Try.underlying41 (by kernel_rfl) (by kernel_rfl) (opens_int Try.underlying3)
theorem opensWords : Opens enc Try.prog w base spare held 34 (Kd.slice 41 (Kd.slice 3 (Kd.int .i64))) okWords := opens_slice Try.underlying34 (by kernel_rfl) (by kernel_rfl) opensInts
end
end Go.Proofs.Ythheakfgmombdaa.RowHead
end
