import Derived.Test.YthheakfgmombdaaCDelsarteDistancesD
/- Part E of the proof: Lin1, Kraw, Dist1, Dist2, PureDelsarteDistances. -/
section
namespace Go.Proofs.Ythheakfgmombdaa.Num
set_option linter.unusedVariables false
open Go.RowKit Go.Proofs.YthheakfgmombdaaX.PrintWords Go.Proofs.YthheakfgmombdaaX.PrintMore Go.Proofs.Ythheakfgmombdaa.F
theorem rd46 {l : List S46} {i : Nat} (h : i < l.length) : rd_T46 l (i : Int) = l[i] := by
  unfold rd_T46
  rw [Int.toNat_natCast, List.getD_eq_getElem?_getD, List.getElem?_eq_getElem h]
  rfl
theorem rdL4 {l : List (List S46)} {i : Nat} (h : i < l.length) : rd_L4 l (i : Int) = l[i] := by
  unfold rd_L4
  rw [Int.toNat_natCast, List.getD_eq_getElem?_getD, List.getElem?_eq_getElem h]
  rfl
theorem rdL2 {l : List (List Int)} {i : Nat} (h : i < l.length) : rd_L2 l (i : Int) = l[i] := by
  unfold rd_L2
  rw [Int.toNat_natCast, List.getD_eq_getElem?_getD, List.getElem?_eq_getElem h]
  rfl
theorem drop_at {α : Type} {l : List α} {i : Nat} (h : i < l.length) : l.drop i = l[i] :: l.drop (i + 1) := List.drop_eq_getElem_cons h
theorem drop_end {α : Type} {l : List α} {i : Nat} (h : l.length ≤ i) : l.drop i = [] := List.drop_eq_nil_of_le h
def shortB (l : List S46) : Bool := l.all fun a => decide (a.f1.length ≤ 2) && decide (a.f2.length ≤ 2)
theorem shortB_cons (a : S46) (l : List S46) : shortB (a :: l) = ((decide (a.f1.length ≤ 2) && decide (a.f2.length ≤ 2)) && shortB l) := rfl
theorem rShort_at (l : List S46) (hl : l.length < 4611686018427387904) : ∀ (d i : Nat), d + i = l.length → Ev (fun k => codewrightref35_short.l0 k l (i : Int)) (shortB (l.drop i)) := by
  intro d
  induction d with
  | zero =>
    intro i hd
    refine Ev.succ (Ev.of fun k => ?_)
    rw [codewrightref35_short.l0, if_neg (by omega), drop_end (by omega)]
    rfl
  | succ d ih =>
    intro i hd
    have hi : i < l.length := by omega
    have e := ih (i + 1) (by omega)
    refine Ev.succ ?_
    conv => enter [1, k]; rw [codewrightref35_short.l0, if_pos (show (i : Int) < (l.length : Int) by omega), if_pos (Int.natCast_nonneg i), rd46 hi, wsucc (by omega)]
    rw [drop_at hi, shortB_cons]
    refine Ev.ite (fun h => ?_) fun h => Ev.ite (fun h2 => ?_) fun h2 => ?_
    · rw [decide_eq_false (show ¬ l[i].f1.length ≤ 2 by omega)]
      exact Ev.const _
    · rw [decide_eq_false (show ¬ l[i].f2.length ≤ 2 by omega), Bool.and_false]
      exact Ev.const _
    · rw [decide_eq_true (show l[i].f1.length ≤ 2 by omega), decide_eq_true (show l[i].f2.length ≤ 2 by omega)]
      exact e
theorem rShort (l : List S46) (hl : l.length < 4611686018427387904) : Ev (fun k => codewrightref35_short.f k l) (shortB l) := by
  have := rShort_at l hl l.length 0 (by omega)
  rwa [List.drop_zero] at this
def rowsB (m : Nat) (a : List (List S46)) : Bool := a.all fun r => decide (r.length ≤ m) && shortB r
theorem rowsB_cons (m : Nat) (r : List S46) (a : List (List S46)) : rowsB m (r :: a) = ((decide (r.length ≤ m) && shortB r) && rowsB m a) := rfl
def smallB (m : Nat) (c : List S46) (a : List (List S46)) (b : List S46) : Bool := decide (c.length ≤ m) && (decide (b.length ≤ m) && (decide (a.length ≤ m) && (shortB c && (shortB b && rowsB m a))))
section
variable {c b : List S46} {a : List (List S46)} {m : Nat}
theorem rSmall_at (hm : m ≤ 1000) (ha : a.length ≤ m) : ∀ (d i : Nat) (ok : Bool), d + i = a.length → Ev (fun k => codewrightref35_Small.l0 k (m : Int) ok (i : Int) c a b) (ok && rowsB m (a.drop i)) := by
  intro d
  induction d with
  | zero =>
    intro i ok hd
    refine Ev.succ (Ev.of fun k => ?_)
    rw [codewrightref35_Small.l0, if_neg (by omega), drop_end (by omega)]
    show some ok = some (ok && true)
    rw [Bool.and_true]
  | succ d ih =>
    intro i ok hd
    have hi : i < a.length := by omega
    refine Ev.succ ?_
    conv => enter [1, k]; rw [codewrightref35_Small.l0, if_pos (show (i : Int) < (a.length : Int) by omega), if_pos (Int.natCast_nonneg i), rdL4 hi, wsucc (by omega)]
    rw [drop_at hi, rowsB_cons]
    refine Ev.ite (fun h => Ev.ite (fun h2 => ?_) fun h2 => ?_) fun h => ?_
    · rw [h, Bool.true_and, decide_eq_true (show a[i].length ≤ m by omega), Bool.true_and]
      exact Ev.bind (rShort a[i] (by omega)) (ih (i + 1) _ (by omega))
    · rw [decide_eq_false (show ¬ a[i].length ≤ m by omega), Bool.false_and, Bool.false_and, Bool.and_false]
      exact ih (i + 1) false (by omega)
    · rw [Bool.eq_false_iff.2 h, Bool.false_and]
      exact ih (i + 1) false (by omega)
theorem rSmall (hm : m ≤ 1000) : Ev (fun k => codewrightref35_Small.f k c a b (m : Int)) (smallB m c a b) := by
  have jt : Ev (fun k => codewrightref35_Small.j0 k (m : Int) true c a b) false := by
    refine Ev.succ (Ev.of fun k => ?_)
    rw [codewrightref35_Small.j0, if_pos rfl]
  unfold codewrightref35_Small.f smallB
  refine Ev.ite (fun h => ?_) fun h => Ev.ite (fun h2 => ?_) fun h2 => ?_
  · rw [decide_eq_false (show ¬ c.length ≤ m by omega)]
    exact jt
  · rw [decide_eq_false (show ¬ b.length ≤ m by omega), Bool.false_and, Bool.and_false]
    exact jt
  · rw [decide_eq_true (show c.length ≤ m by omega), decide_eq_true (show b.length ≤ m by omega), Bool.true_and, Bool.true_and]
    by_cases h3 : a.length ≤ m
    · rw [decide_eq_false (show ¬ (a.length : Int) > (m : Int) by omega), decide_eq_true h3, Bool.true_and]
      have l1 : ∀ ok : Bool, Ev (fun k => codewrightref35_Small.j1 k (m : Int) ok c a b) (ok && rowsB m a) := fun ok => by
        refine Ev.succ ?_
        conv => enter [1, k]; rw [codewrightref35_Small.j1]
        have := rSmall_at (c := c) (b := b) hm h3 a.length 0 ok (by omega)
        rwa [List.drop_zero] at this
      refine Ev.succ ?_
      conv => enter [1, k]; rw [codewrightref35_Small.j0, if_neg (by decide)]
      refine Ev.bind (rShort c (by omega)) (Ev.ite (fun g => ?_) fun g => ?_)
      · rw [g, Bool.true_and]
        exact Ev.bind (rShort b (by omega)) (l1 _)
      · have := l1 false
        rw [Bool.eq_false_iff.2 g, Bool.false_and]
        exact this
    · rw [decide_eq_true (show (a.length : Int) > (m : Int) by omega), decide_eq_false h3, Bool.false_and]
      exact jt
def rowsEq (n : Nat) (a : List (List S46)) : Bool := a.all fun r => decide (r.length = n)
theorem rowsEq_cons (n : Nat) (r : List S46) (a : List (List S46)) : rowsEq n (r :: a) = (decide (r.length = n) && rowsEq n a) := rfl
def chk (c : List S46) (a : List (List S46)) (b : List S46) : Int := if c.length ≤ 80 ∧ a.length ≤ 80 ∧ b.length ≤ 80 then (if a.length = b.length then (if rowsEq c.length a = true then 0 else 3) else 3) else 8
theorem rCheck_at (ha : a.length ≤ 80) : ∀ (d i : Nat), d + i = a.length → Ev (fun k => codewrightref35_Check.l0 k (i : Int) c a b) (if rowsEq c.length (a.drop i) = true then 0 else 3) := by
  intro d
  induction d with
  | zero =>
    intro i hd
    refine Ev.succ (Ev.of fun k => ?_)
    rw [codewrightref35_Check.l0, if_neg (by omega), drop_end (by omega)]
    rfl
  | succ d ih =>
    intro i hd
    have hi : i < a.length := by omega
    have e := ih (i + 1) (by omega)
    refine Ev.succ ?_
    conv => enter [1, k]; rw [codewrightref35_Check.l0, if_pos (show (i : Int) < (a.length : Int) by omega), if_pos (Int.natCast_nonneg i), rdL4 hi, wsucc (by omega)]
    rw [drop_at hi, rowsEq_cons]
    refine Ev.ite (fun h => ?_) fun h => ?_
    · rw [decide_eq_true (show a[i].length = c.length by omega), Bool.true_and]
      exact e
    · rw [decide_eq_false (show ¬ a[i].length = c.length by omega), Bool.false_and]
      exact Ev.const _
theorem rCheck (c : List S46) (a : List (List S46)) (b : List S46) : Ev (fun k => codewrightref35_Check.f k c a b) (chk c a b) := by
  have jt : Ev (fun k => codewrightref35_Check.j0 k true c a b) 8 := by
    refine Ev.succ (Ev.of fun k => ?_)
    rw [codewrightref35_Check.j0, if_pos rfl]
  unfold codewrightref35_Check.f chk
  refine Ev.ite (fun h => ?_) fun h => Ev.ite (fun h2 => ?_) fun h2 => ?_
  · rw [if_neg (by omega)]; exact jt
  · rw [if_neg (by omega)]; exact jt
  · by_cases h3 : b.length ≤ 80
    · rw [if_pos (by omega), decide_eq_false (by omega)]
      refine Ev.succ ?_
      conv => enter [1, k]; rw [codewrightref35_Check.j0, if_neg (by decide)]
      refine Ev.ite (fun g => ?_) fun g => ?_
      · rw [if_pos (by omega)]
        have := rCheck_at (c := c) (a := a) (b := b) (by omega) a.length 0 (by omega)
        rwa [List.drop_zero] at this
      · rw [if_neg (by omega)]; exact Ev.const _
    · rw [if_neg (by omega), decide_eq_true (by omega)]; exact jt
theorem pCheck_at (ha : a.length ≤ 80) : ∀ (d i : Nat), d + i = a.length → Ev (fun k => simplex_Check.l0 k a (a.length : Int) (i : Int) c a b) (if rowsEq c.length (a.drop i) = true then 0 else 3) := by
  intro d
  induction d with
  | zero =>
    intro i hd
    refine Ev.succ (Ev.of fun k => ?_)
    rw [simplex_Check.l0, if_neg (by omega), drop_end (by omega)]
    rfl
  | succ d ih =>
    intro i hd
    have hi : i < a.length := by omega
    have e := ih (i + 1) (by omega)
    refine Ev.succ ?_
    conv => enter [1, k]; rw [simplex_Check.l0, if_pos (show (i : Int) < (a.length : Int) by omega), if_pos (Int.natCast_nonneg i), if_pos (show (i : Int) < (a.length : Int) by omega), rdL4 hi, wsucc (by omega)]
    rw [drop_at hi, rowsEq_cons]
    refine Ev.ite (fun h => ?_) fun h => ?_
    · rw [decide_eq_true (show a[i].length = c.length by omega), Bool.true_and]
      exact e
    · rw [decide_eq_false (show ¬ a[i].length = c.length by omega), Bool.false_and]
      exact Ev.const _
theorem pCheck (c : List S46) (a : List (List S46)) (b : List S46) : Ev (fun k => simplex_Check.f k c a b) (chk c a b) := by
  have jt : Ev (fun k => simplex_Check.j0 k true c a b) 8 := by
    refine Ev.succ (Ev.of fun k => ?_)
    rw [simplex_Check.j0, if_pos rfl]
  unfold simplex_Check.f chk
  refine Ev.ite (fun h => ?_) fun h => Ev.ite (fun h2 => ?_) fun h2 => ?_
  · rw [if_neg (by omega)]; exact jt
  · rw [if_neg (by omega)]; exact jt
  · by_cases h3 : b.length ≤ 80
    · rw [if_pos (by omega), decide_eq_false (by omega)]
      refine Ev.succ ?_
      conv => enter [1, k]; rw [simplex_Check.j0, if_neg (by decide)]
      refine Ev.ite (fun g => ?_) fun g => ?_
      · rw [if_pos (by omega)]
        have := pCheck_at (c := c) (a := a) (b := b) (by omega) a.length 0 (by omega)
        rwa [List.drop_zero] at this
      · rw [if_neg (by omega)]; exact Ev.const _
    · rw [if_neg (by omega), decide_eq_true (by omega)]; exact jt
theorem chk_ok (h : chk c a b = 0) : c.length ≤ 80 ∧ a.length = b.length ∧ b.length ≤ 80 ∧ ∀ r ∈ a, r.length = c.length := by
  unfold chk at h
  split at h
  · split at h
    · split at h
      · rename_i h1 h2 h3
        exact ⟨h1.1, h2, h1.2.2, fun r hr => by simpa using List.all_eq_true.1 h3 r hr⟩
      · omega
    · omega
  · omega
theorem chk_of (h1 : c.length ≤ 80) (h2 : a.length = b.length) (h3 : b.length ≤ 80) (h4 : ∀ r ∈ a, r.length = c.length) : chk c a b = 0 := by
  unfold chk
  have e : rowsEq c.length a = true := List.all_eq_true.2 fun r hr => decide_eq_true (h4 r hr)
  rw [if_pos ⟨h1, by omega, h3⟩, if_pos h2, if_pos e]
end
theorem rSame_at (l : List Int) (hl : l.length < 4611686018427387904) : ∀ (d i : Nat), d + i = l.length → Ev (fun k => codewrightref01_Same.l0 k l l (i : Int)) true := by
  intro d
  induction d with
  | zero =>
    intro i hd
    refine Ev.succ (Ev.of fun k => ?_)
    rw [codewrightref01_Same.l0, if_neg (by omega)]
  | succ d ih =>
    intro i hd
    have e := ih (i + 1) (by omega)
    refine Ev.succ (e.congr fun k => ?_)
    rw [codewrightref01_Same.l0, if_pos (by omega), if_pos (Int.natCast_nonneg i), if_pos (by omega), if_pos rfl, wsucc (by omega)]
theorem rSame01 (l : List Int) (hl : l.length < 4611686018427387904) : Ev (fun k => codewrightref01_Same.f k l l) true := by
  unfold codewrightref01_Same.f
  exact Ev.pos rfl (rSame_at l hl l.length 0 (by omega))
theorem rSame02 (a : S46) (h1 : a.f1.length < 4611686018427387904) (h2 : a.f2.length < 4611686018427387904) : Ev (fun k => codewrightref02_Same.f k a.f0 a.f1 a.f2 a.f0 a.f1 a.f2) true := by
  unfold codewrightref02_Same.f
  refine Ev.pos (by simp) (Ev.bind (rSame01 _ h1) (Ev.pos rfl (Ev.bind (rSame01 _ h2) (Ev.const _))))
def Sh (l : List S46) : Prop := l.length < 1000000000 ∧ ∀ a ∈ l, a.f1.length < 4611686018427387904 ∧ a.f2.length < 4611686018427387904
theorem rSameList_at (l : List S46) (hl : Sh l) : ∀ (d i : Nat), d + i = l.length → Ev (fun k => codewrightref02_SameList.l0 k l l (i : Int)) true := by
  have hl1 := hl.1
  intro d
  induction d with
  | zero =>
    intro i hd
    refine Ev.succ (Ev.of fun k => ?_)
    rw [codewrightref02_SameList.l0, if_neg (by omega)]
  | succ d ih =>
    intro i hd
    have hi : i < l.length := by omega
    have e := ih (i + 1) (by omega)
    have hs := hl.2 l[i] (List.getElem_mem hi)
    refine Ev.succ ?_
    conv => enter [1, k]; rw [codewrightref02_SameList.l0, if_pos (show (i : Int) < (l.length : Int) by omega), if_pos (Int.natCast_nonneg i), if_pos (show (i : Int) < (l.length : Int) by omega), rd46 hi, wsucc (by omega)]
    exact Ev.bind (rSame02 _ hs.1 hs.2) (Ev.pos rfl e)
theorem rSameList (l : List S46) (hl : Sh l) : Ev (fun k => codewrightref02_SameList.f k l l) true := by
  unfold codewrightref02_SameList.f
  exact Ev.pos rfl (rSameList_at l hl l.length 0 (by omega))
theorem rSame35_at (c : List S46) (a : List (List S46)) (b : List S46) (ha : a.length < 1000000000) (hr : ∀ r ∈ a, Sh r) : ∀ (d i : Nat), d + i = a.length → Ev (fun k => codewrightref35_Same.l0 k (i : Int) c a b c a b) true := by
  intro d
  induction d with
  | zero =>
    intro i hd
    refine Ev.succ (Ev.of fun k => ?_)
    rw [codewrightref35_Same.l0, if_neg (by omega)]
  | succ d ih =>
    intro i hd
    have hi : i < a.length := by omega
    have e := ih (i + 1) (by omega)
    refine Ev.succ ?_
    conv => enter [1, k]; rw [codewrightref35_Same.l0, if_pos (show (i : Int) < (a.length : Int) by omega), if_pos (Int.natCast_nonneg i), if_pos (show (i : Int) < (a.length : Int) by omega), rdL4 hi, wsucc (by omega)]
    exact Ev.bind (rSameList _ (hr _ (List.getElem_mem hi))) (Ev.pos rfl e)
theorem rSame35 (c : List S46) (a : List (List S46)) (b : List S46) (hc : Sh c) (hb : Sh b) (ha : a.length < 1000000000) (hr : ∀ r ∈ a, Sh r) : Ev (fun k => codewrightref35_Same.f k c a b c a b) true := by
  unfold codewrightref35_Same.f
  refine Ev.bind (rSameList c hc) (Ev.pos rfl (Ev.bind (rSameList b hb) (Ev.pos rfl (Ev.succ ?_))))
  conv => enter [1, k]; rw [codewrightref35_Same.j0, if_neg (by simp)]
  exact rSame35_at c a b ha hr a.length 0 (by omega)
def OkS (n : Nat) (a : S46) : Prop := Ok n a.f0 a.f1 a.f2
def OkL (n : Nat) (l : List S46) : Prop := ∀ a ∈ l, OkS n a
def ng (a : S46) : S46 := C (-val a)
theorem OkS_C {q : Rat} {k : Nat} (h : Sz q k) : OkS k (C q) := Ok_T h
theorem OkS_ng {a : S46} {n : Nat} (h : OkS n a) : OkS (32 * n + 1) (ng a) := OkS_C (Sz_neg (Sz_vq h))
theorem OkL_ng {l : List S46} {n : Nat} (h : OkL n l) : OkL (32 * n + 1) (l.map ng) := fun a ha => by
  obtain ⟨b, hb, rfl⟩ := List.mem_map.1 ha
  exact OkS_ng (h b hb)
theorem OkL_Sh {l : List S46} {n : Nat} (h : OkL n l) (hn : n < 1000000000) (hl : l.length < 1000000000) : Sh l := ⟨hl, fun a ha => by
  have := h a ha
  have h1 := this.2.1
  have h2 := this.2.2
  exact ⟨by omega, by omega⟩⟩
theorem snoc_map {l : List S46} {i : Nat} (h : i < l.length) (f : S46 → S46) (x : List S46) : (x ++ [f l[i]]) ++ (l.drop (i + 1)).map f = x ++ (l.drop i).map f := by
  rw [drop_at h, List.map_cons, List.append_assoc]; rfl
theorem pNegs_at {l : List S46} {n : Nat} (h : OkL n l) (hn : n < 1000000) (hl : l.length < 1000000000) : ∀ (d i : Nat) (x : List S46), d + i = l.length → x.length = i → Ev (fun k => simplex_negative.l0 k x l (l.length : Int) (i : Int)) (x ++ (l.drop i).map ng) := by
  intro d
  induction d with
  | zero =>
    intro i x hd hx
    refine Ev.succ (Ev.of fun k => ?_)
    rw [simplex_negative.l0, if_neg (by omega), drop_end (by omega)]
    show _ = some (x ++ [])
    rw [List.append_nil]
  | succ d ih =>
    intro i x hd hx
    have hi : i < l.length := by omega
    have e := ih (i + 1) (x ++ [ng l[i]]) (by omega) (by rw [List.length_append, hx]; rfl)
    rw [snoc_map hi] at e
    refine Ev.succ ?_
    conv => enter [1, k]; rw [simplex_negative.l0, if_pos (show (i : Int) < (l.length : Int) by omega), if_pos (Int.natCast_nonneg i), if_pos (show (i : Int) < (l.length : Int) by omega), rd46 hi, wsucc (by omega)]
    exact Ev.bind (pNegR (h l[i] (List.getElem_mem hi)) (by omega)) (Ev.pos (by omega) e)
theorem pNegs {l : List S46} {n : Nat} (h : OkL n l) (hn : n < 1000000) (hl : l.length < 1000000000) : Ev (fun k => simplex_negative.f k l) (l.map ng) := pNegs_at h hn hl l.length 0 [] (by omega) rfl
theorem rNegs_at {l : List S46} {n : Nat} (h : OkL n l) (hn : n < 1000000) (hl : l.length < 1000000000) : ∀ (d i : Nat) (x : List S46), d + i = l.length → x.length = i → Ev (fun k => codewrightref35_negative.l0 k l x (i : Int)) (x ++ (l.drop i).map ng) := by
  intro d
  induction d with
  | zero =>
    intro i x hd hx
    refine Ev.succ (Ev.of fun k => ?_)
    rw [codewrightref35_negative.l0, if_neg (by omega), drop_end (by omega)]
    show _ = some (x ++ [])
    rw [List.append_nil]
  | succ d ih =>
    intro i x hd hx
    have hi : i < l.length := by omega
    have e := ih (i + 1) (x ++ [ng l[i]]) (by omega) (by rw [List.length_append, hx]; rfl)
    rw [snoc_map hi] at e
    refine Ev.succ ?_
    conv => enter [1, k]; rw [codewrightref35_negative.l0, if_pos (show (i : Int) < (l.length : Int) by omega), if_pos (Int.natCast_nonneg i), rd46 hi, wsucc (by omega)]
    exact Ev.bind (rNegR (h l[i] (List.getElem_mem hi)) (by omega)) (Ev.pos (by omega) e)
theorem rNegs {l : List S46} {n : Nat} (h : OkL n l) (hn : n < 1000000) (hl : l.length < 1000000000) : Ev (fun k => codewrightref35_negative.f k l) (l.map ng) := rNegs_at h hn hl l.length 0 [] (by omega) rfl
def ncol (a : List (List S46)) (j : Nat) : List S46 := a.map fun r => ng (r.getD j z46)
def nrows (n : Nat) (a : List (List S46)) : List (List S46) := (List.range n).map (ncol a)
theorem getD_at {l : List S46} {j : Nat} (h : j < l.length) : l.getD j z46 = l[j] := by
  rw [List.getD_eq_getElem?_getD, List.getElem?_eq_getElem h]; rfl
theorem snoc_col {a : List (List S46)} {i j : Nat} (h : i < a.length) (hj : j < a[i].length) (x : List S46) : (x ++ [ng a[i][j]]) ++ ncol (a.drop (i + 1)) j = x ++ ncol (a.drop i) j := by
  unfold ncol
  rw [drop_at h, List.map_cons, getD_at hj, List.append_assoc]; rfl
theorem range_snoc (f : Nat → List S46) {i n : Nat} (h : i < n) (x : List (List S46)) : (x ++ [f i]) ++ ((List.range n).drop (i + 1)).map f = x ++ ((List.range n).drop i).map f := by
  have : i < (List.range n).length := by rw [List.length_range]; exact h
  rw [drop_at this, List.map_cons, List.getElem_range, List.append_assoc]; rfl
section
variable {c b : List S46} {a : List (List S46)} {n : Nat}
theorem pDual1 (ha : ∀ r ∈ a, r.length = c.length ∧ OkL n r) (hn : n < 1000000) (hal : a.length ≤ 80) (hcl : c.length ≤ 80) {j : Nat} (hj : j < c.length) {y : List (List S46)} {yc yb : List S46} {res : List S46 × List (List S46) × List S46 × Int} (hy : y.length = j)
    (next : Ev (fun k => simplex_Dual.l0 k (c.length : Int) ((j + 1 : Nat) : Int) c a b yc (y ++ [ncol a j]) yb) res) :
    ∀ (d i : Nat) (x : List S46), d + i = a.length → x.length = i → x ++ ncol (a.drop i) j = ncol a j → Ev (fun k => simplex_Dual.l1 k (j : Int) x (c.length : Int) (j : Int) (a.length : Int) (i : Int) c a b yc y yb) res := by
  intro d
  induction d with
  | zero =>
    intro i x hd hx hv
    rw [drop_end (by omega)] at hv
    have hv' : x = ncol a j := by
      have : x ++ [] = ncol a j := hv
      rwa [List.append_nil] at this
    refine Ev.succ (next.congr fun k => ?_)
    rw [simplex_Dual.l1, if_neg (by omega), if_pos (by omega), wsucc (by omega), hv']
  | succ d ih =>
    intro i x hd hx hv
    have hi : i < a.length := by omega
    have hr := ha a[i] (List.getElem_mem hi)
    have hji : j < a[i].length := by omega
    have e := ih (i + 1) (x ++ [ng a[i][j]]) (by omega) (by rw [List.length_append, hx]; rfl) (by rw [snoc_col hi hji]; exact hv)
    refine Ev.succ ?_
    conv => enter [1, k]; rw [simplex_Dual.l1, if_pos (show (i : Int) < (a.length : Int) by omega), if_pos (Int.natCast_nonneg i), if_pos (show (i : Int) < (a.length : Int) by omega), if_pos (Int.natCast_nonneg j), rdL4 hi, if_pos (show (j : Int) < (a[i].length : Int) by omega), rd46 hji, wsucc (by omega)]
    exact Ev.bind (pNegR (hr.2 _ (List.getElem_mem hji)) (by omega)) (Ev.pos (by omega) e)
theorem pDual0 (ha : ∀ r ∈ a, r.length = c.length ∧ OkL n r) (hn : n < 1000000) (hal : a.length ≤ 80) (hcl : c.length ≤ 80) {yc yb : List S46} : ∀ (d j : Nat) (y : List (List S46)), d + j = c.length → y.length = j → Ev (fun k => simplex_Dual.l0 k (c.length : Int) (j : Int) c a b yc y yb) (yc, y ++ ((List.range c.length).drop j).map (ncol a), yb, 0) := by
  intro d
  induction d with
  | zero =>
    intro j y hd hy
    refine Ev.succ (Ev.of fun k => ?_)
    rw [simplex_Dual.l0, if_neg (by omega), drop_end (by rw [List.length_range]; omega)]
    show _ = some (yc, y ++ [], yb, 0)
    rw [List.append_nil]
  | succ d ih =>
    intro j y hd hy
    have hj : j < c.length := by omega
    have e := ih (j + 1) (y ++ [ncol a j]) (by omega) (by rw [List.length_append, hy]; rfl)
    rw [range_snoc _ hj] at e
    refine Ev.succ ?_
    conv => enter [1, k]; rw [simplex_Dual.l0, if_pos (show (j : Int) < (c.length : Int) by omega)]
    exact pDual1 ha hn hal hcl hj hy e a.length 0 [] (by omega) rfl rfl
theorem pDual (hk : chk c a b = 0) (hc : OkL n c) (hb : OkL n b) (ha : ∀ r ∈ a, OkL n r) (hn : n < 1000000) : Ev (fun k => simplex_Dual.f k c a b) (b.map ng, nrows c.length a, c.map ng, 0) := by
  obtain ⟨h1, h2, h3, h4⟩ := chk_ok hk
  unfold simplex_Dual.f
  have e := pCheck c a b
  rw [hk] at e
  refine Ev.bind e (Ev.pos rfl (Ev.bind (pNegs hb hn (by omega)) (Ev.bind (pNegs hc hn (by omega)) ?_)))
  exact pDual0 (fun r hr => ⟨h4 r hr, ha r hr⟩) hn (by omega) h1 c.length 0 [] (by omega) rfl
theorem pDual_err (hk : chk c a b ≠ 0) : Ev (fun k => simplex_Dual.f k c a b) ([], [], [], chk c a b) := by
  unfold simplex_Dual.f
  exact Ev.bind (pCheck c a b) (Ev.neg hk (Ev.const _))
theorem rDual1 (ha : ∀ r ∈ a, r.length = c.length ∧ OkL n r) (hn : n < 1000000) (hal : a.length ≤ 80) (hcl : c.length ≤ 80) {j : Nat} (hj : j < c.length) {y : List (List S46)} {yc yb : List S46} {res : List S46 × List (List S46) × List S46} (hy : y.length = j)
    (next : Ev (fun k => codewrightref35_Dual.l0 k ((j + 1 : Nat) : Int) c a b yc (y ++ [ncol a j]) yb) res) :
    ∀ (d i : Nat) (x : List S46), d + i = a.length → x.length = i → x ++ ncol (a.drop i) j = ncol a j → Ev (fun k => codewrightref35_Dual.l1 k (j : Int) x (i : Int) c a b yc y yb) res := by
  intro d
  induction d with
  | zero =>
    intro i x hd hx hv
    rw [drop_end (by omega)] at hv
    have hv' : x = ncol a j := by
      have : x ++ [] = ncol a j := hv
      rwa [List.append_nil] at this
    refine Ev.succ (next.congr fun k => ?_)
    rw [codewrightref35_Dual.l1, if_neg (by omega), if_pos (by omega), wsucc (by omega), hv']
  | succ d ih =>
    intro i x hd hx hv
    have hi : i < a.length := by omega
    have hr := ha a[i] (List.getElem_mem hi)
    have hji : j < a[i].length := by omega
    have e := ih (i + 1) (x ++ [ng a[i][j]]) (by omega) (by rw [List.length_append, hx]; rfl) (by rw [snoc_col hi hji]; exact hv)
    refine Ev.succ ?_
    conv => enter [1, k]; rw [codewrightref35_Dual.l1, if_pos (show (i : Int) < (a.length : Int) by omega), if_pos (Int.natCast_nonneg i), if_pos (Int.natCast_nonneg j), rdL4 hi, if_pos (show (j : Int) < (a[i].length : Int) by omega), rd46 hji, wsucc (by omega)]
    exact Ev.bind (rNegR (hr.2 _ (List.getElem_mem hji)) (by omega)) (Ev.pos (by omega) e)
theorem rDual0 (ha : ∀ r ∈ a, r.length = c.length ∧ OkL n r) (hn : n < 1000000) (hal : a.length ≤ 80) (hcl : c.length ≤ 80) {yc yb : List S46} : ∀ (d j : Nat) (y : List (List S46)), d + j = c.length → y.length = j → Ev (fun k => codewrightref35_Dual.l0 k (j : Int) c a b yc y yb) (yc, y ++ ((List.range c.length).drop j).map (ncol a), yb) := by
  intro d
  induction d with
  | zero =>
    intro j y hd hy
    refine Ev.succ (Ev.of fun k => ?_)
    rw [codewrightref35_Dual.l0, if_neg (by omega), drop_end (by rw [List.length_range]; omega)]
    show _ = some (yc, y ++ [], yb)
    rw [List.append_nil]
  | succ d ih =>
    intro j y hd hy
    have hj : j < c.length := by omega
    have e := ih (j + 1) (y ++ [ncol a j]) (by omega) (by rw [List.length_append, hy]; rfl)
    rw [range_snoc _ hj] at e
    refine Ev.succ ?_
    conv => enter [1, k]; rw [codewrightref35_Dual.l0, if_pos (show (j : Int) < (c.length : Int) by omega)]
    exact rDual1 ha hn hal hcl hj hy e a.length 0 [] (by omega) rfl rfl
theorem rDual (hk : chk c a b = 0) (hc : OkL n c) (hb : OkL n b) (ha : ∀ r ∈ a, OkL n r) (hn : n < 1000000) : Ev (fun k => codewrightref35_Dual.f k c a b) (b.map ng, nrows c.length a, c.map ng) := by
  obtain ⟨h1, h2, h3, h4⟩ := chk_ok hk
  unfold codewrightref35_Dual.f
  refine Ev.bind (rNegs hb hn (by omega)) (Ev.bind (rNegs hc hn (by omega)) ?_)
  exact rDual0 (fun r hr => ⟨h4 r hr, ha r hr⟩) hn (by omega) h1 c.length 0 [] (by omega) rfl
end
end Go.Proofs.Ythheakfgmombdaa.Num
end
section
namespace Go.Proofs.Ythheakfgmombdaa.Kraw
set_option linter.unusedVariables false
def S {α : Type} (l : List α) (f : α → Int) : Int := (l.map f).sum
theorem S_nil {α : Type} (f : α → Int) : S [] f = 0 := rfl
theorem S_cons {α : Type} (x : α) (l : List α) (f : α → Int) : S (x :: l) f = f x + S l f := by simp [S]
theorem S_congr {α : Type} {l : List α} {f g : α → Int} (h : ∀ x ∈ l, f x = g x) : S l f = S l g := by
  induction l with
  | nil => rfl
  | cons x l ih => rw [S_cons, S_cons, h x List.mem_cons_self, ih fun y hy => h y (List.mem_cons_of_mem _ hy)]
theorem S_zero {α : Type} (l : List α) : S l (fun _ => 0) = 0 := by
  induction l with
  | nil => rfl
  | cons x l ih => rw [S_cons, ih]; rfl
theorem S_add {α : Type} (l : List α) (f g : α → Int) : S l (fun x => f x + g x) = S l f + S l g := by
  induction l with
  | nil => rfl
  | cons x l ih => rw [S_cons, S_cons, S_cons, ih]; omega
theorem S_mul {α : Type} (l : List α) (c : Int) (f : α → Int) : S l (fun x => c * f x) = c * S l f := by
  induction l with
  | nil => simp [S_nil]
  | cons x l ih => rw [S_cons, S_cons, ih, Int.mul_add]
theorem S_swap {α β : Type} (l : List α) (m : List β) (f : α → β → Int) : S l (fun x => S m (fun y => f x y)) = S m (fun y => S l (fun x => f x y)) := by
  induction l with
  | nil => rw [S_nil]; exact (S_zero m).symm
  | cons x l ih => rw [S_cons, ih, ← S_add]; exact S_congr fun y _ => (S_cons x l fun x => f x y).symm
theorem S_nonneg {α : Type} {l : List α} {f : α → Int} (h : ∀ x ∈ l, 0 ≤ f x) : 0 ≤ S l f := by
  induction l with
  | nil => exact Int.le_refl _
  | cons x l ih =>
    rw [S_cons]
    have h1 := h x List.mem_cons_self
    have h2 := ih fun y hy => h y (List.mem_cons_of_mem _ hy)
    omega
theorem S_map {α β : Type} (l : List α) (g : α → β) (f : β → Int) : S (l.map g) f = S l (fun x => f (g x)) := by
  unfold S; rw [List.map_map]; rfl
theorem S_append {α : Type} (l m : List α) (f : α → Int) : S (l ++ m) f = S l f + S m f := by
  unfold S; rw [List.map_append, List.sum_append]
theorem S_const {α : Type} (l : List α) (c : Int) : S l (fun _ => c) = l.length * c := by
  induction l with
  | nil => simp [S_nil]
  | cons x l ih => rw [S_cons, ih, List.length_cons]; grind
theorem sqn (a : Int) : 0 ≤ a * a := by
  rcases Int.le_total 0 a with h | h
  · exact Int.mul_nonneg h h
  · exact Int.mul_nonneg_of_nonpos_of_nonpos h h
def one (p : Prop) [Decidable p] : Int := if p then 1 else 0
theorem one_pos {p : Prop} [Decidable p] (h : p) : one p = 1 := if_pos h
theorem one_neg {p : Prop} [Decidable p] (h : ¬ p) : one p = 0 := if_neg h
theorem S_one (q : Nat) {a : Int} (h0 : 0 ≤ a) (h1 : a < q) : S (List.range q) (fun i => one ((i : Int) = a)) = 1 := by
  induction q with
  | zero => omega
  | succ q ih =>
    rw [List.range_succ, S_append, S_cons, S_nil]
    by_cases h : a = q
    · subst h
      rw [one_pos rfl, S_congr (g := fun _ => 0), S_zero]
      · rfl
      · intro x hx
        have := List.mem_range.1 hx
        exact one_neg (by omega)
    · rw [ih (by omega), one_neg (by omega)]; rfl
theorem S_diff (q : Nat) {g h : Int} (g0 : 0 ≤ g) (g1 : g < q) (h0 : 0 ≤ h) (h1 : h < q) :
    S (List.range q) (fun a => S (List.range q) (fun b => (one ((a : Int) = g) - one ((b : Int) = g)) * (one ((a : Int) = h) - one ((b : Int) = h)))) = 2 * (q * one (g = h) - 1) := by
  have e1 : ∀ a : Nat, one ((a : Int) = g) * one ((a : Int) = h) = one (g = h) * one ((a : Int) = g) := fun a => by
    unfold one
    split <;> split <;> split <;> first | rfl | omega
  have e : ∀ a : Nat, S (List.range q) (fun b => (one ((a : Int) = g) - one ((b : Int) = g)) * (one ((a : Int) = h) - one ((b : Int) = h))) = q * (one (g = h) * one ((a : Int) = g)) + -1 * one ((a : Int) = g) + -1 * one ((a : Int) = h) + one (g = h) := fun a => by
    have : ∀ b : Nat, (one ((a : Int) = g) - one ((b : Int) = g)) * (one ((a : Int) = h) - one ((b : Int) = h)) = one (g = h) * one ((a : Int) = g) + (-1 * one ((a : Int) = g)) * one ((b : Int) = h) + (-1 * one ((a : Int) = h)) * one ((b : Int) = g) + one (g = h) * one ((b : Int) = g) := fun b => by
      rw [← e1 a, ← e1 b]; grind
    rw [S_congr fun b _ => this b, S_add, S_add, S_add, S_mul, S_mul, S_mul, S_mul, S_const, S_one q g0 g1, S_one q h0 h1, List.length_range]
    clear this e1
    grind
  rw [S_congr fun a _ => e a, S_add, S_add, S_add, S_mul, S_mul, S_mul, S_mul, S_const, List.length_range, S_one q g0 g1, S_one q h0 h1]
  grind
def kc (q : Int) : List Int → List Int → Nat → Int
  | [], _, 0 => 1
  | [], _, _ + 1 => 0
  | _ :: _, _, 0 => 1
  | a :: u, v, k + 1 => kc q u v.tail (k + 1) + (q * one (a = v.headD 0) - 1) * kc q u v.tail k
theorem kc_zero (q : Int) (u v : List Int) : kc q u v 0 = 1 := by cases u <;> rfl
def Qf (q : Int) (k : Nat) (l : List (List Int × Int)) : Int := S l fun x => S l fun y => x.2 * (y.2 * kc q x.1 y.1 k)
theorem S_prod {α : Type} (l : List α) (f : α → Int) : S l (fun x => S l fun y => f x * (f y * 1)) = S l f * S l f := by
  have : ∀ x, S l (fun y => f x * (f y * 1)) = S l f * f x := fun x => by
    rw [S_mul, Int.mul_comm]; congr 1; exact S_congr fun y _ => Int.mul_one _
  rw [S_congr fun x _ => this x, S_mul]
theorem Qf_nonneg (q : Nat) : ∀ (n k : Nat) (l : List (List Int × Int)), (∀ x ∈ l, x.1.length = n ∧ ∀ a ∈ x.1, 0 ≤ a ∧ a < (q : Int)) → 0 ≤ Qf q k l := by
  intro n
  induction n with
  | zero =>
    intro k l h
    have e : ∀ x ∈ l, x.1 = [] := fun x hx => List.eq_nil_of_length_eq_zero (h x hx).1
    unfold Qf
    cases k with
    | zero =>
      rw [S_congr fun x hx => S_congr fun y hy => by rw [kc_zero], S_prod]
      exact sqn _
    | succ k =>
      refine S_nonneg fun x hx => S_nonneg fun y hy => ?_
      rw [e x hx]
      show 0 ≤ x.2 * (y.2 * 0)
      omega
  | succ n ih =>
    intro k l h
    cases k with
    | zero =>
      unfold Qf
      rw [S_congr fun x hx => S_congr fun y hy => by rw [kc_zero], S_prod]
      exact sqn _
    | succ k =>
      have key : 2 * Qf q (k + 1) l = 2 * Qf q (k + 1) (l.map fun x => (x.1.tail, x.2)) + S (List.range q) fun a => S (List.range q) fun b => Qf q k (l.map fun x => (x.1.tail, x.2 * (one ((a : Int) = x.1.headD 0) - one ((b : Int) = x.1.headD 0)))) := by
        unfold Qf
        simp only [S_map]
        have sw : S (List.range q) (fun a => S (List.range q) fun b => S l fun x => S l fun y => x.2 * (one ((a : Int) = x.1.headD 0) - one ((b : Int) = x.1.headD 0)) * (y.2 * (one ((a : Int) = y.1.headD 0) - one ((b : Int) = y.1.headD 0)) * kc q x.1.tail y.1.tail k)) = S l fun x => S l fun y => x.2 * (y.2 * kc q x.1.tail y.1.tail k) * (2 * (q * one (x.1.headD 0 = y.1.headD 0) - 1)) := by
          rw [S_congr fun a _ => S_swap (List.range q) l _, S_swap]
          refine S_congr fun x hx => ?_
          rw [S_congr fun a _ => S_swap (List.range q) l _, S_swap]
          refine S_congr fun y hy => ?_
          obtain ⟨a, u, hu⟩ : ∃ a u, x.1 = a :: u := by
            cases hx1 : x.1 with
            | nil => have := (h x hx).1; rw [hx1] at this; simp at this
            | cons a u => exact ⟨a, u, rfl⟩
          obtain ⟨b, v, hv⟩ : ∃ a u, y.1 = a :: u := by
            cases hx1 : y.1 with
            | nil => have := (h y hy).1; rw [hx1] at this; simp at this
            | cons a u => exact ⟨a, u, rfl⟩
          have ga := (h x hx).2 a (by rw [hu]; exact List.mem_cons_self)
          have gb := (h y hy).2 b (by rw [hv]; exact List.mem_cons_self)
          rw [hu, hv]
          show _ = x.2 * (y.2 * kc q u v k) * (2 * (q * one (a = b) - 1))
          rw [← S_diff q ga.1 ga.2 gb.1 gb.2, ← S_mul]
          refine S_congr fun c _ => ?_
          rw [← S_mul]
          refine S_congr fun d _ => ?_
          simp only [List.headD_cons, List.tail_cons]
          grind
        rw [sw, ← S_mul, ← S_mul, ← S_add]
        refine S_congr fun x hx => ?_
        rw [← S_mul, ← S_mul, ← S_add]
        refine S_congr fun y hy => ?_
        obtain ⟨a, u, hu⟩ : ∃ a u, x.1 = a :: u := by
          cases hx1 : x.1 with
          | nil => have := (h x hx).1; rw [hx1] at this; simp at this
          | cons a u => exact ⟨a, u, rfl⟩
        rw [hu]
        show 2 * (x.2 * (y.2 * (kc q u y.1.tail (k + 1) + (q * one (a = y.1.headD 0) - 1) * kc q u y.1.tail k))) = 2 * (x.2 * (y.2 * kc q u y.1.tail (k + 1))) + x.2 * (y.2 * kc q u y.1.tail k) * (2 * (q * one (a = y.1.headD 0) - 1))
        grind
      have t : ∀ (g : List Int × Int → Int) (x : List Int × Int), x ∈ l.map (fun x => (x.1.tail, g x)) → x.1.length = n ∧ ∀ a ∈ x.1, 0 ≤ a ∧ a < (q : Int) := fun g x hx => by
        obtain ⟨y, hy, rfl⟩ := List.mem_map.1 hx
        have := h y hy
        exact ⟨by simp [this.1], fun a ha => this.2 a (List.mem_of_mem_tail ha)⟩
      have h1 := ih (k + 1) _ (t fun x => x.2)
      have h2 : 0 ≤ S (List.range q) fun a => S (List.range q) fun b => Qf q k (l.map fun x => (x.1.tail, x.2 * (one ((a : Int) = x.1.headD 0) - one ((b : Int) = x.1.headD 0)))) := S_nonneg fun a _ => S_nonneg fun b _ => ih k _ (t _)
      omega
def kr (q : Int) : Nat → Nat → Nat → Int
  | 0, 0, 0 => 1
  | 0, 0, _ + 1 => 0
  | 0, x + 1, 0 => 1
  | 0, x + 1, k + 1 => kr q 0 x (k + 1) - kr q 0 x k
  | m + 1, x, 0 => 1
  | m + 1, x, k + 1 => kr q m x (k + 1) + (q - 1) * kr q m x k
theorem kr_zero (q : Int) (m x : Nat) : kr q m x 0 = 1 := by
  cases m with
  | zero => cases x <;> rw [kr]
  | succ m => rw [kr]
theorem kr_m (q : Int) (m x k : Nat) : kr q (m + 1) x (k + 1) = kr q m x (k + 1) + (q - 1) * kr q m x k := by rw [kr]
theorem kr_x (q : Int) (m x k : Nat) : kr q m (x + 1) (k + 1) = kr q m x (k + 1) - kr q m x k := by
  induction m generalizing k with
  | zero => rw [kr]
  | succ m ih =>
    rw [kr_m, kr_m, ih]
    cases k with
    | zero => rw [kr_zero, kr_zero, kr_zero]; grind
    | succ k => rw [ih, kr_m]; grind
theorem kr_table (q : Int) (m x k : Nat) : kr q m (x + 1) (k + 1) = kr q (m + 1) x (k + 1) - kr q (m + 1) x k - (q - 1) * kr q m (x + 1) k := by
  rw [kr_x, kr_m]
  cases k with
  | zero => rw [kr_zero, kr_zero, kr_zero]; grind
  | succ k => rw [kr_x, kr_m]; grind
def hd : List Int → List Int → Nat
  | a :: u, b :: v => hd u v + (if a = b then 0 else 1)
  | _, _ => 0
theorem hd_le : ∀ (u v : List Int), hd u v ≤ u.length
  | [], _ => Nat.le_refl _
  | a :: u, [] => Nat.zero_le _
  | a :: u, b :: v => by
    have := hd_le u v
    rw [hd, List.length_cons]
    split <;> omega
theorem kc_kr (q : Int) : ∀ (u v : List Int) (k : Nat), u.length = v.length → kc q u v k = kr q (u.length - hd u v) (hd u v) k
  | [], v, 0, _ => by rw [kr_zero]; rfl
  | [], [], k + 1, _ => by show 0 = kr q 0 0 (k + 1); rw [kr]
  | a :: u, v, 0, _ => by rw [kr_zero]; rfl
  | a :: u, b :: v, k + 1, h => by
    have h' : u.length = v.length := by simpa using h
    show kc q u v (k + 1) + (q * one (a = b) - 1) * kc q u v k = _
    rw [kc_kr q u v (k + 1) h', kc_kr q u v k h', hd, List.length_cons]
    have h2 := hd_le u v
    by_cases e : a = b
    · rw [if_pos e, one_pos e, show u.length + 1 - (hd u v + 0) = (u.length - hd u v) + 1 by omega, Nat.add_zero, kr_m]; grind
    · rw [if_neg e, one_neg e, show u.length + 1 - (hd u v + 1) = u.length - hd u v by omega, kr_x]; grind
def bn : Nat → Nat → Nat
  | _, 0 => 1
  | 0, _ + 1 => 0
  | n + 1, k + 1 => bn n k + bn n (k + 1)
theorem bn_zero (n : Nat) : bn n 0 = 1 := by cases n <;> rfl
theorem bn_gt {n k : Nat} (h : n < k) : bn n k = 0 := by
  induction n generalizing k with
  | zero => obtain ⟨j, rfl⟩ : ∃ j, k = j + 1 := ⟨k - 1, by omega⟩; rfl
  | succ n ih => obtain ⟨j, rfl⟩ : ∃ j, k = j + 1 := ⟨k - 1, by omega⟩; rw [bn, ih (by omega), ih (by omega)]
def cs (f g : Nat → Int) (k : Nat) : Nat → Int
  | 0 => 0
  | n + 1 => cs f g k n + f n * g (k - n)
theorem cs_front (f g : Nat → Int) (k n : Nat) : cs f g (k + 1) (n + 1) = f 0 * g (k + 1) + cs (fun j => f (j + 1)) g k n := by
  induction n with
  | zero => show 0 + f 0 * g (k + 1) = f 0 * g (k + 1) + 0; omega
  | succ n ih =>
    rw [cs, ih, cs, show k + 1 - (n + 1) = k - n by omega, Int.add_assoc]
theorem cs_congr {f f' g g' : Nat → Int} {k : Nat} {n : Nat} (hf : ∀ j, j < n → f j * g (k - j) = f' j * g' (k - j)) : cs f g k n = cs f' g' k n := by
  induction n with
  | zero => rfl
  | succ n ih => rw [cs, cs, ih fun j hj => hf j (by omega), hf n (by omega)]
theorem cs_sub (f f' g : Nat → Int) (k n : Nat) : cs (fun j => f j - f' j) g k n = cs f g k n - cs f' g k n := by
  induction n with
  | zero => rfl
  | succ n ih => rw [cs, cs, cs, ih]; grind
theorem cs_add (f g g' : Nat → Int) (c : Int) (k n : Nat) : cs f (fun i => g i + c * g' i) k n = cs f g k n + c * cs f g' k n := by
  induction n with
  | zero => show (0 : Int) = 0 + c * 0; omega
  | succ n ih => rw [cs, cs, cs, ih]; grind
def kf (x : Nat) (j : Nat) : Int := (-1) ^ j * (bn x j : Int)
def kg (q : Int) (m : Nat) (i : Nat) : Int := (q - 1) ^ i * (bn m i : Int)
theorem kf_succ (x j : Nat) : kf (x + 1) (j + 1) = kf x (j + 1) - kf x j := by
  unfold kf; rw [bn, Int.pow_succ]; push_cast; grind
theorem kg_succ (q : Int) (m i : Nat) : kg q (m + 1) (i + 1) = kg q m (i + 1) + (q - 1) * kg q m i := by
  unfold kg; rw [bn, Int.pow_succ]; push_cast; grind
theorem kf_zero (x : Nat) : kf x 0 = 1 := by unfold kf; rw [bn_zero]; rfl
theorem kg_zero (q : Int) (x : Nat) : kg q x 0 = 1 := by unfold kg; rw [bn_zero, Int.pow_zero]; rfl
theorem cs_zero {f g : Nat → Int} {k n : Nat} (h : ∀ j, j < n → f j * g (k - j) = 0) : cs f g k n = 0 := by
  induction n with
  | zero => rfl
  | succ n ih => rw [cs, ih fun j hj => h j (by omega), h n (by omega)]; rfl
theorem kr_sum (q : Int) (m x k : Nat) : cs (kf x) (kg q m) k (k + 1) = kr q m x k := by
  induction m generalizing k with
  | zero =>
    induction x generalizing k with
    | zero =>
      cases k with
      | zero => rw [kr_zero, cs, cs, kf_zero, kg_zero]; rfl
      | succ k =>
        have : kr q 0 0 (k + 1) = 0 := by rw [kr]
        rw [this]
        refine cs_zero fun j hj => ?_
        cases j with
        | zero => unfold kg; rw [show k + 1 - 0 = k + 1 by omega, bn_gt (n := 0) (by omega)]; simp
        | succ j => unfold kf; rw [bn_gt (n := 0) (by omega)]; simp
    | succ x ih =>
      cases k with
      | zero => rw [kr_zero, cs, cs, kf_zero, kg_zero]; rfl
      | succ k =>
        have e : kr q 0 (x + 1) (k + 1) = kr q 0 x (k + 1) - kr q 0 x k := by rw [kr]
        rw [e, ← ih, ← ih, cs_front, cs_congr (f' := fun j => kf x (j + 1) - kf x j) (g' := kg q 0) fun j _ => by rw [kf_succ], cs_sub, cs_front, kf_zero, kf_zero]
        omega
  | succ m ih =>
    cases k with
    | zero => rw [kr_zero, cs, cs, kf_zero, kg_zero]; rfl
    | succ k =>
      rw [kr_m, ← ih, ← ih, cs, cs_congr (f' := kf x) (g' := fun i => kg q m i + (q - 1) * kg q m (i - 1)) fun j hj => by
        obtain ⟨i, hi⟩ : ∃ i, k + 1 - j = i + 1 := ⟨k - j, by omega⟩
        rw [hi, kg_succ]; rfl]
      rw [cs_add, cs_congr (f := kf x) (g := fun i => kg q m (i - 1)) (f' := kf x) (g' := fun i => kg q m (i - 1)) (fun j _ => rfl)]
      have : cs (kf x) (fun i => kg q m (i - 1)) (k + 1) (k + 1) = cs (kf x) (kg q m) k (k + 1) := by
        suffices ∀ n, n ≤ k + 1 → cs (kf x) (fun i => kg q m (i - 1)) (k + 1) n = cs (kf x) (kg q m) k n from this _ (Nat.le_refl _)
        intro n hn
        induction n with
        | zero => rfl
        | succ n ih => rw [cs, cs, ih (by omega), show k + 1 - n - 1 = k - n by omega]
      have e : cs (kf x) (kg q m) (k + 1) (k + 1 + 1) = cs (kf x) (kg q m) (k + 1) (k + 1) + kf x (k + 1) * kg q m (k + 1 - (k + 1)) := rfl
      rw [this, e, Nat.sub_self, kg_zero, kg_zero]
      omega
end Go.Proofs.Ythheakfgmombdaa.Kraw
end
section
namespace Go.Proofs.Ythheakfgmombdaa.Num
set_option linter.unusedVariables false
open Go.RowKit Go.Proofs.YthheakfgmombdaaX.PrintWords Go.Proofs.YthheakfgmombdaaX.PrintMore Go.Proofs.Ythheakfgmombdaa.F Go.Proofs.Ythheakfgmombdaa.Kraw
theorem rdLI {l : List (List Int)} {i : Nat} (h : i < l.length) : rd_LI l (i : Int) = l[i] := by
  unfold rd_LI
  rw [Int.toNat_natCast, List.getD_eq_getElem?_getD, List.getElem?_eq_getElem h]
  rfl
theorem rdI {l : List Int} {i : Nat} (h : i < l.length) : rd l (i : Int) = l[i] := rd_eq l i h
def sym (q : Int) (w : List Int) : Bool := w.all fun x => decide (0 ≤ x) && decide (x < q)
theorem sym_cons (q x : Int) (w : List Int) : sym q (x :: w) = ((decide (0 ≤ x) && decide (x < q)) && sym q w) := rfl
def scan (q : Int) (n : Nat) : List (List Int) → Int
  | [] => 0
  | w :: r => if w.length = n then (if sym q w = true then scan q n r else 2) else 3
def wchk (q : Int) (ws : List (List Int)) : Int := if 2 ≤ q ∧ q ≤ 256 then (match ws with | [] => 11 | w :: _ => if 1 ≤ w.length ∧ w.length ≤ 64 then scan q w.length ws else 4) else 6
theorem rdLI0 {w : List Int} {r : List (List Int)} : rd_LI (w :: r) 0 = w := rfl
section
variable {q : Int} {n : Nat} {ws : List (List Int)}
theorem rWords_l1 (hws : ws.length ≤ 1000) {i : Nat} (hi : i < ws.length) (hn : ws[i].length ≤ 64) {res : Int} (next : Ev (fun k => codewrightref34_Words.l0 k q ws ((i + 1 : Nat) : Int)) res) :
    ∀ (d j : Nat), d + j = ws[i].length → Ev (fun k => codewrightref34_Words.l1 k q ws (i : Int) (j : Int)) (if sym q (ws[i].drop j) = true then res else 2) := by
  intro d
  induction d with
  | zero =>
    intro j hd
    rw [List.drop_eq_nil_of_le (by omega)]
    refine Ev.succ (next.congr fun k => ?_)
    rw [codewrightref34_Words.l1, if_pos (Int.natCast_nonneg i), if_pos (by omega), rdLI hi, if_neg (by omega), wsucc (by omega)]
  | succ d ih =>
    intro j hd
    have hj : j < ws[i].length := by omega
    have e := ih (j + 1) (by omega)
    refine Ev.succ ?_
    conv => enter [1, k]; rw [codewrightref34_Words.l1, if_pos (Int.natCast_nonneg i), if_pos (show (i : Int) < (ws.length : Int) by omega), rdLI hi, if_pos (show (j : Int) < (ws[i].length : Int) by omega), if_pos (Int.natCast_nonneg j), rdI hj, wsucc (by omega)]
    rw [List.drop_eq_getElem_cons hj, sym_cons]
    refine Ev.ite (fun h => ?_) fun h => Ev.ite (fun h2 => ?_) fun h2 => ?_
    · rw [decide_eq_false (show ¬ 0 ≤ ws[i][j] by omega)]; exact Ev.const _
    · rw [decide_eq_false (show ¬ ws[i][j] < q by omega), Bool.and_false]; exact Ev.const _
    · rw [decide_eq_true (show 0 ≤ ws[i][j] by omega), decide_eq_true (show ws[i][j] < q by omega)]; exact e
theorem rWords_l0 (hws : ws.length ≤ 1000) (h0 : 0 < ws.length) (hn : n ≤ 64) (hw : (rd_LI ws 0).length = n) : ∀ (d i : Nat), d + i = ws.length → Ev (fun k => codewrightref34_Words.l0 k q ws (i : Int)) (scan q n (ws.drop i)) := by
  intro d
  induction d with
  | zero =>
    intro i hd
    rw [List.drop_eq_nil_of_le (by omega)]
    refine Ev.succ (Ev.of fun k => ?_)
    rw [codewrightref34_Words.l0, if_neg (by omega)]; rfl
  | succ d ih =>
    intro i hd
    have hi : i < ws.length := by omega
    have e := ih (i + 1) (by omega)
    refine Ev.succ ?_
    conv => enter [1, k]; rw [codewrightref34_Words.l0, if_pos (show (i : Int) < (ws.length : Int) by omega), if_pos (Int.natCast_nonneg i), if_pos (show (0 : Int) < (ws.length : Int) by omega), rdLI hi, hw]
    rw [List.drop_eq_getElem_cons hi, scan]
    refine Ev.ite (fun h => ?_) fun h => ?_
    · rw [if_pos (by omega)]
      have := rWords_l1 (q := q) hws hi (by omega) e ws[i].length 0 (by omega)
      rwa [List.drop_zero] at this
    · rw [if_neg (by omega)]; exact Ev.const _
theorem rWords (q : Int) (ws : List (List Int)) (hws : ws.length ≤ 1000) : Ev (fun k => codewrightref34_Words.f k q ws) (wchk q ws) := by
  have jt : Ev (fun k => codewrightref34_Words.j0 k q ws true) 6 := by
    refine Ev.succ (Ev.of fun k => ?_)
    rw [codewrightref34_Words.j0, if_pos rfl]
  unfold codewrightref34_Words.f wchk
  refine Ev.ite (fun h => ?_) fun h => ?_
  · rw [if_neg (by omega)]; exact jt
  · by_cases h2 : q > 256
    · rw [if_neg (by omega), decide_eq_true h2]; exact jt
    · rw [if_pos (by omega), decide_eq_false h2]
      refine Ev.succ ?_
      conv => enter [1, k]; rw [codewrightref34_Words.j0, if_neg (by decide)]
      cases ws with
      | nil => exact Ev.pos rfl (Ev.const _)
      | cons w r =>
        have l1 : ((w :: r).length : Int) ≠ 0 := by rw [List.length_cons]; omega
        have l2 : (0 : Int) < ((w :: r).length : Int) := by rw [List.length_cons]; omega
        refine Ev.neg l1 (Ev.pos l2 ?_)
        rw [rdLI0]
        show Ev _ (if 1 ≤ w.length ∧ w.length ≤ 64 then scan q w.length (w :: r) else 4)
        have j4 : Ev (fun k => codewrightref34_Words.j1 k q (w :: r) true) 4 := by
          refine Ev.succ (Ev.of fun k => ?_)
          rw [codewrightref34_Words.j1, if_pos rfl]
        refine Ev.ite (fun g => ?_) fun g => ?_
        · rw [if_neg (by omega)]; exact j4
        · by_cases g2 : (w.length : Int) > 64
          · rw [if_neg (by omega), decide_eq_true g2]; exact j4
          · rw [if_pos (by omega), decide_eq_false g2]
            refine Ev.succ ?_
            conv => enter [1, k]; rw [codewrightref34_Words.j1, if_neg (by decide)]
            have := rWords_l0 (q := q) (n := w.length) hws (by rw [List.length_cons]; omega) (by omega) rfl (w :: r).length 0 (by omega)
            rwa [List.drop_zero] at this
def bump (c : List Int) (d : Nat) : List Int := c.set d (lb c d + 1)
def Cnt (n m : Nat) (c : List Int) : Prop := c.length = n + 1 ∧ ∀ j, 0 ≤ lb c j ∧ lb c j ≤ m
theorem Cnt_bump {m d : Nat} {c : List Int} (h : Cnt n m c) (hd : d ≤ n) : Cnt n (m + 1) (bump c d) := by
  have hl : d < c.length := by rw [h.1]; omega
  refine ⟨by unfold bump; rw [List.length_set]; exact h.1, fun j => ?_⟩
  unfold bump
  rw [lb_set hl]
  have h1 := h.2 j
  have h2 := h.2 d
  split <;> omega
theorem Cnt_zero (n : Nat) : Cnt n 0 (List.replicate (n + 1) 0) := ⟨List.length_replicate .., fun j => by rw [lb_replicate]; omega⟩
def inner (u : List Int) (ws : List (List Int)) (c : List Int) : List Int := ws.foldl (fun c v => bump c (hd u v)) c
def outer (us ws : List (List Int)) (c : List Int) : List Int := us.foldl (fun c u => inner u ws c) c
theorem inner_cons (u v : List Int) (ws : List (List Int)) (c : List Int) : inner u (v :: ws) c = inner u ws (bump c (hd u v)) := rfl
theorem outer_cons (u : List Int) (us ws : List (List Int)) (c : List Int) : outer (u :: us) ws c = outer us ws (inner u ws c) := rfl
theorem Cnt_inner {u : List Int} (hu : u.length = n) : ∀ {ws : List (List Int)} {m : Nat} {c : List Int}, Cnt n m c → Cnt n (m + ws.length) (inner u ws c)
  | [], _, _, h => h
  | v :: ws, m, c, h => by
    rw [inner_cons, List.length_cons]
    have := Cnt_inner hu (ws := ws) (Cnt_bump h (d := hd u v) (by rw [← hu]; exact hd_le u v))
    rwa [show m + 1 + ws.length = m + (ws.length + 1) by omega] at this
theorem Cnt_outer {ws : List (List Int)} : ∀ {us : List (List Int)} (hu : ∀ u ∈ us, u.length = n) {m : Nat} {c : List Int}, Cnt n m c → Cnt n (m + us.length * ws.length) (outer us ws c)
  | [], _, _, _, h => by rw [List.length_nil, Nat.zero_mul]; exact h
  | u :: us, hu, m, c, h => by
    rw [outer_cons, List.length_cons]
    have := Cnt_outer (ws := ws) (us := us) (fun v hv => hu v (List.mem_cons_of_mem _ hv)) (Cnt_inner (hu u List.mem_cons_self) (ws := ws) h)
    rwa [show m + ws.length + us.length * ws.length = m + (us.length + 1) * ws.length by rw [Nat.add_mul]; omega] at this
theorem hd_drop {u v : List Int} (h : u.length = v.length) {i : Nat} (hi : i < u.length) : hd (u.drop i) (v.drop i) = hd (u.drop (i + 1)) (v.drop (i + 1)) + (if u[i] = v[i]'(by omega) then 0 else 1) := by
  rw [List.drop_eq_getElem_cons hi, List.drop_eq_getElem_cons (show i < v.length by omega), hd]
theorem rDist_at {u v : List Int} (h : u.length = v.length) (hn : u.length ≤ 1000) : ∀ (d i x : Nat), d + i = u.length → x ≤ i → Ev (fun k => codewrightref24_Distance.l0 k u v (x : Int) (i : Int)) ((x + hd (u.drop i) (v.drop i) : Nat) : Int) := by
  intro d
  induction d with
  | zero =>
    intro i x hd hx
    rw [List.drop_eq_nil_of_le (by omega), List.drop_eq_nil_of_le (by omega)]
    refine Ev.succ (Ev.of fun k => ?_)
    rw [codewrightref24_Distance.l0, if_neg (by omega)]; rfl
  | succ d ih =>
    intro i x hd hx
    have hi : i < u.length := by omega
    have hi2 : i < v.length := by omega
    refine Ev.succ ?_
    conv => enter [1, k]; rw [codewrightref24_Distance.l0, if_pos (show (i : Int) < (u.length : Int) by omega), if_pos (Int.natCast_nonneg i), if_pos (show (i : Int) < (v.length : Int) by omega), rdI hi, rdI hi2, wsucc (show i < 4611686018427387904 by omega), wsucc (show x < 4611686018427387904 by omega)]
    rw [hd_drop h hi]
    refine Ev.ite (fun g => ?_) fun g => ?_
    · rw [if_pos g]; exact ih (i + 1) x (by omega) (by omega)
    · rw [if_neg g]
      have := ih (i + 1) (x + 1) (by omega) (by omega)
      rwa [show x + 1 + Kraw.hd (u.drop (i + 1)) (v.drop (i + 1)) = x + (Kraw.hd (u.drop (i + 1)) (v.drop (i + 1)) + 1) by omega] at this
theorem rDist {u v : List Int} (h : u.length = v.length) (hn : u.length ≤ 1000) : Ev (fun k => codewrightref24_Distance.f k u v) ((hd u v : Nat) : Int) := by
  have := rDist_at h hn u.length 0 0 (by omega) (by omega)
  rw [List.drop_zero, List.drop_zero, Nat.zero_add] at this
  exact this
def fracs (m : Nat) (c : List Int) : List S46 := c.map fun x => C (mkRat x m)
theorem fracs_at {m : Nat} {c : List Int} {i : Nat} (hi : i < c.length) (x : List S46) : (x ++ [C (mkRat c[i] m)]) ++ fracs m (c.drop (i + 1)) = x ++ fracs m (c.drop i) := by
  unfold fracs
  rw [List.drop_eq_getElem_cons hi, List.map_cons, List.append_assoc]; rfl
theorem cnt_get {m : Nat} {c : List Int} (h : Cnt n m c) {i : Nat} (hi : i < c.length) : ∃ a : Nat, c[i] = (a : Int) ∧ a ≤ m := by
  have := h.2 i
  rw [lb_of_lt hi] at this
  exact ⟨c[i].toNat, by omega, by omega⟩
theorem rDists_l2 (hws : ws.length ≤ 1000) (h0 : 0 < ws.length) {m : Nat} {c : List Int} (hc : Cnt n m c) (hn : n ≤ 1000) (hm : m ≤ 1000000) : ∀ (d i : Nat) (x : List S46), d + i = c.length → x.length = i → Ev (fun k => codewrightref36_Distances.l2 k ws c x (i : Int)) (x ++ fracs ws.length (c.drop i)) := by
  have hcl := hc.1
  intro d
  induction d with
  | zero =>
    intro i x hd hx
    rw [List.drop_eq_nil_of_le (by omega)]
    refine Ev.succ (Ev.of fun k => ?_)
    rw [codewrightref36_Distances.l2, if_neg (by omega)]
    show _ = some (x ++ [])
    rw [List.append_nil]
  | succ d ih =>
    intro i x hd hx
    have hi : i < c.length := by omega
    obtain ⟨a, ha, ham⟩ := cnt_get hc hi
    have e := ih (i + 1) (x ++ [C (mkRat c[i] ws.length)]) (by omega) (by rw [List.length_append, hx]; rfl)
    rw [fracs_at hi] at e
    refine Ev.succ ?_
    conv => enter [1, k]; rw [codewrightref36_Distances.l2, if_pos (show (i : Int) < (c.length : Int) by omega), if_pos (Int.natCast_nonneg i), rdI hi, wsucc (by omega), ha]
    rw [ha] at e
    exact Ev.bind (rOfR (by omega) (by omega)) (Ev.pos (by omega) e)
theorem set_bump {c : List Int} {d m : Nat} (hc : Cnt n m c) (hd : d ≤ n) (hm : m ≤ 1000000) : c.set (((d : Nat) : Int)).toNat (wrap64 (rd c (d : Int) + 1)) = bump c d := by
  have h := hc.2 d
  unfold bump
  rw [Int.toNat_natCast, rd_lb, w64 (by omega) (by omega)]
theorem rDists_l1 (hws : ws.length ≤ 1000) (hlen : ∀ u ∈ ws, u.length = n) (hn : n ≤ 64) {i : Nat} (hi : i < ws.length) {res : List S46} :
    ∀ (d j m : Nat) (c : List Int), d + j = ws.length → Cnt n m c → m + d ≤ 1000000 → Ev (fun k => codewrightref36_Distances.l0 k ws (inner ws[i] (ws.drop j) c) ((i + 1 : Nat) : Int)) res → Ev (fun k => codewrightref36_Distances.l1 k ws c (i : Int) (j : Int)) res := by
  intro d
  induction d with
  | zero =>
    intro j m c hd hc hm next
    rw [List.drop_eq_nil_of_le (by omega)] at next
    refine Ev.succ (next.congr fun k => ?_)
    rw [codewrightref36_Distances.l1, if_neg (by omega), wsucc (by omega)]; rfl
  | succ d ih =>
    intro j m c hd hc hm next
    have hj : j < ws.length := by omega
    have hu := hlen _ (List.getElem_mem hi)
    have hv := hlen _ (List.getElem_mem hj)
    have hdn : Kraw.hd ws[i] ws[j] ≤ n := by rw [← hu]; exact hd_le _ _
    have hcl := hc.1
    rw [List.drop_eq_getElem_cons hj, inner_cons] at next
    have e := ih (j + 1) (m + 1) _ (by omega) (Cnt_bump hc hdn) (by omega) next
    refine Ev.succ ?_
    conv => enter [1, k]; rw [codewrightref36_Distances.l1, if_pos (show (j : Int) < (ws.length : Int) by omega), if_pos (Int.natCast_nonneg i), if_pos (show (i : Int) < (ws.length : Int) by omega), if_pos (Int.natCast_nonneg j), rdLI hi, rdLI hj, wsucc (by omega)]
    refine Ev.bind (rDist (by rw [hu, hv]) (by omega)) (Ev.pos (Int.natCast_nonneg _) (Ev.pos (by omega) ?_))
    rw [set_bump hc hdn (by omega)]
    exact e
theorem rDists_l0 (hws : ws.length ≤ 1000) (h0 : 0 < ws.length) (hlen : ∀ u ∈ ws, u.length = n) (hn : n ≤ 64) : ∀ (d i m : Nat) (c : List Int), d + i = ws.length → Cnt n m c → m + d * ws.length ≤ 1000000 → Ev (fun k => codewrightref36_Distances.l0 k ws c (i : Int)) (fracs ws.length (outer (ws.drop i) ws c)) := by
  intro d
  induction d with
  | zero =>
    intro i m c hd hc hm
    rw [List.drop_eq_nil_of_le (by omega)]
    refine Ev.succ ?_
    conv => enter [1, k]; rw [codewrightref36_Distances.l0, if_neg (show ¬ (i : Int) < (ws.length : Int) by omega)]
    exact rDists_l2 hws h0 hc (by omega) (by omega) c.length 0 [] (by omega) rfl
  | succ d ih =>
    intro i m c hd hc hm
    have hi : i < ws.length := by omega
    rw [Nat.add_mul] at hm
    have hm1 : m + ws.length + d * ws.length ≤ 1000000 := by omega
    have hm2 : m + ws.length ≤ 1000000 := by omega
    have e := ih (i + 1) (m + ws.length) _ (by omega) (Cnt_inner (hlen _ (List.getElem_mem hi)) (ws := ws) hc) hm1
    refine Ev.succ ?_
    conv => enter [1, k]; rw [codewrightref36_Distances.l0, if_pos (show (i : Int) < (ws.length : Int) by omega)]
    rw [List.drop_eq_getElem_cons hi, outer_cons]
    exact rDists_l1 hws hlen hn hi ws.length 0 m c (by omega) hc hm2 e
def dd (n : Nat) (ws : List (List Int)) : List S46 := fracs ws.length (outer ws ws (List.replicate (n + 1) 0))
theorem rDists (hws : ws.length ≤ 200) (h0 : 0 < ws.length) (hlen : ∀ u ∈ ws, u.length = n) (hn : n ≤ 64) : Ev (fun k => codewrightref36_Distances.f k ws) (dd n ws) := by
  have hw0 : (rd_LI ws 0).length = n := by
    have : rd_LI ws 0 = ws[0] := rdLI (i := 0) h0
    rw [this]; exact hlen _ (List.getElem_mem h0)
  have w1 : wrap64 ((n : Int) + 1) = ((n + 1 : Nat) : Int) := wsucc (by omega)
  have hb : 0 + ws.length * ws.length ≤ 1000000 := by
    have := Nat.mul_le_mul hws hws
    omega
  have := rDists_l0 (by omega) h0 hlen hn ws.length 0 0 _ (by omega) (Cnt_zero n) hb
  unfold codewrightref36_Distances.f
  rw [hw0, w1, Int.toNat_natCast]
  exact Ev.pos (by omega) (Ev.pos (Int.natCast_nonneg _) (Ev.pos (by omega) this))
end
end Go.Proofs.Ythheakfgmombdaa.Num
end
section
namespace Go.Proofs.Ythheakfgmombdaa.Num
set_option linter.unusedVariables false
open Go.RowKit Go.Proofs.YthheakfgmombdaaX.PrintWords Go.Proofs.YthheakfgmombdaaX.PrintMore Go.Proofs.Ythheakfgmombdaa.F Go.Proofs.Ythheakfgmombdaa.Kraw
section
variable {q : Int} {n : Nat} {ws : List (List Int)}
theorem pDists_l5 (hws : ws.length ≤ 1000) (h0 : 0 < ws.length) {m : Nat} {c : List Int} (hc : Cnt n m c) (hn : n ≤ 1000) (hm : m ≤ 1000000) : ∀ (d i : Nat) (x : List S46), d + i = c.length → x.length = i → Ev (fun k => delsarte_Distances.l5 k ws x c (c.length : Int) (i : Int)) (x ++ fracs ws.length (c.drop i), 0) := by
  have hcl := hc.1
  intro d
  induction d with
  | zero =>
    intro i x hd hx
    rw [List.drop_eq_nil_of_le (by omega)]
    refine Ev.succ (Ev.of fun k => ?_)
    rw [delsarte_Distances.l5, if_neg (by omega)]
    show _ = some (x ++ [], 0)
    rw [List.append_nil]
  | succ d ih =>
    intro i x hd hx
    have hi : i < c.length := by omega
    obtain ⟨a, ha, ham⟩ := cnt_get hc hi
    have e := ih (i + 1) (x ++ [C (mkRat c[i] ws.length)]) (by omega) (by rw [List.length_append, hx]; rfl)
    rw [fracs_at hi] at e
    refine Ev.succ ?_
    conv => enter [1, k]; rw [delsarte_Distances.l5, if_pos (show (i : Int) < (c.length : Int) by omega), if_pos (Int.natCast_nonneg i), if_pos (show (i : Int) < (c.length : Int) by omega), rdI hi, wsucc (by omega), ha]
    rw [ha] at e
    exact Ev.bind (pOfR (by omega) (by omega) (by omega)) (Ev.pos (by omega) e)
theorem pDists_l4 (hws : ws.length ≤ 1000) {i j : Nat} (hi : i < ws.length) (hj : j < ws.length) (hu : ws[i].length = n) (hv : ws[j].length = n) (hn : n ≤ 64) {m : Nat} {c : List Int} (hc : Cnt n m c) (hm : m ≤ 1000000) {res : List S46 × Int}
    (next : Ev (fun k => delsarte_Distances.l3 k ws (bump c (hd ws[i] ws[j])) ws[i] ws (ws.length : Int) (i : Int) ws (ws.length : Int) ((j + 1 : Nat) : Int)) res) :
    ∀ (d p x : Nat), d + p = n → x ≤ p → x + hd (ws[i].drop p) (ws[j].drop p) = hd ws[i] ws[j] → Ev (fun k => delsarte_Distances.l4 k ws c ws[i] ws[j] (x : Int) ws (ws.length : Int) (i : Int) ws (ws.length : Int) (j : Int) (ws[i].length : Int) (p : Int)) res := by
  have hdn : Kraw.hd ws[i] ws[j] ≤ n := by rw [← hu]; exact hd_le _ _
  have hcl := hc.1
  intro d
  induction d with
  | zero =>
    intro p x hd hx hv'
    rw [List.drop_eq_nil_of_le (by omega), List.drop_eq_nil_of_le (by omega)] at hv'
    have hx2 : x = Kraw.hd ws[i] ws[j] := hv'
    refine Ev.succ (next.congr fun k => ?_)
    rw [delsarte_Distances.l4, if_neg (by omega), if_pos (Int.natCast_nonneg x), if_pos (by omega), wsucc (by omega), hx2, set_bump hc hdn hm]
  | succ d ih =>
    intro p x hd hx hv'
    have hp : p < ws[i].length := by omega
    have hp2 : p < ws[j].length := by omega
    rw [hd_drop (by rw [hu, hv]) hp] at hv'
    refine Ev.succ ?_
    conv => enter [1, k]; rw [delsarte_Distances.l4, if_pos (show (p : Int) < (ws[i].length : Int) by omega), if_pos (Int.natCast_nonneg p), if_pos (show (p : Int) < (ws[i].length : Int) by omega), if_pos (show (p : Int) < (ws[j].length : Int) by omega), rdI hp, rdI hp2, wsucc (show p < 4611686018427387904 by omega), wsucc (show x < 4611686018427387904 by omega)]
    refine Ev.ite (fun g => ?_) fun g => ?_
    · rw [if_pos g] at hv'
      exact ih (p + 1) x (by omega) (by omega) (by omega)
    · rw [if_neg g] at hv'
      exact ih (p + 1) (x + 1) (by omega) (by omega) (by omega)
theorem pDists_l3 (hws : ws.length ≤ 1000) (hlen : ∀ u ∈ ws, u.length = n) (hn : n ≤ 64) {i : Nat} (hi : i < ws.length) {res : List S46 × Int} :
    ∀ (d j m : Nat) (c : List Int), d + j = ws.length → Cnt n m c → m + d ≤ 1000000 → Ev (fun k => delsarte_Distances.l2 k ws (inner ws[i] (ws.drop j) c) ws (ws.length : Int) ((i + 1 : Nat) : Int)) res → Ev (fun k => delsarte_Distances.l3 k ws c ws[i] ws (ws.length : Int) (i : Int) ws (ws.length : Int) (j : Int)) res := by
  intro d
  induction d with
  | zero =>
    intro j m c hd hc hm next
    rw [List.drop_eq_nil_of_le (by omega)] at next
    refine Ev.succ (next.congr fun k => ?_)
    rw [delsarte_Distances.l3, if_neg (by omega), wsucc (by omega)]; rfl
  | succ d ih =>
    intro j m c hd hc hm next
    have hj : j < ws.length := by omega
    have hu := hlen _ (List.getElem_mem hi)
    have hv := hlen _ (List.getElem_mem hj)
    have hdn : Kraw.hd ws[i] ws[j] ≤ n := by rw [← hu]; exact hd_le _ _
    rw [List.drop_eq_getElem_cons hj, inner_cons] at next
    have e := ih (j + 1) (m + 1) _ (by omega) (Cnt_bump hc hdn) (by omega) next
    refine Ev.succ ?_
    conv => enter [1, k]; rw [delsarte_Distances.l3, if_pos (show (j : Int) < (ws.length : Int) by omega), if_pos (Int.natCast_nonneg j), if_pos (show (j : Int) < (ws.length : Int) by omega), rdLI hj]
    exact pDists_l4 hws hi hj hu hv hn hc (by omega) e n 0 0 (by omega) (by omega) (by rw [List.drop_zero, List.drop_zero, Nat.zero_add])
theorem pDists_l2 (hws : ws.length ≤ 1000) (h0 : 0 < ws.length) (hlen : ∀ u ∈ ws, u.length = n) (hn : n ≤ 64) : ∀ (d i m : Nat) (c : List Int), d + i = ws.length → Cnt n m c → m + d * ws.length ≤ 1000000 → Ev (fun k => delsarte_Distances.l2 k ws c ws (ws.length : Int) (i : Int)) (fracs ws.length (outer (ws.drop i) ws c), 0) := by
  intro d
  induction d with
  | zero =>
    intro i m c hd hc hm
    rw [List.drop_eq_nil_of_le (by omega)]
    refine Ev.succ ?_
    conv => enter [1, k]; rw [delsarte_Distances.l2, if_neg (show ¬ (i : Int) < (ws.length : Int) by omega)]
    exact pDists_l5 hws h0 hc (by omega) (by omega) c.length 0 [] (by omega) rfl
  | succ d ih =>
    intro i m c hd hc hm
    have hi : i < ws.length := by omega
    rw [Nat.add_mul] at hm
    have hm1 : m + ws.length + d * ws.length ≤ 1000000 := by omega
    have hm2 : m + ws.length ≤ 1000000 := by omega
    have e := ih (i + 1) (m + ws.length) _ (by omega) (Cnt_inner (hlen _ (List.getElem_mem hi)) (ws := ws) hc) hm1
    refine Ev.succ ?_
    conv => enter [1, k]; rw [delsarte_Distances.l2, if_pos (show (i : Int) < (ws.length : Int) by omega), if_pos (Int.natCast_nonneg i), if_pos (show (i : Int) < (ws.length : Int) by omega), rdLI hi]
    rw [List.drop_eq_getElem_cons hi, outer_cons]
    exact pDists_l3 hws hlen hn hi ws.length 0 m c (by omega) hc hm2 e
def dres (n : Nat) (ws : List (List Int)) (e : Int) : List S46 × Int := if e = 0 then (dd n ws, 0) else ([], e)
theorem scan_ok : ∀ {ws : List (List Int)}, scan q n ws = 0 → ∀ u ∈ ws, u.length = n ∧ sym q u = true
  | [], _, _, h => by cases h
  | w :: r, h, u, hu => by
    rw [scan] at h
    split at h
    · rename_i h1
      split at h
      · rename_i h2
        rcases List.mem_cons.1 hu with rfl | hu
        · exact ⟨h1, h2⟩
        · exact scan_ok h u hu
      · omega
    · omega
theorem scan_cons {w : List Int} {r : List (List Int)} (h1 : w.length = n) (h2 : sym q w = true) : scan q n (w :: r) = scan q n r := by rw [scan, if_pos h1, if_pos h2]
theorem pDists_l1 (hws : ws.length ≤ 1000) {i : Nat} (hi : i < ws.length) (hi1 : ws[i].length = n) (hn : n ≤ 64) {res : List S46 × Int} (next : sym q ws[i] = true → Ev (fun k => delsarte_Distances.l0 k q ws (n : Int) ws (ws.length : Int) ((i + 1 : Nat) : Int)) res) :
    ∀ (d j : Nat), d + j = ws[i].length → (sym q ws[i] = sym q (ws[i].drop j)) → Ev (fun k => delsarte_Distances.l1 k q ws (n : Int) ws (ws.length : Int) (i : Int) ws[i] (ws[i].length : Int) (j : Int)) (if sym q ws[i] = true then res else ([], 2)) := by
  intro d
  induction d with
  | zero =>
    intro j hd hs
    rw [List.drop_eq_nil_of_le (by omega)] at hs
    have hs' : sym q ws[i] = true := hs
    rw [if_pos hs']
    refine Ev.succ ((next hs').congr fun k => ?_)
    rw [delsarte_Distances.l1, if_neg (by omega), wsucc (by omega)]
  | succ d ih =>
    intro j hd hs
    have hj : j < ws[i].length := by omega
    refine Ev.succ ?_
    conv => enter [1, k]; rw [delsarte_Distances.l1, if_pos (show (j : Int) < (ws[i].length : Int) by omega), if_pos (Int.natCast_nonneg j), if_pos (show (j : Int) < (ws[i].length : Int) by omega), rdI hj, wsucc (by omega)]
    rw [List.drop_eq_getElem_cons hj, sym_cons] at hs
    refine Ev.ite (fun h => ?_) fun h => Ev.ite (fun h2 => ?_) fun h2 => ?_
    · rw [decide_eq_false (show ¬ 0 ≤ ws[i][j] by omega), Bool.false_and, Bool.false_and] at hs
      rw [hs]; exact Ev.const _
    · rw [decide_eq_false (show ¬ ws[i][j] < q by omega), Bool.and_false, Bool.false_and] at hs
      rw [hs]; exact Ev.const _
    · rw [decide_eq_true (show 0 ≤ ws[i][j] by omega), decide_eq_true (show ws[i][j] < q by omega), Bool.true_and, Bool.true_and] at hs
      exact ih (j + 1) (by omega) hs
theorem pDists_l0 (hws : ws.length ≤ 200) (h0 : 0 < ws.length) (hn : n ≤ 64) : ∀ (d i : Nat), d + i = ws.length → (∀ j (h : j < i) (h' : j < ws.length), ws[j].length = n) → Ev (fun k => delsarte_Distances.l0 k q ws (n : Int) ws (ws.length : Int) (i : Int)) (dres n ws (scan q n (ws.drop i))) := by
  intro d
  induction d with
  | zero =>
    intro i hd hall
    rw [List.drop_eq_nil_of_le (by omega)]
    have w1 : wrap64 ((n : Int) + 1) = ((n + 1 : Nat) : Int) := wsucc (by omega)
    have hb : 0 + ws.length * ws.length ≤ 1000000 := by
      have := Nat.mul_le_mul hws hws
      omega
    have hlen : ∀ u ∈ ws, u.length = n := fun u hu => by
      obtain ⟨j, hj, rfl⟩ := List.getElem_of_mem hu
      exact hall j (by omega) hj
    refine Ev.succ ?_
    conv => enter [1, k]; rw [delsarte_Distances.l0, if_neg (show ¬ (i : Int) < (ws.length : Int) by omega), w1, if_pos (Int.natCast_nonneg _), Int.toNat_natCast, if_pos (by omega)]
    exact pDists_l2 (by omega) h0 hlen hn ws.length 0 0 _ (by omega) (Cnt_zero n) hb
  | succ d ih =>
    intro i hd hall
    have hi : i < ws.length := by omega
    refine Ev.succ ?_
    conv => enter [1, k]; rw [delsarte_Distances.l0, if_pos (show (i : Int) < (ws.length : Int) by omega), if_pos (Int.natCast_nonneg i), if_pos (show (i : Int) < (ws.length : Int) by omega), rdLI hi]
    rw [List.drop_eq_getElem_cons hi]
    refine Ev.ite (fun h => ?_) fun h => ?_
    · have h1 : ws[i].length = n := by omega
      have e := ih (i + 1) (by omega) (fun j hj hj' => by
        by_cases hji : j = i
        · subst hji; exact h1
        · exact hall j (by omega) hj')
      have := pDists_l1 (q := q) (n := n) (by omega) hi h1 hn (fun _ => e) ws[i].length 0 (by omega) (by rw [List.drop_zero])
      rw [scan, if_pos h1]
      by_cases hs : sym q ws[i] = true
      · rw [if_pos hs] at this ⊢; exact this
      · rw [if_neg hs] at this ⊢; exact this
    · rw [scan, if_neg (by omega)]; exact Ev.const _
def len0 (ws : List (List Int)) : Nat := (rd_LI ws 0).length
theorem pDists (q : Int) (ws : List (List Int)) (hws : ws.length ≤ 200) : Ev (fun k => delsarte_Distances.f k q ws) (dres (len0 ws) ws (wchk q ws)) := by
  have jt : Ev (fun k => delsarte_Distances.j0 k q ws true) (dres (len0 ws) ws 6) := by
    refine Ev.succ (Ev.of fun k => ?_)
    rw [delsarte_Distances.j0, if_pos rfl]; rfl
  unfold delsarte_Distances.f wchk
  refine Ev.ite (fun h => ?_) fun h => ?_
  · rw [if_neg (by omega)]; exact jt
  · by_cases h2 : q > 256
    · rw [if_neg (by omega), decide_eq_true h2]; exact jt
    · rw [if_pos (by omega), decide_eq_false h2]
      refine Ev.succ ?_
      conv => enter [1, k]; rw [delsarte_Distances.j0, if_neg (by decide)]
      cases ws with
      | nil => exact Ev.pos rfl (Ev.const _)
      | cons w r =>
        have l1 : ((w :: r).length : Int) ≠ 0 := by rw [List.length_cons]; omega
        have l2 : (0 : Int) < ((w :: r).length : Int) := by rw [List.length_cons]; omega
        refine Ev.neg l1 (Ev.pos l2 ?_)
        show Ev _ (dres w.length (w :: r) (if 1 ≤ w.length ∧ w.length ≤ 64 then scan q w.length (w :: r) else 4))
        rw [rdLI0]
        refine Ev.ite (fun g => ?_) fun g => Ev.ite (fun g2 => ?_) fun g2 => ?_
        · rw [if_neg (by omega)]; exact Ev.const _
        · rw [if_neg (by omega)]; exact Ev.const _
        · rw [if_pos (by omega)]
          have := pDists_l0 (q := q) (n := w.length) hws (by rw [List.length_cons]; omega) (by omega) (w :: r).length 0 (by omega) (fun j hj => by omega)
          rwa [List.drop_zero] at this
theorem wchk_ok (h : wchk q ws = 0) : 2 ≤ q ∧ q ≤ 256 ∧ 0 < ws.length ∧ 1 ≤ len0 ws ∧ len0 ws ≤ 64 ∧ ∀ u ∈ ws, u.length = len0 ws ∧ sym q u = true := by
  unfold wchk at h
  split at h
  · rename_i h1
    cases ws with
    | nil =>
      have h' : (11 : Int) = 0 := h
      omega
    | cons w r =>
      have h' : (if 1 ≤ w.length ∧ w.length ≤ 64 then scan q w.length (w :: r) else 4) = 0 := h
      split at h'
      · rename_i h2
        exact ⟨h1.1, h1.2, by rw [List.length_cons]; omega, h2.1, h2.2, scan_ok h'⟩
      · omega
  · omega
theorem Cnt_dd (hlen : ∀ u ∈ ws, u.length = n) : Cnt n (ws.length * ws.length) (outer ws ws (List.replicate (n + 1) 0)) := by
  have := Cnt_outer (ws := ws) hlen (Cnt_zero n)
  rwa [Nat.zero_add] at this
theorem dd_length (hlen : ∀ u ∈ ws, u.length = n) : (dd n ws).length = n + 1 := by
  unfold dd fracs
  rw [List.length_map]; exact (Cnt_dd hlen).1
theorem OkL_dd (hlen : ∀ u ∈ ws, u.length = n) (hws : ws.length ≤ 1000) : OkL 64 (dd n ws) := fun a ha => by
  obtain ⟨x, hx, rfl⟩ := List.mem_map.1 ha
  obtain ⟨i, hi, rfl⟩ := List.getElem_of_mem hx
  obtain ⟨y, hy, hym⟩ := cnt_get (Cnt_dd hlen) hi
  have hb := Nat.mul_le_mul hws hws
  refine OkS_C (Sz_mk ?_ ?_ (by decide))
  · rw [hy, Int.natAbs_natCast]
    have : (1000000 : Nat) < 2 ^ 64 := by decide
    omega
  · have : (1000 : Nat) < 2 ^ 64 := by decide
    omega
end
theorem DelsarteDistances (q : Int) (ws : List (List Int)) : Ev (fun k => codewrightlaw36_DelsarteDistances.f k q ws) true := by
  unfold codewrightlaw36_DelsarteDistances.f
  refine Ev.ite (fun _ => Ev.const _) fun h => ?_
  have hws : ws.length ≤ 200 := by omega
  have hp := pDists q ws hws
  have hr := rWords q ws (by omega)
  refine Ev.bind hp (Ev.bind hr (Ev.ite (fun g => ?_) fun g => ?_))
  · obtain ⟨h1, h2, h3, h4, h5, h6⟩ := wchk_ok g
    have hlen : ∀ u ∈ ws, u.length = len0 ws := fun u hu => (h6 u hu).1
    rw [g]
    refine Ev.pos rfl (Ev.bind (rDists hws h3 hlen h5) (Ev.bind (rSameList (dd (len0 ws) ws) (OkL_Sh (OkL_dd hlen (by omega)) (by decide) (by rw [dd_length hlen]; omega))) (Ev.const _)))
  · have e : dres (len0 ws) ws (wchk q ws) = ([], wchk q ws) := if_neg g
    rw [e]
    exact Ev.bind hr (Ev.pos rfl (Ev.const _))
end Go.Proofs.Ythheakfgmombdaa.Num
end
section

end
