import Derived.Test.YthheakfgmombdaaCDelsarteLinearG
/- Part H of the proof: Field1, Field2, Field3, Field4. -/
section
namespace Go.Proofs.Ythheakfgmombdaa.Num
set_option linter.unusedVariables false
open Go.RowKit Go.Proofs.YthheakfgmombdaaX.PrintWords Go.Proofs.YthheakfgmombdaaX.PrintMore Go.Proofs.Ythheakfgmombdaa.F
theorem Ev.unique {α : Type} {f : Nat → Option α} {a b : α} (h1 : Ev f a) (h2 : Ev f b) : a = b := by
 obtain ⟨K, h1⟩ := h1
 obtain ⟨L, h2⟩ := h2
 have e1 := h1 (max K L) (by omega)
 have e2 := h2 (max K L) (by omega)
 rw [e1] at e2
 exact Option.some.inj e2
def Ends {α : Type} (f : Nat → Option α) : Prop := ∃ a, Ev f a
theorem Ends.bind {α β : Type} {f : Nat → Option α} {g : Nat → α → Option β} (hf : Ends f) (hg : ∀ a, Ends (fun k => g k a)) : Ends (fun k => (f k).bind (g k)) := by
 obtain ⟨a, ha⟩ := hf
 obtain ⟨b, hb⟩ := hg a
 exact ⟨b, Ev.bind ha hb⟩
theorem Ends.bind' {α β : Type} {f : Nat → Option α} {g : Nat → α → Option β} {a : α} (hf : Ev f a) (hg : Ends (fun k => g k a)) : Ends (fun k => (f k).bind (g k)) := by
 obtain ⟨b, hb⟩ := hg
 exact ⟨b, Ev.bind hf hb⟩
theorem Ends.const {α : Type} (a : α) : Ends (fun _ => some a) := ⟨a, Ev.const a⟩
theorem Ends.succ {α : Type} {f : Nat → Option α} (h : Ends (fun k => f (k + 1))) : Ends f := by
 obtain ⟨a, ha⟩ := h
 exact ⟨a, Ev.succ ha⟩
theorem Ends.ite {α : Type} {c : Prop} [Decidable c] {f g : Nat → Option α} (h1 : c → Ends f) (h2 : ¬ c → Ends g) : Ends (fun k => if c then f k else g k) := by
 by_cases h : c
 ·obtain ⟨a, ha⟩ := h1 h
  exact ⟨a, Ev.pos h ha⟩
 ·obtain ⟨a, ha⟩ := h2 h
  exact ⟨a, Ev.neg h ha⟩
theorem Ends.pos {α : Type} {c : Prop} [Decidable c] {f g : Nat → Option α} (h : c) (h1 : Ends f) : Ends (fun k => if c then f k else g k) := Ends.ite (fun _ => h1) (fun h2 => absurd h h2)
theorem Ends.neg {α : Type} {c : Prop} [Decidable c] {f g : Nat → Option α} (h : ¬ c) (h1 : Ends g) : Ends (fun k => if c then f k else g k) := Ends.ite (fun h2 => absurd h2 h) (fun _ => h1)
section
variable {p m : Int} {md : List Int}
theorem rOrder_at {pn mn : Nat} (hp : 2 ≤ pn) (hpw : pn < 9223372036854775808) (hm : mn ≤ 8) : ∀ (d i : Nat), d + i = mn → pn ^ i ≤ 256 → ∃ q, Ev (fun k => codewrightref04_Order.l0 k ((pn ^ i : Nat) : Int) (i : Int) (pn : Int) (mn : Int) md) q ∧ (q ≠ 0 → q = ((pn ^ mn : Nat) : Int) ∧ pn ^ mn ≤ 256) := by
 intro d
 induction d with
 | zero =>
  intro i hd hi
  obtain rfl : i = mn := by omega
  refine ⟨_, Ev.succ (Ev.of fun k => ?_), fun _ => ⟨rfl, hi⟩⟩
  rw [codewrightref04_Order.l0, if_neg (by omega)]
 | succ d ih =>
  intro i hd hi
  have hdiv : wrap64 ((256 : Int) / (pn : Int)) = ((256 / pn : Nat) : Int) := by
   have : (256 : Int) / (pn : Int) = ((256 / pn : Nat) : Int) := rfl
   have h2 : 256 / pn ≤ 256 := Nat.div_le_self _ _
   rw [this]
   generalize 256 / pn = z at h2 ⊢
   rw [w64 (by omega) (by omega)]
  by_cases h : pn ^ i > 256 / pn
  ·refine ⟨0, Ev.succ (Ev.of fun k => ?_), fun h0 => absurd rfl h0⟩
   rw [codewrightref04_Order.l0, if_pos (by omega), if_neg (by omega), hdiv, if_pos (by omega)]
  ·have hle : pn ^ i * pn ≤ 256 := by
    have h1 : pn ^ i ≤ 256 / pn := by omega
    exact (Nat.le_div_iff_mul_le (by omega)).1 h1
   rw [← Nat.pow_succ] at hle
   obtain ⟨q, e, hq⟩ := ih (i + 1) (by omega) hle
   refine ⟨q, Ev.succ (e.congr fun k => ?_), hq⟩
   have hmul : wrap64 (((pn ^ i : Nat) : Int) * (pn : Int)) = ((pn ^ (i + 1) : Nat) : Int) := by
    rw [← Int.natCast_mul, ← Nat.pow_succ, w64 (by omega) (by omega)]
   rw [codewrightref04_Order.l0, if_pos (by omega), if_neg (by omega), hdiv, if_neg (by omega), hmul, wsucc (by omega)]
theorem rOrder (hp1 : p < 9223372036854775808) : ∃ q, Ev (fun k => codewrightref04_Order.f k p m md) q ∧ (q ≠ 0 → ∃ pn mn : Nat, p = pn ∧ m = mn ∧ 2 ≤ pn ∧ 1 ≤ mn ∧ mn ≤ 8 ∧ q = ((pn ^ mn : Nat) : Int) ∧ pn ^ mn ≤ 256) := by
 have jt : Ev (fun k => codewrightref04_Order.j0 k true p m md) 0 := by
  refine Ev.succ (Ev.of fun k => ?_)
  rw [codewrightref04_Order.j0, if_pos rfl]
 by_cases h1 : p < 2
 ·refine ⟨0, ?_, fun h => absurd rfl h⟩
  unfold codewrightref04_Order.f
  exact Ev.pos h1 jt
 by_cases h2 : m < 1
 ·refine ⟨0, ?_, fun h => absurd rfl h⟩
  unfold codewrightref04_Order.f
  exact Ev.neg h1 (Ev.pos h2 jt)
 by_cases h3 : m > 8
 ·refine ⟨0, ?_, fun h => absurd rfl h⟩
  unfold codewrightref04_Order.f
  refine Ev.neg h1 (Ev.neg h2 ?_)
  rw [decide_eq_true h3]; exact jt
 obtain ⟨pn, rfl⟩ : ∃ pn : Nat, p = (pn : Int) := ⟨p.toNat, by omega⟩
 obtain ⟨mn, rfl⟩ : ∃ mn : Nat, m = (mn : Int) := ⟨m.toNat, by omega⟩
 obtain ⟨q, e, hq⟩ := rOrder_at (md := md) (pn := pn) (mn := mn) (by omega) (by omega) (by omega) mn 0 (by omega) (by rw [Nat.pow_zero]; omega)
 refine ⟨q, ?_, fun h => ⟨pn, mn, rfl, rfl, by omega, by omega, by omega, hq h⟩⟩
 unfold codewrightref04_Order.f
 refine Ev.neg h1 (Ev.neg h2 ?_)
 rw [decide_eq_false h3]
 refine Ev.succ ?_
 conv => enter [1, k]; rw [codewrightref04_Order.j0, if_neg (by decide)]
 exact e
end
theorem prime_ends {n : Nat} (hn : n ≤ 1000) : ∀ (d i : Nat), d + i = n → 2 ≤ i → Ends (fun k => codewrightref04_prime.l0 k (n : Int) (i : Int)) := by
 intro d
 induction d with
 | zero =>
  intro i hd hi
  refine Ends.succ ?_
  conv => arg 1; intro k; rw [codewrightref04_prime.l0, if_neg (show ¬ (i : Int) < (n : Int) by omega)]
  exact Ends.const _
 | succ d ih =>
  intro i hd hi
  refine Ends.succ ?_
  conv => arg 1; intro k; rw [codewrightref04_prime.l0, if_pos (show (i : Int) < (n : Int) by omega), if_neg (show ¬ (i : Int) = 0 by omega), wsucc (by omega)]
  exact Ends.ite (fun _ => Ends.const _) fun _ => ih (i + 1) (by omega) (by omega)
theorem prime_all {n : Nat} (hn : n ≤ 1000) (h2 : 2 ≤ n) : Ends (fun k => codewrightref04_prime.f k (n : Int)) := prime_ends hn (n - 2) 2 (by omega) (by omega)
theorem digits_len {b : Int} (hb : b ≠ 0) {l : Nat} (hl : l ≤ 1000) : ∀ (d i : Nat) (x : Int) (o : List Int), d + i = l → o.length = l → ∃ r, Ev (fun k => codewrightref04_digits.l0 k x b (l : Int) o (i : Int)) r ∧ r.length = l := by
 intro d
 induction d with
 | zero =>
  intro i x o hd ho
  refine ⟨o, Ev.succ (Ev.of fun k => ?_), ho⟩
  rw [codewrightref04_digits.l0, if_neg (by omega)]
 | succ d ih =>
  intro i x o hd ho
  obtain ⟨r, e, hr⟩ := ih (i + 1) (wrap64 (Int.tdiv x b)) (o.set i (Int.tmod x b)) (by omega) (by rw [List.length_set]; exact ho)
  refine ⟨r, Ev.succ (e.congr fun k => ?_), hr⟩
  rw [codewrightref04_digits.l0, if_pos (by omega), if_neg hb, if_pos (Int.natCast_nonneg i), if_pos (by omega), Int.toNat_natCast, wsucc (by omega)]
theorem digits_all {b : Int} (hb : b ≠ 0) {l : Nat} (hl : l ≤ 1000) (x : Int) : ∃ r, Ev (fun k => codewrightref04_digits.f k x b (l : Int)) r ∧ r.length = l := by
 obtain ⟨r, e, hr⟩ := digits_len hb hl l 0 x (List.replicate l 0) (by omega) (List.length_replicate ..)
 refine ⟨r, ?_, hr⟩
 unfold codewrightref04_digits.f
 rw [Int.toNat_natCast]
 exact Ev.pos (Int.natCast_nonneg _) (Ev.pos (by omega) e)
theorem div_l2 {r : List Int} (hr : r.length ≤ 1000) : ∀ (d i : Nat), d + i = r.length → Ends (fun k => codewrightref04_divides.l2 k r (i : Int)) := by
 intro d
 induction d with
 | zero =>
  intro i hd
  refine Ends.succ ?_
  conv => arg 1; intro k; rw [codewrightref04_divides.l2, if_neg (show ¬ (i : Int) < (r.length : Int) by omega)]
  exact Ends.const _
 | succ d ih =>
  intro i hd
  refine Ends.succ ?_
  conv => arg 1; intro k; rw [codewrightref04_divides.l2, if_pos (show (i : Int) < (r.length : Int) by omega), if_pos (Int.natCast_nonneg i), wsucc (by omega)]
  exact Ends.ite (fun _ => ih (i + 1) (by omega)) fun _ => Ends.const _
theorem div_l1 {low : List Int} {p : Int} (hp : p ≠ 0) {i n : Nat} (hn : n ≤ 1000) (hin : i < n) (hdi : low.length ≤ i) (next : ∀ r : List Int, r.length = n → Ends (fun k => codewrightref04_divides.l0 k low p (low.length : Int) r (wrap64 ((i : Int) - 1)))) : ∀ (d j : Nat) (r : List Int) (c : Int), d + j = low.length → r.length = n → Ends (fun k => codewrightref04_divides.l1 k low p (low.length : Int) r (i : Int) c (j : Int)) := by
 intro d
 induction d with
 | zero =>
  intro j r c hd hr
  refine Ends.succ ?_
  conv => arg 1; intro k; rw [codewrightref04_divides.l1, if_neg (show ¬ (j : Int) < (low.length : Int) by omega), if_pos (Int.natCast_nonneg i), if_pos (show (i : Int) < (r.length : Int) by omega)]
  exact next _ (by rw [List.length_set]; exact hr)
 | succ d ih =>
  intro j r c hd hr
  have w1 : wrap64 ((i : Int) - (low.length : Int)) = ((i - low.length : Nat) : Int) := by rw [w64 (by omega) (by omega)]; omega
  have w2 : wrap64 (((i - low.length : Nat) : Int) + (j : Int)) = ((i - low.length + j : Nat) : Int) := by rw [w64 (by omega) (by omega)]; omega
  refine Ends.succ ?_
  conv => arg 1; intro k; rw [codewrightref04_divides.l1, if_pos (show (j : Int) < (low.length : Int) by omega), w1, w2, if_pos (Int.natCast_nonneg _), if_pos (show ((i - low.length + j : Nat) : Int) < (r.length : Int) by omega), if_pos (Int.natCast_nonneg j), if_pos (show (j : Int) < (low.length : Int) by omega), if_neg hp, wsucc (show j < 4611686018427387904 by omega)]
  exact ih (j + 1) _ c (by omega) (by rw [List.length_set]; exact hr)
theorem div_l0 {low : List Int} {p : Int} (hp : p ≠ 0) {n : Nat} (hn : n ≤ 1000) : ∀ (i : Nat) (r : List Int), i ≤ n → r.length = n → Ends (fun k => codewrightref04_divides.l0 k low p (low.length : Int) r (wrap64 ((i : Int) - 1))) := by
 intro i
 induction i with
 | zero =>
  intro r hi hr
  by_cases h0 : low.length = 0 ∧ False
  ·exact absurd h0.2 (by simp)
  ·refine Ends.succ ?_
   rw [w64 (by omega) (by omega)]
   conv => arg 1; intro k; rw [codewrightref04_divides.l0, if_neg (show ¬ (((0 : Nat) : Int) - 1) ≥ (low.length : Int) by omega)]
   exact div_l2 (by omega) r.length 0 (by omega)
 | succ i ih =>
  intro r hi hr
  rw [wpred (by omega)]
  refine Ends.succ ?_
  by_cases h : low.length ≤ i
  ·conv => arg 1; intro k; rw [codewrightref04_divides.l0, if_pos (show (i : Int) ≥ (low.length : Int) by omega), if_pos (Int.natCast_nonneg i), if_pos (show (i : Int) < (r.length : Int) by omega)]
   exact div_l1 hp hn (by omega) h (fun r' hr' => ih r' (by omega) hr') low.length 0 r _ (by omega) hr
  ·conv => arg 1; intro k; rw [codewrightref04_divides.l0, if_neg (show ¬ (i : Int) ≥ (low.length : Int) by omega)]
   exact div_l2 (by omega) r.length 0 (by omega)
theorem divides_all {low md : List Int} {p : Int} (hp : p ≠ 0) (hm : md.length ≤ 900) : Ends (fun k => codewrightref04_divides.f k low md p) := by
 have := div_l0 (low := low) hp (n := md.length + 1) (by omega) (md.length + 1) (md ++ [1]) (Nat.le_refl _) (by rw [List.length_append]; rfl)
 unfold codewrightref04_divides.f
 refine Ends.bind' (Ev.const _) (Ends.pos (by simp; omega) (Ends.bind' (Ev.const _) (Ends.pos (by simp; omega) (Ends.bind' (Ev.const _) ?_))))
 have e : (([] ++ md ++ [1] : List Int)).length = md.length + 1 := by simp
 rw [e]
 exact this
theorem irr_l1 {md : List Int} {p : Int} (hp : p ≠ 0) (hm : md.length ≤ 900) {q dd : Nat} (hq : q ≤ 256) (hdd : dd ≤ 1000) (next : Ends (fun k => codewrightref04_irreducible.l0 k md p (q : Int) ((dd + 1 : Nat) : Int))) : ∀ (d n : Nat), d + n = q → Ends (fun k => codewrightref04_irreducible.l1 k md p (q : Int) (dd : Int) (n : Int)) := by
 intro d
 induction d with
 | zero =>
  intro n hd
  refine Ends.succ ?_
  conv => arg 1; intro k; rw [codewrightref04_irreducible.l1, if_neg (show ¬ (n : Int) < (q : Int) by omega), wsucc (by omega)]
  exact next
 | succ d ih =>
  intro n hd
  obtain ⟨low, hlow, _⟩ := digits_all hp (l := dd) hdd (n : Int)
  refine Ends.succ ?_
  conv => arg 1; intro k; rw [codewrightref04_irreducible.l1, if_pos (show (n : Int) < (q : Int) by omega), wsucc (show n < 4611686018427387904 by omega)]
  exact Ends.bind' hlow (Ends.bind (divides_all hp hm) fun t => Ends.ite (fun _ => Ends.const _) fun _ => ih (n + 1) (by omega))
theorem irr_l0 {md : List Int} {pn : Nat} (hp : 2 ≤ pn) (hm : md.length ≤ 8) (hpm : pn ^ md.length ≤ 256) : ∀ (d dd : Nat), d + dd = md.length + 1 → 1 ≤ dd → Ends (fun k => codewrightref04_irreducible.l0 k md (pn : Int) ((pn ^ (dd - 1) : Nat) : Int) (dd : Int)) := by
 intro d
 induction d with
 | zero =>
  intro dd hd h1
  have w1 : wrap64 (2 * (dd : Int)) = ((2 * dd : Nat) : Int) := by rw [w64 (by omega) (by omega)]; omega
  refine Ends.succ ?_
  conv => arg 1; intro k; rw [codewrightref04_irreducible.l0, w1, if_neg (show ¬ ((2 * dd : Nat) : Int) ≤ (md.length : Int) by omega)]
  exact Ends.const _
 | succ d ih =>
  intro dd hd h1
  have w1 : wrap64 (2 * (dd : Int)) = ((2 * dd : Nat) : Int) := by rw [w64 (by omega) (by omega)]; omega
  have hle : pn ^ dd ≤ 256 := Nat.le_trans (Nat.pow_le_pow_right (by omega) (by omega)) hpm
  have e : pn ^ (dd - 1) * pn = pn ^ dd := by
   rw [← Nat.pow_succ]; congr 1; omega
  have w2 : wrap64 (((pn ^ (dd - 1) : Nat) : Int) * (pn : Int)) = ((pn ^ dd : Nat) : Int) := by
   rw [← Int.natCast_mul, e, w64 (by omega) (by omega)]
  have nx := ih (dd + 1) (by omega) (by omega)
  rw [Nat.add_sub_cancel] at nx
  refine Ends.succ ?_
  conv => arg 1; intro k; rw [codewrightref04_irreducible.l0, w1, w2]
  exact Ends.ite (fun _ => irr_l1 (by omega) (by omega) hle (by omega) nx (pn ^ dd) 0 (by omega)) fun _ => Ends.const _
theorem irr_all {md : List Int} {pn : Nat} (hp : 2 ≤ pn) (hm : md.length ≤ 8) (hpm : pn ^ md.length ≤ 256) : Ends (fun k => codewrightref04_irreducible.f k md (pn : Int)) := irr_l0 hp hm hpm md.length 1 (by omega) (Nat.le_refl _)
structure Fld (pn mn : Nat) (md : List Int) : Prop where
 p2 : 2 ≤ pn
 m1 : 1 ≤ mn
 m8 : mn ≤ 8
 q256 : pn ^ mn ≤ 256
 sym : mn ≠ 1 → md.length = mn ∧ ∀ x ∈ md, 0 ≤ x ∧ x < (pn : Int)
 one : mn = 1 → md = []
theorem chk_l0 {pn mn : Nat} {md : List Int} (hp : 2 ≤ pn) (hm : mn ≤ 8) (hl : md.length = mn) (hpm : pn ^ mn ≤ 256) : ∀ (d i : Nat), d + i = mn → (∀ j (h : j < md.length), j < i → 0 ≤ md[j] ∧ md[j] < (pn : Int)) → ∃ e, Ev (fun k => codewrightref04_Check.l0 k (i : Int) (pn : Int) (mn : Int) md) e ∧ (e = 0 → ∀ x ∈ md, 0 ≤ x ∧ x < (pn : Int)) := by
 intro d
 induction d with
 | zero =>
  intro i hd hall
  have all : ∀ x ∈ md, 0 ≤ x ∧ x < (pn : Int) := fun x hx => by
   obtain ⟨j, hj, rfl⟩ := List.getElem_of_mem hx
   exact hall j hj (by omega)
  obtain ⟨b, hb⟩ := irr_all (md := md) hp (by omega) (by rw [hl]; exact hpm)
  refine ⟨if b = true then 0 else 1, Ev.succ ?_, fun _ => all⟩
  conv => enter [1, k]; rw [codewrightref04_Check.l0, if_neg (show ¬ (i : Int) < (mn : Int) by omega)]
  refine Ev.bind hb ?_
  cases b
  ·exact Ev.neg (by decide) (Ev.const _)
  ·exact Ev.pos rfl (Ev.const _)
 | succ d ih =>
  intro i hd hall
  have hi : i < md.length := by omega
  have st : ∀ k, codewrightref04_Check.l0 (k + 1) (i : Int) (pn : Int) (mn : Int) md = if md[i] < 0 then some 1 else if md[i] ≥ (pn : Int) then some 1 else codewrightref04_Check.l0 k ((i + 1 : Nat) : Int) (pn : Int) (mn : Int) md := fun k => by
   rw [codewrightref04_Check.l0, if_pos (by omega), if_pos (Int.natCast_nonneg i), if_pos (by omega), rd_eq md i hi, wsucc (by omega)]
  by_cases h1 : md[i] < 0
  ·refine ⟨1, Ev.succ (Ev.of fun k => ?_), fun h => by omega⟩
   rw [st, if_pos h1]
  ·by_cases h2 : md[i] ≥ (pn : Int)
   ·refine ⟨1, Ev.succ (Ev.of fun k => ?_), fun h => by omega⟩
    rw [st, if_neg h1, if_pos h2]
   ·obtain ⟨e, he, hs⟩ := ih (i + 1) (by omega) fun j hj hji => by
     by_cases hji' : j = i
     ·subst hji'; omega
     ·exact hall j hj (by omega)
    refine ⟨e, Ev.succ (he.congr fun k => ?_), hs⟩
    rw [st, if_neg h1, if_neg h2]
theorem rFieldCheck {p m : Int} {md : List Int} (hp : p < 9223372036854775808) : ∃ e, Ev (fun k => codewrightref04_Check.f k p m md) e ∧ (e = 0 → ∃ pn mn : Nat, p = pn ∧ m = mn ∧ Fld pn mn md) := by
 have jt : Ev (fun k => codewrightref04_Check.j0 k true p m md) 1 := by
  refine Ev.succ (Ev.of fun k => ?_)
  rw [codewrightref04_Check.j0, if_pos rfl]
 obtain ⟨q, hq, hq2⟩ := rOrder (p := p) (m := m) (md := md) hp
 by_cases h0 : q = 0
 ·refine ⟨1, ?_, fun h => by omega⟩
  unfold codewrightref04_Check.f
  exact Ev.bind hq (Ev.pos h0 jt)
 obtain ⟨pn, mn, rfl, rfl, p2, m1, m8, _, hpm⟩ := hq2 h0
 have hp256 : pn ≤ 256 := by
  have : pn ^ 1 ≤ pn ^ mn := Nat.pow_le_pow_right (by omega) m1
  rw [Nat.pow_one] at this; omega
 obtain ⟨b, hb⟩ := prime_all (n := pn) (by omega) p2
 cases hbb : b with
 | false =>
  refine ⟨1, ?_, fun h => by omega⟩
  unfold codewrightref04_Check.f
  refine Ev.bind hq (Ev.neg h0 (Ev.bind hb ?_))
  rw [hbb]; exact jt
 | true =>
  have red : ∀ {e : Int}, Ev (fun k => if (mn : Int) = 1 then (if (md.length : Int) = 0 then some 0 else some 1) else if (md.length : Int) = (mn : Int) then codewrightref04_Check.l0 k 0 (pn : Int) (mn : Int) md else some 1) e → Ev (fun k => codewrightref04_Check.f k (pn : Int) (mn : Int) md) e := fun he => by
   unfold codewrightref04_Check.f
   refine Ev.bind hq (Ev.neg h0 (Ev.bind hb ?_))
   rw [hbb]
   refine Ev.succ ?_
   conv => enter [1, k]; rw [codewrightref04_Check.j0, if_neg (by decide)]
   exact he
  by_cases h1 : mn = 1
  ·by_cases h2 : md.length = 0
   ·exact ⟨0, red (Ev.pos (by omega) (Ev.pos (by omega) (Ev.const _))), fun _ => ⟨pn, mn, rfl, rfl, p2, m1, m8, hpm, fun h => absurd h1 h, fun _ => List.eq_nil_of_length_eq_zero h2⟩⟩
   ·exact ⟨1, red (Ev.pos (by omega) (Ev.neg (by omega) (Ev.const _))), fun h => by omega⟩
  ·by_cases h2 : md.length = mn
   ·obtain ⟨e, he, hs⟩ := chk_l0 (md := md) p2 m8 h2 hpm mn 0 (by omega) (fun j _ h => by omega)
    exact ⟨e, red (Ev.neg (by omega) (Ev.pos (by omega) he)), fun h => ⟨pn, mn, rfl, rfl, p2, m1, m8, hpm, fun _ => ⟨h2, hs h⟩, fun h => absurd h h1⟩⟩
   ·exact ⟨1, red (Ev.neg (by omega) (Ev.neg (by omega) (Ev.const _))), fun h => by omega⟩
end Go.Proofs.Ythheakfgmombdaa.Num
end
section
namespace Go.Proofs.Ythheakfgmombdaa.Num
set_option linter.unusedVariables false
open Go.RowKit Go.Proofs.YthheakfgmombdaaX.PrintWords Go.Proofs.YthheakfgmombdaaX.PrintMore Go.Proofs.Ythheakfgmombdaa.F
def addN (p : Nat) : Nat → Nat → Nat → Nat
 | 0, _, _ => 0
 | m + 1, a, b => (a % p + b % p) % p + p * addN p m (a / p) (b / p)
section
variable {p : Nat}
theorem addN_lt (hp : 0 < p) : ∀ (m a b : Nat), addN p m a b < p ^ m
 | 0, _, _ => by rw [addN, Nat.pow_zero]; omega
 | m + 1, a, b => by
  have h1 := addN_lt hp m (a / p) (b / p)
  have h2 : (a % p + b % p) % p < p := Nat.mod_lt _ hp
  rw [addN, Nat.pow_succ]
  have h3 : p * (addN p m (a / p) (b / p) + 1) ≤ p * p ^ m := Nat.mul_le_mul_left _ h1
  rw [Nat.mul_add, Nat.mul_one] at h3
  rw [Nat.mul_comm (p ^ m) p]; omega
theorem addN_mod (hp : 0 < p) (m a b : Nat) : addN p (m + 1) a b % p = (a % p + b % p) % p := by
 rw [addN, Nat.add_mul_mod_self_left, Nat.mod_mod]
theorem addN_div (hp : 0 < p) (m a b : Nat) : addN p (m + 1) a b / p = addN p m (a / p) (b / p) := by
 rw [addN, Nat.add_mul_div_left _ _ hp, Nat.div_eq_of_lt (Nat.mod_lt _ hp), Nat.zero_add]
theorem addN_comm : ∀ (m a b : Nat), addN p m a b = addN p m b a
 | 0, _, _ => rfl
 | m + 1, a, b => by rw [addN, addN, addN_comm m, Nat.add_comm (a % p)]
theorem addN_assoc (hp : 0 < p) : ∀ (m a b c : Nat), addN p m (addN p m a b) c = addN p m a (addN p m b c)
 | 0, _, _, _ => rfl
 | m + 1, a, b, c => by
  rw [addN, addN_mod hp, addN_div hp, addN_assoc hp m]
  rw [addN.eq_def p (m + 1) a (addN p (m + 1) b c)]
  show _ = (a % p + addN p (m + 1) b c % p) % p + p * addN p m (a / p) (addN p (m + 1) b c / p)
  rw [addN_mod hp, addN_div hp]
  congr 1
  simp only [Nat.mod_add_mod, Nat.add_mod_mod]
  rw [Nat.add_assoc]
theorem addN_zero (hp : 0 < p) : ∀ (m b : Nat), b < p ^ m → addN p m 0 b = b
 | 0, b, h => by rw [Nat.pow_zero] at h; rw [addN]; omega
 | m + 1, b, h => by
  rw [addN, Nat.zero_div, addN_zero hp m (b / p) (by rw [Nat.pow_succ] at h; exact Nat.div_lt_of_lt_mul (by rw [Nat.mul_comm]; exact h)), Nat.zero_mod, Nat.zero_add, Nat.mod_mod]
  exact Nat.mod_add_div b p
def negN (p : Nat) : Nat → Nat → Nat
 | 0, _ => 0
 | m + 1, a => (p - a % p) % p + p * negN p m (a / p)
theorem addN_negN (hp : 0 < p) : ∀ (m a : Nat), addN p m (negN p m a) a = 0
 | 0, _ => rfl
 | m + 1, a => by
  have h2 : (p - a % p) % p < p := Nat.mod_lt _ hp
  have e1 : negN p (m + 1) a % p = (p - a % p) % p := by rw [negN, Nat.add_mul_mod_self_left, Nat.mod_mod]
  have e2 : negN p (m + 1) a / p = negN p m (a / p) := by rw [negN, Nat.add_mul_div_left _ _ hp, Nat.div_eq_of_lt h2, Nat.zero_add]
  rw [addN, e1, e2, addN_negN hp m]
  have h3 : a % p < p := Nat.mod_lt _ hp
  rw [Nat.mod_add_mod, show p - a % p + a % p = p by omega, Nat.mod_self, Nat.mul_zero]
theorem addN_cancel (hp : 0 < p) {m a x : Nat} (hx : x < p ^ m) (ha : a < p ^ m) (h : addN p m a x = a) : x = 0 := by
 have h1 : addN p m (negN p m a) (addN p m a x) = addN p m (negN p m a) a := by rw [h]
 rw [← addN_assoc hp, addN_negN hp, addN_zero hp m x hx] at h1
 exact h1
theorem addN_right (hp : 0 < p) {m a : Nat} (ha : a < p ^ m) : addN p m a 0 = a := by rw [addN_comm, addN_zero hp m a ha]
def dl (p : Nat) : Nat → Nat → List Int
 | 0, _ => []
 | m + 1, x => ((x % p : Nat) : Int) :: dl p m (x / p)
theorem dl_length : ∀ (m x : Nat), (dl p m x).length = m
 | 0, _ => rfl
 | m + 1, x => by rw [dl, List.length_cons, dl_length m]
def Dg (p : Nat) (l : List Int) : Prop := ∀ x ∈ l, 0 ≤ x ∧ x < (p : Int)
theorem Dg_dl (hp : 0 < p) : ∀ (m x : Nat), Dg p (dl p m x)
 | 0, _ => fun _ h => by cases h
 | m + 1, x => fun y hy => by
  rcases List.mem_cons.1 hy with rfl | hy
  ·have := Nat.mod_lt x hp
   omega
  ·exact Dg_dl hp m _ y hy
def vl (p : Nat) : List Int → Nat
 | [] => 0
 | x :: l => x.toNat + p * vl p l
theorem vl_lt : ∀ {l : List Int}, Dg p l → vl p l < p ^ l.length
 | [], _ => by rw [vl, List.length_nil, Nat.pow_zero]; omega
 | x :: l, h => by
  have h1 := vl_lt (l := l) fun y hy => h y (List.mem_cons_of_mem _ hy)
  have h2 := h x List.mem_cons_self
  have h3 : p * (vl p l + 1) ≤ p * p ^ l.length := Nat.mul_le_mul_left _ h1
  rw [Nat.mul_add, Nat.mul_one] at h3
  rw [vl, List.length_cons, Nat.pow_succ, Nat.mul_comm _ p]; omega
theorem lb_cons0 (x : Int) (l : List Int) : lb (x :: l) 0 = x := rfl
theorem lb_cons1 (x : Int) (l : List Int) (j : Nat) : lb (x :: l) (j + 1) = lb l j := rfl
theorem lb_nil (j : Nat) : lb [] j = 0 := rfl
theorem lb_dg {l : List Int} (hp : 0 < p) (h : Dg p l) (j : Nat) : 0 ≤ lb l j ∧ lb l j < (p : Int) := by
 by_cases hj : j < l.length
 ·rw [lb_of_lt hj]; exact h _ (List.getElem_mem hj)
 ·rw [lb_of_ge (by omega)]; omega
theorem dl_addN (hp : 0 < p) : ∀ (m a b j : Nat), lb (dl p m (addN p m a b)) j = (lb (dl p m a) j + lb (dl p m b) j) % (p : Int)
 | 0, _, _, j => by rw [dl, dl, dl, lb_nil]; rfl
 | m + 1, a, b, 0 => by
  rw [dl, dl, dl, lb_cons0, lb_cons0, lb_cons0, addN_mod hp]; rfl
 | m + 1, a, b, j + 1 => by
  rw [dl, dl, dl, lb_cons1, lb_cons1, lb_cons1, addN_div hp]
  exact dl_addN hp m _ _ j
theorem vl_dl (hp : 0 < p) : ∀ (m x : Nat), x < p ^ m → vl p (dl p m x) = x
 | 0, x, h => by rw [Nat.pow_zero] at h; rw [dl, vl]; omega
 | m + 1, x, h => by
  rw [dl, vl, vl_dl hp m (x / p) (by rw [Nat.pow_succ] at h; exact Nat.div_lt_of_lt_mul (by rw [Nat.mul_comm]; exact h)), Int.toNat_natCast]
  exact Nat.mod_add_div x p
theorem vl_add (hp : 0 < p) : ∀ {a b c : List Int}, Dg p a → Dg p b → a.length = c.length → b.length = c.length → (∀ j, lb c j = (lb a j + lb b j) % (p : Int)) → vl p c = addN p c.length (vl p a) (vl p b)
 | [], [], [], _, _, _, _, _ => rfl
 | [], _ :: _, [], _, _, _, h, _ => by simp at h
 | [], _ :: _, _ :: _, _, _, h, _, _ => by simp at h
 | _ :: _, [], [], _, _, h, _, _ => by simp at h
 | _ :: _, [], _ :: _, _, _, _, h, _ => by simp at h
 | [], [], _ :: _, _, _, h, _, _ => by simp at h
 | _ :: _, _ :: _, [], _, _, h, _, _ => by simp at h
 | x :: a, y :: b, z :: c, ha, hb, hl, hl2, h => by
  have hx := ha x List.mem_cons_self
  have hy := hb y List.mem_cons_self
  have h0 : z = (x + y) % (p : Int) := h 0
  have ih := vl_add hp (a := a) (b := b) (c := c) (fun u hu => ha u (List.mem_cons_of_mem _ hu)) (fun u hu => hb u (List.mem_cons_of_mem _ hu)) (by simpa using hl) (by simpa using hl2) (fun j => h (j + 1))
  obtain ⟨xn, rfl⟩ : ∃ n : Nat, x = (n : Int) := ⟨x.toNat, by omega⟩
  obtain ⟨yn, rfl⟩ : ∃ n : Nat, y = (n : Int) := ⟨y.toNat, by omega⟩
  have hz : z = (((xn + yn) % p : Nat) : Int) := by rw [h0]; rfl
  have m1 : (xn + p * vl p a) % p = xn := by rw [Nat.add_mul_mod_self_left, Nat.mod_eq_of_lt (by omega)]
  have m2 : (yn + p * vl p b) % p = yn := by rw [Nat.add_mul_mod_self_left, Nat.mod_eq_of_lt (by omega)]
  have d1 : (xn + p * vl p a) / p = vl p a := by rw [Nat.add_mul_div_left _ _ hp, Nat.div_eq_of_lt (by omega), Nat.zero_add]
  have d2 : (yn + p * vl p b) / p = vl p b := by rw [Nat.add_mul_div_left _ _ hp, Nat.div_eq_of_lt (by omega), Nat.zero_add]
  rw [vl, vl, vl, List.length_cons, addN, ih, hz, Int.toNat_natCast, Int.toNat_natCast, Int.toNat_natCast, m1, m2, d1, d2]
end
section
variable {pn mn : Nat} {md : List Int}
theorem Fld.p256 (F : Fld pn mn md) : pn ≤ 256 := by
 have h1 : pn ^ 1 ≤ pn ^ mn := Nat.pow_le_pow_right (by have := F.p2; omega) F.m1
 have h2 := F.q256
 rw [Nat.pow_one] at h1
 omega
theorem Fld.q2 (F : Fld pn mn md) : 2 ≤ pn ^ mn := by
 have h1 : pn ^ 1 ≤ pn ^ mn := Nat.pow_le_pow_right (by have := F.p2; omega) F.m1
 have h2 := F.p2
 rw [Nat.pow_one] at h1
 omega
theorem rOrderF_at (F : Fld pn mn md) : ∀ (d i : Nat), d + i = mn → Ev (fun k => codewrightref04_Order.l0 k ((pn ^ i : Nat) : Int) (i : Int) (pn : Int) (mn : Int) md) ((pn ^ mn : Nat) : Int) := by
 have hp := F.p2
 have hm := F.m8
 have hq := F.q256
 intro d
 induction d with
 | zero =>
  intro i hd
  obtain rfl : i = mn := by omega
  refine Ev.succ (Ev.of fun k => ?_)
  rw [codewrightref04_Order.l0, if_neg (by omega)]
 | succ d ih =>
  intro i hd
  have hle : pn ^ (i + 1) ≤ 256 := Nat.le_trans (Nat.pow_le_pow_right (by omega) (by omega)) hq
  have h1 : pn ^ i ≤ 256 / pn := (Nat.le_div_iff_mul_le (by omega)).2 (by rw [← Nat.pow_succ]; exact hle)
  have hdiv : wrap64 ((256 : Int) / (pn : Int)) = ((256 / pn : Nat) : Int) := by
   have : (256 : Int) / (pn : Int) = ((256 / pn : Nat) : Int) := rfl
   have h2 : 256 / pn ≤ 256 := Nat.div_le_self _ _
   rw [this]
   clear h1
   generalize 256 / pn = z at h2 ⊢
   rw [w64 (by omega) (by omega)]
  have hmul : wrap64 (((pn ^ i : Nat) : Int) * (pn : Int)) = ((pn ^ (i + 1) : Nat) : Int) := by
   rw [← Int.natCast_mul, ← Nat.pow_succ]
   clear hdiv h1
   show wrap64 ((pn ^ (i + 1) : Nat) : Int) = _
   generalize pn ^ (i + 1) = z at hle ⊢
   rw [w64 (by omega) (by omega)]
  have hng : ¬ ((pn ^ i : Nat) : Int) > ((256 / pn : Nat) : Int) := by
   have := Int.ofNat_le.2 h1
   omega
  refine Ev.succ ((ih (i + 1) (by omega)).congr fun k => ?_)
  rw [codewrightref04_Order.l0, if_pos (by clear hng hdiv hmul h1; omega), if_neg (by clear hng hdiv hmul h1; omega), hdiv, if_neg hng, hmul, wsucc (by clear hng hdiv hmul h1; omega)]
theorem rOrderF (F : Fld pn mn md) : Ev (fun k => codewrightref04_Order.f k (pn : Int) (mn : Int) md) ((pn ^ mn : Nat) : Int) := by
 have hp := F.p2
 have hm1 := F.m1
 have hm := F.m8
 unfold codewrightref04_Order.f
 refine Ev.neg (by omega) (Ev.neg (by omega) ?_)
 rw [decide_eq_false (by omega)]
 refine Ev.succ ?_
 conv => enter [1, k]; rw [codewrightref04_Order.j0, if_neg (by decide)]
 exact rOrderF_at F mn 0 (by omega)
def inn (q : Nat) (x : Int) : Nat := if 0 ≤ x ∧ x < (q : Int) then x.toNat else 0
theorem inn_lt {q : Nat} (hq : 0 < q) (x : Int) : inn q x < q := by unfold inn; split <;> omega
theorem inn_nat {q a : Nat} (h : a < q) : inn q (a : Int) = a := by unfold inn; rw [if_pos (by omega), Int.toNat_natCast]
theorem rInF (F : Fld pn mn md) (x : Int) : Ev (fun k => codewrightref04_In.f k (pn : Int) (mn : Int) md x) ((inn (pn ^ mn) x : Nat) : Int) := by
 have is : Ev (fun k => codewrightref04_Is.f k (pn : Int) (mn : Int) md x) (decide (0 ≤ x ∧ x < ((pn ^ mn : Nat) : Int))) := by
  unfold codewrightref04_Is.f
  refine Ev.ite (fun h => ?_) fun h => ?_
  ·have e : decide (0 ≤ x ∧ x < ((pn ^ mn : Nat) : Int)) = decide (x < ((pn ^ mn : Nat) : Int)) := by
    congr 1; exact propext ⟨fun a => a.2, fun a => ⟨h, a⟩⟩
   rw [e]
   exact Ev.bind (rOrderF F) (Ev.const _)
  ·rw [decide_eq_false (fun a => h a.1)]; exact Ev.const _
 unfold codewrightref04_In.f
 refine Ev.bind is (Ev.ite (fun h => ?_) fun h => ?_)
 ·have h' := of_decide_eq_true h
  have e : ((inn (pn ^ mn) x : Nat) : Int) = x := by unfold inn; rw [if_pos h']; omega
  rw [e]; exact Ev.const _
 ·have h' : ¬ (0 ≤ x ∧ x < ((pn ^ mn : Nat) : Int)) := fun a => h (decide_eq_true a)
  have e : ((inn (pn ^ mn) x : Nat) : Int) = 0 := by unfold inn; rw [if_neg h']; rfl
  rw [e]; exact Ev.const _
theorem set_snoc (pre : List Int) (d : Nat) (v : Int) : (pre ++ List.replicate (d + 1) 0).set pre.length v = (pre ++ [v]) ++ List.replicate d 0 := by
 rw [List.set_append_right _ _ (Nat.le_refl _), Nat.sub_self, List.replicate_succ, List.set_cons_zero, List.append_assoc]; rfl
theorem rdigits_at (hp : 2 ≤ pn) (hm : mn ≤ 8) : ∀ (d i x : Nat) (pre : List Int), d + i = mn → pre.length = i → x < 4611686018427387904 → Ev (fun k => codewrightref04_digits.l0 k (x : Int) (pn : Int) (mn : Int) (pre ++ List.replicate d 0) (i : Int)) (pre ++ dl pn d x) := by
 intro d
 induction d with
 | zero =>
  intro i x pre hd hpre hx
  refine Ev.succ (Ev.of fun k => ?_)
  rw [codewrightref04_digits.l0, if_neg (by omega)]; rfl
 | succ d ih =>
  intro i x pre hd hpre hx
  have hdx : x / pn ≤ x := Nat.div_le_self _ _
  have e := ih (i + 1) (x / pn) (pre ++ [((x % pn : Nat) : Int)]) (by omega) (by rw [List.length_append, hpre]; rfl) (by omega)
  have hq : wrap64 (Int.tdiv (x : Int) (pn : Int)) = ((x / pn : Nat) : Int) := by
   rw [Int.tdiv_eq_ediv_of_nonneg (Int.natCast_nonneg x), ← Int.natCast_ediv]
   generalize x / pn = z at hdx ⊢
   rw [w64 (by omega) (by omega)]
  have hmo : Int.tmod (x : Int) (pn : Int) = ((x % pn : Nat) : Int) := by rw [Int.tmod_eq_emod_of_nonneg (Int.natCast_nonneg x)]; rfl
  have hl : (i : Int) < ((pre ++ List.replicate (d + 1) 0).length : Int) := by rw [List.length_append, List.length_replicate]; omega
  rw [List.append_assoc pre _ (dl pn d (x / pn))] at e
  refine Ev.succ (Ev.congr' (e.congr fun k => ?_) rfl)
  rw [codewrightref04_digits.l0, if_pos (by omega), if_neg (by omega), if_pos (Int.natCast_nonneg i), if_pos hl, hq, hmo, Int.toNat_natCast, wsucc (by omega)]
  have hs := set_snoc pre d ((x % pn : Nat) : Int)
  rw [hpre] at hs
  rw [hs]
theorem rDigitsF (F : Fld pn mn md) {a : Nat} (ha : a < pn ^ mn) : Ev (fun k => codewrightref04_Digits.f k (pn : Int) (mn : Int) md (a : Int)) (dl pn mn a) := by
 have h := rInF F (a : Int)
 rw [inn_nat ha] at h
 have hq := F.q256
 have hm := F.m8
 unfold codewrightref04_Digits.f
 refine Ev.bind h (Ev.bind ?_ (Ev.const _))
 unfold codewrightref04_digits.f
 rw [Int.toNat_natCast]
 exact Ev.pos (Int.natCast_nonneg _) (Ev.pos (by omega) (rdigits_at F.p2 hm mn 0 a [] (by omega) rfl (by omega)))
theorem rValue_at (F : Fld pn mn md) {l : List Int} (hl : l.length = mn) (hd : Dg pn l) : ∀ n, n ≤ mn → Ev (fun k => codewrightref04_Value.l0 k l ((vl pn (l.drop n) : Nat) : Int) (wrap64 ((n : Int) - 1)) (pn : Int) (mn : Int) md) ((vl pn l : Nat) : Int) := by
 have hm := F.m8
 intro n
 induction n with
 | zero =>
  intro _
  rw [List.drop_zero, w64 (by omega) (by omega)]
  refine Ev.succ (Ev.of fun k => ?_)
  rw [codewrightref04_Value.l0, if_neg (by omega)]
 | succ n ih =>
  intro hn
  have hi : n < l.length := by omega
  have e := ih (by omega)
  have hx := hd l[n] (List.getElem_mem hi)
  have hdr : l.drop n = l[n] :: l.drop (n + 1) := List.drop_eq_getElem_cons hi
  have hv : vl pn (l.drop n) = l[n].toNat + pn * vl pn (l.drop (n + 1)) := by rw [hdr, vl]
  have hlt : vl pn (l.drop n) < pn ^ mn := Nat.lt_of_lt_of_le (vl_lt fun x h => hd x (List.mem_of_mem_drop h)) (Nat.pow_le_pow_right (by have := F.p2; omega) (by rw [List.length_drop]; omega))
  have hq := F.q256
  have hb : pn * vl pn (l.drop (n + 1)) ≤ vl pn (l.drop n) := by rw [hv]; exact Nat.le_add_left _ _
  have w1 : wrap64 (((vl pn (l.drop (n + 1)) : Nat) : Int) * (pn : Int)) = ((pn * vl pn (l.drop (n + 1)) : Nat) : Int) := by
   rw [← Int.natCast_mul, Nat.mul_comm]
   generalize pn * vl pn (l.drop (n + 1)) = z at hb ⊢
   rw [w64 (by omega) (by omega)]
  have w2 : wrap64 (((pn * vl pn (l.drop (n + 1)) : Nat) : Int) + l[n]) = ((vl pn (l.drop n) : Nat) : Int) := by
   have : ((pn * vl pn (l.drop (n + 1)) : Nat) : Int) + l[n] = ((vl pn (l.drop n) : Nat) : Int) := by
    rw [hv]
    generalize pn * vl pn (l.drop (n + 1)) = z
    omega
   rw [this]
   clear hb w1 hv this
   generalize vl pn (l.drop n) = z at hlt ⊢
   rw [w64 (by omega) (by omega)]
  rw [wpred (by omega)]
  refine Ev.succ (e.congr fun k => ?_)
  rw [codewrightref04_Value.l0, if_pos (by omega), if_pos (Int.natCast_nonneg n), if_pos (by omega), rd_eq l n hi, w1, w2]
theorem rValueF (F : Fld pn mn md) {l : List Int} (hl : l.length = mn) (hd : Dg pn l) : Ev (fun k => codewrightref04_Value.f k (pn : Int) (mn : Int) md l) ((vl pn l : Nat) : Int) := by
 have := rValue_at F hl hd mn (Nat.le_refl _)
 rw [List.drop_eq_nil_of_le (by omega)] at this
 unfold codewrightref04_Value.f
 rw [hl]
 exact this
theorem Dg_set {p : Nat} {l : List Int} (h : Dg p l) {i : Nat} {v : Int} (h0 : 0 ≤ v) (h1 : v < (p : Int)) : Dg p (l.set i v) := fun x hx => by
 rcases List.mem_or_eq_of_mem_set hx with h' | rfl
 ·exact h x h'
 ·exact ⟨h0, h1⟩
theorem rAddF (F : Fld pn mn md) {a b : Nat} (ha : a < pn ^ mn) (hb : b < pn ^ mn) : Ev (fun k => codewrightref04_Add.f k (pn : Int) (mn : Int) md (a : Int) (b : Int)) ((addN pn mn a b : Nat) : Int) := by
 have hp := F.p2
 have hm := F.m8
 have h256 := F.p256
 have dA := Dg_dl (p := pn) (by omega) mn a
 have dB := Dg_dl (p := pn) (by omega) mn b
 have lA := dl_length (p := pn) mn a
 have lB := dl_length (p := pn) mn b
 have loop : ∀ (d i : Nat) (z : List Int), d + i = mn → z.length = mn → Dg pn z → (∀ j, lb z j = if j < i then (lb (dl pn mn a) j + lb (dl pn mn b) j) % (pn : Int) else lb (dl pn mn a) j) → Ev (fun k => codewrightref04_Add.l0 k z (dl pn mn b) (i : Int) (pn : Int) (mn : Int) md) ((addN pn mn a b : Nat) : Int) := by
  intro d
  induction d with
  | zero =>
   intro i z hd hz hdz hj
   refine Ev.succ ?_
   conv => enter [1, k]; rw [codewrightref04_Add.l0, if_neg (show ¬ (i : Int) < (z.length : Int) by omega)]
   have hv := vl_add (p := pn) (by omega) dA dB (by rw [lA, hz]) (by rw [lB, hz]) (c := z) fun j => by
    rw [hj]
    by_cases h : j < i
    ·rw [if_pos h]
    ·rw [if_neg h, lb_of_ge (a := dl pn mn a) (by omega), lb_of_ge (a := dl pn mn b) (by omega)]; simp
   have e := rValueF F hz hdz
   rw [hv, hz, vl_dl (by omega) mn a ha, vl_dl (by omega) mn b hb] at e
   exact Ev.bind e (Ev.const _)
  | succ d ih =>
   intro i z hd hz hdz hj
   have ba := lb_dg (by omega) dA i
   have bb := lb_dg (by omega) dB i
   have hzi : lb z i = lb (dl pn mn a) i := by rw [hj, if_neg (by omega)]
   have hw : Int.tmod (wrap64 (lb (dl pn mn a) i + lb (dl pn mn b) i)) (pn : Int) = (lb (dl pn mn a) i + lb (dl pn mn b) i) % (pn : Int) := by
    rw [w64 (by omega) (by omega), Int.tmod_eq_emod_of_nonneg (by omega)]
   have r0 := Int.emod_nonneg (lb (dl pn mn a) i + lb (dl pn mn b) i) (show (pn : Int) ≠ 0 by omega)
   have r1 := Int.emod_lt_of_pos (lb (dl pn mn a) i + lb (dl pn mn b) i) (show (0 : Int) < (pn : Int) by omega)
   have e := ih (i + 1) (z.set i ((lb (dl pn mn a) i + lb (dl pn mn b) i) % (pn : Int))) (by omega) (by rw [List.length_set]; exact hz) (Dg_set hdz r0 r1) fun j => by
    rw [lb_set (by omega)]
    by_cases h : i = j
    ·subst h; rw [if_pos rfl, if_pos (by omega)]
    ·rw [if_neg h, hj]
     by_cases h2 : j < i
     ·rw [if_pos h2, if_pos (by omega)]
     ·rw [if_neg h2, if_neg (by omega)]
   refine Ev.succ (e.congr fun k => ?_)
   rw [codewrightref04_Add.l0, if_pos (by clear hw r0 r1; omega), if_pos (Int.natCast_nonneg i), if_pos (by clear hw r0 r1; omega), if_neg (by clear hw r0 r1; omega), rd_lb, rd_lb, hzi, hw, Int.toNat_natCast, wsucc (by clear hw r0 r1; omega)]
 unfold codewrightref04_Add.f
 exact Ev.bind (rDigitsF F ha) (Ev.bind (rDigitsF F hb) (loop mn 0 _ (by omega) lA dA fun j => by rw [if_neg (by omega)]))
end
end Go.Proofs.Ythheakfgmombdaa.Num
end
section
namespace Go.Proofs.Ythheakfgmombdaa.Num
set_option linter.unusedVariables false
open Go.RowKit Go.Proofs.YthheakfgmombdaaX.PrintWords Go.Proofs.YthheakfgmombdaaX.PrintMore Go.Proofs.Ythheakfgmombdaa.F
theorem emod_of {a b P w : Int} (h : a = b + P * w) : a % P = b % P := by rw [h, Int.add_mul_emod_self_left]
theorem lin_step {P z1 z2 x1 x2 y : Int} : ((z1 + z2) % P + (x1 + x2) % P * y) % P = ((z1 + x1 * y) % P + (z2 + x2 * y) % P) % P := by
 rw [← Int.add_emod]
 have e1 := Int.mul_ediv_add_emod (z1 + z2) P
 have e2 := Int.mul_ediv_add_emod (x1 + x2) P
 refine emod_of (w := -((z1 + z2) / P) - ((x1 + x2) / P) * y) ?_
 generalize (z1 + z2) % P = r1 at *
 generalize (x1 + x2) % P = r2 at *
 generalize (z1 + z2) / P = q1 at *
 generalize (x1 + x2) / P = q2 at *
 grind
theorem lin_step2 {P z1 z2 x1 x2 y : Int} : ((z1 + z2) % P + (P - (x1 + x2) % P) * y) % P = ((z1 + (P - x1) * y) % P + (z2 + (P - x2) * y) % P) % P := by
 rw [← Int.add_emod]
 have e1 := Int.mul_ediv_add_emod (z1 + z2) P
 have e2 := Int.mul_ediv_add_emod (x1 + x2) P
 refine emod_of (w := -((z1 + z2) / P) + ((x1 + x2) / P) * y - y) ?_
 generalize (z1 + z2) % P = r1 at *
 generalize (x1 + x2) % P = r2 at *
 generalize (z1 + z2) / P = q1 at *
 generalize (x1 + x2) / P = q2 at *
 grind
structure Rel (p n : Nat) (z1 z2 z3 : List Int) : Prop where
 l1 : z1.length = n
 l2 : z2.length = n
 l3 : z3.length = n
 d1 : Dg p z1
 d2 : Dg p z2
 d3 : Dg p z3
 s : ∀ j, lb z3 j = (lb z1 j + lb z2 j) % (p : Int)
theorem Rel.set {p n : Nat} {z1 z2 z3 : List Int} (h : Rel p n z1 z2 z3) {i : Nat} (hi : i < n) {v1 v2 v3 : Int} (a1 : 0 ≤ v1 ∧ v1 < (p : Int)) (a2 : 0 ≤ v2 ∧ v2 < (p : Int)) (a3 : 0 ≤ v3 ∧ v3 < (p : Int)) (hv : v3 = (v1 + v2) % (p : Int)) : Rel p n (z1.set i v1) (z2.set i v2) (z3.set i v3) where
 l1 := by rw [List.length_set]; exact h.l1
 l2 := by rw [List.length_set]; exact h.l2
 l3 := by rw [List.length_set]; exact h.l3
 d1 := Dg_set h.d1 a1.1 a1.2
 d2 := Dg_set h.d2 a2.1 a2.2
 d3 := Dg_set h.d3 a3.1 a3.2
 s := fun j => by
  have h1 := h.l1
  have h2 := h.l2
  have h3 := h.l3
  rw [lb_set (by omega), lb_set (by omega), lb_set (by omega)]
  by_cases e : i = j
  ·rw [if_pos e, if_pos e, if_pos e]; exact hv
  ·rw [if_neg e, if_neg e, if_neg e]; exact h.s j
def Three (p m : Nat) (f1 f2 f3 : Nat → Option Int) : Prop := ∃ v1 v2 : Nat, (v1 < p ^ m ∧ v2 < p ^ m) ∧ Ev f1 (v1 : Int) ∧ Ev f2 (v2 : Int) ∧ Ev f3 ((addN p m v1 v2 : Nat) : Int)
theorem Three.step {p m : Nat} {f1 f2 f3 g1 g2 g3 : Nat → Option Int} (h : Three p m g1 g2 g3) (e1 : ∀ k, f1 (k + 1) = g1 k) (e2 : ∀ k, f2 (k + 1) = g2 k) (e3 : ∀ k, f3 (k + 1) = g3 k) : Three p m f1 f2 f3 := by
 obtain ⟨v1, v2, hv, a1, a2, a3⟩ := h
 exact ⟨v1, v2, hv, Ev.succ (a1.congr e1), Ev.succ (a2.congr e2), Ev.succ (a3.congr e3)⟩
section
variable {pn mn : Nat} {md : List Int}
theorem mbound {x y z : Int} {p : Int} (x0 : 0 ≤ x) (x1 : x < p) (y0 : 0 ≤ y) (y1 : y < p) (z0 : 0 ≤ z) (z1 : z < p) (hp : p ≤ 256) : 0 ≤ x * y ∧ x * y ≤ 65536 ∧ 0 ≤ z + x * y ∧ z + x * y ≤ 70000 := by
 have h1 := Int.mul_nonneg x0 y0
 have h2 : x * y ≤ 256 * 256 := Int.mul_le_mul (by omega) (by omega) y0 (by omega)
 omega
theorem tm {x p : Int} (h : 0 ≤ x) (hb : x < 9223372036854775808) : Int.tmod (wrap64 x) p = x % p := by rw [w64 (by omega) hb, Int.tmod_eq_emod_of_nonneg h]
theorem mul_l2 (F : Fld pn mn md) (hmd : mn ≠ 1) : ∀ (n : Nat) (z1 z2 z3 : List Int), n ≤ 2 * mn - 1 → mn ≤ n → Rel pn (2 * mn - 1) z1 z2 z3 → Three pn mn (fun k => codewrightref04_Mul.l2 k z1 (wrap64 ((n : Int) - 1)) (pn : Int) (mn : Int) md) (fun k => codewrightref04_Mul.l2 k z2 (wrap64 ((n : Int) - 1)) (pn : Int) (mn : Int) md) (fun k => codewrightref04_Mul.l2 k z3 (wrap64 ((n : Int) - 1)) (pn : Int) (mn : Int) md) := by
 have hp := F.p2
 have h256 := F.p256
 have hm := F.m8
 have hm1 := F.m1
 obtain ⟨lmd, dmd⟩ := F.sym hmd
 have last : ∀ (z1 z2 z3 : List Int), Rel pn (2 * mn - 1) z1 z2 z3 → Three pn mn (fun k => codewrightref04_Mul.l2 k z1 (wrap64 ((mn : Int) - 1)) (pn : Int) (mn : Int) md) (fun k => codewrightref04_Mul.l2 k z2 (wrap64 ((mn : Int) - 1)) (pn : Int) (mn : Int) md) (fun k => codewrightref04_Mul.l2 k z3 (wrap64 ((mn : Int) - 1)) (pn : Int) (mn : Int) md) := fun z1 z2 z3 h => by
  have one : ∀ {z : List Int}, z.length = 2 * mn - 1 → Dg pn z → Ev (fun k => codewrightref04_Mul.l2 k z (wrap64 ((mn : Int) - 1)) (pn : Int) (mn : Int) md) ((vl pn (z.take mn) : Nat) : Int) := fun {z} hl hd => by
   have e := rValueF F (l := z.take mn) (by rw [List.length_take]; omega) (fun x hx => hd x (List.mem_of_mem_take hx))
   refine Ev.succ ?_
   rw [w64 (by omega) (by omega)]
   conv => enter [1, k]; rw [codewrightref04_Mul.l2, if_neg (show ¬ ((mn : Int) - 1) ≥ (mn : Int) by omega), if_pos (Int.natCast_nonneg mn), if_pos (show (mn : Int) ≤ (z.length : Int) by omega), Int.toNat_natCast]
   exact Ev.bind e (Ev.const _)
  have lbt : ∀ (z : List Int) (j : Nat), lb (z.take mn) j = if j < mn then lb z j else 0 := fun z j => by
   unfold lb
   rw [List.getD_eq_getElem?_getD, List.getD_eq_getElem?_getD, List.getElem?_take]
   by_cases h : j < mn
   ·rw [if_pos h, if_pos h]
   ·rw [if_neg h, if_neg h]; rfl
  have t1 : (z1.take mn).length = mn := by rw [List.length_take, h.l1]; omega
  have t2 : (z2.take mn).length = mn := by rw [List.length_take, h.l2]; omega
  have t3 : (z3.take mn).length = mn := by rw [List.length_take, h.l3]; omega
  have g1 : Dg pn (z1.take mn) := fun x hx => h.d1 x (List.mem_of_mem_take hx)
  have g2 : Dg pn (z2.take mn) := fun x hx => h.d2 x (List.mem_of_mem_take hx)
  have hv := vl_add (p := pn) (by omega) g1 g2 (c := z3.take mn) (by rw [t1, t3]) (by rw [t2, t3]) fun j => by
   rw [lbt, lbt, lbt]
   by_cases hj : j < mn
   ·rw [if_pos hj, if_pos hj, if_pos hj]; exact h.s j
   ·rw [if_neg hj, if_neg hj, if_neg hj]; simp
  rw [t3] at hv
  refine ⟨vl pn (z1.take mn), vl pn (z2.take mn), ⟨by have := vl_lt g1; rwa [t1] at this, by have := vl_lt g2; rwa [t2] at this⟩, one h.l1 h.d1, one h.l2 h.d2, ?_⟩
  rw [← hv]; exact one h.l3 h.d3
 have inner : ∀ (t : Nat), mn ≤ t → t < 2 * mn - 1 → (∀ z1 z2 z3, Rel pn (2 * mn - 1) z1 z2 z3 → Three pn mn (fun k => codewrightref04_Mul.l2 k z1 (wrap64 ((t : Int) - 1)) (pn : Int) (mn : Int) md) (fun k => codewrightref04_Mul.l2 k z2 (wrap64 ((t : Int) - 1)) (pn : Int) (mn : Int) md) (fun k => codewrightref04_Mul.l2 k z3 (wrap64 ((t : Int) - 1)) (pn : Int) (mn : Int) md)) →
   ∀ (d j : Nat) (z1 z2 z3 : List Int), d + j = mn → Rel pn (2 * mn - 1) z1 z2 z3 → Three pn mn (fun k => codewrightref04_Mul.l3 k z1 (t : Int) (j : Int) (pn : Int) (mn : Int) md) (fun k => codewrightref04_Mul.l3 k z2 (t : Int) (j : Int) (pn : Int) (mn : Int) md) (fun k => codewrightref04_Mul.l3 k z3 (t : Int) (j : Int) (pn : Int) (mn : Int) md) := by
  intro t ht1 ht2 next d
  induction d with
  | zero =>
   intro j z1 z2 z3 hd h
   have st : ∀ (z : List Int) (k : Nat), codewrightref04_Mul.l3 (k + 1) z (t : Int) (j : Int) (pn : Int) (mn : Int) md = codewrightref04_Mul.l2 k z (wrap64 ((t : Int) - 1)) (pn : Int) (mn : Int) md := fun z k => by
    rw [codewrightref04_Mul.l3, if_neg (by omega)]
   exact (next z1 z2 z3 h).step (st z1) (st z2) (st z3)
  | succ d ih =>
   intro j z1 z2 z3 hd h
   have hj : j < mn := by omega
   have hmj : 0 ≤ lb md j ∧ lb md j < (pn : Int) := lb_dg (by omega) dmd j
   have bnd : ∀ {z : List Int}, Dg pn z → (0 ≤ (pn : Int) - lb z t ∧ (pn : Int) - lb z t ≤ 256) := fun {z} hz => by
    have := lb_dg (by omega) hz t
    omega
   have bd : ∀ {z : List Int}, Dg pn z → 0 ≤ ((pn : Int) - lb z t) * lb md j ∧ ((pn : Int) - lb z t) * lb md j ≤ 65536 ∧ 0 ≤ lb z (t - mn + j) + ((pn : Int) - lb z t) * lb md j ∧ lb z (t - mn + j) + ((pn : Int) - lb z t) * lb md j ≤ 70000 := fun {z} hz => by
    have b1 := bnd hz
    have b2 := lb_dg (by omega) hz (t - mn + j)
    have h1 := Int.mul_nonneg b1.1 hmj.1
    have h2 : ((pn : Int) - lb z t) * lb md j ≤ 256 * 256 := Int.mul_le_mul b1.2 (by omega) hmj.1 (by omega)
    omega
   have st : ∀ {z : List Int}, z.length = 2 * mn - 1 → Dg pn z → ∀ k, codewrightref04_Mul.l3 (k + 1) z (t : Int) (j : Int) (pn : Int) (mn : Int) md = codewrightref04_Mul.l3 k (z.set (t - mn + j) ((lb z (t - mn + j) + ((pn : Int) - lb z t) * lb md j) % (pn : Int))) (t : Int) ((j + 1 : Nat) : Int) (pn : Int) (mn : Int) md := fun {z} hl hz k => by
    have b := bd hz
    have b1 := bnd hz
    have w1 : wrap64 ((t : Int) - (mn : Int)) = ((t - mn : Nat) : Int) := by rw [w64 (by clear b; omega) (by clear b; omega)]; clear b; omega
    have w2 : wrap64 (((t - mn : Nat) : Int) + (j : Int)) = ((t - mn + j : Nat) : Int) := by rw [w64 (by clear b w1; omega) (by clear b w1; omega)]; clear b w1; omega
    have w3 : wrap64 ((pn : Int) - lb z t) = (pn : Int) - lb z t := w64 (by clear b w1 w2; omega) (by clear b w1 w2; omega)
    have g1 : (j : Int) < (mn : Int) := by clear b w1 w2 w3; omega
    have g2 : ((t - mn + j : Nat) : Int) < (z.length : Int) := by clear b w1 w2 w3; omega
    have g3 : (t : Int) < (z.length : Int) := by clear b w1 w2 w3; omega
    have g4 : (j : Int) < (md.length : Int) := by clear b w1 w2 w3; omega
    have g5 : ¬ (pn : Int) = 0 := by clear b w1 w2 w3; omega
    have g6 : j < 4611686018427387904 := by clear b w1 w2 w3; omega
    generalize hP : ((pn : Int) - lb z t) * lb md j = P at b
    have w4 : wrap64 P = P := w64 (by clear w1 w2 w3; omega) (by clear w1 w2 w3; omega)
    have w5 : Int.tmod (wrap64 (lb z (t - mn + j) + P)) (pn : Int) = (lb z (t - mn + j) + P) % (pn : Int) := tm b.2.2.1 (by clear w1 w2 w3 w4; omega)
    rw [codewrightref04_Mul.l3, if_pos g1, w1, w2, if_pos (Int.natCast_nonneg _), if_pos g2, if_pos (Int.natCast_nonneg t), if_pos g3, if_pos (Int.natCast_nonneg j), if_pos g4, if_neg g5, rd_lb, rd_lb, rd_lb, w3, hP, w4, w5, Int.toNat_natCast, wsucc g6]
   have rng : ∀ x : Int, 0 ≤ x % (pn : Int) ∧ x % (pn : Int) < (pn : Int) := fun x => ⟨Int.emod_nonneg x (by omega), Int.emod_lt_of_pos x (by omega)⟩
   refine (ih (j + 1) _ _ _ (by omega) (h.set (i := t - mn + j) (by omega) (rng _) (rng _) (rng _) ?_)).step (st h.l1 h.d1) (st h.l2 h.d2) (st h.l3 h.d3)
   rw [h.s (t - mn + j), h.s t]
   exact lin_step2
 intro n
 induction n with
 | zero => intro z1 z2 z3 h1 h2 h; omega
 | succ n ih =>
  intro z1 z2 z3 h1 h2 h
  by_cases hn : mn = n + 1
  ·rw [← hn]; exact last z1 z2 z3 h
  ·have st : ∀ (z : List Int) (k : Nat), codewrightref04_Mul.l2 (k + 1) z (wrap64 (((n + 1 : Nat) : Int) - 1)) (pn : Int) (mn : Int) md = codewrightref04_Mul.l3 k z (n : Int) 0 (pn : Int) (mn : Int) md := fun z k => by
    rw [wpred (by omega), codewrightref04_Mul.l2, if_pos (by omega)]
   exact (inner n (by omega) (by omega) (fun z1 z2 z3 h => ih z1 z2 z3 (by omega) (by omega) h) mn 0 z1 z2 z3 (by omega) h).step (st z1) (st z2) (st z3)
theorem mul_red (F : Fld pn mn md) {z1 z2 z3 : List Int} (h : Rel pn (2 * mn - 1) z1 z2 z3) : Three pn mn (fun k => codewrightref04_Mul.l2 k z1 (wrap64 (((2 * mn - 1 : Nat) : Int) - 1)) (pn : Int) (mn : Int) md) (fun k => codewrightref04_Mul.l2 k z2 (wrap64 (((2 * mn - 1 : Nat) : Int) - 1)) (pn : Int) (mn : Int) md) (fun k => codewrightref04_Mul.l2 k z3 (wrap64 (((2 * mn - 1 : Nat) : Int) - 1)) (pn : Int) (mn : Int) md) := by
 have hm1 := F.m1
 have hp := F.p2
 by_cases hmd : mn = 1
 ·subst hmd
  have one : ∀ {z : List Int}, z.length = 1 → Dg pn z → Ev (fun k => codewrightref04_Mul.l2 k z (wrap64 (((2 * 1 - 1 : Nat) : Int) - 1)) (pn : Int) ((1 : Nat) : Int) md) ((vl pn z : Nat) : Int) := fun {z} hl hd => by
   have e := rValueF F (l := z) hl hd
   have ht : z.take 1 = z := List.take_of_length_le (by omega)
   refine Ev.succ ?_
   rw [w64 (by decide) (by decide)]
   conv => enter [1, k]; rw [codewrightref04_Mul.l2, if_neg (by decide), if_pos (by decide), if_pos (show ((1 : Nat) : Int) ≤ (z.length : Int) by omega), Int.toNat_natCast, ht]
   exact Ev.bind e (Ev.const _)
  have l1 := h.l1
  have l2 := h.l2
  have l3 := h.l3
  have hv := vl_add (p := pn) (by omega) h.d1 h.d2 (c := z3) (by omega) (by omega) h.s
  have e3 : z3.length = 1 := by omega
  rw [e3] at hv
  refine ⟨vl pn z1, vl pn z2, ⟨by have := vl_lt h.d1; rwa [show z1.length = 1 by omega] at this, by have := vl_lt h.d2; rwa [show z2.length = 1 by omega] at this⟩, one (by omega) h.d1, one (by omega) h.d2, ?_⟩
  rw [← hv]; exact one e3 h.d3
 ·exact mul_l2 F hmd (2 * mn - 1) z1 z2 z3 (Nat.le_refl _) (by omega) h
theorem Rel_zero {p n : Nat} (hp : 0 < p) : Rel p n (List.replicate n 0) (List.replicate n 0) (List.replicate n 0) where
 l1 := List.length_replicate ..
 l2 := List.length_replicate ..
 l3 := List.length_replicate ..
 d1 := fun x hx => by rw [(List.mem_replicate.1 hx).2]; omega
 d2 := fun x hx => by rw [(List.mem_replicate.1 hx).2]; omega
 d3 := fun x hx => by rw [(List.mem_replicate.1 hx).2]; omega
 s := fun j => by rw [lb_replicate]; simp
theorem mul_three (F : Fld pn mn md) {a b r : Nat} (ha : a < pn ^ mn) (hb : b < pn ^ mn) (hr : r < pn ^ mn) : Three pn mn (fun k => codewrightref04_Mul.f k (pn : Int) (mn : Int) md (a : Int) (r : Int)) (fun k => codewrightref04_Mul.f k (pn : Int) (mn : Int) md (b : Int) (r : Int)) (fun k => codewrightref04_Mul.f k (pn : Int) (mn : Int) md ((addN pn mn a b : Nat) : Int) (r : Int)) := by
 have hp := F.p2
 have h256 := F.p256
 have hm := F.m8
 have hm1 := F.m1
 have hc := addN_lt (p := pn) (by omega) mn a b
 have dR := Dg_dl (p := pn) (by omega) mn r
 have lR := dl_length (p := pn) mn r
 have rng : ∀ x : Int, 0 ≤ x % (pn : Int) ∧ x % (pn : Int) < (pn : Int) := fun x => ⟨Int.emod_nonneg x (by omega), Int.emod_lt_of_pos x (by omega)⟩
 have sx := dl_addN (p := pn) (by omega) mn a b
 have l1 : ∀ (i : Nat), i < mn → (∀ z1 z2 z3, Rel pn (2 * mn - 1) z1 z2 z3 → Three pn mn (fun k => codewrightref04_Mul.l0 k (dl pn mn a) (dl pn mn r) z1 ((i + 1 : Nat) : Int) (pn : Int) (mn : Int) md) (fun k => codewrightref04_Mul.l0 k (dl pn mn b) (dl pn mn r) z2 ((i + 1 : Nat) : Int) (pn : Int) (mn : Int) md) (fun k => codewrightref04_Mul.l0 k (dl pn mn (addN pn mn a b)) (dl pn mn r) z3 ((i + 1 : Nat) : Int) (pn : Int) (mn : Int) md)) →
   ∀ (d j : Nat) (z1 z2 z3 : List Int), d + j = mn → Rel pn (2 * mn - 1) z1 z2 z3 → Three pn mn (fun k => codewrightref04_Mul.l1 k (dl pn mn a) (dl pn mn r) z1 (i : Int) (j : Int) (pn : Int) (mn : Int) md) (fun k => codewrightref04_Mul.l1 k (dl pn mn b) (dl pn mn r) z2 (i : Int) (j : Int) (pn : Int) (mn : Int) md) (fun k => codewrightref04_Mul.l1 k (dl pn mn (addN pn mn a b)) (dl pn mn r) z3 (i : Int) (j : Int) (pn : Int) (mn : Int) md) := by
  intro i hi next d
  induction d with
  | zero =>
   intro j z1 z2 z3 hd h
   have st : ∀ (x z : List Int) (k : Nat), codewrightref04_Mul.l1 (k + 1) x (dl pn mn r) z (i : Int) (j : Int) (pn : Int) (mn : Int) md = codewrightref04_Mul.l0 k x (dl pn mn r) z ((i + 1 : Nat) : Int) (pn : Int) (mn : Int) md := fun x z k => by
    rw [codewrightref04_Mul.l1, if_neg (by omega), wsucc (by omega)]
   exact (next z1 z2 z3 h).step (st _ z1) (st _ z2) (st _ z3)
  | succ d ih =>
   intro j z1 z2 z3 hd h
   have hj : j < mn := by omega
   have hy := lb_dg (p := pn) (by omega) dR j
   have st : ∀ {x z : List Int}, x.length = mn → Dg pn x → z.length = 2 * mn - 1 → Dg pn z → ∀ k, codewrightref04_Mul.l1 (k + 1) x (dl pn mn r) z (i : Int) (j : Int) (pn : Int) (mn : Int) md = codewrightref04_Mul.l1 k x (dl pn mn r) (z.set (i + j) ((lb z (i + j) + lb x i * lb (dl pn mn r) j) % (pn : Int))) (i : Int) ((j + 1 : Nat) : Int) (pn : Int) (mn : Int) md := fun {x z} hlx hx hl hz k => by
    have bx := lb_dg (by omega) hx i
    have bz := lb_dg (by omega) hz (i + j)
    have b := mbound bx.1 bx.2 hy.1 hy.2 bz.1 bz.2 (by omega)
    have w2 : wrap64 ((i : Int) + (j : Int)) = ((i + j : Nat) : Int) := by rw [w64 (by clear b; omega) (by clear b; omega)]; rfl
    have g1 : (j : Int) < (mn : Int) := by clear b w2; omega
    have g2 : ((i + j : Nat) : Int) < (z.length : Int) := by clear b w2; omega
    have g3 : (i : Int) < (x.length : Int) := by clear b w2; omega
    have g4 : (j : Int) < ((dl pn mn r).length : Int) := by clear b w2; omega
    have g5 : ¬ (pn : Int) = 0 := by clear b w2; omega
    have g6 : j < 4611686018427387904 := by clear b w2; omega
    generalize hP : lb x i * lb (dl pn mn r) j = P at b
    have w4 : wrap64 P = P := w64 (by clear w2; omega) (by clear w2; omega)
    have w5 : Int.tmod (wrap64 (lb z (i + j) + P)) (pn : Int) = (lb z (i + j) + P) % (pn : Int) := tm b.2.2.1 (by clear w2 w4; omega)
    rw [codewrightref04_Mul.l1, if_pos g1, w2, if_pos (Int.natCast_nonneg _), if_pos g2, if_pos (Int.natCast_nonneg i), if_pos g3, if_pos (Int.natCast_nonneg j), if_pos g4, if_neg g5, rd_lb, rd_lb, rd_lb, hP, w4, w5, Int.toNat_natCast, wsucc g6]
   refine (ih (j + 1) _ _ _ (by omega) (h.set (i := i + j) (by omega) (rng _) (rng _) (rng _) ?_)).step (st (dl_length ..) (Dg_dl (by omega) _ _) h.l1 h.d1) (st (dl_length ..) (Dg_dl (by omega) _ _) h.l2 h.d2) (st (dl_length ..) (Dg_dl (by omega) _ _) h.l3 h.d3)
   rw [h.s (i + j), sx i]
   exact lin_step
 have l0 : ∀ (d i : Nat) (z1 z2 z3 : List Int), d + i = mn → Rel pn (2 * mn - 1) z1 z2 z3 → Three pn mn (fun k => codewrightref04_Mul.l0 k (dl pn mn a) (dl pn mn r) z1 (i : Int) (pn : Int) (mn : Int) md) (fun k => codewrightref04_Mul.l0 k (dl pn mn b) (dl pn mn r) z2 (i : Int) (pn : Int) (mn : Int) md) (fun k => codewrightref04_Mul.l0 k (dl pn mn (addN pn mn a b)) (dl pn mn r) z3 (i : Int) (pn : Int) (mn : Int) md) := by
  intro d
  induction d with
  | zero =>
   intro i z1 z2 z3 hd h
   have w1 : wrap64 (2 * (mn : Int)) = ((2 * mn : Nat) : Int) := by rw [w64 (by omega) (by omega)]; omega
   have w2 : wrap64 (((2 * mn : Nat) : Int) - 2) = wrap64 (((2 * mn - 1 : Nat) : Int) - 1) := by congr 1; omega
   have st : ∀ (x z : List Int) (k : Nat), codewrightref04_Mul.l0 (k + 1) x (dl pn mn r) z (i : Int) (pn : Int) (mn : Int) md = codewrightref04_Mul.l2 k z (wrap64 (((2 * mn - 1 : Nat) : Int) - 1)) (pn : Int) (mn : Int) md := fun x z k => by
    rw [codewrightref04_Mul.l0, if_neg (by clear w1 w2; omega), w1, w2]
   exact (mul_red F h).step (st _ z1) (st _ z2) (st _ z3)
  | succ d ih =>
   intro i z1 z2 z3 hd h
   have st : ∀ (x z : List Int) (k : Nat), codewrightref04_Mul.l0 (k + 1) x (dl pn mn r) z (i : Int) (pn : Int) (mn : Int) md = codewrightref04_Mul.l1 k x (dl pn mn r) z (i : Int) ((0 : Nat) : Int) (pn : Int) (mn : Int) md := fun x z k => by
    rw [codewrightref04_Mul.l0, if_pos (by omega)]; rfl
   exact (l1 i (by omega) (fun z1 z2 z3 h => ih (i + 1) z1 z2 z3 (by omega) h) mn 0 z1 z2 z3 (by omega) h).step (st _ z1) (st _ z2) (st _ z3)
 obtain ⟨v1, v2, hv, e1, e2, e3⟩ := l0 mn 0 _ _ _ (by omega) (Rel_zero (by omega))
 have w1 : wrap64 (2 * (mn : Int)) = ((2 * mn : Nat) : Int) := by rw [w64 (by omega) (by omega)]; omega
 have w2 : wrap64 (((2 * mn : Nat) : Int) - 1) = ((2 * mn - 1 : Nat) : Int) := by rw [w64 (by omega) (by omega)]; omega
 have fin : ∀ {x v : Nat}, x < pn ^ mn → Ev (fun k => codewrightref04_Mul.l0 k (dl pn mn x) (dl pn mn r) (List.replicate (2 * mn - 1) 0) ((0 : Nat) : Int) (pn : Int) (mn : Int) md) (v : Int) → Ev (fun k => codewrightref04_Mul.f k (pn : Int) (mn : Int) md (x : Int) (r : Int)) (v : Int) := fun {x v} hx e => by
  unfold codewrightref04_Mul.f
  refine Ev.bind (rDigitsF F hx) (Ev.bind (rDigitsF F hr) ?_)
  rw [w1, w2, Int.toNat_natCast]
  exact Ev.pos (Int.natCast_nonneg _) (Ev.pos (by clear w1 w2; omega) e)
 exact ⟨v1, v2, hv, fin ha e1, fin hb e2, fin hc e3⟩
theorem mul_fun (F : Fld pn mn md) : ∃ mul : Nat → Nat → Nat, (∀ a r, a < pn ^ mn → r < pn ^ mn → mul a r < pn ^ mn ∧ Ev (fun k => codewrightref04_Mul.f k (pn : Int) (mn : Int) md (a : Int) (r : Int)) ((mul a r : Nat) : Int)) ∧ ∀ a b r, a < pn ^ mn → b < pn ^ mn → r < pn ^ mn → mul (addN pn mn a b) r = addN pn mn (mul a r) (mul b r) := by
 have hp := F.p2
 have ex : ∀ a r, ∃ v : Nat, a < pn ^ mn → r < pn ^ mn → v < pn ^ mn ∧ Ev (fun k => codewrightref04_Mul.f k (pn : Int) (mn : Int) md (a : Int) (r : Int)) (v : Int) := fun a r => by
  by_cases h : a < pn ^ mn ∧ r < pn ^ mn
  ·obtain ⟨v1, v2, hv, e1, _⟩ := mul_three F h.1 h.1 h.2
   exact ⟨v1, fun _ _ => ⟨hv.1, e1⟩⟩
  ·exact ⟨0, fun h1 h2 => absurd ⟨h1, h2⟩ h⟩
 refine ⟨fun a r => Classical.choose (ex a r), fun a r ha hr => Classical.choose_spec (ex a r) ha hr, fun a b r ha hb hr => ?_⟩
 obtain ⟨v1, v2, hv, e1, e2, e3⟩ := mul_three F ha hb hr
 have s1 := (Classical.choose_spec (ex a r) ha hr).2
 have s2 := (Classical.choose_spec (ex b r) hb hr).2
 have s3 := (Classical.choose_spec (ex (addN pn mn a b) r) (addN_lt (by omega) mn a b) hr).2
 have u1 := Int.ofNat.inj (Ev.unique s1 e1)
 have u2 := Int.ofNat.inj (Ev.unique s2 e2)
 have u3 := Int.ofNat.inj (Ev.unique s3 e3)
 show Classical.choose (ex (addN pn mn a b) r) = addN pn mn (Classical.choose (ex a r)) (Classical.choose (ex b r))
 rw [u1, u2, u3]
end
end Go.Proofs.Ythheakfgmombdaa.Num
end
section
namespace Go.Proofs.Ythheakfgmombdaa.Num
set_option linter.unusedVariables false
open Go.RowKit Go.Proofs.YthheakfgmombdaaX.PrintWords Go.Proofs.YthheakfgmombdaaX.PrintMore Go.Proofs.Ythheakfgmombdaa.F Go.Proofs.Ythheakfgmombdaa.Kraw
def Wd (q n : Nat) (w : List Int) : Prop := w.length = n ∧ ∀ x ∈ w, 0 ≤ x ∧ x < (q : Int)
def addI (p m : Nat) (x y : Int) : Int := ((addN p m x.toNat y.toNat : Nat) : Int)
def wadd (p m : Nat) (u v : List Int) : List Int := List.zipWith (addI p m) u v
def wmul (mul : Nat → Nat → Nat) (a : Nat) (r : List Int) : List Int := r.map fun x => ((mul a x.toNat : Nat) : Int)
theorem wadd_get {p m : Nat} {u v : List Int} {i : Nat} (h : i < (wadd p m u v).length) : (wadd p m u v)[i] = addI p m (u[i]'(by unfold wadd at h; rw [List.length_zipWith] at h; omega)) (v[i]'(by unfold wadd at h; rw [List.length_zipWith] at h; omega)) := List.getElem_zipWith
theorem wmul_get {mul : Nat → Nat → Nat} {a : Nat} {r : List Int} {i : Nat} (h : i < (wmul mul a r).length) : (wmul mul a r)[i] = ((mul a (r[i]'(by unfold wmul at h; rw [List.length_map] at h; exact h)).toNat : Nat) : Int) := List.getElem_map ..
theorem Wd_get {q n : Nat} {w : List Int} (h : Wd q n w) {i : Nat} (hi : i < w.length) : ∃ a : Nat, w[i] = (a : Int) ∧ a < q := by
 have := h.2 w[i] (List.getElem_mem hi)
 exact ⟨w[i].toNat, by omega, by omega⟩
theorem Wd_wadd {p m n : Nat} (hp : 0 < p) {u v : List Int} (hu : Wd (p ^ m) n u) (hv : Wd (p ^ m) n v) : Wd (p ^ m) n (wadd p m u v) := by
 refine ⟨by unfold wadd; rw [List.length_zipWith, hu.1, hv.1, Nat.min_self], fun x hx => ?_⟩
 obtain ⟨i, hi, rfl⟩ := List.getElem_of_mem hx
 unfold wadd at hi ⊢
 rw [List.getElem_zipWith]
 unfold addI
 have := addN_lt hp m (u[i]'(by rw [List.length_zipWith] at hi; omega)).toNat (v[i]'(by rw [List.length_zipWith] at hi; omega)).toNat
 omega
theorem S_flatMap {α β : Type} (l : List α) (g : α → List β) (f : β → Int) : S (l.flatMap g) f = S l fun a => S (g a) f := by
 induction l with
 | nil => rfl
 | cons x l ih => rw [List.flatMap_cons, S_append, S_cons, ih]
theorem S_pick {q b : Nat} (G : Nat → Int) (hb : b < q) : S (List.range q) (fun c => G c * one ((c : Int) = (b : Int))) = G b := by
 have e : ∀ c ∈ List.range q, G c * one ((c : Int) = (b : Int)) = G b * one ((c : Int) = (b : Int)) := fun c _ => by
  by_cases h : (c : Int) = (b : Int)
  ·have : c = b := by omega
   rw [this]
  ·rw [one_neg h, Int.mul_zero, Int.mul_zero]
 rw [S_congr e, S_mul, S_one q (by omega) (by omega), Int.mul_one]
section
variable {p m n : Nat}
theorem S_shift (hp : 0 < p) {a0 : Nat} (ha : a0 < p ^ m) (G : Nat → Int) : S (List.range (p ^ m)) (fun a => G (addN p m a0 a)) = S (List.range (p ^ m)) G := by
 rw [S_congr (g := fun a => S (List.range (p ^ m)) fun c => G c * one ((c : Int) = ((addN p m a0 a : Nat) : Int))) fun a _ => (S_pick G (addN_lt hp m a0 a)).symm, S_swap]
 refine S_congr fun c hc => ?_
 have hc' := List.mem_range.1 hc
 rw [S_mul]
 have e : ∀ a ∈ List.range (p ^ m), one ((c : Int) = ((addN p m a0 a : Nat) : Int)) = one ((a : Int) = ((addN p m (negN p m a0) c : Nat) : Int)) := fun a ha' => by
  have ha2 := List.mem_range.1 ha'
  have iff : ((c : Int) = ((addN p m a0 a : Nat) : Int)) ↔ ((a : Int) = ((addN p m (negN p m a0) c : Nat) : Int)) := by
   constructor
   ·intro h
    have h' : c = addN p m a0 a := by omega
    rw [h', ← addN_assoc hp, addN_negN hp, addN_zero hp m a ha2]
   ·intro h
    have h' : a = addN p m (negN p m a0) c := by omega
    rw [h', ← addN_assoc hp, addN_comm m a0, addN_negN hp, addN_zero hp m c hc']
  unfold one
  by_cases h : (c : Int) = ((addN p m a0 a : Nat) : Int)
  ·rw [if_pos h, if_pos (iff.1 h)]
  ·rw [if_neg h, if_neg fun h2 => h (iff.2 h2)]
 have hlt := addN_lt hp m (negN p m a0) c
 rw [S_congr e, S_one (p ^ m) (by omega) (by omega), Int.mul_one]
def Tr (p m : Nat) (code : List (List Int)) : Prop := ∀ u ∈ code, ∀ f : List Int → Int, S code (fun v => f (wadd p m u v)) = S code f
def Good (p m n : Nat) (code : List (List Int)) : Prop := (∀ w ∈ code, Wd (p ^ m) n w) ∧ 1 ≤ code.length ∧ code.length ≤ 128 ∧ Tr p m code
theorem four (hp : 0 < p) (x s y t : Nat) : addN p m (addN p m x s) (addN p m y t) = addN p m (addN p m x y) (addN p m s t) := by
 rw [addN_assoc hp, addN_assoc hp, ← addN_assoc hp m s y t, addN_comm m s y, addN_assoc hp m y s t]
variable {mul : Nat → Nat → Nat}
def MulOk (p m : Nat) (mul : Nat → Nat → Nat) : Prop := (∀ a r, a < p ^ m → r < p ^ m → mul a r < p ^ m) ∧ ∀ a b r, a < p ^ m → b < p ^ m → r < p ^ m → mul (addN p m a b) r = addN p m (mul a r) (mul b r)
theorem Wd_wmul (hm : MulOk p m mul) {a : Nat} (ha : a < p ^ m) {r : List Int} (hr : Wd (p ^ m) n r) : Wd (p ^ m) n (wmul mul a r) := by
 refine ⟨by unfold wmul; rw [List.length_map]; exact hr.1, fun x hx => ?_⟩
 obtain ⟨y, hy, rfl⟩ := List.mem_map.1 hx
 have h1 := hr.2 y hy
 have h2 := hm.1 a y.toNat ha (by omega)
 omega
theorem wadd_four (hp : 0 < p) (hm : MulOk p m mul) {a b : Nat} (ha : a < p ^ m) (hb : b < p ^ m) {u v r : List Int} (hu : Wd (p ^ m) n u) (hv : Wd (p ^ m) n v) (hr : Wd (p ^ m) n r) :
  wadd p m (wadd p m u (wmul mul a r)) (wadd p m v (wmul mul b r)) = wadd p m (wadd p m u v) (wmul mul (addN p m a b) r) := by
 have lu := hu.1
 have lv := hv.1
 have lr := hr.1
 refine List.ext_getElem (by unfold wadd wmul; simp only [List.length_zipWith, List.length_map]; omega) fun i h1 h2 => ?_
 have hi : i < n := by unfold wadd wmul at h1; simp only [List.length_zipWith, List.length_map] at h1; omega
 have br := hr.2 (r[i]'(by omega)) (List.getElem_mem _)
 rw [wadd_get, wadd_get, wadd_get, wadd_get, wadd_get, wmul_get, wmul_get, wmul_get]
 unfold addI
 simp only [Int.toNat_natCast]
 rw [hm.2 a b (r[i]'(by omega)).toNat ha hb (by omega), four hp]
def next (p m : Nat) (mul : Nat → Nat → Nat) (r : List Int) (code : List (List Int)) (k : Nat) : List (List Int) := (List.range k).flatMap fun a => code.map fun u => wadd p m u (wmul mul a r)
theorem next_length (r : List Int) (code : List (List Int)) : ∀ k, (next p m mul r code k).length = k * code.length
 | 0 => by unfold next; rw [Nat.zero_mul]; rfl
 | k + 1 => by
  have := next_length r code k
  unfold next at this ⊢
  rw [List.range_succ, List.flatMap_append, List.length_append, this, List.flatMap_cons, List.flatMap_nil, List.append_nil, List.length_map, Nat.add_mul, Nat.one_mul]
theorem Good_next (hp : 2 ≤ p) (hm : MulOk p m mul) {r : List Int} (hr : Wd (p ^ m) n r) {code : List (List Int)} (h : Good p m n code) (hl : p ^ m * code.length ≤ 128) : Good p m n (next p m mul r code (p ^ m)) := by
 have hq : 0 < p ^ m := Nat.pow_pos (by omega)
 obtain ⟨h1, h2, h3, h4⟩ := h
 refine ⟨fun w hw => ?_, ?_, ?_, fun u hu f => ?_⟩
 ·obtain ⟨a, ha, hw⟩ := List.mem_flatMap.1 hw
  obtain ⟨u, hu, rfl⟩ := List.mem_map.1 hw
  exact Wd_wadd (by omega) (h1 u hu) (Wd_wmul hm (List.mem_range.1 ha) hr)
 ·rw [next_length]; exact Nat.mul_pos hq h2
 ·rw [next_length]; exact hl
 ·obtain ⟨a0, ha0, hu⟩ := List.mem_flatMap.1 hu
  obtain ⟨u0, hu0, rfl⟩ := List.mem_map.1 hu
  have ha := List.mem_range.1 ha0
  have sn : ∀ g : List Int → Int, S (next p m mul r code (p ^ m)) g = S (List.range (p ^ m)) fun a => S code fun v => g (wadd p m v (wmul mul a r)) := fun g => by
   unfold next
   rw [S_flatMap]
   exact S_congr fun a _ => S_map code _ g
  rw [sn, sn]
  rw [S_congr (g := fun a => S code fun v => f (wadd p m v (wmul mul (addN p m a0 a) r)))]
  ·exact S_shift (by omega) ha fun b => S code fun v => f (wadd p m v (wmul mul b r))
  ·intro a hx
   have hx' := List.mem_range.1 hx
   have e : S code (fun v => f (wadd p m (wadd p m u0 (wmul mul a0 r)) (wadd p m v (wmul mul a r)))) = S code (fun v => f (wadd p m (wadd p m u0 v) (wmul mul (addN p m a0 a) r))) := S_congr fun v hv => by rw [wadd_four (by omega) hm ha hx' (h1 u0 hu0) (h1 v hv) hr]
   rw [e]
   exact h4 u0 hu0 fun w => f (wadd p m w (wmul mul (addN p m a0 a) r))
theorem Good_first (hp : 2 ≤ p) : Good p m n [List.replicate n 0] := by
 have hq : 0 < p ^ m := Nat.pow_pos (by omega)
 refine ⟨fun w hw => ?_, Nat.le_refl _, by simp, fun u hu f => ?_⟩
 ·rw [List.mem_singleton.1 hw]
  exact ⟨List.length_replicate .., fun x hx => by rw [(List.mem_replicate.1 hx).2]; omega⟩
 ·rw [List.mem_singleton.1 hu, S_cons, S_cons, S_nil]
  congr 2
  refine List.ext_getElem (by unfold wadd; simp) fun i h1 h2 => ?_
  rw [wadd_get]
  simp only [List.getElem_replicate]
  unfold addI
  rw [show (0 : Int).toNat = 0 from rfl, addN_zero (by omega) m 0 hq]; rfl
theorem hd_wadd (hp : 0 < p) : ∀ {u v : List Int}, u.length = v.length → (∀ x ∈ u, 0 ≤ x ∧ x < ((p ^ m : Nat) : Int)) → (∀ x ∈ v, 0 ≤ x ∧ x < ((p ^ m : Nat) : Int)) → hd u (wadd p m u v) = hd (List.replicate u.length 0) v
 | [], [], _, _, _ => rfl
 | [], _ :: _, h, _, _ => by simp at h
 | _ :: _, [], h, _, _ => by simp at h
 | a :: u, b :: v, h, hu, hv => by
  have ih := hd_wadd hp (u := u) (v := v) (by simpa using h) (fun x hx => hu x (List.mem_cons_of_mem _ hx)) (fun x hx => hv x (List.mem_cons_of_mem _ hx))
  have ba := hu a List.mem_cons_self
  have bb := hv b List.mem_cons_self
  show hd (a :: u) (addI p m a b :: wadd p m u v) = hd (List.replicate (u.length + 1) 0) (b :: v)
  rw [List.replicate_succ, hd, hd, ih]
  have iff : (a = addI p m a b) ↔ ((0 : Int) = b) := by
   unfold addI
   constructor
   ·intro e
    have := addN_cancel hp (m := m) (a := a.toNat) (x := b.toNat) (by omega) (by omega) (by omega)
    omega
   ·intro e
    rw [← e, show (0 : Int).toNat = 0 from rfl, addN_right hp (by omega)]; omega
  by_cases e : a = addI p m a b
  ·rw [if_pos e, if_pos (iff.1 e)]
  ·rw [if_neg e, if_neg fun x => e (iff.2 x)]
theorem hd_comm : ∀ (u v : List Int), hd u v = hd v u
 | [], [] => rfl
 | [], _ :: _ => rfl
 | _ :: _, [] => rfl
 | a :: u, b :: v => by
  rw [hd, hd, hd_comm u v]
  by_cases h : a = b
  ·rw [if_pos h, if_pos h.symm]
  ·rw [if_neg h, if_neg fun e => h e.symm]
def wc (n : Nat) (code : List (List Int)) : List Int := inner (List.replicate n 0) code (List.replicate (n + 1) 0)
theorem Cnt_wc (n : Nat) (code : List (List Int)) : Cnt n code.length (wc n code) := by
 have := Cnt_inner (n := n) (u := List.replicate n 0) (List.length_replicate ..) (ws := code) (Cnt_zero n)
 rwa [Nat.zero_add] at this
theorem lb_wc {code : List (List Int)} {i : Nat} (hi : i < n + 1) : lb (wc n code) i = S code fun v => one (hd (List.replicate n 0) v = i) := by
 have h := im_inner (n := n) (u := List.replicate n 0) (List.length_replicate ..) (fun j => one (j = i)) (ws := code) (Cnt_zero n)
 rw [im_zero (f := fun j => lb (List.replicate (n + 1) 0) j * one (j = i)) fun j _ => by rw [lb_replicate, Int.zero_mul], Int.zero_add] at h
 rw [← h]
 exact (im_pick (f := fun j => lb (wc n code) j) hi).symm
theorem cnts_wc (hp : 2 ≤ p) {code : List (List Int)} (h : Good p m n code) {i : Nat} (hi : i < n + 1) : lb (cnts n code) i = (code.length : Int) * lb (wc n code) i := by
 obtain ⟨h1, h2, h3, h4⟩ := h
 rw [lb_cnts (fun u hu => (h1 u hu).1) hi, lb_wc hi]
 have e : ∀ u ∈ code, (S code fun v => one (hd u v = i)) = S code fun v => one (hd (List.replicate n 0) v = i) := fun u hu => by
  rw [← h4 u hu fun v => one (hd u v = i)]
  refine S_congr fun v hv => ?_
  rw [hd_wadd (by omega) (by rw [(h1 u hu).1, (h1 v hv).1]) (h1 u hu).2 (h1 v hv).2, (h1 u hu).1]
 rw [S_congr e, S_const]
end
end Go.Proofs.Ythheakfgmombdaa.Num
end
