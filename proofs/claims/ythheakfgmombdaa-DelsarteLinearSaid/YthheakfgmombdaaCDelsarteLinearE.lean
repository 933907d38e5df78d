import Derived.Test.YthheakfgmombdaaCDelsarteLinearD
/- Part E of the proof: Linear, PureDelsarteLinear. -/
section
namespace Go.Proofs.Ythheakfgmombdaa.Num
set_option linter.unusedVariables false
open Go.RowKit Go.Proofs.YthheakfgmombdaaX.PrintWords Go.Proofs.YthheakfgmombdaaX.PrintMore Go.Proofs.Ythheakfgmombdaa.F Go.Proofs.Ythheakfgmombdaa.Kraw
section
variable {pn mn n : Nat} {md : List Int}
theorem rRow (F : Fld pn mn md) (hn : n ≤ 1000) (l : List Int) : ∃ r, Ev (fun k => codewrightref24_Row.f k (pn : Int) (mn : Int) md (n : Int) l) r ∧ Wd (pn ^ mn) n r := by
  have hq2 := F.q2
  have loop : ∀ (d i : Nat) (z : List Int), d + i = n → Wd (pn ^ mn) n z → ∃ r, Ev (fun k => codewrightref24_Row.l0 k (n : Int) l z (i : Int) (pn : Int) (mn : Int) md) r ∧ Wd (pn ^ mn) n r := by
    intro d
    induction d with
    | zero =>
      intro i z hd hz
      refine ⟨z, Ev.succ (Ev.of fun k => ?_), hz⟩
      rw [codewrightref24_Row.l0, if_neg (by omega)]
    | succ d ih =>
      intro i z hd hz
      have hzl := hz.1
      by_cases hl : i < l.length
      · have hin := rInF F l[i]
        have hlt := inn_lt (q := pn ^ mn) (by omega) l[i]
        obtain ⟨r, e, hr⟩ := ih (i + 1) (z.set i ((inn (pn ^ mn) l[i] : Nat) : Int)) (by omega) ⟨by rw [List.length_set]; exact hzl, fun x hx => by
          rcases List.mem_or_eq_of_mem_set hx with h | rfl
          · exact hz.2 x h
          · omega⟩
        refine ⟨r, Ev.succ ?_, hr⟩
        conv => enter [1, k]; rw [codewrightref24_Row.l0, if_pos (show (i : Int) < (n : Int) by omega), if_pos (show (i : Int) < (l.length : Int) by omega), if_pos (Int.natCast_nonneg i), rd_eq l i hl, Int.toNat_natCast, wsucc (by omega)]
        exact Ev.bind hin (Ev.pos (by omega) e)
      · refine ⟨z, Ev.succ (Ev.of fun k => ?_), hz⟩
        rw [codewrightref24_Row.l0, if_pos (by omega), if_neg (by omega)]
  obtain ⟨r, e, hr⟩ := loop n 0 (List.replicate n 0) (by omega) ⟨List.length_replicate .., fun x hx => by rw [(List.mem_replicate.1 hx).2]; omega⟩
  refine ⟨r, ?_, hr⟩
  unfold codewrightref24_Row.f
  rw [Int.toNat_natCast]
  exact Ev.pos (Int.natCast_nonneg _) (Ev.pos (by omega) e)
theorem has_ends {q : Nat} {code : List (List Int)} (hc : ∀ w ∈ code, Wd q n w) (hl : code.length ≤ 1000) (hn : n ≤ 1000) {r : List Int} (hr : Wd q n r) : Ends (fun k => codewrightref24_has.f k code r) := by
  have loop : ∀ (d i : Nat), d + i = code.length → Ends (fun k => codewrightref24_has.l0 k code r (i : Int)) := by
    intro d
    induction d with
    | zero =>
      intro i hd
      refine Ends.succ ?_
      conv => arg 1; intro k; rw [codewrightref24_has.l0, if_neg (show ¬ (i : Int) < (code.length : Int) by omega)]
      exact Ends.const _
    | succ d ih =>
      intro i hd
      have hi : i < code.length := by omega
      have hw := hc _ (List.getElem_mem hi)
      have e := rDist (u := code[i]) (v := r) (by rw [hw.1, hr.1]) (by rw [hw.1]; exact hn)
      refine Ends.succ ?_
      conv => arg 1; intro k; rw [codewrightref24_has.l0, if_pos (show (i : Int) < (code.length : Int) by omega), if_pos (Int.natCast_nonneg i), rdLI hi, wsucc (by omega)]
      exact Ends.bind' e (Ends.ite (fun _ => Ends.const _) fun _ => ih (i + 1) (by omega))
  exact loop code.length 0 (by omega)
theorem rSpan_l3 (F : Fld pn mn md) {mul : Nat → Nat → Nat} (hmul : ∀ a r, a < pn ^ mn → r < pn ^ mn → mul a r < pn ^ mn ∧ Ev (fun k => codewrightref04_Mul.f k (pn : Int) (mn : Int) md (a : Int) (r : Int)) ((mul a r : Nat) : Int)) (hn : n ≤ 1000) {rows code : List (List Int)} (hc : ∀ w ∈ code, Wd (pn ^ mn) n w) {r : List Int} (hr : Wd (pn ^ mn) n r) {a j ri : Nat} (ha : a < pn ^ mn) (hj : j < code.length) (hjl : code.length ≤ 128) {out : List (List Int)} (ho : out.length ≤ 1000000) {res : List (List Int)}
    (nx : Ev (fun k => codewrightref24_Span.l2 k (n : Int) rows 128 code (ri : Int) r (out ++ [wadd pn mn code[j] (wmul mul a r)]) (a : Int) ((j + 1 : Nat) : Int) (pn : Int) (mn : Int) md) res) :
    Ev (fun k => codewrightref24_Span.l3 k (n : Int) rows 128 code (ri : Int) r out (a : Int) (j : Int) (List.replicate n 0) 0 (pn : Int) (mn : Int) md) res := by
  have hq := F.q256
  have hu := hc _ (List.getElem_mem hj)
  have hp := F.p2
  have tl : (wadd pn mn code[j] (wmul mul a r)).length = n := by unfold wadd wmul; rw [List.length_zipWith, List.length_map, hu.1, hr.1, Nat.min_self]
  have loop : ∀ (d i : Nat), d + i = n → Ev (fun k => codewrightref24_Span.l3 k (n : Int) rows 128 code (ri : Int) r out (a : Int) (j : Int) ((wadd pn mn code[j] (wmul mul a r)).take i ++ List.replicate d 0) (i : Int) (pn : Int) (mn : Int) md) res := by
    intro d
    induction d with
    | zero =>
      intro i hd
      have e : (wadd pn mn code[j] (wmul mul a r)).take i ++ List.replicate 0 0 = wadd pn mn code[j] (wmul mul a r) := by
        rw [List.take_of_length_le (by omega)]; simp
      rw [e]
      refine Ev.succ (nx.congr fun k => ?_)
      rw [codewrightref24_Span.l3, if_neg (by omega), if_pos (by omega), wsucc (by omega)]
    | succ d ih =>
      intro i hd
      have e := ih (i + 1) (by omega)
      have hi1 : i < code[j].length := by rw [hu.1]; omega
      have hi2 : i < r.length := by rw [hr.1]; omega
      have hi3 : i < (wadd pn mn code[j] (wmul mul a r)).length := by omega
      obtain ⟨x, hx, hxq⟩ := Wd_get hu hi1
      obtain ⟨y, hy, hyq⟩ := Wd_get hr hi2
      have hm := hmul a y ha hyq
      have hadd := rAddF F hxq hm.1
      have tg : (wadd pn mn code[j] (wmul mul a r))[i] = ((addN pn mn x (mul a y) : Nat) : Int) := by
        rw [wadd_get, wmul_get]
        unfold addI
        rw [hx, hy, Int.toNat_natCast, Int.toNat_natCast, Int.toNat_natCast]
      have hs := set_snoc ((wadd pn mn code[j] (wmul mul a r)).take i) d ((addN pn mn x (mul a y) : Nat) : Int)
      rw [List.length_take, Nat.min_eq_left (by omega), ← tg, ← List.take_succ_eq_append_getElem hi3] at hs
      have zl : (i : Int) < (((wadd pn mn code[j] (wmul mul a r)).take i ++ List.replicate (d + 1) 0).length : Int) := by
        rw [List.length_append, List.length_take, List.length_replicate, Nat.min_eq_left (by omega)]; omega
      refine Ev.succ ?_
      conv => enter [1, k]; rw [codewrightref24_Span.l3, if_pos (show (i : Int) < (n : Int) by omega), if_pos (Int.natCast_nonneg j), if_pos (show (j : Int) < (code.length : Int) by omega), if_pos (Int.natCast_nonneg i), rdLI hj, if_pos (show (i : Int) < (code[j].length : Int) by omega), if_pos (show (i : Int) < (r.length : Int) by omega), rd_eq r i hi2, rd_eq code[j] i hi1, hx, hy, Int.toNat_natCast, wsucc (show i < 4611686018427387904 by omega)]
      refine Ev.bind hm.2 (Ev.bind hadd (Ev.pos zl ?_))
      rw [← tg, hs]
      exact e
  have := loop n 0 (by omega)
  rw [List.take_zero, List.nil_append] at this
  exact this
theorem rSpan_l2 (F : Fld pn mn md) {mul : Nat → Nat → Nat} (hmul : ∀ a r, a < pn ^ mn → r < pn ^ mn → mul a r < pn ^ mn ∧ Ev (fun k => codewrightref04_Mul.f k (pn : Int) (mn : Int) md (a : Int) (r : Int)) ((mul a r : Nat) : Int)) (hn : n ≤ 1000) {rows code : List (List Int)} (hc : ∀ w ∈ code, Wd (pn ^ mn) n w) {r : List Int} (hr : Wd (pn ^ mn) n r) {a ri : Nat} (ha : a < pn ^ mn) (hjl : code.length ≤ 128) {res : List (List Int)} :
    ∀ (d j : Nat) (out : List (List Int)), d + j = code.length → out.length + d ≤ 1000000 → Ev (fun k => codewrightref24_Span.l1 k (n : Int) rows 128 code (ri : Int) r (out ++ (code.drop j).map fun u => wadd pn mn u (wmul mul a r)) ((a + 1 : Nat) : Int) (pn : Int) (mn : Int) md) res → Ev (fun k => codewrightref24_Span.l2 k (n : Int) rows 128 code (ri : Int) r out (a : Int) (j : Int) (pn : Int) (mn : Int) md) res := by
  have hq := F.q256
  intro d
  induction d with
  | zero =>
    intro j out hd ho nx
    rw [List.drop_eq_nil_of_le (by omega), List.map_nil, List.append_nil] at nx
    refine Ev.succ (nx.congr fun k => ?_)
    rw [codewrightref24_Span.l2, if_neg (by omega), wsucc (by omega)]
  | succ d ih =>
    intro j out hd ho nx
    have hj : j < code.length := by omega
    rw [List.drop_eq_getElem_cons hj, List.map_cons, show out ++ (wadd pn mn code[j] (wmul mul a r) :: (code.drop (j + 1)).map fun u => wadd pn mn u (wmul mul a r)) = (out ++ [wadd pn mn code[j] (wmul mul a r)]) ++ (code.drop (j + 1)).map fun u => wadd pn mn u (wmul mul a r) by rw [List.append_assoc]; rfl] at nx
    have e := ih (j + 1) (out ++ [wadd pn mn code[j] (wmul mul a r)]) (by omega) (by rw [List.length_append, List.length_singleton]; omega) nx
    refine Ev.succ ?_
    conv => enter [1, k]; rw [codewrightref24_Span.l2, if_pos (show (j : Int) < (code.length : Int) by omega), if_pos (Int.natCast_nonneg n), Int.toNat_natCast, if_pos (show n ≤ 35184372088832 by omega)]
    exact rSpan_l3 F hmul hn hc hr ha hj hjl (by omega) e
theorem next_succ {mul : Nat → Nat → Nat} (r : List Int) (code : List (List Int)) (a : Nat) : Num.next pn mn mul r code (a + 1) = Num.next pn mn mul r code a ++ code.map fun u => wadd pn mn u (wmul mul a r) := by
  unfold Num.next
  rw [List.range_succ, List.flatMap_append, List.flatMap_cons, List.flatMap_nil, List.append_nil]
theorem rSpan_l1 (F : Fld pn mn md) {mul : Nat → Nat → Nat} (hmul : ∀ a r, a < pn ^ mn → r < pn ^ mn → mul a r < pn ^ mn ∧ Ev (fun k => codewrightref04_Mul.f k (pn : Int) (mn : Int) md (a : Int) (r : Int)) ((mul a r : Nat) : Int)) (hn : n ≤ 1000) {rows code : List (List Int)} (hc : ∀ w ∈ code, Wd (pn ^ mn) n w) {r : List Int} (hr : Wd (pn ^ mn) n r) {ri : Nat} (hri : ri < 1000) (hjl : code.length ≤ 128) {res : List (List Int)}
    (nx : Ev (fun k => codewrightref24_Span.l0 k (n : Int) rows 128 (Num.next pn mn mul r code (pn ^ mn)) ((ri + 1 : Nat) : Int) (pn : Int) (mn : Int) md) res) :
    ∀ (d a : Nat), d + a = pn ^ mn → Ev (fun k => codewrightref24_Span.l1 k (n : Int) rows 128 code (ri : Int) r (Num.next pn mn mul r code a) (a : Int) (pn : Int) (mn : Int) md) res := by
  have hq := F.q256
  intro d
  induction d with
  | zero =>
    intro a hd
    obtain rfl : a = pn ^ mn := by omega
    refine Ev.succ ?_
    conv => enter [1, k]; rw [codewrightref24_Span.l1]
    refine Ev.bind (rOrderF F) (Ev.neg (by omega) ?_)
    rw [wsucc (by omega)]
    exact nx
  | succ d ih =>
    intro a hd
    have e := ih (a + 1) (by omega)
    rw [next_succ] at e
    refine Ev.succ ?_
    conv => enter [1, k]; rw [codewrightref24_Span.l1]
    refine Ev.bind (rOrderF F) (Ev.pos (by omega) ?_)
    have hlen : (Num.next pn mn mul r code a).length + code.length ≤ 1000000 := by
      rw [next_length]
      have : a * code.length ≤ 256 * 128 := Nat.mul_le_mul (by omega) hjl
      omega
    exact rSpan_l2 F hmul hn hc hr (by omega) hjl code.length 0 _ (by omega) hlen (by rw [List.drop_zero]; exact e)
theorem rSpan (F : Fld pn mn md) (hn : n ≤ 1000) {rows : List (List Int)} (hrows : rows.length ≤ 8) : ∃ code, Ev (fun k => codewrightref24_Span.f k (pn : Int) (mn : Int) md (n : Int) rows 128) code ∧ (code ≠ [] → Good pn mn n code) := by
  obtain ⟨mul, hmul, hadd⟩ := mul_fun F
  have hp := F.p2
  have hq := F.q256
  have hq2 := F.q2
  have hm : MulOk pn mn mul := ⟨fun a r ha hr => (hmul a r ha hr).1, hadd⟩
  have loop : ∀ (d i : Nat) (code : List (List Int)), d + i = rows.length → Good pn mn n code → ∃ res, Ev (fun k => codewrightref24_Span.l0 k (n : Int) rows 128 code (i : Int) (pn : Int) (mn : Int) md) res ∧ (res ≠ [] → Good pn mn n res) := by
    intro d
    induction d with
    | zero =>
      intro i code hd hg
      refine ⟨code, Ev.succ (Ev.of fun k => ?_), fun _ => hg⟩
      rw [codewrightref24_Span.l0, if_neg (by omega)]
    | succ d ih =>
      intro i code hd hg
      have hi : i < rows.length := by omega
      obtain ⟨r, er, hr⟩ := rRow F hn (rows[i])
      obtain ⟨b, hb⟩ := has_ends hg.1 (by have := hg.2.2.1; omega) hn hr
      have go : ∀ {res : List (List Int)}, Ev (fun k => if b = true then codewrightref24_Span.l0 k (n : Int) rows 128 code ((i + 1 : Nat) : Int) (pn : Int) (mn : Int) md else ((codewrightref04_Order.f k (pn : Int) (mn : Int) md).bind fun t424 => (if t424 = 0 then (none) else (if (code.length : Int) > (wrap64 (Int.tdiv 128 t424)) then (some ([] : List (List Int))) else (codewrightref24_Span.l1 k (n : Int) rows 128 code (i : Int) r ([] : List (List Int)) 0 (pn : Int) (mn : Int) md))))) res → Ev (fun k => codewrightref24_Span.l0 k (n : Int) rows 128 code (i : Int) (pn : Int) (mn : Int) md) res := fun h => by
        refine Ev.succ ?_
        conv => enter [1, k]; rw [codewrightref24_Span.l0, if_pos (show (i : Int) < (rows.length : Int) by omega), if_pos (Int.natCast_nonneg i), rdLI hi, wsucc (by omega)]
        exact Ev.bind er (Ev.bind hb h)
      by_cases hbt : b = true
      · obtain ⟨res, e, hres⟩ := ih (i + 1) code (by omega) hg
        exact ⟨res, go (Ev.pos hbt e), hres⟩
      · have w : wrap64 (Int.tdiv 128 ((pn ^ mn : Nat) : Int)) = ((128 / pn ^ mn : Nat) : Int) := by
          rw [Int.tdiv_eq_ediv_of_nonneg (by decide)]
          have h2 : 128 / pn ^ mn ≤ 128 := Nat.div_le_self _ _
          show wrap64 ((128 / pn ^ mn : Nat) : Int) = _
          generalize 128 / pn ^ mn = z at h2 ⊢
          rw [w64 (by omega) (by omega)]
        by_cases hl : code.length > 128 / pn ^ mn
        · refine ⟨[], go (Ev.neg hbt (Ev.bind (rOrderF F) (Ev.neg (by omega) (Ev.pos ?_ (Ev.const _))))), fun h => absurd rfl h⟩
          rw [w]; exact Int.ofNat_lt.2 hl
        · have hle : pn ^ mn * code.length ≤ 128 := by
            have h1 : code.length ≤ 128 / pn ^ mn := Nat.le_of_not_lt hl
            have := (Nat.le_div_iff_mul_le (by omega)).1 h1
            rwa [Nat.mul_comm] at this
          obtain ⟨res, e, hres⟩ := ih (i + 1) (Num.next pn mn mul r code (pn ^ mn)) (by omega) (Good_next hp hm hr hg hle)
          refine ⟨res, go (Ev.neg hbt (Ev.bind (rOrderF F) (Ev.neg (by omega) (Ev.neg ?_ ?_)))), hres⟩
          · rw [w]; exact fun h => hl (Int.ofNat_lt.1 h)
          · exact rSpan_l1 F hmul hn hg.1 hr (by omega) hg.2.2.1 e (pn ^ mn) 0 (by omega)
  obtain ⟨res, e, hres⟩ := loop rows.length 0 _ (by omega) (Good_first (n := n) hp)
  refine ⟨res, ?_, hres⟩
  unfold codewrightref24_Span.f
  rw [Int.toNat_natCast]
  exact Ev.pos (Int.natCast_nonneg _) (Ev.pos (by omega) e)
def wlist (c : List Int) : List (List Int) := c.map fun x => L x.toNat
theorem rWeights {q : Nat} {code : List (List Int)} (hc : ∀ w ∈ code, Wd q n w) (hl : code.length ≤ 1000) (hn : n ≤ 1000) : Ev (fun k => codewrightref24_Weights.f k (n : Int) code) (wlist (wc n code)) := by
  have hz : (List.replicate n (0 : Int)).length = n := List.length_replicate ..
  have l1 : ∀ {m : Nat} {c : List Int}, Cnt n m c → m ≤ 1000000 → ∀ (d i : Nat) (o : List (List Int)), d + i = n + 1 → o.length = i → Ev (fun k => codewrightref24_Weights.l1 k (n : Int) c o (i : Int)) (o ++ wlist (c.drop i)) := by
    intro m c hcn hm d
    have hcl := hcn.1
    induction d with
    | zero =>
      intro i o hd ho
      rw [List.drop_eq_nil_of_le (by omega)]
      refine Ev.succ (Ev.of fun k => ?_)
      rw [codewrightref24_Weights.l1, if_neg (by omega)]
      show _ = some (o ++ [])
      rw [List.append_nil]
    | succ d ih =>
      intro i o hd ho
      have hi : i < c.length := by omega
      obtain ⟨a, ha, ham⟩ := cnt_get hcn hi
      have e := ih (i + 1) (o ++ [L a]) (by omega) (by rw [List.length_append, ho]; rfl)
      have e2 : (o ++ [L a]) ++ wlist (c.drop (i + 1)) = o ++ wlist (c.drop i) := by
        unfold wlist
        rw [List.drop_eq_getElem_cons hi, List.map_cons, List.append_assoc, ha, Int.toNat_natCast]; rfl
      rw [e2] at e
      have hof := rOf (x := (a : Int)) (Int.natCast_nonneg a) (by omega)
      rw [Int.toNat_natCast] at hof
      refine Ev.succ ?_
      conv => enter [1, k]; rw [codewrightref24_Weights.l1, if_pos (show (i : Int) ≤ (n : Int) by omega), if_pos (Int.natCast_nonneg i), if_pos (show (i : Int) < (c.length : Int) by omega), rd_eq c i hi, ha, wu64 (Int.natCast_nonneg a) (by omega), wsucc (by omega)]
      exact Ev.bind hof (Ev.pos (by omega) e)
  have l0 : ∀ (d i m : Nat) (c : List Int), d + i = code.length → Cnt n m c → m + d ≤ 1000000 → Ev (fun k => codewrightref24_Weights.l0 k (n : Int) code c (List.replicate n 0) (i : Int)) (wlist (inner (List.replicate n 0) (code.drop i) c)) := by
    intro d
    induction d with
    | zero =>
      intro i m c hd hcn hm
      rw [List.drop_eq_nil_of_le (by omega)]
      refine Ev.succ ?_
      conv => enter [1, k]; rw [codewrightref24_Weights.l0, if_neg (show ¬ (i : Int) < (code.length : Int) by omega)]
      exact l1 hcn (by omega) (n + 1) 0 [] (by omega) rfl
    | succ d ih =>
      intro i m c hd hcn hm
      have hi : i < code.length := by omega
      have hw := hc _ (List.getElem_mem hi)
      have hdn : Kraw.hd (List.replicate n 0) code[i] ≤ n := by
        have := hd_le (List.replicate n 0) code[i]
        rwa [hz] at this
      have hcl := hcn.1
      have e := ih (i + 1) (m + 1) _ (by omega) (Cnt_bump hcn hdn) (by omega)
      rw [List.drop_eq_getElem_cons hi, inner_cons]
      have hdist := rDist (u := code[i]) (v := List.replicate n 0) (by rw [hw.1, hz]) (by rw [hw.1]; exact hn)
      rw [hd_comm] at hdist
      refine Ev.succ ?_
      conv => enter [1, k]; rw [codewrightref24_Weights.l0, if_pos (show (i : Int) < (code.length : Int) by omega), if_pos (Int.natCast_nonneg i), rdLI hi, wsucc (by omega)]
      refine Ev.bind hdist (Ev.pos (Int.natCast_nonneg _) (Ev.pos (by omega) ?_))
      rw [set_bump hcn hdn (by omega)]
      exact e
  have w1 : wrap64 ((n : Int) + 1) = ((n + 1 : Nat) : Int) := wsucc (by omega)
  have e := l0 code.length 0 0 _ (by omega) (Cnt_zero n) (by omega)
  rw [List.drop_zero] at e
  unfold codewrightref24_Weights.f
  rw [w1, Int.toNat_natCast, Int.toNat_natCast]
  exact Ev.pos (Int.natCast_nonneg _) (Ev.pos (by omega) (Ev.pos (Int.natCast_nonneg _) (Ev.pos (by omega) e)))
theorem rdL2' {l : List (List Int)} {i : Nat} (h : i < l.length) : rd_L2 l (i : Int) = l[i] := by
  unfold rd_L2
  rw [Int.toNat_natCast, List.getD_eq_getElem?_getD, List.getElem?_eq_getElem h]
  rfl
end
theorem DelsarteLinear (p m : Int) (md : List Int) (a1 : Int) (rows : List (List Int)) (hp : p < 9223372036854775808) (h0 : 0 ≤ a1) (h1 : a1 < 256) (hrows : rows.length < 4611686018427387904) : Ev (fun k => codewrightlaw36_DelsarteLinear.f k p m md a1 rows) true := by
  have jt : ∀ x, Ev (fun k => codewrightlaw36_DelsarteLinear.j0 k rows x true p m md) true := fun x => by
    refine Ev.succ (Ev.of fun k => ?_)
    rw [codewrightlaw36_DelsarteLinear.j0, if_pos rfl]
  obtain ⟨e, he, hok⟩ := rFieldCheck (p := p) (m := m) (md := md) hp
  unfold codewrightlaw36_DelsarteLinear.f
  refine Ev.bind he (Ev.ite (fun hz => ?_) fun _ => jt _)
  obtain ⟨pn, mn, rfl, rfl, F⟩ := hok hz
  by_cases hr : (rows.length : Int) > 8
  · rw [decide_eq_true hr]; exact jt _
  · rw [decide_eq_false hr]
    obtain ⟨an, rfl⟩ : ∃ an : Nat, a1 = (an : Int) := ⟨a1.toNat, by omega⟩
    have hnn : wrap64 (Int.tmod (wrap64 (an : Int)) 10 + 1) = ((an % 10 + 1 : Nat) : Int) := by
      rw [w64 (x := (an : Int)) (by omega) (by omega), Int.tmod_eq_emod_of_nonneg (by omega), w64 (by omega) (by omega)]; omega
    rw [hnn]
    obtain ⟨n, hn⟩ : ∃ n, an % 10 + 1 = n := ⟨_, rfl⟩
    have hn1 : 1 ≤ n := by omega
    have hn10 : n ≤ 10 := by omega
    rw [hn]
    obtain ⟨code, hcode, hgood⟩ := rSpan F (n := n) (by omega) (rows := rows) (by omega)
    refine Ev.succ ?_
    conv => enter [1, k]; rw [codewrightlaw36_DelsarteLinear.j0, if_neg (by decide)]
    refine Ev.bind hcode (Ev.ite (fun _ => Ev.const _) fun hne => ?_)
    have g := hgood fun h => hne (by rw [h]; rfl)
    have hq := F.q256
    have hq2 := F.q2
    have hlen : ∀ u ∈ code, u.length = n := fun u hu => (g.1 u hu).1
    have hsym : ∀ u ∈ code, u.length = n ∧ sym ((pn ^ mn : Nat) : Int) u = true := fun u hu => ⟨hlen u hu, List.all_eq_true.2 fun x hx => by
      have := (g.1 u hu).2 x hx
      simp only [Bool.and_eq_true, decide_eq_true_eq]
      exact this⟩
    have hw := mem_wchk (q := ((pn ^ mn : Nat) : Int)) (n := n) (ws := code) (by omega) (by omega) (by have := g.2.1; omega) hn1 (by omega) hsym
    have hd := pDists ((pn ^ mn : Nat) : Int) code (by have := g.2.2.1; omega)
    rw [hw.1, hw.2] at hd
    have hwt := rWeights (n := n) g.1 (by have := g.2.2.1; omega) (by omega)
    have ldd := dd_length hlen
    have lwc : (wlist (wc n code)).length = n + 1 := by unfold wlist; rw [List.length_map]; exact (Cnt_wc n code).1
    refine Ev.bind (rOrderF F) (Ev.bind hd (Ev.bind hwt (Ev.pos rfl ?_)))
    have e0 : (((dd n code).length : Int) != ((wlist (wc n code)).length : Int)) = false := by rw [ldd, lwc]; simp
    show Ev (fun k => codewrightlaw36_DelsarteLinear.j1 k (dd n code) (wlist (wc n code)) (((dd n code).length : Int) != ((wlist (wc n code)).length : Int))) true
    rw [e0]
    refine Ev.succ ?_
    conv => enter [1, k]; rw [codewrightlaw36_DelsarteLinear.j1, if_neg (by decide)]
    suffices ∀ (d i : Nat), d + i = n + 1 → Ev (fun k => codewrightlaw36_DelsarteLinear.l0 k (dd n code) (wlist (wc n code)) (i : Int)) true from this (n + 1) 0 (by omega)
    intro d
    induction d with
    | zero =>
      intro i hd
      refine Ev.succ (Ev.of fun k => ?_)
      rw [codewrightlaw36_DelsarteLinear.l0, if_neg (by omega)]
    | succ d ih =>
      intro i hd
      have hi1 : i < (dd n code).length := by omega
      have hi2 : i < (wlist (wc n code)).length := by omega
      have hi3 : i < (wc n code).length := by rw [(Cnt_wc n code).1]; omega
      obtain ⟨x, hx, hxm⟩ := cnt_get (Cnt_wc n code) hi3
      have e := ih (i + 1) (by omega)
      have ew : (wlist (wc n code))[i] = L x := by
        simp only [wlist, List.getElem_map]
        rw [hx, Int.toNat_natCast]
      have hcl : (cnts n code).length = n + 1 := (Cnt_dd hlen).1
      have hM : 0 < code.length := g.2.1
      have eb : (dd n code)[i] = C (x : Rat) := by
        have h1 := cnts_wc F.p2 g (i := i) (by omega)
        rw [lb_of_lt (by rw [hcl]; omega), lb_of_lt hi3, hx] at h1
        have h2 : (dd n code)[i] = C (mkRat ((cnts n code)[i]'(by rw [hcl]; omega)) code.length) := by
          simp only [dd, fracs, cnts, List.getElem_map]
        rw [h2, h1]
        congr 1
        rw [Rat.mkRat_eq_div, Rat.intCast_mul, Rat.intCast_natCast, Rat.intCast_natCast]
        have hpos : (0 : Rat) < (code.length : Rat) := Rat.natCast_pos.2 hM
        have hne' : (code.length : Rat) ≠ 0 := by grind
        rw [Rat.mul_comm]
        exact Rat.mul_div_cancel hne'
      have hx128 : x ≤ 128 := by have := g.2.2.1; omega
      have hnat := rNat (n := x) (k := 64) (Nat.lt_of_le_of_lt hx128 (by decide)) (by decide)
      have hsame := Same_T (x : Rat) (k := 64) (Sz_nat (Nat.lt_of_le_of_lt hx128 (by decide)) (by decide)) (by decide)
      refine Ev.succ ?_
      conv => enter [1, k]; rw [codewrightlaw36_DelsarteLinear.l0, if_pos (show (i : Int) < ((wlist (wc n code)).length : Int) by omega), if_pos (Int.natCast_nonneg i), if_pos (show (i : Int) < ((dd n code).length : Int) by omega), rdL2' hi2, ew, rd46 hi1, eb, wsucc (by omega)]
      exact Ev.bind hnat (Ev.bind hsame (Ev.pos rfl e))
end Go.Proofs.Ythheakfgmombdaa.Num
end
section

end
