/- SimplexChecks, the plain law: both ways of Check answer the same for every linear program whose lists are no longer than memory allows. -/
import Derived.Test.YthheakfgmombdaaQSimplexChecksx
namespace Go.Proofs.Ythheakfgmombdaa.Pure
open Go.RowKit Go.Proofs.Ythheakfgmombdaa.QSimplexChecks Go.Proofs.YthheakfgmombdaaX.PrintWords
theorem wrap_up {i : Int} {n : Nat} (h0 : 0 ≤ i) (h : i < (n : Int)) (hn : n ≤ 140737488351232) : wrap64 (i + 1) = i + 1 := by
  unfold wrap64
  omega
def rowsOk (n : Nat) (l : List (List S46)) : Int := if l.all (fun r => r.length == n) then 0 else 3
theorem rows_prog (c : List S46) (l : List (List S46)) (b : List S46) (hn : l.length ≤ 140737488351232) : ∀ (d k i : Nat), d + i = l.length → d < k → simplex_Check.l0 k l (l.length : Int) i c l b = some (rowsOk c.length (l.drop i)) := by
  intro d
  induction d with
  | zero =>
    intro k i hd hk
    obtain ⟨k, rfl⟩ : ∃ m, k = m + 1 := ⟨k - 1, by omega⟩
    simp only [simplex_Check.l0]
    rw [if_neg (by omega), List.drop_of_length_le (by omega)]
    rfl
  | succ d ih =>
    intro k i hd hk
    obtain ⟨k, rfl⟩ : ∃ m, k = m + 1 := ⟨k - 1, by omega⟩
    simp only [simplex_Check.l0]
    rw [if_pos (by omega), if_pos (by omega), if_pos (by omega), wrap_up (n := l.length) (by omega) (by omega) hn]
    have hr : rd_L4 l (i : Int) = l[i]'(by omega) := by
      unfold rd_L4
      rw [Int.toNat_natCast, List.getD_eq_getElem?_getD, List.getElem?_eq_getElem (by omega)]
      rfl
    have hdr : l.drop i = l[i]'(by omega) :: l.drop (i + 1) := List.drop_eq_getElem_cons (by omega)
    rw [hr, hdr]
    by_cases h : ((l[i]'(by omega)).length : Int) = (c.length : Int)
    · rw [if_pos h]
      have := ih k (i + 1) (by omega) (by omega)
      rw [show ((i : Int) + 1) = ((i + 1 : Nat) : Int) from rfl, this]
      have h' : (l[i]'(by omega)).length = c.length := by omega
      simp only [rowsOk, List.all_cons, h', beq_self_eq_true, Bool.true_and]
    · rw [if_neg h]
      have h' : ((l[i]'(by omega)).length == c.length) = false := by rw [beq_eq_false_iff_ne]; omega
      simp only [rowsOk, List.all_cons, h', Bool.false_and]
      rfl
theorem rows_ref (c : List S46) (l : List (List S46)) (b : List S46) (hn : l.length ≤ 140737488351232) : ∀ (d k i : Nat), d + i = l.length → d < k → codewrightref35_Check.l0 k i c l b = some (rowsOk c.length (l.drop i)) := by
  intro d
  induction d with
  | zero =>
    intro k i hd hk
    obtain ⟨k, rfl⟩ : ∃ m, k = m + 1 := ⟨k - 1, by omega⟩
    simp only [codewrightref35_Check.l0]
    rw [if_neg (by omega), List.drop_of_length_le (by omega)]
    rfl
  | succ d ih =>
    intro k i hd hk
    obtain ⟨k, rfl⟩ : ∃ m, k = m + 1 := ⟨k - 1, by omega⟩
    simp only [codewrightref35_Check.l0]
    rw [if_pos (by omega), if_pos (by omega), wrap_up (n := l.length) (by omega) (by omega) hn]
    have hr : rd_L4 l (i : Int) = l[i]'(by omega) := by
      unfold rd_L4
      rw [Int.toNat_natCast, List.getD_eq_getElem?_getD, List.getElem?_eq_getElem (by omega)]
      rfl
    have hdr : l.drop i = l[i]'(by omega) :: l.drop (i + 1) := List.drop_eq_getElem_cons (by omega)
    rw [hr, hdr]
    by_cases h : ((l[i]'(by omega)).length : Int) = (c.length : Int)
    · rw [if_pos h]
      have := ih k (i + 1) (by omega) (by omega)
      rw [show ((i : Int) + 1) = ((i + 1 : Nat) : Int) from rfl, this]
      have h' : (l[i]'(by omega)).length = c.length := by omega
      simp only [rowsOk, List.all_cons, h', beq_self_eq_true, Bool.true_and]
    · rw [if_neg h]
      have h' : ((l[i]'(by omega)).length == c.length) = false := by rw [beq_eq_false_iff_ne]; omega
      simp only [rowsOk, List.all_cons, h', Bool.false_and]
      rfl
def endOf (c : List S46) (l : List (List S46)) (b : List S46) (big : Bool) : Int := if big = true then 8 else if (l.length : Int) = (b.length : Int) then rowsOk c.length l else 3
theorem ends (c : List S46) (l : List (List S46)) (b : List S46) (hn : l.length ≤ 140737488351232) (big : Bool) (k : Nat) (hk : l.length + 1 < k) :
    simplex_Check.j0 k big c l b = some (endOf c l b big) ∧ codewrightref35_Check.j0 k big c l b = some (endOf c l b big) := by
  obtain ⟨k, rfl⟩ : ∃ m, k = m + 1 := ⟨k - 1, by omega⟩
  simp only [simplex_Check.j0, codewrightref35_Check.j0, endOf]
  have h1 := rows_prog c l b hn l.length k 0 (by omega) (by omega)
  have h2 := rows_ref c l b hn l.length k 0 (by omega) (by omega)
  rw [List.drop_zero] at h1 h2
  rw [show ((0 : Nat) : Int) = 0 from rfl] at h1 h2
  rw [h1, h2]
  constructor <;> (split; · rfl
                   split <;> rfl)
theorem SimplexChecks (c : List S46) (l : List (List S46)) (b : List S46) (hn : l.length ≤ 140737488351232) : ∃ k, codewrightlaw35_SimplexChecks.f k c l b = some true := by
  refine ⟨l.length + 2, ?_⟩
  have h := fun big => ends c l b hn big (l.length + 2) (by omega)
  have e : simplex_Check.f (l.length + 2) c l b = codewrightref35_Check.f (l.length + 2) c l b := by
    unfold simplex_Check.f codewrightref35_Check.f
    simp only [(h _).1, (h _).2]
  have s : ∃ r, simplex_Check.f (l.length + 2) c l b = some r := by
    unfold simplex_Check.f
    simp only [(h _).1]
    split
    · exact ⟨_, rfl⟩
    · split <;> exact ⟨_, rfl⟩
  obtain ⟨r, hr⟩ := s
  unfold codewrightlaw35_SimplexChecks.f
  rw [← e, hr]
  simp
end Go.Proofs.Ythheakfgmombdaa.Pure
