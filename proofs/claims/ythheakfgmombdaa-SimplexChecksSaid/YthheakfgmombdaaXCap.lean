-- laid by a program of this session (xwords.py)
import Derived.Test.YthheakfgmombdaaXWords
namespace Go.Proofs.YthheakfgmombdaaX.PrintWords
open Go.RowKit
/-- 'xs[:j:j]' of a slice that came in. -/
theorem print_take3_of {α : Type} {P : Program} (enc : α → Value) (d : α) (t e : TypeId) (kl : IntKind) {i : TypeInfo} (ht : P.underlying t = some (.slice e)) (hi : P.info? e = some i) (hsz : i.size = 1) (A : Option Addr) (c : Nat) (xs : List α) (j : Int) (h0 : 0 ≤ j) (hm : j ≤ xs.length) (hc : xs.length ≤ c) :
    (∀ W : World, (Instr.slice t (.slice A xs.length c) none (some (.int kl j)) (some (.int kl j))).run P W = .ok (.slice A (xs.take j.toNat).length (xs.take j.toNat).length) W) ∧
      (∀ w : World, ReadsOf enc d w A xs.length xs → ReadsOf enc d w A (xs.take j.toNat).length (xs.take j.toNat)) ∧ (xs.take j.toNat).length ≤ (xs.take j.toNat).length := by
  have hl : (xs.take j.toNat).length = j.toNat := by rw [List.length_take]; omega
  refine ⟨fun W => ?_, fun w h => by rw [hl]; exact h.take_ j.toNat (by omega), Nat.le_refl _⟩
  have hel : P.elem t = e := by simp [Program.elem, ht]
  have hu : P.underlying t = some (.slice (P.elem t)) := by rw [hel]; exact ht
  have ha : (A.map fun x => x.add 0) = A := by cases A <;> simp [Addr.add]
  rw [run_slice_hm W t A xs.length c hu kl kl j j h0 (Int.le_refl _) (by omega), hel, hl]
  simp [sizeOf, typeInfo, hi, hsz, sliced, Result.andThen, ha]
theorem cut_to3 {P : Program} (t e : TypeId) (kh : IntKind) {i : TypeInfo} (ht : P.underlying t = some (.slice e)) (hi : P.info? e = some i) (A : Option Addr) (n c : Nat) (j : Int) (h0 : 0 ≤ j) (hm : j ≤ n) (hc : n ≤ c) :
    ∀ W : World, (Instr.slice t (.slice A n c) none (some (.int kh j)) (some (.int kh j))).run P W = .ok (.slice A j.toNat j.toNat) W := by
  intro W
  have hel : P.elem t = e := by simp [Program.elem, ht]
  have hu : P.underlying t = some (.slice (P.elem t)) := by rw [hel]; exact ht
  have ha : (A.map fun x => x.add 0) = A := by cases A <;> simp [Addr.add]
  rw [run_slice_hm W t A n c hu kh kh j j h0 (Int.le_refl _) (by omega), hel]
  simp [sizeOf, typeInfo, hi, sliced, Result.andThen, ha]
theorem Kd.C_len_ {α : Type} {d : Kd α} {w : World} {A : Option Addr} {n m : Nat} {xs : List α} (h : n = m) (hC : Kd.C d w A m xs) : Kd.C d w A n xs := h ▸ hC
theorem own_cut {w : World} {base m c size : Nat} {e : TypeId} {A : Option Addr} {xs : List Value} (h : w.ownsL base e size (.slice A m c) m xs) : w.ownsL base e size (.slice A m m) m xs := by
  obtain ⟨h1, h2⟩ := h
  rcases h2 with ⟨he, h0⟩ | ⟨g, cap, cur, he, hb, hh, hnc, hcm, ⟨c', q1, q2, q3⟩, ht⟩
  · injection he with ha _ hc
    subst ha h0
    exact ⟨h1, .inl ⟨rfl, rfl⟩⟩
  · injection he with ha _ hc
    subst ha hc
    exact ⟨h1, .inr ⟨g, m, cur, rfl, hb, hh, Nat.le_refl _, Nat.le_trans hnc hcm, ⟨c', Nat.le_trans hnc q1, q2, q3⟩, ht⟩⟩
theorem Kd.R_take3 {α : Type} {d : Kd α} {e m n c : Nat} {w : World} {base : Nat} {ok : Nat → Prop} {A : Option Addr} {xs : List α} (h : d.R e w base ok (.slice A n c) xs) (hm : m ≤ xs.length) : d.R e w base ok (.slice A m m) (xs.take m) := by
  have hb : (Value.slice A m m).ownBlock = (Value.slice A m c).ownBlock := by cases A <;> rfl
  obtain ⟨h0, inner, ho, hr⟩ := Kd.R_take h hm
  have hl : (xs.take m).length = m := by rw [List.length_take]; omega
  rw [hl] at ho
  refine ⟨fun k hk => h0 k (by rw [← hb]; exact hk), inner, by rw [hl]; exact own_cut ho, ?_⟩
  rw [hb]
  exact hr
end Go.Proofs.YthheakfgmombdaaX.PrintWords
