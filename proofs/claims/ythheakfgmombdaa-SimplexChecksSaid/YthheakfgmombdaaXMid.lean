-- laid by a program of this session (xwords.py)
import Derived.Test.YthheakfgmombdaaXCap
import Derived.Test.YthheakfgmombdaaXMore
import Derived.Test.YthheakfgmombdaaXKept
import Derived.Test.YthheakfgmombdaaXAt
namespace Go.Proofs.YthheakfgmombdaaX.PrintWords
open Go.RowKit
/-- A stretch of a row of the call's own: the row is pre ++ xs ++ post, v is the cut that holds xs. -/
def MR (pre post : List Int) (cap : Nat) (e : Nat) (w : World) (base : Nat) (ok : Nat → Prop) (v : Value) (xs : List Int) : Prop :=
  (∀ k, v.ownBlock = some k → ok k) ∧ ∃ g cS, v = .slice (some ⟨g, pre.length, none⟩) xs.length cS ∧ xs.length ≤ cS ∧ Kd.R (Kd.int .u32) e w base ok (.slice (some ⟨g, 0, none⟩) (pre ++ xs ++ post).length cap) (pre ++ xs ++ post)
section
variable {pre post : List Int} {cap e : Nat} {w w1 w' W : World} {base : Nat} {ok ok' : Nat → Prop} {v : Value} {xs : List Int}
theorem MR_mono (h : MR pre post cap e w base ok v xs) (hok : ∀ k, ok k → ok' k) : MR pre post cap e w base ok' v xs := by
  obtain ⟨h0, g, cS, hv, hc, hr⟩ := h
  exact ⟨fun k hk => hok k (h0 k hk), g, cS, hv, hc, Kd.R_mono hr hok⟩
theorem MR_slice (h : MR pre post cap e w base ok v xs) : ∃ A c, v = .slice A xs.length c := by
  obtain ⟨_, g, cS, hv, _⟩ := h
  exact ⟨_, _, hv⟩
theorem MR_alloc (h : MR pre post cap e w base ok v xs) (o : Obj) : MR pre post cap e (w.alloc o) base ok v xs := by
  obtain ⟨h0, g, cS, hv, hc, hr⟩ := h
  exact ⟨h0, g, cS, hv, hc, Kd.R_alloc hr o⟩
theorem MR_drew (h : MR pre post cap e w base ok v xs) : MR pre post cap e w.drew base ok v xs := by
  obtain ⟨h0, g, cS, hv, hc, hr⟩ := h
  exact ⟨h0, g, cS, hv, hc, Kd.R_drew hr⟩
theorem MR_drewN (h : MR pre post cap e w base ok v xs) (m : Nat) : MR pre post cap e (w.drewN m) base ok v xs := by
  obtain ⟨h0, g, cS, hv, hc, hr⟩ := h
  exact ⟨h0, g, cS, hv, hc, Kd.R_drewN hr m⟩
theorem MR_at {m : Nat} (hq : w.drewN m = w') (h : MR pre post cap e w base ok v xs) : MR pre post cap e w' base ok v xs := by subst hq; exact MR_drewN h m
theorem add_mid (g o j : Nat) : (⟨g, o, none⟩ : Addr).add j = ⟨g, o + j, none⟩ := by unfold Addr.add; split <;> simp_all
theorem MR_readsOf {A : Option Addr} {n c : Nat} (h : MR pre post cap e w base ok (.slice A n c) xs) : n = xs.length ∧ n ≤ c ∧ ReadsOf (Value.int .u32) 0 w A xs.length xs := by
  obtain ⟨h0, g, cS, hv, hc, hr⟩ := h
  injection hv with h1 h2 h3
  subst h1 h2 h3
  have hC := (Kd.R_reads' hr).2.2
  have hR := Kd.reads_of_C (enc := Value.int .u32) (d := (0 : Int)) (h1 := fun _ => rfl) hC
  refine ⟨rfl, hc, rfl, ?_, fun hn => ⟨_, rfl, fun j hj => ?_⟩⟩
  · have := hR.2.1
    simp only [List.length_append] at this
    omega
  · obtain ⟨ad, he, hcell⟩ := hR.2.2 (by simp only [List.length_append]; omega)
    injection he with he
    subst he
    have := hcell (pre.length + j) (by simp only [List.length_append]; omega)
    rw [add_mid] at this ⊢
    rw [Nat.zero_add] at this
    rw [this]
    congr 2
    simp only [List.getD_eq_getElem?_getD]
    rw [List.append_assoc, List.getElem?_append_right (Nat.le_add_right _ _), Nat.add_sub_cancel_left, List.getElem?_append_left hj]
theorem MR_reads' {A : Option Addr} {n c : Nat} (h : MR pre post cap e w base ok (.slice A n c) xs) : n = xs.length ∧ n ≤ c ∧ Kd.C (Kd.int .u32) w A xs.length xs := by
  obtain ⟨h1, h2, h3⟩ := MR_readsOf h
  exact ⟨h1, h2, Kd.C_of_reads (d := (0 : Int)) (h1 := fun _ => rfl) h3⟩
theorem MR_form (h : MR pre post cap e w base ok v xs) (_hp : 0 < xs.length) : ∃ g cap, v = .slice (some ⟨g, pre.length, none⟩) xs.length cap ∧ base ≤ g ∧ g < w.heap.size ∧ ∃ cells, w.heap[g]? = some (.cells cells e (0, 0)) := by
  obtain ⟨h0, g, cS, hv, hc, hr⟩ := h
  obtain ⟨g', cap', he, hb, hl, hcs⟩ := Kd.R_form hr (by simp only [List.length_append]; omega)
  injection he with he
  injection he with he
  injection he with he
  subst he
  exact ⟨g, cS, hv, hb, hl, hcs⟩
theorem MR_celln {g n c : Nat} (d : Int) (hd : d = 0) (h : MR pre post cap e w base ok (.slice (some ⟨g, pre.length, none⟩) n c) xs) (i : Int) (h0 : 0 ≤ i) (hi : i < n) : w.cell? ⟨g, pre.length + i.toNat, none⟩ = some (.int .u32 (rdOf d xs i)) ∧ w.frozen? ⟨g, pre.length + i.toNat, none⟩ = false := by
  subst hd
  obtain ⟨h1, g', cS, hv, hc, hr⟩ := h
  injection hv with h1' h2 h3
  injection h1' with h1'
  injection h1' with h1'
  subst h1' h2 h3
  have := Kd.R_celln (enc := Value.int .u32) (h1 := fun _ => rfl) 0 hr ((pre.length + i.toNat : Nat) : Int) (Int.natCast_nonneg _) (by simp only [List.length_append]; omega)
  rw [Int.toNat_natCast] at this
  refine ⟨this.1.trans ?_, this.2⟩
  congr 2
  unfold rdOf
  simp only [Int.toNat_natCast, List.getD_eq_getElem?_getD]
  rw [List.append_assoc, List.getElem?_append_right (Nat.le_add_right _ _), Nat.add_sub_cancel_left, List.getElem?_append_left (by omega)]
theorem MR_putg {g n c : Nat} (h : MR pre post cap e w base ok (.slice (some ⟨g, pre.length, none⟩) n c) xs) (i : Int) (x : Int) (h0 : 0 ≤ i) (hi : i < n) : MR pre post cap e (w.setCell ⟨g, pre.length + i.toNat, none⟩ (.int .u32 x)) base ok (.slice (some ⟨g, pre.length, none⟩) n c) (xs.set i.toNat x) ∧ w.grownBy (w.setCell ⟨g, pre.length + i.toNat, none⟩ (.int .u32 x)) (some g) := by
  obtain ⟨h1, g', cS, hv, hc, hr⟩ := h
  injection hv with h1' h2 h3
  injection h1' with h1'
  injection h1' with h1'
  subst h1' h2 h3
  have := Kd.R_putg (enc := Value.int .u32) (h1 := fun _ => rfl) hr ((pre.length + i.toNat : Nat) : Int) x
  rw [Int.toNat_natCast] at this
  have he : (pre ++ xs ++ post).set (pre.length + i.toNat) x = pre ++ xs.set i.toNat x ++ post := by
    rw [List.append_assoc, List.set_append_right _ _ (Nat.le_add_right _ _), Nat.add_sub_cancel_left, List.set_append_left _ _ (by omega), List.append_assoc]
  rw [he] at this
  refine ⟨⟨h1, g, c, by rw [List.length_set], by rw [List.length_set]; exact hc, ?_⟩, this.2⟩
  have hl : (pre ++ xs ++ post).length = (pre ++ xs.set i.toNat x ++ post).length := by simp
  rw [← hl]
  exact this.1
end
end Go.Proofs.YthheakfgmombdaaX.PrintWords
