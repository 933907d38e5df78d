import Derived.Test.YthheakfgmombdaaProg
import Derived.Below
import Derived.Deep.Draws
import Derived.Deep.AppendLies
import Derived.Maps.AppendAt
import Derived.OwnWalk
import Derived.Laws.BytesArg
import Derived.Laws.MakeOwn
import Derived.Laws.OwnMore
import Derived.Deep.OwnRows
import Derived.Tactics
import Derived.Lib.ConvBytes
import Derived.Laws.Slices
import Derived.WalkKit
import Derived.KernelRfl
import Derived.RowKit3
import Derived.Deep.LoopGhost
import Derived.Deep.QuietTactic
import Derived.BigQuiet
import Derived.WideLaws
import Derived.Deep.DeepCutAuto
import Derived.Deep.CutBlock
import Derived.Deep.RegionHeld3
import Derived.Laws.Rows
import Derived.Lib.AppendStr
import Derived.ArgAppend
import Derived.Laws.IdiomCopy
import Derived.OrdersHeld
import Derived.Laws.BitsLemmas
import Derived.RowKit
import Derived.Test.YthheakfgmombdaaCDelsarteLinearE
/- Part F of the proof: FHead, FHeadD, FNatzshort, FBitsLen32, FNatBits, FRationalzone, FNatTrim, FNatOf, FNatCmp, FNatzshorto, FNatzdigit, FBitsLeadingZeros32, FNatzshift, FNatzstep, FNatzlong, FNatDivMod, FNatGcd, FRationalzcanonical, FRationalzsize, FRationalOf, FDelsarteDistances. -/
section
namespace Go.Proofs.Ythheakfgmombdaa.F
open Go.RowKit Go.Proofs.YthheakfgmombdaaX.PrintWords Go.Proofs.YthheakfgmombdaaX.PrintLast Go.Proofs.YthheakfgmombdaaX.PrintMore
attribute [local go_sem] max2_int min2_int max_two min_two max_three min_three max_four min_four   -- for this text's walks alone
set_option linter.unusedVariables false
set_option linter.unusedSimpArgs false
def errW : Option Int → Value
 | none => .nilIface
 | some c => .iface 0 (.int .i64 c)
theorem errW_none : errW none = .nilIface := rfl
theorem errW_some (c : Int) : errW (some c) = .iface 0 (.int .i64 c) := rfl
theorem info22 : (Try.prog.info? 22).map (fun i => (i.zero, i.size, i.bytes)) = some (some (.slice none 0 0), 1, 24) := by kernel_rfl
theorem info44 : (Try.prog.info? 44).map (fun i => (i.zero, i.size, i.bytes)) = some (some (.slice none 0 0), 1, 24) := by kernel_rfl
theorem info46 : (Try.prog.info? 46).map (fun i => (i.zero, i.size, i.bytes)) = some (some (.agg #[(.bool false), (.slice none 0 0), (.slice none 0 0)]), 3, 56) := by kernel_rfl
theorem info100 : (Try.prog.info? 100).map (fun i => (i.zero, i.size, i.bytes)) = some (some (.int .u32 0), 1, 4) := by kernel_rfl
theorem at_L2 {w : World} {A : Option Addr} {n : Nat} {xs : List (List Int)} (h : Kd.C (Kd.slice 100 (Kd.int .u32)) w A n xs) (i : Int) (h0 : 0 ≤ i) (h1 : i < n) : ∃ ad A0 c0, A = some ad ∧ w.cell? (ad.add i.toNat) = some (.slice A0 (rd_L2 xs i).length c0) ∧ (rd_L2 xs i).length ≤ c0 ∧ (Kd.int .u32).C w A0 (rd_L2 xs i).length (rd_L2 xs i) := by
 obtain ⟨ad, c, e, _, hK, hc0⟩ := Kd.C_get h ([] : List Int) i h0 h1
 have hc : ∀ j u, c[j]? = some u → w.cell? (ad.add (i.toNat * 1 + j)) = some u := hc0
 obtain ⟨A0, c0, rfl, l0, g0⟩ := hK
 exact ⟨ad, A0, c0, e, by have hq := hc 0 _ rfl; rwa [Nat.mul_one, Nat.add_zero] at hq, l0, g0⟩
def k46 : Kd S46 := Kd.iso (Kd.pair Kd.bool (Kd.pair (Kd.slice 100 (Kd.int .u32)) (Kd.slice 100 (Kd.int .u32)))) (fun x : S46 => (x.f0, x.f1, x.f2))
theorem k46_heap : Kd.Heap k46 := Kd.heap_iso _ (Kd.heap_pair Kd.heap_bool (Kd.heap_pair (Kd.heap_slice 100 (Kd.heap_int .u32)) (Kd.heap_slice 100 (Kd.heap_int .u32))))
theorem k46_open {w : World} {x : S46} {cs : List Value} (h : k46.K w x cs) : ∃ A1 c1 A2 c2, cs = [.bool x.f0, .slice A1 x.f1.length c1, .slice A2 x.f2.length c2] ∧ x.f1.length ≤ c1 ∧ (Kd.int .u32).C w A1 x.f1.length x.f1 ∧ x.f2.length ≤ c2 ∧ (Kd.int .u32).C w A2 x.f2.length x.f2 := by
 obtain ⟨_, _, rfl, rfl, ⟨_, _, rfl, ⟨A1, c1, rfl, l1, g1⟩, ⟨A2, c2, rfl, l2, g2⟩⟩⟩ := h
 exact ⟨A1, c1, A2, c2, rfl, l1, g1, l2, g2⟩
theorem k46_openM {w : World} {base : Nat} {ok : Nat → Prop} {x : S46} {cs : List Value} (h : k46.M w base ok x cs) : ∃ v1 v2, cs = [.bool x.f0, v1, v2] ∧ (Kd.int .u32).R 100 w base ok v1 x.f1 ∧ (Kd.int .u32).R 100 w base ok v2 x.f2 := by
 obtain ⟨_, _, rfl, rfl, ⟨_, _, rfl, ⟨v1, rfl, g1⟩, ⟨v2, rfl, g2⟩⟩⟩ := h
 exact ⟨v1, v2, rfl, g1, g2⟩
theorem k46_mk (w : World) (x : S46) {A1 : Option Addr} {c1 : Nat} (l1 : x.f1.length ≤ c1) (g1 : (Kd.int .u32).C w A1 x.f1.length x.f1) {A2 : Option Addr} {c2 : Nat} (l2 : x.f2.length ≤ c2) (g2 : (Kd.int .u32).C w A2 x.f2.length x.f2) : k46.K w x [.bool x.f0, .slice A1 x.f1.length c1, .slice A2 x.f2.length c2] := ⟨[.bool x.f0], [.slice A1 x.f1.length c1, .slice A2 x.f2.length c2], rfl, rfl, ⟨[.slice A1 x.f1.length c1], [.slice A2 x.f2.length c2], rfl, ⟨A1, c1, rfl, l1, g1⟩, ⟨A2, c2, rfl, l2, g2⟩⟩⟩
theorem k46_mkM (w : World) (base : Nat) (ok : Nat → Prop) (x : S46) {v1 : Value} (g1 : (Kd.int .u32).R 100 w base ok v1 x.f1) {v2 : Value} (g2 : (Kd.int .u32).R 100 w base ok v2 x.f2) : k46.M w base ok x [.bool x.f0, v1, v2] := ⟨[.bool x.f0], [v1, v2], rfl, rfl, ⟨[v1], [v2], rfl, ⟨v1, rfl, g1⟩, ⟨v2, rfl, g2⟩⟩⟩
theorem k46_openF {W : World} {ok : Nat → Prop} {x : S46} {cs : List Value} (h : Kd.FK k46 W ok x cs) : ∃ A1 c1 A2 c2, cs = [.bool x.f0, .slice A1 x.f1.length c1, .slice A2 x.f2.length c2] ∧ x.f1.length ≤ c1 ∧ Kd.F (Kd.int .u32) W ok A1 x.f1.length x.f1 ∧ x.f2.length ≤ c2 ∧ Kd.F (Kd.int .u32) W ok A2 x.f2.length x.f2 := by
 obtain ⟨A1, c1, A2, c2, rfl, l1, _, l2, _⟩ := k46_open (Kd.FK_now h)
 exact ⟨A1, c1, A2, c2, rfl, l1, (fun W' hW => by obtain ⟨A1_, c1_, A2_, c2_, he, l1_, g1_, l2_, g2_⟩ := k46_open (h W' hW); injection (Option.some.inj (show some (Value.slice A1 x.f1.length c1) = some (Value.slice A1_ x.f1.length c1_) from congrArg (fun l => l[1]?) he)) with ha_ _ _; rw [ha_]; exact g1_), l2, (fun W' hW => by obtain ⟨A1_, c1_, A2_, c2_, he, l1_, g1_, l2_, g2_⟩ := k46_open (h W' hW); injection (Option.some.inj (show some (Value.slice A2 x.f2.length c2) = some (Value.slice A2_ x.f2.length c2_) from congrArg (fun l => l[2]?) he)) with ha_ _ _; rw [ha_]; exact g2_)⟩
theorem k46_mkF (W : World) (ok : Nat → Prop) (x : S46) {A1 : Option Addr} {c1 : Nat} (l1 : x.f1.length ≤ c1) (g1 : Kd.F (Kd.int .u32) W ok A1 x.f1.length x.f1) {A2 : Option Addr} {c2 : Nat} (l2 : x.f2.length ≤ c2) (g2 : Kd.F (Kd.int .u32) W ok A2 x.f2.length x.f2) : Kd.FK k46 W ok x [.bool x.f0, .slice A1 x.f1.length c1, .slice A2 x.f2.length c2] := fun W2 hW => k46_mk W2 x l1 (g1 W2 hW) l2 (g2 W2 hW)
theorem at_T46 {w : World} {A : Option Addr} {n : Nat} {xs : List S46} (h : Kd.C k46 w A n xs) (i : Int) (h0 : 0 ≤ i) (h1 : i < n) : ∃ ad A1 c1 A2 c2, A = some ad ∧ w.cell? (ad.add (i.toNat * 3)) = some (.bool (rd_T46 xs i).f0) ∧ w.cell? ⟨(ad.add (i.toNat * 3)).block, (ad.add (i.toNat * 3)).off + 1, none⟩ = some (.slice A1 (rd_T46 xs i).f1.length c1) ∧ w.cell? ⟨(ad.add (i.toNat * 3)).block, (ad.add (i.toNat * 3)).off + 2, none⟩ = some (.slice A2 (rd_T46 xs i).f2.length c2) ∧ (rd_T46 xs i).f1.length ≤ c1 ∧ (Kd.int .u32).C w A1 (rd_T46 xs i).f1.length (rd_T46 xs i).f1 ∧ (rd_T46 xs i).f2.length ≤ c2 ∧ (Kd.int .u32).C w A2 (rd_T46 xs i).f2.length (rd_T46 xs i).f2 := by
 obtain ⟨ad, c, e, _, hK, hc0⟩ := Kd.C_get h z46 i h0 h1
 have hc : ∀ j u, c[j]? = some u → w.cell? (ad.add (i.toNat * 3 + j)) = some u := hc0
 obtain ⟨A1, c1, A2, c2, rfl, l1, g1, l2, g2⟩ := k46_open hK
 exact ⟨ad, A1, c1, A2, c2, e, hc 0 _ rfl, by rw [← add_field _ _ 1 (by omega)]; exact hc 1 _ rfl, by rw [← add_field _ _ 2 (by omega)]; exact hc 2 _ rfl, l1, g1, l2, g2⟩
theorem at_L4 {w : World} {A : Option Addr} {n : Nat} {xs : List (List S46)} (h : Kd.C (Kd.slice 46 k46) w A n xs) (i : Int) (h0 : 0 ≤ i) (h1 : i < n) : ∃ ad A0 c0, A = some ad ∧ w.cell? (ad.add i.toNat) = some (.slice A0 (rd_L4 xs i).length c0) ∧ (rd_L4 xs i).length ≤ c0 ∧ k46.C w A0 (rd_L4 xs i).length (rd_L4 xs i) := by
 obtain ⟨ad, c, e, _, hK, hc0⟩ := Kd.C_get h ([] : List S46) i h0 h1
 have hc : ∀ j u, c[j]? = some u → w.cell? (ad.add (i.toNat * 1 + j)) = some u := hc0
 obtain ⟨A0, c0, rfl, l0, g0⟩ := hK
 exact ⟨ad, A0, c0, e, by have hq := hc 0 _ rfl; rwa [Nat.mul_one, Nat.add_zero] at hq, l0, g0⟩
end Go.Proofs.Ythheakfgmombdaa.F
end
section
namespace Go.Proofs.Ythheakfgmombdaa.F
open Go.RowKit Go.Proofs.YthheakfgmombdaaX.PrintWords Go.Proofs.YthheakfgmombdaaX.PrintLast Go.Proofs.YthheakfgmombdaaX.PrintMore
set_option linter.unusedVariables false
set_option linter.unusedSimpArgs false
theorem info3 : (Try.prog.info? 3).map (fun i => (i.zero, i.size, i.bytes)) = some (some (.int .i64 0), 1, 8) := by kernel_rfl
theorem at_LI {w : World} {A : Option Addr} {n : Nat} {xs : List (List Int)} (h : Kd.C (Kd.slice 3 (Kd.int .i64)) w A n xs) (i : Int) (h0 : 0 ≤ i) (h1 : i < n) : ∃ ad A0 c0, A = some ad ∧ w.cell? (ad.add i.toNat) = some (.slice A0 (rd_LI xs i).length c0) ∧ (rd_LI xs i).length ≤ c0 ∧ (Kd.int .i64).C w A0 (rd_LI xs i).length (rd_LI xs i) := by
 obtain ⟨ad, c, e, _, hK, hc0⟩ := Kd.C_get h ([] : List Int) i h0 h1
 have hc : ∀ j u, c[j]? = some u → w.cell? (ad.add (i.toNat * 1 + j)) = some u := hc0
 obtain ⟨A0, c0, rfl, l0, g0⟩ := hK
 exact ⟨ad, A0, c0, e, by have hq := hc 0 _ rfl; rwa [Nat.mul_one, Nat.add_zero] at hq, l0, g0⟩
theorem info41 : (Try.prog.info? 41).map (fun i => (i.zero, i.size, i.bytes)) = some (some (.slice none 0 0), 1, 24) := by kernel_rfl
end Go.Proofs.Ythheakfgmombdaa.F
end
section
namespace Go.Proofs.Ythheakfgmombdaa.F
open Go.RowKit Go.Proofs.YthheakfgmombdaaX.PrintWords Go.Proofs.YthheakfgmombdaaX.PrintLast Go.Proofs.YthheakfgmombdaaX.PrintMore
attribute [local go_sem] max2_int min2_int max_two min_two max_three min_three max_four min_four   -- for this text's walks alone
set_option linter.unusedVariables false
set_option linter.unusedSimpArgs false
set_option maxHeartbeats 8000000 in
set_option maxRecDepth 100000 in
theorem nat_short.calls (k : Nat) (P0_ : Nat → Prop) (A0 : Option Addr) (c0 : Nat) (l0 : List Int) (r : List Int) (w : World) (hs0 : Kd.V (Kd.int .u32) 100 w w.heap.size (fun k_ => P0_ k_) (.slice A0 l0.length c0) l0) (h : nat_short.f k l0 = some r) :
  Calls Try.prog 123 #[.slice A0 l0.length c0] w fun e w' => ∃ v0_ : Value, e = .returned (v0_) ∧ Kd.V (Kd.int .u32) 100 w' w.heap.size (fun k_ => (P0_ k_ ∨ w.heap.size ≤ k_)) v0_ r ∧ Below w.heap.size w w' := by
 have HO0 := Aside0.mk (show Kd.V (Kd.int .u32) 100 w w.heap.size (fun k_ => (P0_ k_ ∨ w.heap.size ≤ k_)) (.slice A0 l0.length c0) l0 from Kd.V_mono hs0 (fun k_ hk => .inl hk))
 have HB := Aside0.mk (Below.refl w.heap.size w)
 have H : (nat_short.l0 k l0 (l0.length : Int)) = some r := h
 clear h
 have H' := Aside0.mk H
 clear H
 go_enter Try.func123, Try.ntmps123
 go_wp2
 go_loopg [3] k (fun kq v3 w' => ∃ (x3_1 : Int), v3 = .int .i64 x3_1 ∧ Aside0 (nat_short.l0 kq l0 x3_1 = some r) ∧ Aside0 (kq ≤ k) ∧ Aside0 (Kd.V (Kd.int .u32) 100 w' w.heap.size (fun k_ => (P0_ k_ ∨ w.heap.size ≤ k_)) (.slice A0 l0.length c0) l0) ∧ Aside0 (Below w.heap.size w w'))
 case atStart => exact ⟨((l0.length : Int)), rfl, H', ⟨Nat.le_refl _⟩, ⟨HO0.out⟩, ⟨HB.out⟩⟩
 case round =>
  clear H'
  obtain ⟨x3_1, rfl, HA, HK1, HO_0, HB⟩ := hrel
  cases gk with
  | zero => exact absurd HA.out (by simp [nat_short.l0])
  | succ k1 =>
   have H := HA.out
   clear HA
   simp only [nat_short.l0] at H
   by_cases c2 : x3_1 > 0
   ·rw [if_pos c2] at H
    have c2b0 : decide (0 < x3_1) = true := decide_eq_true c2
    clear c2
    obtain ⟨ji3, hji3⟩ : ∃ j_ : Int, (wrap64 (x3_1 - 1)) = j_ := ⟨_, rfl⟩
    rw [hji3] at H
    have hji3w : (IntKind.i64.wrap (x3_1 - 1)) = ji3 := (i64_w _).trans hji3
    by_cases c4 : 0 ≤ (ji3)
    ·rw [if_pos c4] at H
     have c4b0 : decide (0 ≤ (ji3)) = true := decide_eq_true c4
     clear c4
     by_cases c5 : (ji3) < (l0.length : Int)
     ·rw [if_pos c5] at H
      have c5b0 : decide ((ji3) < (l0.length : Int)) = true := decide_eq_true c5
      clear c5
      by_cases c6 : (rd l0 (ji3)) = 0
      ·rw [if_pos c6] at H
       have c6b1 : ((rd l0 (ji3)) != 0) = false := bne_eq_false_iff_eq.mpr c6
       clear c6
       have H' := Aside0.mk H
       clear H
       have p119 : 0 ≤ ((ji3) : Int) := of_decide_eq_true (by assumption)
       have q119 : (ji3) < (l0.length : Int) := of_decide_eq_true (by assumption)
       obtain ⟨ad119, e119, hx119_0⟩ := Kd.at_int (Kd.V_reads' HO_0.out).2.2 (ji3) p119 q119
       cases e119
       replace q119 := eq_true q119
       go_wp2
       go_roundg k1
       case measure => have := HK1.out; omega
       case rel => exact ⟨(ji3), rfl, H', ⟨by have := HK1.out; omega⟩, ⟨HO_0.out⟩, ⟨HB.out⟩⟩
      ·rw [if_neg c6] at H
       by_cases c7 : 0 ≤ x3_1
       ·rw [if_pos c7] at H
        have c7b1 : decide (0 ≤ x3_1) = true := decide_eq_true c7
        clear c7
        by_cases c8 : x3_1 ≤ (l0.length : Int)
        ·rw [if_pos c8] at H
         have c8b1 : decide (x3_1 ≤ (l0.length : Int)) = true := decide_eq_true c8
         clear c8
         obtain ⟨y120, hy120⟩ : ∃ y_ : List Int, y_ = (l0.take (x3_1 : Int).toNat) := ⟨_, rfl⟩
         (try replace H := (Option.bind_some _ _).symm.trans H); rw [← hy120] at H
         have Ny120 := Aside0.mk hy120
         clear hy120
         obtain rfl := Option.some.inj H
         have p119 : 0 ≤ ((ji3) : Int) := of_decide_eq_true (by assumption)
         have q119 : (ji3) < (l0.length : Int) := of_decide_eq_true (by assumption)
         obtain ⟨ad119, e119, hx119_0⟩ := Kd.at_int (Kd.V_reads' HO_0.out).2.2 (ji3) p119 q119
         cases e119
         replace q119 := eq_true q119
         have q9 : (x3_1 : Int) ≤ ((l0.length : Int) : Int) := of_decide_eq_true (by assumption)
         obtain ⟨i09, hi09, _, hsz9, _⟩ := info_parts info100
         have hroom9 : l0.length ≤ c0 := (Kd.V_reads' HO_0.out).2.1
         have hC9 : Kd.F (Kd.int .u32) _ _ (some ad119) l0.length l0 := (Kd.V_at (base := w.heap.size) HO_0.out).2.2
         have hcut9 := cut_to3 (P := Try.prog) 44 100 .i64 Try.underlying44 hi09 (some ad119) l0.length c0 x3_1 (of_decide_eq_true (by assumption)) q9 hroom9
         have hr9 := Kd.F_take (m := (x3_1 : Int).toNat) hC9 (by omega)
         have hy9 : y120.length = (x3_1 : Int).toNat := (by rw [Ny120.out, List.length_take]; omega)
         rw [← Ny120.out] at hr9
         rw [← hy9] at hcut9
         have HO124 := Aside0.mk (show Kd.V (Kd.int .u32) 100 _ w.heap.size _ (.slice (some ad119) y120.length y120.length) y120 from Kd.V_mk (by omega) hr9)
         have HC124 := Aside0.mk (show y120.length ≤ y120.length from by omega)
         clear hr9 hC9 hroom9 hi09 hsz9
         have KY9 := Aside0.mk hy9
         clear hy9
         replace q9 := eq_true q9
         go_wp2
         go_ret
         exact ⟨_, rfl, HO124.out, HB.out⟩
        ·rw [if_neg c8] at H
         exact absurd H (by simp)
       ·rw [if_neg c7] at H
        exact absurd H (by simp)
     ·rw [if_neg c5] at H
      exact absurd H (by simp)
    ·rw [if_neg c4] at H
     exact absurd H (by simp)
   ·rw [if_neg c2] at H
    have c2b0 : decide (0 < x3_1) = false := decide_eq_false c2
    clear c2
    by_cases c10 : 0 ≤ x3_1
    ·rw [if_pos c10] at H
     have c10b1 : decide (0 ≤ x3_1) = true := decide_eq_true c10
     clear c10
     by_cases c11 : x3_1 ≤ (l0.length : Int)
     ·rw [if_pos c11] at H
      have c11b0 := eq_true c11
      have c11b1 : decide (x3_1 ≤ (l0.length : Int)) = true := decide_eq_true c11
      clear c11
      obtain ⟨y125, hy125⟩ : ∃ y_ : List Int, y_ = (l0.take (x3_1 : Int).toNat) := ⟨_, rfl⟩
      (try replace H := (Option.bind_some _ _).symm.trans H); rw [← hy125] at H
      have Ny125 := Aside0.mk hy125
      clear hy125
      obtain rfl := Option.some.inj H
      have q12 : (x3_1 : Int) ≤ ((l0.length : Int) : Int) := of_decide_eq_true (by assumption)
      obtain ⟨i012, hi012, _, hsz12, _⟩ := info_parts info100
      have hroom12 : l0.length ≤ c0 := (Kd.V_reads' HO_0.out).2.1
      have hC12 : Kd.F (Kd.int .u32) _ _ A0 l0.length l0 := (Kd.V_at (base := w.heap.size) HO_0.out).2.2
      have hcut12 := cut_to3 (P := Try.prog) 44 100 .i64 Try.underlying44 hi012 A0 l0.length c0 x3_1 (of_decide_eq_true (by assumption)) q12 hroom12
      have hr12 := Kd.F_take (m := (x3_1 : Int).toNat) hC12 (by omega)
      have hy12 : y125.length = (x3_1 : Int).toNat := (by rw [Ny125.out, List.length_take]; omega)
      rw [← Ny125.out] at hr12
      rw [← hy12] at hcut12
      have HO129 := Aside0.mk (show Kd.V (Kd.int .u32) 100 _ w.heap.size _ (.slice A0 y125.length y125.length) y125 from Kd.V_mk (by omega) hr12)
      have HC129 := Aside0.mk (show y125.length ≤ y125.length from by omega)
      clear hr12 hC12 hroom12 hi012 hsz12
      have KY12 := Aside0.mk hy12
      clear hy12
      replace q12 := eq_true q12
      go_wp2
      go_ret
      exact ⟨_, rfl, HO129.out, HB.out⟩
     ·rw [if_neg c11] at H
      exact absurd H (by simp)
    ·rw [if_neg c10] at H
     exact absurd H (by simp)
end Go.Proofs.Ythheakfgmombdaa.F
end
section
namespace Go.Proofs.Ythheakfgmombdaa.F
open Go.RowKit Go.Proofs.YthheakfgmombdaaX.PrintWords Go.Proofs.YthheakfgmombdaaX.PrintLast Go.Proofs.YthheakfgmombdaaX.PrintMore
attribute [local go_sem] max2_int min2_int max_two min_two max_three min_three max_four min_four   -- for this text's walks alone
set_option linter.unusedVariables false
set_option linter.unusedSimpArgs false
set_option maxHeartbeats 8000000 in
set_option maxRecDepth 100000 in
theorem bits_Len32.calls (k : Nat) (a0 : Int) (r : Int) (w : World) (h : bits_Len32.f k a0 = some r) :
  Calls Try.prog 124 #[.int .u32 a0] w fun e w' => e = .returned (.int .i64 r) ∧ Drawn0 w w' := by
 have H : (if a0 ≥ 65536 then (bits_Len32.j0 k (a0 / 65536) 16) else (bits_Len32.j0 k a0 0)) = some r := h
 clear h
 have HC2 := Aside0.mk H
 clear H
 go_enter Try.func124, Try.ntmps124
 go_upto_if 4 with (fail)
 go_cut [0, 2] (fun v0 v2 wc => ∃ (kq : Nat) (x0_1 : Int) (x2_1 : Int), v0 = .int .u32 x0_1 ∧ v2 = .int .i64 x2_1 ∧ Aside0 (bits_Len32.j0 kq x0_1 x2_1 = some r) ∧ Aside0 (kq ≤ k) ∧ Drawn0 w wc)
 case first =>
  have H := HC2.out
  clear HC2
  by_cases c3 : a0 ≥ 65536
  ·rw [if_pos c3] at H
   have c3b0 : decide (65536 ≤ a0) = true := decide_eq_true c3
   clear c3
   (rw [c3b0])
   have H' := Aside0.mk H
   clear H
   go_wp2
   go_meet
   case rel => exact ⟨_, (a0 / 65536), (16), rfl, rfl, H', ⟨by omega⟩, by repeat (exact Drawn0.refl _)⟩
  ·rw [if_neg c3] at H
   have c3b0 : decide (65536 ≤ a0) = false := decide_eq_false c3
   clear c3
   (rw [c3b0])
   have H' := Aside0.mk H
   clear H
   go_wp2
   go_meet
   case rel => exact ⟨_, (a0), (0), rfl, rfl, H', ⟨by omega⟩, by repeat (exact Drawn0.refl _)⟩
 case rest =>
  clear HC2
  obtain ⟨kq, x0_1, x2_1, rfl, rfl, HA, HJ1, ⟨mc1, rfl⟩⟩ := hcut
  cases kq with
  | zero => exact absurd HA.out (by simp [bits_Len32.j0])
  | succ kj1 =>
   have H := HA.out
   clear HA
   simp only [bits_Len32.j0] at H
   by_cases c4 : x0_1 ≥ 256
   ·rw [if_pos c4] at H
    have c4b0 : decide (256 ≤ x0_1) = true := decide_eq_true c4
    clear c4
    obtain ⟨ji5, hji5⟩ : ∃ j_ : Int, ((x0_1 / 256) % 256) = j_ := ⟨_, rfl⟩
    rw [hji5] at H
    by_cases c6 : 0 ≤ (ji5)
    ·rw [if_pos c6] at H
     have c6b0 : decide (0 ≤ (ji5)) = true := decide_eq_true c6
     clear c6
     by_cases c7 : (ji5) < 256
     ·rw [if_pos c7] at H
      have c7b0 : decide ((ji5) < 256) = true := decide_eq_true c7
      clear c7
      obtain rfl := Option.some.inj H
      have p8 : 0 ≤ ((ji5) : Int) := of_decide_eq_true (by assumption)
      have q8 : (ji5) < (256 : Int) := of_decide_eq_true (by assumption)
      have hx8 := bt_at (⟨#[0, 1, 2, 2, 3, 3, 3, 3, 4, 4, 4, 4, 4, 4, 4, 4, 5, 5, 5, 5, 5, 5, 5, 5, 5, 5, 5, 5, 5, 5, 5, 5, 6, 6, 6, 6, 6, 6, 6, 6, 6, 6, 6, 6, 6, 6, 6, 6, 6, 6, 6, 6, 6, 6, 6, 6, 6, 6, 6, 6, 6, 6, 6, 6, 7, 7, 7, 7, 7, 7, 7, 7, 7, 7, 7, 7, 7, 7, 7, 7, 7, 7, 7, 7, 7, 7, 7, 7, 7, 7, 7, 7, 7, 7, 7, 7, 7, 7, 7, 7, 7, 7, 7, 7, 7, 7, 7, 7, 7, 7, 7, 7, 7, 7, 7, 7, 7, 7, 7, 7, 7, 7, 7, 7, 7, 7, 7, 7, 8, 8, 8, 8, 8, 8, 8, 8, 8, 8, 8, 8, 8, 8, 8, 8, 8, 8, 8, 8, 8, 8, 8, 8, 8, 8, 8, 8, 8, 8, 8, 8, 8, 8, 8, 8, 8, 8, 8, 8, 8, 8, 8, 8, 8, 8, 8, 8, 8, 8, 8, 8, 8, 8, 8, 8, 8, 8, 8, 8, 8, 8, 8, 8, 8, 8, 8, 8, 8, 8, 8, 8, 8, 8, 8, 8, 8, 8, 8, 8, 8, 8, 8, 8, 8, 8, 8, 8, 8, 8, 8, 8, 8, 8, 8, 8, 8, 8, 8, 8, 8, 8, 8, 8, 8, 8, 8, 8, 8, 8, 8, 8, 8, 8, 8, 8, 8, 8, 8, 8, 8, 8, 8, 8, 8, 8, 8, 8]⟩ : ByteArray) (ji5)
      replace q8 := eq_true q8
      go_wp2
      go_ret
      exact ⟨by rfl, by repeat (first | exact Drawn0.refl _ | apply Drawn0.step)⟩
     ·rw [if_neg c7] at H
      exact absurd H (by simp)
    ·rw [if_neg c6] at H
     exact absurd H (by simp)
   ·rw [if_neg c4] at H
    have c4b0 : decide (256 ≤ x0_1) = false := decide_eq_false c4
    clear c4
    obtain ⟨ji9, hji9⟩ : ∃ j_ : Int, ((x0_1) % 256) = j_ := ⟨_, rfl⟩
    rw [hji9] at H
    by_cases c10 : 0 ≤ (ji9)
    ·rw [if_pos c10] at H
     have c10b0 : decide (0 ≤ (ji9)) = true := decide_eq_true c10
     clear c10
     by_cases c11 : (ji9) < 256
     ·rw [if_pos c11] at H
      have c11b0 : decide ((ji9) < 256) = true := decide_eq_true c11
      clear c11
      obtain rfl := Option.some.inj H
      have p12 : 0 ≤ ((ji9) : Int) := of_decide_eq_true (by assumption)
      have q12 : (ji9) < (256 : Int) := of_decide_eq_true (by assumption)
      have hx12 := bt_at (⟨#[0, 1, 2, 2, 3, 3, 3, 3, 4, 4, 4, 4, 4, 4, 4, 4, 5, 5, 5, 5, 5, 5, 5, 5, 5, 5, 5, 5, 5, 5, 5, 5, 6, 6, 6, 6, 6, 6, 6, 6, 6, 6, 6, 6, 6, 6, 6, 6, 6, 6, 6, 6, 6, 6, 6, 6, 6, 6, 6, 6, 6, 6, 6, 6, 7, 7, 7, 7, 7, 7, 7, 7, 7, 7, 7, 7, 7, 7, 7, 7, 7, 7, 7, 7, 7, 7, 7, 7, 7, 7, 7, 7, 7, 7, 7, 7, 7, 7, 7, 7, 7, 7, 7, 7, 7, 7, 7, 7, 7, 7, 7, 7, 7, 7, 7, 7, 7, 7, 7, 7, 7, 7, 7, 7, 7, 7, 7, 7, 8, 8, 8, 8, 8, 8, 8, 8, 8, 8, 8, 8, 8, 8, 8, 8, 8, 8, 8, 8, 8, 8, 8, 8, 8, 8, 8, 8, 8, 8, 8, 8, 8, 8, 8, 8, 8, 8, 8, 8, 8, 8, 8, 8, 8, 8, 8, 8, 8, 8, 8, 8, 8, 8, 8, 8, 8, 8, 8, 8, 8, 8, 8, 8, 8, 8, 8, 8, 8, 8, 8, 8, 8, 8, 8, 8, 8, 8, 8, 8, 8, 8, 8, 8, 8, 8, 8, 8, 8, 8, 8, 8, 8, 8, 8, 8, 8, 8, 8, 8, 8, 8, 8, 8, 8, 8, 8, 8, 8, 8, 8, 8, 8, 8, 8, 8, 8, 8, 8, 8, 8, 8, 8, 8, 8, 8, 8, 8]⟩ : ByteArray) (ji9)
      replace q12 := eq_true q12
      go_wp2
      go_ret
      exact ⟨by rfl, by repeat (first | exact Drawn0.refl _ | apply Drawn0.step)⟩
     ·rw [if_neg c11] at H
      exact absurd H (by simp)
    ·rw [if_neg c10] at H
     exact absurd H (by simp)
end Go.Proofs.Ythheakfgmombdaa.F
end
section
namespace Go.Proofs.Ythheakfgmombdaa.F
open Go.RowKit Go.Proofs.YthheakfgmombdaaX.PrintWords Go.Proofs.YthheakfgmombdaaX.PrintLast Go.Proofs.YthheakfgmombdaaX.PrintMore
attribute [local go_sem] max2_int min2_int max_two min_two max_three min_three max_four min_four   -- for this text's walks alone
set_option linter.unusedVariables false
set_option linter.unusedSimpArgs false
set_option maxHeartbeats 8000000 in
set_option maxRecDepth 100000 in
theorem nat_Bits.calls (k : Nat) (A0 : Option Addr) (c0 : Nat) (l0 : List Int) (r : Int) (w : World) (hr0 : Kd.C (Kd.int .u32) w A0 l0.length l0) (hc0 : l0.length ≤ c0) (h : nat_Bits.f k l0 = some r) :
  Calls Try.prog 110 #[.slice A0 l0.length c0] w fun e w' => e = .returned (.int .i64 r) ∧ Below w.heap.size w w' := by
 have HR0 := Aside0.mk hr0
 have HC0 := Aside0.mk hc0
 clear hr0 hc0
 have HB := Aside0.mk (Below.refl w.heap.size w)
 have H : ((nat_short.f k l0).bind fun t137 => (if (t137.length : Int) = 0 then (some 0) else (if 0 ≤ (wrap64 ((t137.length : Int) - 1)) then (if (wrap64 ((t137.length : Int) - 1)) < (t137.length : Int) then ((bits_Len32.f k (rd t137 (wrap64 ((t137.length : Int) - 1)))).bind fun t141 => (some (wrap64 ((wrap64 (32 * (wrap64 ((t137.length : Int) - 1)))) + t141)))) else (none)) else (none)))) = some r := h
 clear h
 obtain ⟨t137, A2, H⟩ := bindA H
 by_cases c3 : (t137.length : Int) = 0
 ·rw [if_pos c3] at H
  have c3b1 : ((t137.length : Int) != 0) = false := bne_eq_false_iff_eq.mpr c3
  clear c3
  obtain rfl := Option.some.inj H
  go_enter Try.func110, Try.ntmps110
  go_wp2_with ((refine goesL_ (some 4) rfl rfl Try.func123 (by kernel_rfl) rfl #[.slice A0 l0.length c0] rfl (by simp only [List.map_toArray, List.map_cons, List.map_nil]; rfl) ?_; (with_reducible refine (nat_short.calls k (fun k_ => k_ < w.heap.size) _ _ l0 t137 _ (Kd.V_mk HC0.out (Kd.F_below (Kd.C_F (Kd.heap_int .u32) HR0.out) (HB.out))) A2.out).mono ?_); rintro e w4 ⟨v138, rfl, ho0, hb⟩; refine ⟨_, rfl, ?_⟩; have HO139 := Aside0.mk (Kd.V_lower (Kd.V_mono (ok' := fun k_ => True) ho0 (fun k_ hk_ => trivial)) (below_size (HB.out))); replace HB := Aside0.mk (below_step (HB.out) hb); (try clear hb); (try clear ho0); obtain ⟨Ao5, co5, eo5⟩ := Kd.V_slice HO139.out; subst eo5))
  go_ret
  exact ⟨rfl, HB.out⟩
 ·rw [if_neg c3] at H
  obtain ⟨ji6, hji6⟩ : ∃ j_ : Int, (wrap64 ((t137.length : Int) - 1)) = j_ := ⟨_, rfl⟩
  rw [hji6] at H
  by_cases c7 : 0 ≤ (ji6)
  ·rw [if_pos c7] at H
   have c7b0 : decide (0 ≤ (ji6)) = true := decide_eq_true c7
   clear c7
   by_cases c8 : (ji6) < (t137.length : Int)
   ·rw [if_pos c8] at H
    have c8b0 : decide ((ji6) < (t137.length : Int)) = true := decide_eq_true c8
    clear c8
    obtain ⟨t141, A9, H⟩ := bindA H
    obtain rfl := Option.some.inj H
    go_enter Try.func110, Try.ntmps110
    go_wp2_with (first | (refine goesL_ (some 4) rfl rfl Try.func123 (by kernel_rfl) rfl #[.slice A0 l0.length c0] rfl (by simp only [List.map_toArray, List.map_cons, List.map_nil]; rfl) ?_; (with_reducible refine (nat_short.calls k (fun k_ => k_ < w.heap.size) _ _ l0 t137 _ (Kd.V_mk HC0.out (Kd.F_below (Kd.C_F (Kd.heap_int .u32) HR0.out) (HB.out))) A2.out).mono ?_); rintro e w10 ⟨v138, rfl, ho0, hb⟩; refine ⟨_, rfl, ?_⟩; have HO139 := Aside0.mk (Kd.V_lower (Kd.V_mono (ok' := fun k_ => True) ho0 (fun k_ hk_ => trivial)) (below_size (HB.out))); replace HB := Aside0.mk (below_step (HB.out) hb); (try clear hb); (try clear ho0); obtain ⟨Ao11, co11, eo11⟩ := Kd.V_slice HO139.out; subst eo11; have p140 : 0 ≤ ((ji6) : Int) := of_decide_eq_true (by assumption); have q140 : (ji6) < (t137.length : Int) := of_decide_eq_true (by assumption); obtain ⟨ad140, e140, hx140_0⟩ := Kd.at_int (Kd.V_reads' HO139.out).2.2 (ji6) p140 q140; cases e140; replace p140 := eq_true p140; replace q140 := eq_true q140) | (refine goesL_ (some 18) rfl rfl Try.func124 (by kernel_rfl) rfl #[.int .u32 (rd t137 (ji6))] rfl (by (try simp only [List.map_toArray, List.map_cons, List.map_nil]); (simp only [hji6]; rfl)) ?_; (with_reducible refine (bits_Len32.calls k (rd t137 (ji6)) t141 _ A9.out).mono ?_); rintro e w' ⟨rfl, ⟨nd, rfl⟩⟩; refine ⟨_, rfl, ?_⟩))
    go_ret
    exact ⟨rfl, by repeat ((with_reducible first | exact HB.out | apply pw_below_drewN))⟩
   ·rw [if_neg c8] at H
    exact absurd H (by simp)
  ·rw [if_neg c7] at H
   exact absurd H (by simp)
end Go.Proofs.Ythheakfgmombdaa.F
end
section
namespace Go.Proofs.Ythheakfgmombdaa.F
open Go.RowKit Go.Proofs.YthheakfgmombdaaX.PrintWords Go.Proofs.YthheakfgmombdaaX.PrintLast Go.Proofs.YthheakfgmombdaaX.PrintMore
attribute [local go_sem] max2_int min2_int max_two min_two max_three min_three max_four min_four   -- for this text's walks alone
set_option linter.unusedVariables false
set_option linter.unusedSimpArgs false
set_option maxHeartbeats 8000000 in
set_option maxRecDepth 100000 in
theorem rational_one.calls  (r : List Int) (w : World) (h : rational_one.f  = some r) :
  Calls Try.prog 112 #[] w fun e w' => ∃ v0_ : Value, e = .returned (v0_) ∧ Kd.R (Kd.int .u32) 100 w' w.heap.size (fun _ => True) v0_ r ∧ Below w.heap.size w w' := by
 have HB := Aside0.mk (Below.refl w.heap.size w)
 have H : (some (([1] : List Int))) = some r := h
 clear h
 obtain ⟨y142, hy142⟩ : ∃ y_ : List Int, y_ = (([1] : List Int)) := ⟨_, rfl⟩
 (try replace H := (Option.bind_some _ _).symm.trans H); rw [← hy142] at H
 have Ny142 := Aside0.mk hy142
 clear hy142
 obtain rfl := Option.some.inj H
 go_enter Try.func112, Try.ntmps112
 go_wp2_with ((refine Kd.R_lit (Kd.int .u32) _ 100 ?hg (N := 1) ?hd (xs := ([1] : List Int)) (inner := [.int .u32 1]) (ok := fun _ => True) (okp := fun _ => True) ?hr ?hp (fun _ hk => hk) trivial (Below.refl _ _) (Nat.le_refl _) (by simp) ?_; (case hd => rfl); (case hg => rfl); (case hr => go_simp; done); (case hp => exact (Reps.one (show Kd.M (Kd.int .u32) _ _ _ 1 [.int .u32 1] from rfl) (Reps.none _ _))); intro v143 w1 ho2 hb hg_ hnew_; clear hg_ hnew_; (rw [← Ny142.out] at ho2); have HO144 := Aside0.mk (Kd.R_lower ho2 (below_size (HB.out))); replace HB := Aside0.mk (below_step (HB.out) hb); clear hb ho2))
 go_ret
 exact ⟨_, rfl, HO144.out, HB.out⟩
end Go.Proofs.Ythheakfgmombdaa.F
end
section
namespace Go.Proofs.Ythheakfgmombdaa.F
open Go.RowKit Go.Proofs.YthheakfgmombdaaX.PrintWords Go.Proofs.YthheakfgmombdaaX.PrintLast Go.Proofs.YthheakfgmombdaaX.PrintMore
attribute [local go_sem] max2_int min2_int max_two min_two max_three min_three max_four min_four   -- for this text's walks alone
set_option linter.unusedVariables false
set_option linter.unusedSimpArgs false
set_option maxHeartbeats 8000000 in
set_option maxRecDepth 100000 in
theorem nat_Trim.calls (k : Nat) (A0 : Option Addr) (c0 : Nat) (l0 : List Int) (r : List Int) (w : World) (hr0 : Kd.C (Kd.int .u32) w A0 l0.length l0) (hc0 : l0.length ≤ c0) (h : nat_Trim.f k l0 = some r) :
  Calls Try.prog 132 #[.slice A0 l0.length c0] w fun e w' => ∃ v0_ : Value, e = .returned (v0_) ∧ Kd.R (Kd.int .u32) 100 w' w.heap.size (fun _ => True) v0_ r ∧ Below w.heap.size w w' := by
 have HR0 := Aside0.mk hr0
 have HC0 := Aside0.mk hc0
 clear hr0 hc0
 have HB := Aside0.mk (Below.refl w.heap.size w)
 have H : ((nat_short.f k l0).bind fun t145 => (if ([] : List Int).length + t145.length < 35184372088832 then (some (([] : List Int) ++ t145)) else (none))) = some r := h
 clear h
 obtain ⟨t145, A2, H⟩ := bindA H
 by_cases c3 : ([] : List Int).length + t145.length < 35184372088832
 ·rw [if_pos c3] at H
  have LMc3 := Aside0.mk c3
  clear c3
  obtain ⟨y148, hy148⟩ : ∃ y_ : List Int, y_ = (([] : List Int) ++ t145) := ⟨_, rfl⟩
  (try replace H := (Option.bind_some _ _).symm.trans H); rw [← hy148] at H
  have Ny148 := Aside0.mk hy148
  clear hy148
  obtain rfl := Option.some.inj H
  go_enter Try.func132, Try.ntmps132
  go_wp2_with (first | (refine goesL_ (some 4) rfl rfl Try.func123 (by kernel_rfl) rfl #[.slice A0 l0.length c0] rfl (by simp only [List.map_toArray, List.map_cons, List.map_nil]; rfl) ?_; (with_reducible refine (nat_short.calls k (fun k_ => k_ < w.heap.size) _ _ l0 t145 _ (Kd.V_mk HC0.out (Kd.F_below (Kd.C_F (Kd.heap_int .u32) HR0.out) (HB.out))) A2.out).mono ?_); rintro e w4 ⟨v146, rfl, ho0, hb⟩; refine ⟨_, rfl, ?_⟩; have HO147 := Aside0.mk (Kd.V_lower (Kd.V_mono (ok' := fun k_ => True) ho0 (fun k_ hk_ => trivial)) (below_size (HB.out))); replace HB := Aside0.mk (below_step (HB.out) hb); (try clear hb); (try clear ho0); obtain ⟨Ao6, co6, eo6⟩ := Kd.V_slice HO147.out; subst eo6) | ((with_reducible refine gate_builtin (b := .append) (xs := #[.const (.slice none 0 0), .tmp 4]) rfl ?_); at_builtin; refine Kd.R_append_rows (Kd.int .u32) (w0 := w) w.heap.size rfl (.const (.slice none 0 0)) (.tmp 4) 44 100 (.int .u32 0) 4 rfl Try.underlying44 info100 rfl (by decide) (by omega) (.slice none 0 0) ([] : List Int) t145 _ _ _ (fun _ => True) (fun _ => False) rfl rfl ?aO ?aR (fun _ _ h => h) (fun _ h => h.elim) ?aF ?aB ?aS ?aL ?_; (case aR => exact (Kd.V_reads' HO147.out).2.2); (case aB => exact (HB.out)); (case aF => exact (fun _ _ => trivial)); (case aO => exact ((Kd.R_nil _ _ _ _ (fun _ => True)))); (case aS => exact (below_size (HB.out))); (case aL => have := LMc3.out; omega); intro v149 w5 ho hb hg hat; rw [← Ny148.out] at ho; replace HO147 := Aside0.mk (Kd.V_afterv (Kd.V_apart_nil (HO147.out)) hg hat); replace HB := Aside0.mk (hb); have HO150 := Aside0.mk (ho); clear ho hb hg hat))
  go_ret
  exact ⟨_, rfl, HO150.out, HB.out⟩
 ·rw [if_neg c3] at H
  exact absurd H (by simp)
end Go.Proofs.Ythheakfgmombdaa.F
end
section
namespace Go.Proofs.Ythheakfgmombdaa.F
open Go.RowKit Go.Proofs.YthheakfgmombdaaX.PrintWords Go.Proofs.YthheakfgmombdaaX.PrintLast Go.Proofs.YthheakfgmombdaaX.PrintMore
attribute [local go_sem] max2_int min2_int max_two min_two max_three min_three max_four min_four   -- for this text's walks alone
set_option linter.unusedVariables false
set_option linter.unusedSimpArgs false
set_option maxHeartbeats 8000000 in
set_option maxRecDepth 100000 in
theorem nat_Of.calls (k : Nat) (a0 : Int) (r : List Int) (w : World) (h : nat_Of.f k a0 = some r) :
  Calls Try.prog 119 #[.int .u64 a0] w fun e w' => ∃ v0_ : Value, e = .returned (v0_) ∧ Kd.R (Kd.int .u32) 100 w' w.heap.size (fun _ => True) v0_ r ∧ Below w.heap.size w w' := by
 have HB := Aside0.mk (Below.refl w.heap.size w)
 have H : ((nat_Trim.f k (([(a0) % 4294967296, (a0 / 4294967296) % 4294967296] : List Int))).bind fun t154 => (some t154)) = some r := h
 clear h
 obtain ⟨y151, hy151⟩ : ∃ y_ : List Int, y_ = (([(a0) % 4294967296, (a0 / 4294967296) % 4294967296] : List Int)) := ⟨_, rfl⟩
 (try replace H := (Option.bind_some _ _).symm.trans H); rw [← hy151] at H
 have Ny151 := Aside0.mk hy151
 clear hy151
 obtain ⟨t154, A2, H⟩ := bindA H
 obtain rfl := Option.some.inj H
 go_enter Try.func119, Try.ntmps119
 go_wp2_with (first | (refine Kd.R_lit (Kd.int .u32) _ 100 ?hg (N := 8) ?hd (xs := ([(a0) % 4294967296, (a0 / 4294967296) % 4294967296] : List Int)) (inner := [.int .u32 ((a0) % 4294967296), .int .u32 ((a0 / 4294967296) % 4294967296)]) (ok := fun _ => True) (okp := fun _ => True) ?hr ?hp (fun _ hk => hk) trivial (Below.refl _ _) (Nat.le_refl _) (by simp) ?_; (case hd => rfl); (case hg => rfl); (case hr => go_simp; done); (case hp => exact (Reps.one (show Kd.M (Kd.int .u32) _ _ _ ((a0) % 4294967296) [.int .u32 ((a0) % 4294967296)] from rfl) (Reps.one (show Kd.M (Kd.int .u32) _ _ _ ((a0 / 4294967296) % 4294967296) [.int .u32 ((a0 / 4294967296) % 4294967296)] from rfl) (Reps.none _ _)))); intro v152 w3 ho4 hb hg_ hnew_; clear hg_ hnew_; (rw [← Ny151.out] at ho4); have HO153 := Aside0.mk (Kd.R_lower ho4 (below_size (HB.out))); replace HB := Aside0.mk (below_step (HB.out) hb); clear hb ho4; obtain ⟨Ao5, co5, eo5⟩ := Kd.R_slice HO153.out; subst eo5) | (refine goesL_ (some 9) rfl rfl Try.func132 (by kernel_rfl) rfl #[.slice Ao5 y151.length co5] rfl (by simp only [List.map_toArray, List.map_cons, List.map_nil]; rfl) ?_; (with_reducible refine (nat_Trim.calls k _ _ y151 t154 _ ?side1 ?side2 A2.out).mono ?_); (case side1 => exact (Kd.R_reads' HO153.out).2.2); (case side2 => exact (Kd.R_reads' HO153.out).2.1); rintro e w6 ⟨v155, rfl, ho0, hb⟩; refine ⟨_, rfl, ?_⟩; have n0_ := Aside0.mk (Kd.R_elder' (HO153.out) (Kd.R_base ho0) hb); have n1_ := Aside0.mk (Kd.R_lower (Kd.R_new' ho0 (Kd.R_lt (HO153.out))) (below_size (HB.out))); have n2_ := Aside0.mk (below_step (HB.out) hb); clear HO153; clear HB; have HO153 := n0_; have HO156 := n1_; have HB := n2_; clear n0_ n1_ n2_))
 go_ret
 exact ⟨_, rfl, Kd.R_mono HO156.out (fun _ hk => trivial), HB.out⟩
end Go.Proofs.Ythheakfgmombdaa.F
end
section
namespace Go.Proofs.Ythheakfgmombdaa.F
open Go.RowKit Go.Proofs.YthheakfgmombdaaX.PrintWords Go.Proofs.YthheakfgmombdaaX.PrintLast Go.Proofs.YthheakfgmombdaaX.PrintMore
attribute [local go_sem] max2_int min2_int max_two min_two max_three min_three max_four min_four   -- for this text's walks alone
set_option linter.unusedVariables false
set_option linter.unusedSimpArgs false
set_option maxHeartbeats 8000000 in
set_option maxRecDepth 100000 in
theorem nat_Cmp.calls (k : Nat) (A0 : Option Addr) (c0 : Nat) (l0 : List Int) (A1 : Option Addr) (c1 : Nat) (l1 : List Int) (r : Int) (w : World) (hr0 : Kd.C (Kd.int .u32) w A0 l0.length l0) (hc0 : l0.length ≤ c0) (hr1 : Kd.C (Kd.int .u32) w A1 l1.length l1) (hc1 : l1.length ≤ c1) (h : nat_Cmp.f k l0 l1 = some r) :
  Calls Try.prog 130 #[.slice A0 l0.length c0, .slice A1 l1.length c1] w fun e w' => e = .returned (.int .i64 r) ∧ Below w.heap.size w w' := by
 have HR0 := Aside0.mk hr0
 have HC0 := Aside0.mk hc0
 clear hr0 hc0
 have HR1 := Aside0.mk hr1
 have HC1 := Aside0.mk hc1
 clear hr1 hc1
 have HB := Aside0.mk (Below.refl w.heap.size w)
 have H : ((nat_short.f k l0).bind fun t157 => ((nat_short.f k l1).bind fun t160 => (if (t157.length : Int) = (t160.length : Int) then (nat_Cmp.l0 k t157 t160 (wrap64 ((t157.length : Int) - 1))) else (if (t157.length : Int) < (t160.length : Int) then (some (-1)) else (some 1))))) = some r := h
 clear h
 replace H := Option.bind_eq_some_iff.mp H
 obtain ⟨t157, A30, H⟩ := H
 replace H : ((nat_short.f k l1).bind fun t160 => (if (t157.length : Int) = (t160.length : Int) then (nat_Cmp.l0 k t157 t160 (wrap64 ((t157.length : Int) - 1))) else (if (t157.length : Int) < (t160.length : Int) then (some (-1)) else (some 1)))) = some r := H
 have A3 := Aside0.mk A30
 clear A30
 replace H := Option.bind_eq_some_iff.mp H
 obtain ⟨t160, A40, H⟩ := H
 replace H : (if (t157.length : Int) = (t160.length : Int) then (nat_Cmp.l0 k t157 t160 (wrap64 ((t157.length : Int) - 1))) else (if (t157.length : Int) < (t160.length : Int) then (some (-1)) else (some 1))) = some r := H
 have A4 := Aside0.mk A40
 clear A40
 by_cases c5 : (t157.length : Int) = (t160.length : Int)
 ·rw [if_pos c5] at H
  have c5b0 : ((t157.length : Int) == (t160.length : Int)) = true := beq_iff_eq.mpr c5
  have c5b1 : ((t157.length : Int) != (t160.length : Int)) = false := bne_eq_false_iff_eq.mpr c5
  have c5b2 : (t157.length == t160.length) = true := by (simp at c5 ⊢; omega)
  clear c5
  have H' := Aside0.mk H
  clear H
  go_enter Try.func130, Try.ntmps130
  go_wp2_with (first | (go_at_call 123; (with_reducible refine (nat_short.calls k (fun k_ => k_ < w.heap.size) _ _ l0 t157 _ ?side1 A3.out).mono ?_); (case side1 => exact Kd.V_mk HC0.out (Kd.F_below (Kd.C_F (Kd.heap_int .u32) HR0.out) (by repeat ((with_reducible exact HB.out))))); rintro e w6 ⟨v158, rfl, ho0, hb⟩; have n0_ := Aside0.mk (Kd.V_lower (Kd.V_mono (ok' := fun k_ => True) ho0 (fun k_ hk_ => trivial)) (below_size (by repeat ((with_reducible exact HB.out))))); have n1_ := Aside0.mk (below_step (by repeat ((with_reducible exact HB.out))) hb); clear HB; have HO159 := n0_; have HB := n1_; clear n0_ n1_; (try clear hb); (try clear ho0)) | (go_at_call 123; (with_reducible refine (nat_short.calls k (fun k_ => k_ < w.heap.size) _ _ l1 t160 _ ?side1 A4.out).mono ?_); (case side1 => exact Kd.V_mk HC1.out (Kd.F_below (Kd.C_F (Kd.heap_int .u32) HR1.out) (by repeat ((with_reducible exact HB.out))))); rintro e w7 ⟨v161, rfl, ho0, hb⟩; have n0_ := Aside0.mk (Kd.V_below (by (with_reducible repeat (fail)); exact HO159.out) hb); have n1_ := Aside0.mk (Kd.V_lower (Kd.V_mono (ok' := fun k_ => True) ho0 (fun k_ hk_ => trivial)) (below_size (by repeat ((with_reducible exact HB.out))))); have n2_ := Aside0.mk (below_step (by repeat ((with_reducible exact HB.out))) hb); clear HO159; clear HB; have HO159 := n0_; have HO162 := n1_; have HB := n2_; clear n0_ n1_ n2_; (try clear hb); (try clear ho0); obtain ⟨Ao8, co8, eo8⟩ := Kd.V_slice HO159.out; subst eo8; obtain ⟨Ao9, co9, eo9⟩ := Kd.V_slice HO162.out; subst eo9))
  repeat (go_quiet (fail); try go_wp2_with (fail))
  go_loopg [5] k (fun kq v5 w' => ∃ (x5_1 : Int), v5 = .int .i64 x5_1 ∧ Aside0 (nat_Cmp.l0 kq t157 t160 x5_1 = some r) ∧ Aside0 (kq ≤ k) ∧ Aside0 (Kd.V (Kd.int .u32) 100 w' w.heap.size (fun _ => True) (.slice Ao8 t157.length co8) t157) ∧ Aside0 (Kd.V (Kd.int .u32) 100 w' w.heap.size (fun _ => True) (.slice Ao9 t160.length co9) t160) ∧ Aside0 (Below w.heap.size w w'))
  case atStart => exact ⟨(wrap64 ((t157.length : Int) - 1)), (by rfl), H', ⟨Nat.le_refl _⟩, ⟨by (with_reducible repeat (fail)); exact HO159.out⟩, ⟨by (with_reducible repeat (fail)); exact HO162.out⟩, ⟨by repeat ((with_reducible exact HB.out))⟩⟩
  case round =>
   clear H'
   try clear c5b0
   try clear c5b1
   try clear c5b2
   obtain ⟨x5_1, rfl, HA, HK1, HO_0, HO_1, HB⟩ := hrel
   cases gk with
   | zero => exact absurd HA.out (by simp [nat_Cmp.l0])
   | succ k1 =>
    have H := HA.out
    clear HA
    simp only [nat_Cmp.l0] at H
    by_cases c10 : x5_1 ≥ 0
    ·rw [if_pos c10] at H
     have c10b0 : decide (0 ≤ x5_1) = true := decide_eq_true c10
     clear c10
     by_cases c11 : 0 ≤ x5_1
     ·rw [if_pos c11] at H
      have c11b0 : decide (0 ≤ x5_1) = true := decide_eq_true c11
      clear c11
      by_cases c12 : x5_1 < (t157.length : Int)
      ·rw [if_pos c12] at H
       have c12b0 : decide (x5_1 < (t157.length : Int)) = true := decide_eq_true c12
       clear c12
       by_cases c13 : x5_1 < (t160.length : Int)
       ·rw [if_pos c13] at H
        have c13b0 : decide (x5_1 < (t160.length : Int)) = true := decide_eq_true c13
        clear c13
        by_cases c14 : (rd t157 x5_1) < (rd t160 x5_1)
        ·rw [if_pos c14] at H
         have c14b0 : decide ((rd t157 x5_1) < (rd t160 x5_1)) = true := decide_eq_true c14
         clear c14
         obtain rfl := Option.some.inj H
         have p163 : 0 ≤ (x5_1 : Int) := of_decide_eq_true (by (with_reducible assumption))
         have q163 : x5_1 < (t157.length : Int) := of_decide_eq_true (by (with_reducible assumption))
         obtain ⟨ad163, e163, hx163_0⟩ := Kd.at_int (Kd.V_reads' HO_0.out).2.2 x5_1 p163 q163
         cases e163
         replace p163 := eq_true p163
         replace q163 := eq_true q163
         have p164 : 0 ≤ (x5_1 : Int) := of_decide_eq_true (by (with_reducible assumption))
         have q164 : x5_1 < (t160.length : Int) := of_decide_eq_true (by (with_reducible assumption))
         obtain ⟨ad164, e164, hx164_0⟩ := Kd.at_int (Kd.V_reads' HO_1.out).2.2 x5_1 p164 q164
         cases e164
         replace p164 := eq_true p164
         replace q164 := eq_true q164
         go_wp2
         repeat (go_quiet (fail); try go_wp2)
         go_ret
         exact ⟨by rfl, by repeat ((with_reducible first | exact HB.out | apply pw_below_drewN))⟩
        ·rw [if_neg c14] at H
         have c14b0 : decide ((rd t157 x5_1) < (rd t160 x5_1)) = false := decide_eq_false c14
         clear c14
         by_cases c15 : (rd t157 x5_1) > (rd t160 x5_1)
         ·rw [if_pos c15] at H
          have c15b0 : decide ((rd t160 x5_1) < (rd t157 x5_1)) = true := decide_eq_true c15
          clear c15
          obtain rfl := Option.some.inj H
          have p163 : 0 ≤ (x5_1 : Int) := of_decide_eq_true (by (with_reducible assumption))
          have q163 : x5_1 < (t157.length : Int) := of_decide_eq_true (by (with_reducible assumption))
          obtain ⟨ad163, e163, hx163_0⟩ := Kd.at_int (Kd.V_reads' HO_0.out).2.2 x5_1 p163 q163
          cases e163
          replace p163 := eq_true p163
          replace q163 := eq_true q163
          have p164 : 0 ≤ (x5_1 : Int) := of_decide_eq_true (by (with_reducible assumption))
          have q164 : x5_1 < (t160.length : Int) := of_decide_eq_true (by (with_reducible assumption))
          obtain ⟨ad164, e164, hx164_0⟩ := Kd.at_int (Kd.V_reads' HO_1.out).2.2 x5_1 p164 q164
          cases e164
          replace p164 := eq_true p164
          replace q164 := eq_true q164
          have p165 : 0 ≤ (x5_1 : Int) := of_decide_eq_true (by (with_reducible assumption))
          have q165 : x5_1 < (t157.length : Int) := of_decide_eq_true (by (with_reducible assumption))
          obtain ⟨ad165, e165, hx165_0⟩ := Kd.at_int (Kd.V_reads' HO_0.out).2.2 x5_1 p165 q165
          obtain rfl : ad163 = ad165 := (by injection e165)
          replace p165 := eq_true p165
          replace q165 := eq_true q165
          have p166 : 0 ≤ (x5_1 : Int) := of_decide_eq_true (by (with_reducible assumption))
          have q166 : x5_1 < (t160.length : Int) := of_decide_eq_true (by (with_reducible assumption))
          obtain ⟨ad166, e166, hx166_0⟩ := Kd.at_int (Kd.V_reads' HO_1.out).2.2 x5_1 p166 q166
          obtain rfl : ad164 = ad166 := (by injection e166)
          replace p166 := eq_true p166
          replace q166 := eq_true q166
          go_wp2
          repeat (go_quiet (fail); try go_wp2)
          go_ret
          exact ⟨by rfl, by repeat ((with_reducible first | exact HB.out | apply pw_below_drewN))⟩
         ·rw [if_neg c15] at H
          have c15b0 : decide ((rd t160 x5_1) < (rd t157 x5_1)) = false := decide_eq_false c15
          clear c15
          have H' := Aside0.mk H
          clear H
          have p163 : 0 ≤ (x5_1 : Int) := of_decide_eq_true (by (with_reducible assumption))
          have q163 : x5_1 < (t157.length : Int) := of_decide_eq_true (by (with_reducible assumption))
          obtain ⟨ad163, e163, hx163_0⟩ := Kd.at_int (Kd.V_reads' HO_0.out).2.2 x5_1 p163 q163
          cases e163
          replace p163 := eq_true p163
          replace q163 := eq_true q163
          have p164 : 0 ≤ (x5_1 : Int) := of_decide_eq_true (by (with_reducible assumption))
          have q164 : x5_1 < (t160.length : Int) := of_decide_eq_true (by (with_reducible assumption))
          obtain ⟨ad164, e164, hx164_0⟩ := Kd.at_int (Kd.V_reads' HO_1.out).2.2 x5_1 p164 q164
          cases e164
          replace p164 := eq_true p164
          replace q164 := eq_true q164
          have p165 : 0 ≤ (x5_1 : Int) := of_decide_eq_true (by (with_reducible assumption))
          have q165 : x5_1 < (t157.length : Int) := of_decide_eq_true (by (with_reducible assumption))
          obtain ⟨ad165, e165, hx165_0⟩ := Kd.at_int (Kd.V_reads' HO_0.out).2.2 x5_1 p165 q165
          obtain rfl : ad163 = ad165 := (by injection e165)
          replace p165 := eq_true p165
          replace q165 := eq_true q165
          have p166 : 0 ≤ (x5_1 : Int) := of_decide_eq_true (by (with_reducible assumption))
          have q166 : x5_1 < (t160.length : Int) := of_decide_eq_true (by (with_reducible assumption))
          obtain ⟨ad166, e166, hx166_0⟩ := Kd.at_int (Kd.V_reads' HO_1.out).2.2 x5_1 p166 q166
          obtain rfl : ad164 = ad166 := (by injection e166)
          replace p166 := eq_true p166
          replace q166 := eq_true q166
          go_wp2
          repeat (go_quiet (fail); try go_wp2)
          go_roundg k1
          case measure => have := HK1.out; omega
          case rel => exact ⟨(wrap64 (x5_1 - 1)), (by rfl), H', ⟨by have := HK1.out; omega⟩, ⟨by (with_reducible repeat (apply Kd.V_drewN)); exact HO_0.out⟩, ⟨by (with_reducible repeat (apply Kd.V_drewN)); exact HO_1.out⟩, ⟨by repeat ((with_reducible first | exact HB.out | apply pw_below_drewN))⟩⟩
       ·rw [if_neg c13] at H
        exact absurd H (by simp)
      ·rw [if_neg c12] at H
       exact absurd H (by simp)
     ·rw [if_neg c11] at H
      exact absurd H (by simp)
    ·rw [if_neg c10] at H
     have c10b0 : decide (0 ≤ x5_1) = false := decide_eq_false c10
     clear c10
     obtain rfl := Option.some.inj H
     go_wp2
     repeat (go_quiet (fail); try go_wp2)
     go_ret
     exact ⟨by rfl, by repeat ((with_reducible exact HB.out))⟩
 ·rw [if_neg c5] at H
  have c5b0 : ((t157.length : Int) == (t160.length : Int)) = false := beq_eq_false_iff_ne.mpr c5
  have c5b1 : ((t157.length : Int) != (t160.length : Int)) = true := bne_iff_ne.mpr c5
  have c5b2 : (t157.length == t160.length) = false := by (simp at c5 ⊢; omega)
  by_cases c16 : (t157.length : Int) < (t160.length : Int)
  ·rw [if_pos c16] at H
   have c16b0 : decide ((t157.length : Int) < (t160.length : Int)) = true := decide_eq_true c16
   have c16b1 : decide (t157.length < t160.length) = true := decide_eq_true (Int.ofNat_lt.mp c16)
   clear c16
   obtain rfl := Option.some.inj H
   go_enter Try.func130, Try.ntmps130
   go_wp2_with (first | (go_at_call 123; (with_reducible refine (nat_short.calls k (fun k_ => k_ < w.heap.size) _ _ l0 t157 _ ?side1 A3.out).mono ?_); (case side1 => exact Kd.V_mk HC0.out (Kd.F_below (Kd.C_F (Kd.heap_int .u32) HR0.out) (by repeat ((with_reducible exact HB.out))))); rintro e w17 ⟨v158, rfl, ho0, hb⟩; have n0_ := Aside0.mk (Kd.V_lower (Kd.V_mono (ok' := fun k_ => True) ho0 (fun k_ hk_ => trivial)) (below_size (by repeat ((with_reducible exact HB.out))))); have n1_ := Aside0.mk (below_step (by repeat ((with_reducible exact HB.out))) hb); clear HB; have HO159 := n0_; have HB := n1_; clear n0_ n1_; (try clear hb); (try clear ho0)) | (go_at_call 123; (with_reducible refine (nat_short.calls k (fun k_ => k_ < w.heap.size) _ _ l1 t160 _ ?side1 A4.out).mono ?_); (case side1 => exact Kd.V_mk HC1.out (Kd.F_below (Kd.C_F (Kd.heap_int .u32) HR1.out) (by repeat ((with_reducible exact HB.out))))); rintro e w18 ⟨v161, rfl, ho0, hb⟩; have n0_ := Aside0.mk (Kd.V_below (by (with_reducible repeat (fail)); exact HO159.out) hb); have n1_ := Aside0.mk (Kd.V_lower (Kd.V_mono (ok' := fun k_ => True) ho0 (fun k_ hk_ => trivial)) (below_size (by repeat ((with_reducible exact HB.out))))); have n2_ := Aside0.mk (below_step (by repeat ((with_reducible exact HB.out))) hb); clear HO159; clear HB; have HO159 := n0_; have HO162 := n1_; have HB := n2_; clear n0_ n1_ n2_; (try clear hb); (try clear ho0); obtain ⟨Ao19, co19, eo19⟩ := Kd.V_slice HO159.out; subst eo19; obtain ⟨Ao20, co20, eo20⟩ := Kd.V_slice HO162.out; subst eo20))
   repeat (go_quiet (fail); try go_wp2_with (fail))
   go_ret
   exact ⟨by rfl, by repeat ((with_reducible exact HB.out))⟩
  ·rw [if_neg c16] at H
   have c16b0 : decide ((t157.length : Int) < (t160.length : Int)) = false := decide_eq_false c16
   have c16b1 : decide (t157.length < t160.length) = false := decide_eq_false (fun h => c16 (Int.ofNat_lt.mpr h))
   clear c16
   obtain rfl := Option.some.inj H
   go_enter Try.func130, Try.ntmps130
   go_wp2_with (first | (go_at_call 123; (with_reducible refine (nat_short.calls k (fun k_ => k_ < w.heap.size) _ _ l0 t157 _ ?side1 A3.out).mono ?_); (case side1 => exact Kd.V_mk HC0.out (Kd.F_below (Kd.C_F (Kd.heap_int .u32) HR0.out) (by repeat ((with_reducible exact HB.out))))); rintro e w21 ⟨v158, rfl, ho0, hb⟩; have n0_ := Aside0.mk (Kd.V_lower (Kd.V_mono (ok' := fun k_ => True) ho0 (fun k_ hk_ => trivial)) (below_size (by repeat ((with_reducible exact HB.out))))); have n1_ := Aside0.mk (below_step (by repeat ((with_reducible exact HB.out))) hb); clear HB; have HO159 := n0_; have HB := n1_; clear n0_ n1_; (try clear hb); (try clear ho0)) | (go_at_call 123; (with_reducible refine (nat_short.calls k (fun k_ => k_ < w.heap.size) _ _ l1 t160 _ ?side1 A4.out).mono ?_); (case side1 => exact Kd.V_mk HC1.out (Kd.F_below (Kd.C_F (Kd.heap_int .u32) HR1.out) (by repeat ((with_reducible exact HB.out))))); rintro e w22 ⟨v161, rfl, ho0, hb⟩; have n0_ := Aside0.mk (Kd.V_below (by (with_reducible repeat (fail)); exact HO159.out) hb); have n1_ := Aside0.mk (Kd.V_lower (Kd.V_mono (ok' := fun k_ => True) ho0 (fun k_ hk_ => trivial)) (below_size (by repeat ((with_reducible exact HB.out))))); have n2_ := Aside0.mk (below_step (by repeat ((with_reducible exact HB.out))) hb); clear HO159; clear HB; have HO159 := n0_; have HO162 := n1_; have HB := n2_; clear n0_ n1_ n2_; (try clear hb); (try clear ho0); obtain ⟨Ao23, co23, eo23⟩ := Kd.V_slice HO159.out; subst eo23; obtain ⟨Ao24, co24, eo24⟩ := Kd.V_slice HO162.out; subst eo24))
   repeat (go_quiet (fail); try go_wp2_with (fail))
   go_ret
   exact ⟨by rfl, by repeat ((with_reducible exact HB.out))⟩
end Go.Proofs.Ythheakfgmombdaa.F
end
section
namespace Go.Proofs.Ythheakfgmombdaa.F
open Go.RowKit Go.Proofs.YthheakfgmombdaaX.PrintWords Go.Proofs.YthheakfgmombdaaX.PrintLast Go.Proofs.YthheakfgmombdaaX.PrintMore
attribute [local go_sem] max2_int min2_int max_two min_two max_three min_three max_four min_four   -- for this text's walks alone
set_option linter.unusedVariables false
set_option linter.unusedSimpArgs false
set_option maxHeartbeats 8000000 in
set_option maxRecDepth 100000 in
theorem nat_shorto.calls (k : Nat) (P0_ : Nat → Prop) (u9000_ : Value) (l0 : List Int) (r : List Int) (w0 w : World) (hB : Below w0.heap.size w0 w) (ho0 : Kd.R (Kd.int .u32) 100 w w0.heap.size P0_ u9000_ l0) (h : nat_shorto.f k l0 = some r) :
  Calls Try.prog 123 #[u9000_] w fun e w' => ∃ v0_ : Value, e = .returned (v0_) ∧ Kd.R (Kd.int .u32) 100 w' w0.heap.size (fun k_ => (P0_ k_ ∨ w.heap.size ≤ k_)) v0_ r ∧ Below w0.heap.size w0 w' ∧ Kept w w' (fun k_ => P0_ k_) := by
 have HO0 := Aside0.mk (show Kd.R (Kd.int .u32) 100 w w0.heap.size (fun k_ => (P0_ k_ ∨ w.heap.size ≤ k_)) u9000_ l0 from Kd.R_mono ho0 (fun k_ hk => (.inl hk)))
 have HK := Aside0.mk (Kept.refl w (fun k_ => P0_ k_))
 have HW0 := Aside0.mk hB.size
 have HB := Aside0.mk hB
 clear hB
 have H : (nat_shorto.l0 k l0 (l0.length : Int)) = some r := h
 clear h
 have H' := Aside0.mk H
 clear H
 obtain ⟨Ao2, co2, eo2⟩ := Kd.R_slice HO0.out
 subst eo2
 go_enter Try.func123, Try.ntmps123
 go_wp2
 go_loopg [3] k (fun kq v3 w' => ∃ (x3_1 : Int), v3 = .int .i64 x3_1 ∧ Aside0 (nat_shorto.l0 kq l0 x3_1 = some r) ∧ Aside0 (kq ≤ k) ∧ Aside0 (Kd.R (Kd.int .u32) 100 w' w0.heap.size (fun k_ => (P0_ k_ ∨ w.heap.size ≤ k_)) (.slice Ao2 l0.length co2) l0) ∧ Aside0 (Kept w w' (fun k_ => P0_ k_)) ∧ Aside0 (Below w0.heap.size w0 w'))
 case atStart => exact ⟨((l0.length : Int)), rfl, H', ⟨Nat.le_refl _⟩, ⟨HO0.out⟩, ⟨HK.out⟩, ⟨HB.out⟩⟩
 case round =>
  clear H'
  obtain ⟨x3_1, rfl, HA, HK1, HO_0, HK, HB⟩ := hrel
  cases gk with
  | zero => exact absurd HA.out (by simp [nat_shorto.l0])
  | succ k1 =>
   have H := HA.out
   clear HA
   simp only [nat_shorto.l0] at H
   by_cases c3 : x3_1 > 0
   ·rw [if_pos c3] at H
    have c3b0 : decide (0 < x3_1) = true := decide_eq_true c3
    clear c3
    obtain ⟨ji4, hji4⟩ : ∃ j_ : Int, (wrap64 (x3_1 - 1)) = j_ := ⟨_, rfl⟩
    rw [hji4] at H
    have hji4w : (IntKind.i64.wrap (x3_1 - 1)) = ji4 := (i64_w _).trans hji4
    by_cases c5 : 0 ≤ (ji4)
    ·rw [if_pos c5] at H
     have c5b0 : decide (0 ≤ (ji4)) = true := decide_eq_true c5
     clear c5
     by_cases c6 : (ji4) < (l0.length : Int)
     ·rw [if_pos c6] at H
      have c6b0 : decide ((ji4) < (l0.length : Int)) = true := decide_eq_true c6
      clear c6
      by_cases c7 : (rd l0 (ji4)) = 0
      ·rw [if_pos c7] at H
       have c7b1 : ((rd l0 (ji4)) != 0) = false := bne_eq_false_iff_eq.mpr c7
       clear c7
       have H' := Aside0.mk H
       clear H
       have p130 : 0 ≤ ((ji4) : Int) := of_decide_eq_true (by assumption)
       have q130 : (ji4) < (l0.length : Int) := of_decide_eq_true (by assumption)
       obtain ⟨ad130, e130, hx130_0⟩ := Kd.at_int (Kd.R_reads' HO_0.out).2.2 (ji4) p130 q130
       cases e130
       replace q130 := eq_true q130
       go_wp2
       go_roundg k1
       case measure => have := HK1.out; omega
       case rel => exact ⟨(ji4), rfl, H', ⟨by have := HK1.out; omega⟩, ⟨HO_0.out⟩, ⟨HK.out⟩, ⟨HB.out⟩⟩
      ·rw [if_neg c7] at H
       by_cases c8 : 0 ≤ x3_1
       ·rw [if_pos c8] at H
        have c8b1 : decide (0 ≤ x3_1) = true := decide_eq_true c8
        clear c8
        by_cases c9 : x3_1 ≤ (l0.length : Int)
        ·rw [if_pos c9] at H
         have c9b1 : decide (x3_1 ≤ (l0.length : Int)) = true := decide_eq_true c9
         clear c9
         obtain ⟨y131, hy131⟩ : ∃ y_ : List Int, y_ = (l0.take (x3_1 : Int).toNat) := ⟨_, rfl⟩
         (try replace H := (Option.bind_some _ _).symm.trans H); rw [← hy131] at H
         have Ny131 := Aside0.mk hy131
         clear hy131
         obtain rfl := Option.some.inj H
         have p130 : 0 ≤ ((ji4) : Int) := of_decide_eq_true (by assumption)
         have q130 : (ji4) < (l0.length : Int) := of_decide_eq_true (by assumption)
         obtain ⟨ad130, e130, hx130_0⟩ := Kd.at_int (Kd.R_reads' HO_0.out).2.2 (ji4) p130 q130
         cases e130
         replace q130 := eq_true q130
         have q10 : (x3_1 : Int) ≤ ((l0.length : Int) : Int) := of_decide_eq_true (by assumption)
         obtain ⟨i010, hi010, _, hsz10, _⟩ := info_parts info100
         have hcut10 := cut_to3 (P := Try.prog) 44 100 .i64 Try.underlying44 hi010 (some ad130) l0.length co2 x3_1 (of_decide_eq_true (by assumption)) q10 (Kd.R_reads' HO_0.out).2.1
         have hr10 := Kd.R_take3 (m := (x3_1 : Int).toNat) HO_0.out (by omega)
         have hy10 : y131.length = (x3_1 : Int).toNat := (by rw [Ny131.out, List.length_take]; omega)
         rw [← Ny131.out] at hr10
         rw [← hy10] at hr10 hcut10
         clear hy10 hi010 hsz10 HO_0
         have HO133 := Aside0.mk hr10
         clear hr10
         replace q10 := eq_true q10
         go_wp2
         go_ret
         exact ⟨_, rfl, HO133.out, HB.out, HK.out⟩
        ·rw [if_neg c9] at H
         exact absurd H (by simp)
       ·rw [if_neg c8] at H
        exact absurd H (by simp)
     ·rw [if_neg c6] at H
      exact absurd H (by simp)
    ·rw [if_neg c5] at H
     exact absurd H (by simp)
   ·rw [if_neg c3] at H
    have c3b0 : decide (0 < x3_1) = false := decide_eq_false c3
    clear c3
    by_cases c11 : 0 ≤ x3_1
    ·rw [if_pos c11] at H
     have c11b1 : decide (0 ≤ x3_1) = true := decide_eq_true c11
     clear c11
     by_cases c12 : x3_1 ≤ (l0.length : Int)
     ·rw [if_pos c12] at H
      have c12b0 := eq_true c12
      have c12b1 : decide (x3_1 ≤ (l0.length : Int)) = true := decide_eq_true c12
      clear c12
      obtain ⟨y134, hy134⟩ : ∃ y_ : List Int, y_ = (l0.take (x3_1 : Int).toNat) := ⟨_, rfl⟩
      (try replace H := (Option.bind_some _ _).symm.trans H); rw [← hy134] at H
      have Ny134 := Aside0.mk hy134
      clear hy134
      obtain rfl := Option.some.inj H
      have q13 : (x3_1 : Int) ≤ ((l0.length : Int) : Int) := of_decide_eq_true (by assumption)
      obtain ⟨i013, hi013, _, hsz13, _⟩ := info_parts info100
      have hcut13 := cut_to3 (P := Try.prog) 44 100 .i64 Try.underlying44 hi013 Ao2 l0.length co2 x3_1 (of_decide_eq_true (by assumption)) q13 (Kd.R_reads' HO_0.out).2.1
      have hr13 := Kd.R_take3 (m := (x3_1 : Int).toNat) HO_0.out (by omega)
      have hy13 : y134.length = (x3_1 : Int).toNat := (by rw [Ny134.out, List.length_take]; omega)
      rw [← Ny134.out] at hr13
      rw [← hy13] at hr13 hcut13
      clear hy13 hi013 hsz13 HO_0
      have HO136 := Aside0.mk hr13
      clear hr13
      replace q13 := eq_true q13
      go_wp2
      go_ret
      exact ⟨_, rfl, HO136.out, HB.out, HK.out⟩
     ·rw [if_neg c12] at H
      exact absurd H (by simp)
    ·rw [if_neg c11] at H
     exact absurd H (by simp)
end Go.Proofs.Ythheakfgmombdaa.F
end
section
namespace Go.Proofs.Ythheakfgmombdaa.F
open Go.RowKit Go.Proofs.YthheakfgmombdaaX.PrintWords Go.Proofs.YthheakfgmombdaaX.PrintLast Go.Proofs.YthheakfgmombdaaX.PrintMore
attribute [local go_sem] max2_int min2_int max_two min_two max_three min_three max_four min_four   -- for this text's walks alone
set_option linter.unusedVariables false
set_option linter.unusedSimpArgs false
set_option maxHeartbeats 8000000 in
set_option maxRecDepth 100000 in
theorem nat_digit.calls (k : Nat) (A0 : Option Addr) (c0 : Nat) (l0 : List Int) (a1 : Int) (r1 : List Int) (r2 : Int) (w : World) (hr0 : Kd.C (Kd.int .u32) w A0 l0.length l0) (hc0 : l0.length ≤ c0) (h : nat_digit.f k l0 a1 = some (r1, r2)) :
  Calls Try.prog 133 #[.slice A0 l0.length c0, .int .u32 a1] w fun e w' => ∃ v0_ : Value, e = .returned (.tuple #[v0_, .int .u32 r2]) ∧ Kd.R (Kd.int .u32) 100 w' w.heap.size (fun _ => True) v0_ r1 ∧ Below w.heap.size w w' := by
 have HR0 := Aside0.mk hr0
 have HC0 := Aside0.mk hc0
 clear hr0 hc0
 have HB := Aside0.mk (Below.refl w.heap.size w)
 have H : (if 0 ≤ (l0.length : Int) then (if ((l0.length : Int) : Int).toNat ≤ 70368744177664 then (nat_digit.l0 k l0 a1 (List.replicate ((l0.length : Int) : Int).toNat 0) 0 (wrap64 ((l0.length : Int) - 1))) else (none)) else (none)) = some (r1, r2) := h
 clear h
 by_cases c3 : 0 ≤ (l0.length : Int)
 ·rw [if_pos c3] at H
  have c3b1 : decide (0 ≤ (l0.length : Int)) = true := decide_eq_true c3
  clear c3
  by_cases c4 : ((l0.length : Int) : Int).toNat ≤ 70368744177664
  ·rw [if_pos c4] at H
   have c4b1 : decide (((l0.length : Int) : Int).toNat ≤ 70368744177664) = true := decide_eq_true c4
   clear c4
   obtain ⟨y167, hy167⟩ : ∃ y_ : List Int, y_ = (List.replicate ((l0.length : Int) : Int).toNat 0) := ⟨_, rfl⟩
   (try replace H := (Option.bind_some _ _).symm.trans H); rw [← hy167] at H
   have Ny167 := Aside0.mk hy167
   clear hy167
   have H' := Aside0.mk H
   clear H
   go_enter Try.func133, Try.ntmps133
   go_wp2_with ((refine Kd.R_make (Kd.int .u32) _ 100 rfl (N := 11) rfl 44 _ _ rfl (l0.length : Int) rfl rfl Try.underlying44 (.int .u32 0) 4 info100 rfl (by decide) (by omega) 0 (ok := fun _ => True) (okp := fun _ => True) rfl (fun _ hk => hk) trivial (of_decide_eq_true (by assumption)) (Nat.le_trans (Nat.mul_le_mul_right _ (of_decide_eq_true (by assumption) : (l0.length : Int).toNat ≤ 70368744177664)) (by omega)) (Below.refl _ _) (Nat.le_refl _) ?_; intro v168 w5 ho6 hb hg_ hnew_; clear hg_ hnew_; (rw [← Ny167.out] at ho6); have HO169 := Aside0.mk (Kd.R_lower ho6 (below_size (HB.out))); replace HB := Aside0.mk (below_step (HB.out) hb); clear hb ho6))
   go_loopg [7, 8] k (fun kq v7 v8 w' => ∃ (x6_1 : List Int) (x7_1 : Int) (x8_1 : Int), v7 = .int .u64 x7_1 ∧ v8 = .int .i64 x8_1 ∧ Aside0 (nat_digit.l0 kq l0 a1 x6_1 x7_1 x8_1 = some (r1, r2)) ∧ Aside0 (kq ≤ k) ∧ Aside0 (Kd.R (Kd.int .u32) 100 w' w.heap.size (fun _ => True) v168 x6_1) ∧ Aside0 (Below w.heap.size w w'))
   case atStart => exact ⟨(y167), (0), (wrap64 ((l0.length : Int) - 1)), rfl, rfl, H', ⟨Nat.le_refl _⟩, ⟨HO169.out⟩, ⟨HB.out⟩⟩
   case round =>
    clear H'
    obtain ⟨x6_1, x7_1, x8_1, rfl, rfl, HA, HK1, HO_6, HB⟩ := hrel
    cases gk with
    | zero => exact absurd HA.out (by simp [nat_digit.l0])
    | succ k1 =>
     have H := HA.out
     clear HA
     simp only [nat_digit.l0] at H
     by_cases c7 : x8_1 ≥ 0
     ·rw [if_pos c7] at H
      clear c7
      by_cases c8 : 0 ≤ x8_1
      ·rw [if_pos c8] at H
       have c8b0 : decide (0 ≤ x8_1) = true := decide_eq_true c8
       clear c8
       by_cases c9 : x8_1 < (l0.length : Int)
       ·rw [if_pos c9] at H
        have c9b0 : decide (x8_1 < (l0.length : Int)) = true := decide_eq_true c9
        clear c9
        by_cases c10 : (IntKind.u64.wrap (a1)) = 0
        ·rw [if_pos c10] at H
         exact absurd H (by simp)
        ·rw [if_neg c10] at H
         by_cases c11 : x8_1 < (x6_1.length : Int)
         ·rw [if_pos c11] at H
          have c11b0 : decide (x8_1 < (x6_1.length : Int)) = true := decide_eq_true c11
          clear c11
          obtain ⟨y171, hy171⟩ : ∃ y_ : List Int, y_ = (x6_1.set (x8_1 : Int).toNat ((IntKind.u64.wrap (Int.tdiv (Go.bits .or .u64 (IntKind.u64.wrap (x7_1 * 4294967296)) (IntKind.u64.wrap (rd l0 x8_1))) (IntKind.u64.wrap (a1)))) % 4294967296)) := ⟨_, rfl⟩
          (try replace H := (Option.bind_some _ _).symm.trans H); rw [← hy171] at H
          have Ny171 := Aside0.mk hy171
          clear hy171
          have H' := Aside0.mk H
          clear H
          have p170 : 0 ≤ (x8_1 : Int) := of_decide_eq_true (by assumption)
          have q170 : x8_1 < (l0.length : Int) := of_decide_eq_true (by assumption)
          obtain ⟨ad170, e170, hx170_0⟩ := Kd.at_int HR0.out x8_1 p170 q170
          cases e170
          replace hx170_0 := (HB.out.cell (World.block_lt_of_cell? w _ hx170_0)).trans hx170_0
          replace q170 := eq_true q170
          have p12 : 0 ≤ (x8_1 : Int) := of_decide_eq_true (by assumption)
          have q12 : (x8_1 : Int) < ((x6_1.length : Int) : Int) := of_decide_eq_true (by assumption)
          obtain ⟨go12, co12, eo12, gb12, gl12, cl12, HG12⟩ := Kd.R_form HO_6.out (by omega)
          (cases eo12)
          have GB12 := Aside0.mk gb12
          have GG12 := Aside0.mk HG12
          clear gb12 gl12 HG12
          obtain ⟨hx12_0, hf12_0⟩ := Kd.R_celln 0 HO_6.out (x8_1 : Int) p12 q12
          replace p12 := eq_true p12
          replace q12 := eq_true q12
          have HP13 := Kd.R_putg HO_6.out (x8_1 : Int) ((IntKind.u64.wrap (Int.tdiv (Go.bits .or .u64 (IntKind.u64.wrap (x7_1 * 4294967296)) (IntKind.u64.wrap (rd l0 x8_1))) (IntKind.u64.wrap (a1)))) % 4294967296)
          go_wp2_with ((refine store_event (t := 100) (p := 34) (v := ?vo_w14) (w1 := (wr.setCell ⟨go12, (x8_1 : Int).toNat, none⟩ (.int .u32 ((IntKind.u64.wrap (Int.tdiv (Go.bits .or .u64 (IntKind.u64.wrap (x7_1 * 4294967296)) (IntKind.u64.wrap (rd l0 x8_1))) (IntKind.u64.wrap (a1)))) % 4294967296)))) ?hg ?ho ?hn ?hr ?_; (case ho => rfl); (case hg => rfl); (case hn => rfl); (case hr => go_simp; done); intro w14 hw; have hg : wr.grownBy w14 (some go12) := (by rw [hw]; exact HP13.2); have hp_ : Kd.R (Kd.int .u32) 100 w14 w.heap.size (fun _ => True) (.slice (some ⟨go12, 0, none⟩) x6_1.length co12) y171 := (by rw [hw, Ny171.out]; exact HP13.1); clear HP13; replace HO_6 := Aside0.mk (hp_); replace HB := Aside0.mk ((by rw [hw]; exact below_set (HB.out) GB12.out : Below w.heap.size w w14)); clear hg hw hp_))
          go_roundg k1
          case measure => have := HK1.out; omega
          case rel => exact ⟨(y171), (Int.tmod (Go.bits .or .u64 (IntKind.u64.wrap (x7_1 * 4294967296)) (IntKind.u64.wrap (rd l0 x8_1))) (IntKind.u64.wrap (a1))), (wrap64 (x8_1 - 1)), rfl, rfl, H', ⟨by have := HK1.out; omega⟩, ⟨HO_6.out⟩, ⟨HB.out⟩⟩
         ·rw [if_neg c11] at H
          exact absurd H (by simp)
       ·rw [if_neg c9] at H
        exact absurd H (by simp)
      ·rw [if_neg c8] at H
       exact absurd H (by simp)
     ·rw [if_neg c7] at H
      have c7b0 : decide (0 ≤ x8_1) = false := decide_eq_false c7
      clear c7
      obtain ⟨t172, A15, H⟩ := bindA H
      simp only [Option.some.injEq, Prod.mk.injEq] at H
      obtain ⟨rfl, rfl⟩ := H
      obtain ⟨Ao16, co16, eo16⟩ := Kd.R_slice HO_6.out
      subst eo16
      go_wp2_with ((refine goesL_ (some 40) rfl rfl Try.func123 (by kernel_rfl) rfl #[.slice Ao16 x6_1.length co16] rfl (by simp only [List.map_toArray, List.map_cons, List.map_nil]; rfl) ?_; (with_reducible refine (nat_shorto.calls k1 (fun k_ => some k_ = (.slice Ao16 x6_1.length co16 : Value).ownBlock) (.slice Ao16 x6_1.length co16) x6_1 t172 w _ HB.out (Kd.R_tight rfl HO_6.out) A15.out).mono ?_); rintro e w17 ⟨v173, rfl, ho0, hb, hkp⟩; refine ⟨_, rfl, ?_⟩; have HO174 := Aside0.mk (Kd.R_mono (ok' := fun k_ => True) ho0 (fun k_ hk_ => trivial)); replace HB := Aside0.mk (hb); clear HO_6))
      go_ret2
      exact ⟨_, rfl, HO174.out, HB.out⟩
  ·rw [if_neg c4] at H
   exact absurd H (by simp)
 ·rw [if_neg c3] at H
  exact absurd H (by simp)
end Go.Proofs.Ythheakfgmombdaa.F
end
section
namespace Go.Proofs.Ythheakfgmombdaa.F
open Go.RowKit Go.Proofs.YthheakfgmombdaaX.PrintWords Go.Proofs.YthheakfgmombdaaX.PrintLast Go.Proofs.YthheakfgmombdaaX.PrintMore
attribute [local go_sem] max2_int min2_int max_two min_two max_three min_three max_four min_four   -- for this text's walks alone
set_option linter.unusedVariables false
set_option linter.unusedSimpArgs false
set_option maxHeartbeats 8000000 in
set_option maxRecDepth 100000 in
theorem bits_LeadingZeros32.calls (k : Nat) (a0 : Int) (r : Int) (w : World) (h : bits_LeadingZeros32.f k a0 = some r) :
  Calls Try.prog 141 #[.int .u32 a0] w fun e w' => e = .returned (.int .i64 r) ∧ Drawn0 w w' := by
 have H : ((bits_Len32.f k a0).bind fun t175 => (some (wrap64 (32 - t175)))) = some r := h
 clear h
 obtain ⟨t175, A2, H⟩ := bindA H
 obtain rfl := Option.some.inj H
 go_enter Try.func141, Try.ntmps141
 go_wp2_with ((refine goesL_ (some 4) rfl rfl Try.func124 (by kernel_rfl) rfl #[.int .u32 a0] rfl (by simp only [List.map_toArray, List.map_cons, List.map_nil]; rfl) ?_; (with_reducible refine (bits_Len32.calls k a0 t175 _ A2.out).mono ?_); rintro e w' ⟨rfl, ⟨nd, rfl⟩⟩; refine ⟨_, rfl, ?_⟩))
 go_ret
 exact ⟨by rfl, by repeat (first | exact Drawn0.refl _ | apply Drawn0.step)⟩
end Go.Proofs.Ythheakfgmombdaa.F
end
section
namespace Go.Proofs.Ythheakfgmombdaa.F
open Go.RowKit Go.Proofs.YthheakfgmombdaaX.PrintWords Go.Proofs.YthheakfgmombdaaX.PrintLast Go.Proofs.YthheakfgmombdaaX.PrintMore
attribute [local go_sem] max2_int min2_int max_two min_two max_three min_three max_four min_four   -- for this text's walks alone
set_option linter.unusedVariables false
set_option linter.unusedSimpArgs false
set_option maxHeartbeats 8000000 in
set_option maxRecDepth 100000 in
theorem nat_shift.calls (k : Nat) (A0 : Option Addr) (c0 : Nat) (l0 : List Int) (a1 : Int) (r : List Int) (w : World) (hr0 : Kd.C (Kd.int .u32) w A0 l0.length l0) (hc0 : l0.length ≤ c0) (h : nat_shift.f k l0 a1 = some r) :
  Calls Try.prog 142 #[.slice A0 l0.length c0, .int .i64 a1] w fun e w' => ∃ v0_ : Value, e = .returned (v0_) ∧ Kd.R (Kd.int .u32) 100 w' w.heap.size (fun _ => True) v0_ r ∧ Below w.heap.size w w' := by
 have HR0 := Aside0.mk hr0
 have HC0 := Aside0.mk hc0
 clear hr0 hc0
 have HB := Aside0.mk (Below.refl w.heap.size w)
 have H : (if 0 ≤ (wrap64 ((l0.length : Int) + 1)) then (if (wrap64 ((l0.length : Int) + 1) : Int).toNat ≤ 70368744177664 then (nat_shift.l0 k l0 a1 (List.replicate (wrap64 ((l0.length : Int) + 1) : Int).toNat 0) 0 l0 (l0.length : Int) 0) else (none)) else (none)) = some r := h
 clear h
 obtain ⟨ji3, hji3⟩ : ∃ j_ : Int, (wrap64 ((l0.length : Int) + 1)) = j_ := ⟨_, rfl⟩
 rw [hji3] at H
 have hji3w : (IntKind.i64.wrap ((l0.length : Int) + 1)) = ji3 := (i64_w _).trans hji3
 by_cases c4 : 0 ≤ (ji3)
 ·rw [if_pos c4] at H
  have c4b1 : decide (0 ≤ (ji3)) = true := decide_eq_true c4
  clear c4
  by_cases c5 : (ji3 : Int).toNat ≤ 70368744177664
  ·rw [if_pos c5] at H
   have c5b1 : decide ((ji3 : Int).toNat ≤ 70368744177664) = true := decide_eq_true c5
   clear c5
   obtain ⟨y176, hy176⟩ : ∃ y_ : List Int, y_ = (List.replicate (ji3 : Int).toNat 0) := ⟨_, rfl⟩
   (try replace H := (Option.bind_some _ _).symm.trans H); rw [← hy176] at H
   have Ny176 := Aside0.mk hy176
   clear hy176
   have H' := Aside0.mk H
   clear H
   go_enter Try.func142, Try.ntmps142
   go_wp2_with ((refine Kd.R_make (Kd.int .u32) _ 100 rfl (N := 13) rfl 44 _ _ rfl ji3 rfl rfl Try.underlying44 (.int .u32 0) 4 info100 rfl (by decide) (by omega) 0 (ok := fun _ => True) (okp := fun _ => True) rfl (fun _ hk => hk) trivial (of_decide_eq_true (by assumption)) (Nat.le_trans (Nat.mul_le_mul_right _ (of_decide_eq_true (by assumption) : ji3.toNat ≤ 70368744177664)) (by omega)) (Below.refl _ _) (Nat.le_refl _) ?_; intro v177 w6 ho7 hb hg_ hnew_; clear hg_ hnew_; (rw [← Ny176.out] at ho7); have HO178 := Aside0.mk (Kd.R_lower ho7 (below_size (HB.out))); replace HB := Aside0.mk (below_step (HB.out) hb); clear hb ho7))
   go_loopg [6, 16] k (fun kq v6 v16 w' => ∃ (x5_1 : List Int) (x6_1 : Int) (x16_1 : Int), v6 = .int .u64 x6_1 ∧ v16 = .int .i64 x16_1 ∧ Aside0 (nat_shift.l0 kq l0 a1 x5_1 x6_1 l0 (l0.length : Int) x16_1 = some r) ∧ Aside0 (kq ≤ k) ∧ Aside0 (Kd.R (Kd.int .u32) 100 w' w.heap.size (fun _ => True) v177 x5_1) ∧ Aside0 (Below w.heap.size w w'))
   case atStart => exact ⟨(y176), (0), (0), rfl, rfl, H', ⟨Nat.le_refl _⟩, ⟨HO178.out⟩, ⟨HB.out⟩⟩
   case round =>
    clear H'
    obtain ⟨x5_1, x6_1, x16_1, rfl, rfl, HA, HK1, HO_5, HB⟩ := hrel
    cases gk with
    | zero => exact absurd HA.out (by simp [nat_shift.l0])
    | succ k1 =>
     have H := HA.out
     clear HA
     simp only [nat_shift.l0] at H
     by_cases c8 : x16_1 < (l0.length : Int)
     ·rw [if_pos c8] at H
      clear c8
      by_cases c9 : 0 ≤ x16_1
      ·rw [if_pos c9] at H
       have c9b0 : decide (0 ≤ x16_1) = true := decide_eq_true c9
       clear c9
       by_cases c10 : x16_1 < (l0.length : Int)
       ·rw [if_pos c10] at H
        have c10b0 : decide (x16_1 < (l0.length : Int)) = true := decide_eq_true c10
        clear c10
        by_cases c11 : 0 ≤ a1
        ·rw [if_pos c11] at H
         have c11b0 := eq_true c11
         clear c11
         obtain ⟨ji12, hji12⟩ : ∃ j_ : Int, (shl .u64 (IntKind.u64.wrap (rd l0 x16_1)) a1) = j_ := ⟨_, rfl⟩
         rw [hji12] at H
         have hji12_ : (IntKind.u64.wrap ((IntKind.u64.wrap (rd l0 x16_1)) * 2 ^ min a1.toNat 64)) = ji12 := hji12
         have hji12z : a1 ≤ 64 → (IntKind.u64.wrap ((IntKind.u64.wrap (rd l0 x16_1)) * 2 ^ a1.toNat)) = ji12 := shl_small hji12
         by_cases c13 : x16_1 < (x5_1.length : Int)
         ·rw [if_pos c13] at H
          have c13b0 : decide (x16_1 < (x5_1.length : Int)) = true := decide_eq_true c13
          clear c13
          obtain ⟨y180, hy180⟩ : ∃ y_ : List Int, y_ = (x5_1.set (x16_1 : Int).toNat ((Go.bits .or .u64 (ji12) x6_1) % 4294967296)) := ⟨_, rfl⟩
          (try replace H := (Option.bind_some _ _).symm.trans H); rw [← hy180] at H
          have Ny180 := Aside0.mk hy180
          clear hy180
          have H' := Aside0.mk H
          clear H
          have p179 : 0 ≤ (x16_1 : Int) := of_decide_eq_true (by assumption)
          have q179 : x16_1 < (l0.length : Int) := of_decide_eq_true (by assumption)
          obtain ⟨ad179, e179, hx179_0⟩ := Kd.at_int HR0.out x16_1 p179 q179
          cases e179
          replace hx179_0 := (HB.out.cell (World.block_lt_of_cell? w _ hx179_0)).trans hx179_0
          replace q179 := eq_true q179
          have p14 : 0 ≤ (x16_1 : Int) := of_decide_eq_true (by assumption)
          have q14 : (x16_1 : Int) < ((x5_1.length : Int) : Int) := of_decide_eq_true (by assumption)
          obtain ⟨go14, co14, eo14, gb14, gl14, cl14, HG14⟩ := Kd.R_form HO_5.out (by omega)
          (cases eo14)
          have GB14 := Aside0.mk gb14
          have GG14 := Aside0.mk HG14
          clear gb14 gl14 HG14
          obtain ⟨hx14_0, hf14_0⟩ := Kd.R_celln 0 HO_5.out (x16_1 : Int) p14 q14
          replace p14 := eq_true p14
          replace q14 := eq_true q14
          have HP15 := Kd.R_putg HO_5.out (x16_1 : Int) ((Go.bits .or .u64 (ji12) x6_1) % 4294967296)
          go_wp2_with ((refine store_event (t := 100) (p := 31) (v := ?vo_w16) (w1 := (wr.setCell ⟨go14, (x16_1 : Int).toNat, none⟩ (.int .u32 ((Go.bits .or .u64 (ji12) x6_1) % 4294967296)))) ?hg ?ho ?hn ?hr ?_; (case ho => rfl); (case hg => rfl); (case hn => rfl); (case hr => go_simp; done); intro w16 hw; have hg : wr.grownBy w16 (some go14) := (by rw [hw]; exact HP15.2); have hp_ : Kd.R (Kd.int .u32) 100 w16 w.heap.size (fun _ => True) (.slice (some ⟨go14, 0, none⟩) x5_1.length co14) y180 := (by rw [hw, Ny180.out]; exact HP15.1); clear HP15; replace HO_5 := Aside0.mk (hp_); replace HB := Aside0.mk ((by rw [hw]; exact below_set (HB.out) GB14.out : Below w.heap.size w w16)); clear hg hw hp_))
          go_roundg k1
          case measure => have := HK1.out; omega
          case rel => exact ⟨(y180), ((Go.bits .or .u64 (ji12) x6_1) / 4294967296), (wrap64 (x16_1 + 1)), rfl, rfl, H', ⟨by have := HK1.out; omega⟩, ⟨HO_5.out⟩, ⟨HB.out⟩⟩
         ·rw [if_neg c13] at H
          exact absurd H (by simp)
        ·rw [if_neg c11] at H
         exact absurd H (by simp)
       ·rw [if_neg c10] at H
        exact absurd H (by simp)
      ·rw [if_neg c9] at H
       exact absurd H (by simp)
     ·rw [if_neg c8] at H
      have c8b0 : decide (x16_1 < (l0.length : Int)) = false := decide_eq_false c8
      clear c8
      by_cases c17 : 0 ≤ (l0.length : Int)
      ·rw [if_pos c17] at H
       have c17b0 : decide (0 ≤ (l0.length : Int)) = true := decide_eq_true c17
       have c17b1 : decide (0 ≤ l0.length) = true := decide_eq_true (by omega)
       clear c17
       by_cases c18 : (l0.length : Int) < (x5_1.length : Int)
       ·rw [if_pos c18] at H
        have c18b0 : decide ((l0.length : Int) < (x5_1.length : Int)) = true := decide_eq_true c18
        have c18b1 : decide (l0.length < x5_1.length) = true := decide_eq_true (Int.ofNat_lt.mp c18)
        clear c18
        obtain ⟨y181, hy181⟩ : ∃ y_ : List Int, y_ = (x5_1.set ((l0.length : Int) : Int).toNat ((x6_1) % 4294967296)) := ⟨_, rfl⟩
        (try replace H := (Option.bind_some _ _).symm.trans H); rw [← hy181] at H
        have Ny181 := Aside0.mk hy181
        clear hy181
        obtain rfl := Option.some.inj H
        have p19 : 0 ≤ ((l0.length : Int) : Int) := of_decide_eq_true (by assumption)
        have q19 : ((l0.length : Int) : Int) < ((x5_1.length : Int) : Int) := of_decide_eq_true (by assumption)
        obtain ⟨go19, co19, eo19, gb19, gl19, cl19, HG19⟩ := Kd.R_form HO_5.out (by omega)
        (cases eo19)
        have GB19 := Aside0.mk gb19
        have GG19 := Aside0.mk HG19
        clear gb19 gl19 HG19
        obtain ⟨hx19_0, hf19_0⟩ := Kd.R_celln 0 HO_5.out ((l0.length : Int) : Int) p19 q19
        (try simp only [Int.toNat_natCast, Go.IntWalk.toNatUp] at hx19_0)
        (try simp only [Int.toNat_natCast, Go.IntWalk.toNatUp] at hf19_0)
        replace p19 := eq_true p19
        replace q19 := eq_true q19
        have HP20 := Kd.R_putg HO_5.out ((l0.length : Int) : Int) ((x6_1) % 4294967296)
        go_wp2_with ((refine store_event (t := 100) (p := 40) (v := ?vo_w21) (w1 := (wr.setCell ⟨go19, ((l0.length : Int) : Int).toNat, none⟩ (.int .u32 ((x6_1) % 4294967296)))) ?hg ?ho ?hn ?hr ?_; (case ho => rfl); (case hg => rfl); (case hn => rfl); (case hr => go_simp; done); intro w21 hw; have hg : wr.grownBy w21 (some go19) := (by rw [hw]; exact HP20.2); have hp_ : Kd.R (Kd.int .u32) 100 w21 w.heap.size (fun _ => True) (.slice (some ⟨go19, 0, none⟩) x5_1.length co19) y181 := (by rw [hw, Ny181.out]; exact HP20.1); clear HP20; replace HO_5 := Aside0.mk (hp_); replace HB := Aside0.mk ((by rw [hw]; exact below_set (HB.out) GB19.out : Below w.heap.size w w21)); clear hg hw hp_))
        go_ret
        exact ⟨_, rfl, HO_5.out, HB.out⟩
       ·rw [if_neg c18] at H
        exact absurd H (by simp)
      ·rw [if_neg c17] at H
       exact absurd H (by simp)
  ·rw [if_neg c5] at H
   exact absurd H (by simp)
 ·rw [if_neg c4] at H
  exact absurd H (by simp)
end Go.Proofs.Ythheakfgmombdaa.F
end
section
namespace Go.Proofs.Ythheakfgmombdaa.F
open Go.RowKit Go.Proofs.YthheakfgmombdaaX.PrintWords Go.Proofs.YthheakfgmombdaaX.PrintLast Go.Proofs.YthheakfgmombdaaX.PrintMore
attribute [local go_sem] max2_int min2_int max_two min_two max_three min_three max_four min_four   -- for this text's walks alone
set_option linter.unusedVariables false
set_option linter.unusedSimpArgs false
set_option maxHeartbeats 8000000 in
set_option maxRecDepth 100000 in
theorem nat_step.calls (k : Nat) (P0_ : Nat → Prop) (u9000_ : Value) (pre_ post_ : List Int) (cap_ : Nat) (l0 : List Int) (A1 : Option Addr) (c1 : Nat) (l1 : List Int) (r1 : Int) (r2 : List Int) (w0 w : World) (hB : Below w0.heap.size w0 w) (ho0 : MR pre_ post_ cap_ 100 w w0.heap.size P0_ u9000_ l0) (hr1 : ∀ W_, Kept w W_ (fun k_ => P0_ k_) → Kd.C (Kd.int .u32) W_ A1 l1.length l1) (hc1 : l1.length ≤ c1) (h : nat_step.f k l0 l1 = some (r1, r2)) :
  Calls Try.prog 143 #[u9000_, .slice A1 l1.length c1] w fun e w' => e = .returned (.int .u32 r1) ∧ MR pre_ post_ cap_ 100 w' w0.heap.size (fun k_ => (P0_ k_ ∨ w.heap.size ≤ k_)) u9000_ r2 ∧ Below w0.heap.size w0 w' ∧ Kept w w' (fun k_ => P0_ k_) := by
 have HO0 := Aside0.mk (show MR pre_ post_ cap_ 100 w w0.heap.size (fun k_ => (P0_ k_ ∨ w.heap.size ≤ k_)) u9000_ l0 from MR_mono ho0 (fun k_ hk => (.inl hk)))
 have HR1 := Aside0.mk hr1
 have HC1 := Aside0.mk hc1
 clear hr1 hc1
 have HK := Aside0.mk (Kept.refl w (fun k_ => P0_ k_))
 have HW0 := Aside0.mk hB.size
 have HB := Aside0.mk hB
 clear hB
 have H : (if 0 ≤ (l1.length : Int) then (if (l1.length : Int) < (l0.length : Int) then (if 0 ≤ (wrap64 ((l1.length : Int) - 1)) then (if (wrap64 ((l1.length : Int) - 1)) < (l0.length : Int) then (if (wrap64 ((l1.length : Int) - 1)) < (l1.length : Int) then (if (IntKind.u64.wrap (rd l1 (wrap64 ((l1.length : Int) - 1)))) = 0 then (none) else (nat_step.l0 k l0 l1 (l1.length : Int) (IntKind.u64.wrap (Int.tdiv (Go.bits .or .u64 (IntKind.u64.wrap ((IntKind.u64.wrap (rd l0 (l1.length : Int))) * 4294967296)) (IntKind.u64.wrap (rd l0 (wrap64 ((l1.length : Int) - 1))))) (IntKind.u64.wrap (rd l1 (wrap64 ((l1.length : Int) - 1)))))) (Int.tmod (Go.bits .or .u64 (IntKind.u64.wrap ((IntKind.u64.wrap (rd l0 (l1.length : Int))) * 4294967296)) (IntKind.u64.wrap (rd l0 (wrap64 ((l1.length : Int) - 1))))) (IntKind.u64.wrap (rd l1 (wrap64 ((l1.length : Int) - 1))))))) else (none)) else (none)) else (none)) else (none)) else (none)) = some (r1, r2) := h
 clear h
 by_cases c3 : 0 ≤ (l1.length : Int)
 ·rw [if_pos c3] at H
  have c3b0 : decide (0 ≤ (l1.length : Int)) = true := decide_eq_true c3
  have c3b1 : decide (0 ≤ l1.length) = true := decide_eq_true (by omega)
  clear c3
  by_cases c4 : (l1.length : Int) < (l0.length : Int)
  ·rw [if_pos c4] at H
   have c4b0 : decide ((l1.length : Int) < (l0.length : Int)) = true := decide_eq_true c4
   have c4b1 : decide (l1.length < l0.length) = true := decide_eq_true (Int.ofNat_lt.mp c4)
   clear c4
   obtain ⟨ji5, hji5⟩ : ∃ j_ : Int, (wrap64 ((l1.length : Int) - 1)) = j_ := ⟨_, rfl⟩
   replace H : (if 0 ≤ (ji5) then (if (ji5) < (l0.length : Int) then (if (ji5) < (l1.length : Int) then (if (IntKind.u64.wrap (rd l1 (ji5))) = 0 then (none) else (nat_step.l0 k l0 l1 (l1.length : Int) (IntKind.u64.wrap (Int.tdiv (Go.bits .or .u64 (IntKind.u64.wrap ((IntKind.u64.wrap (rd l0 (l1.length : Int))) * 4294967296)) (IntKind.u64.wrap (rd l0 (ji5)))) (IntKind.u64.wrap (rd l1 (ji5))))) (Int.tmod (Go.bits .or .u64 (IntKind.u64.wrap ((IntKind.u64.wrap (rd l0 (l1.length : Int))) * 4294967296)) (IntKind.u64.wrap (rd l0 (ji5)))) (IntKind.u64.wrap (rd l1 (ji5)))))) else (none)) else (none)) else (none)) = some (r1, r2) := by (rw [hji5] at H; exact H)
   have hji5w : (IntKind.i64.wrap ((l1.length : Int) - 1)) = ji5 := (i64_w _).trans hji5
   by_cases c6 : 0 ≤ (ji5)
   ·rw [if_pos c6] at H
    have c6b0 : decide (0 ≤ (ji5)) = true := decide_eq_true c6
    clear c6
    by_cases c7 : (ji5) < (l0.length : Int)
    ·rw [if_pos c7] at H
     have c7b0 : decide ((ji5) < (l0.length : Int)) = true := decide_eq_true c7
     clear c7
     by_cases c8 : (ji5) < (l1.length : Int)
     ·rw [if_pos c8] at H
      have c8b0 : decide ((ji5) < (l1.length : Int)) = true := decide_eq_true c8
      clear c8
      by_cases c9 : (IntKind.u64.wrap (rd l1 (ji5))) = 0
      ·rw [if_pos c9] at H
       exact absurd H (by simp)
      ·rw [if_neg c9] at H
       have c9b0 : ((IntKind.u64.wrap (rd l1 (ji5))) == 0) = false := beq_eq_false_iff_ne.mpr c9
       have c9b1 : ((IntKind.u64.wrap (rd l1 (ji5))) != 0) = true := bne_iff_ne.mpr c9
       have H' := Aside0.mk H
       clear H
       obtain ⟨Ao10, co10, eo10⟩ := MR_slice HO0.out
       subst eo10
       have p182 : 0 ≤ ((l1.length : Int) : Int) := of_decide_eq_true (by (with_reducible assumption))
       have q182 : (l1.length : Int) < (l0.length : Int) := of_decide_eq_true (by (with_reducible assumption))
       obtain ⟨ad182, e182, hx182_0⟩ := Kd.at_int (MR_reads' HO0.out).2.2 (l1.length : Int) p182 q182
       cases e182
       (try simp only [Go.IntWalk.toNatUp] at hx182_0)
       replace p182 := eq_true p182
       replace q182 := eq_true q182
       have p183 : 0 ≤ ((ji5) : Int) := of_decide_eq_true (by (with_reducible assumption))
       have q183 : (ji5) < (l0.length : Int) := of_decide_eq_true (by (with_reducible assumption))
       obtain ⟨ad183, e183, hx183_0⟩ := Kd.at_int (MR_reads' HO0.out).2.2 (ji5) p183 q183
       obtain rfl : ad182 = ad183 := (by injection e183)
       replace p183 := eq_true p183
       replace q183 := eq_true q183
       have p184 : 0 ≤ ((ji5) : Int) := of_decide_eq_true (by (with_reducible assumption))
       have q184 : (ji5) < (l1.length : Int) := of_decide_eq_true (by (with_reducible assumption))
       obtain ⟨ad184, e184, hx184_0⟩ := Kd.at_int (Kd.C_kept_now HR1.out HK.out) (ji5) p184 q184
       cases e184
       replace p184 := eq_true p184
       replace q184 := eq_true q184
       have p185 : 0 ≤ ((ji5) : Int) := of_decide_eq_true (by (with_reducible assumption))
       have q185 : (ji5) < (l1.length : Int) := of_decide_eq_true (by (with_reducible assumption))
       obtain ⟨ad185, e185, hx185_0⟩ := Kd.at_int (Kd.C_kept_now HR1.out HK.out) (ji5) p185 q185
       obtain rfl : ad184 = ad185 := (by injection e185)
       replace p185 := eq_true p185
       replace q185 := eq_true q185
       go_enter Try.func143, Try.ntmps143
       go_wp2
       repeat (go_quiet (fail); try go_wp2)
       go_loopg [7, 8] k (fun kq v7 v8 w' => ∃ (x7_1 : Int) (x8_1 : Int), v7 = .int .u64 x7_1 ∧ v8 = .int .u64 x8_1 ∧ Aside0 (nat_step.l0 kq l0 l1 (l1.length : Int) x7_1 x8_1 = some (r1, r2)) ∧ Aside0 (kq ≤ k) ∧ Aside0 (MR pre_ post_ cap_ 100 w' w0.heap.size (fun k_ => (P0_ k_ ∨ w.heap.size ≤ k_)) (.slice (some ad182) l0.length co10) l0) ∧ Aside0 (Kept w w' (fun k_ => P0_ k_)) ∧ Aside0 (Below w0.heap.size w0 w'))
       case atStart => exact ⟨(IntKind.u64.wrap (Int.tdiv (Go.bits .or .u64 (IntKind.u64.wrap ((IntKind.u64.wrap (rd l0 (l1.length : Int))) * 4294967296)) (IntKind.u64.wrap (rd l0 (ji5)))) (IntKind.u64.wrap (rd l1 (ji5))))), (Int.tmod (Go.bits .or .u64 (IntKind.u64.wrap ((IntKind.u64.wrap (rd l0 (l1.length : Int))) * 4294967296)) (IntKind.u64.wrap (rd l0 (ji5)))) (IntKind.u64.wrap (rd l1 (ji5)))), (by rfl), (by rfl), H', ⟨Nat.le_refl _⟩, ⟨by (with_reducible repeat (apply MR_drewN)); exact HO0.out⟩, ⟨by repeat ((with_reducible first | exact HK.out | apply Kept.drewN))⟩, ⟨by repeat ((with_reducible first | exact HB.out | apply pw_below_drewN))⟩⟩
       case round =>
        clear H'
        try clear c3b0
        try clear c3b1
        try clear c4b0
        try clear c4b1
        try clear c6b0
        try clear c7b0
        try clear c8b0
        try clear c9
        try clear c9b0
        try clear c9b1
        try clear hx182_0
        try clear hx183_0
        try clear hx184_0
        try clear hx185_0
        try clear p182
        try clear p183
        try clear p184
        try clear p185
        try clear q182
        try clear q183
        try clear q184
        try clear q185
        obtain ⟨x7_1, x8_1, rfl, rfl, HA, HK1, HO_0, HK, HB⟩ := hrel
        cases gk with
        | zero => exact absurd HA.out (by simp [nat_step.l0])
        | succ k1 =>
         have H := HA.out
         clear HA
         simp only [nat_step.l0] at H
         have HC11 := Aside0.mk H
         clear H
         go_upto_region 5 with (fail)
         repeat (go_quiet (fail); go_upto_region 5 with (fail))
         go_cut [73] (fun v73 wc => ∃ (kq : Nat) (x73_10 : Bool), v73 = .bool x73_10 ∧ Aside0 (nat_step.j1 kq l0 l1 (l1.length : Int) x7_1 x8_1 x73_10 = some (r1, r2)) ∧ Aside0 (kq ≤ k1) ∧ Aside0 (MR pre_ post_ cap_ 100 wc w0.heap.size (fun k_ => (P0_ k_ ∨ w.heap.size ≤ k_)) (.slice (some ad182) l0.length co10) l0) ∧ Aside0 (Kept w wc (fun k_ => P0_ k_)) ∧ Aside0 (Below w0.heap.size w0 wc))
         case first =>
          have H := HC11.out
          clear HC11
          by_cases c12 : x8_1 < 4294967296
          ·rw [if_pos c12] at H
           have c12b0 : decide (x8_1 < 4294967296) = true := decide_eq_true c12
           clear c12
           (skip)
           by_cases c13 : x7_1 ≥ 4294967296
           ·rw [if_pos c13] at H
            have c13b0 : decide (4294967296 ≤ x7_1) = true := decide_eq_true c13
            clear c13
            have H' := Aside0.mk H
            clear H
            go_wp2
            repeat (go_quiet (fail); try go_wp2)
            go_meet
            case rel => exact ⟨_, (true), (by rfl), H', ⟨by have := HK1.out; omega⟩, ⟨by (with_reducible repeat (apply MR_drewN)); exact HO_0.out⟩, ⟨by repeat ((with_reducible first | exact HK.out | apply Kept.drewN))⟩, ⟨by repeat ((with_reducible first | exact HB.out | apply pw_below_drewN))⟩⟩
           ·rw [if_neg c13] at H
            have c13b0 : decide (4294967296 ≤ x7_1) = false := decide_eq_false c13
            clear c13
            obtain ⟨ji14, hji14⟩ : ∃ j_ : Int, (wrap64 ((l1.length : Int) - 2)) = j_ := ⟨_, rfl⟩
            replace H : (if 0 ≤ (ji14) then (if (ji14) < (l1.length : Int) then (if (ji14) < (l0.length : Int) then (nat_step.j1 k1 l0 l1 (l1.length : Int) x7_1 x8_1 (decide ((IntKind.u64.wrap (x7_1 * (IntKind.u64.wrap (rd l1 (ji14))))) > (Go.bits .or .u64 (IntKind.u64.wrap (x8_1 * 4294967296)) (IntKind.u64.wrap (rd l0 (ji14))))))) else (none)) else (none)) else (none)) = some (r1, r2) := by (rw [hji14] at H; exact H)
            have hji14w : (IntKind.i64.wrap ((l1.length : Int) - 2)) = ji14 := (i64_w _).trans hji14
            by_cases c15 : 0 ≤ (ji14)
            ·rw [if_pos c15] at H
             have c15b0 : decide (0 ≤ (ji14)) = true := decide_eq_true c15
             clear c15
             by_cases c16 : (ji14) < (l1.length : Int)
             ·rw [if_pos c16] at H
              have c16b0 : decide ((ji14) < (l1.length : Int)) = true := decide_eq_true c16
              clear c16
              by_cases c17 : (ji14) < (l0.length : Int)
              ·rw [if_pos c17] at H
               have c17b0 : decide ((ji14) < (l0.length : Int)) = true := decide_eq_true c17
               clear c17
               have H' := Aside0.mk H
               clear H
               have p186 : 0 ≤ ((ji14) : Int) := of_decide_eq_true (by (with_reducible assumption))
               have q186 : (ji14) < (l1.length : Int) := of_decide_eq_true (by (with_reducible assumption))
               obtain ⟨ad186, e186, hx186_0⟩ := Kd.at_int (Kd.C_kept_now HR1.out HK.out) (ji14) p186 q186
               obtain rfl : ad184 = ad186 := (by injection e186)
               replace p186 := eq_true p186
               replace q186 := eq_true q186
               have p187 : 0 ≤ ((ji14) : Int) := of_decide_eq_true (by (with_reducible assumption))
               have q187 : (ji14) < (l0.length : Int) := of_decide_eq_true (by (with_reducible assumption))
               obtain ⟨ad187, e187, hx187_0⟩ := Kd.at_int (MR_reads' HO_0.out).2.2 (ji14) p187 q187
               obtain rfl : ad182 = ad187 := (by injection e187)
               replace p187 := eq_true p187
               replace q187 := eq_true q187
               go_wp2
               repeat (go_quiet (fail); try go_wp2)
               go_meet
               case rel => exact ⟨_, (decide ((IntKind.u64.wrap (x7_1 * (IntKind.u64.wrap (rd l1 (ji14))))) > (Go.bits .or .u64 (IntKind.u64.wrap (x8_1 * 4294967296)) (IntKind.u64.wrap (rd l0 (ji14)))))), (by rfl), H', ⟨by have := HK1.out; omega⟩, ⟨by (with_reducible repeat (apply MR_drewN)); exact HO_0.out⟩, ⟨by repeat ((with_reducible first | exact HK.out | apply Kept.drewN))⟩, ⟨by repeat ((with_reducible first | exact HB.out | apply pw_below_drewN))⟩⟩
              ·rw [if_neg c17] at H
               exact absurd H (by simp)
             ·rw [if_neg c16] at H
              exact absurd H (by simp)
            ·rw [if_neg c15] at H
             exact absurd H (by simp)
          ·rw [if_neg c12] at H
           have c12b0 : decide (x8_1 < 4294967296) = false := decide_eq_false c12
           clear c12
           (skip)
           have H' := Aside0.mk H
           clear H
           go_wp2
           repeat (go_quiet (fail); try go_wp2)
           go_meet
           case rel => exact ⟨_, (false), (by rfl), H', ⟨by have := HK1.out; omega⟩, ⟨by (with_reducible repeat (apply MR_drewN)); exact HO_0.out⟩, ⟨by repeat ((with_reducible first | exact HK.out | apply Kept.drewN))⟩, ⟨by repeat ((with_reducible first | exact HB.out | apply pw_below_drewN))⟩⟩
         case rest =>
          clear HC11
          obtain ⟨kq, x73_10, rfl, HA, HJ10, HO_0, HK, HB⟩ := hcut
          cases kq with
          | zero => exact absurd HA.out (by simp [nat_step.j1])
          | succ kj10 =>
           have H := HA.out
           clear HA
           simp only [nat_step.j1] at H
           by_cases c18 : x73_10 = true
           ·subst c18
            have H1 : (if 0 ≤ (wrap64 ((l1.length : Int) - 1)) then (if (wrap64 ((l1.length : Int) - 1)) < (l1.length : Int) then (nat_step.l0 kj10 l0 l1 (l1.length : Int) (IntKind.u64.wrap (x7_1 - 1)) (IntKind.u64.wrap (x8_1 + (IntKind.u64.wrap (rd l1 (wrap64 ((l1.length : Int) - 1))))))) else (none)) else (none)) = some (r1, r2) := by rw [if_pos rfl] at H; exact H
            clear H
            have H := H1
            clear H1
            replace H : (if 0 ≤ (ji5) then (if (ji5) < (l1.length : Int) then (nat_step.l0 kj10 l0 l1 (l1.length : Int) (IntKind.u64.wrap (x7_1 - 1)) (IntKind.u64.wrap (x8_1 + (IntKind.u64.wrap (rd l1 (ji5)))))) else (none)) else (none)) = some (r1, r2) := by (rw [hji5] at H; exact H)
            by_cases c19 : 0 ≤ (ji5)
            ·rw [if_pos c19] at H
             have c19b0 : decide (0 ≤ (ji5)) = true := decide_eq_true c19
             clear c19
             by_cases c20 : (ji5) < (l1.length : Int)
             ·rw [if_pos c20] at H
              have c20b0 : decide ((ji5) < (l1.length : Int)) = true := decide_eq_true c20
              clear c20
              have H' := Aside0.mk H
              clear H
              have p188 : 0 ≤ ((ji5) : Int) := of_decide_eq_true (by (with_reducible assumption))
              have q188 : (ji5) < (l1.length : Int) := of_decide_eq_true (by (with_reducible assumption))
              obtain ⟨ad188, e188, hx188_0⟩ := Kd.at_int (Kd.C_kept_now HR1.out HK.out) (ji5) p188 q188
              obtain rfl : ad184 = ad188 := (by injection e188)
              replace p188 := eq_true p188
              replace q188 := eq_true q188
              go_wp2
              repeat (go_quiet (fail); try go_wp2)
              (go_roundg kj10)
              case measure => have := HK1.out; have := HJ10.out; omega
              case rel => exact ⟨(IntKind.u64.wrap (x7_1 - 1)), (IntKind.u64.wrap (x8_1 + (IntKind.u64.wrap (rd l1 (ji5))))), (by rfl), (by rfl), H', ⟨by have := HK1.out; have := HJ10.out; omega⟩, ⟨by (with_reducible repeat (fail)); exact HO_0.out⟩, ⟨by repeat ((with_reducible exact HK.out))⟩, ⟨by repeat ((with_reducible exact HB.out))⟩⟩
             ·rw [if_neg c20] at H
              exact absurd H (by simp)
            ·rw [if_neg c19] at H
             exact absurd H (by simp)
           ·replace c18 := Bool.eq_false_iff.mpr c18
            subst c18
            have H1 : (nat_step.l1 kj10 l0 l1 (l1.length : Int) x7_1 0 0 (l1.length : Int) 0) = some (r1, r2) := by rw [if_neg (show ¬ (false = true) by decide)] at H; exact H
            clear H
            have H := H1
            clear H1
            have H' := Aside0.mk H
            clear H
            go_wp2
            repeat (go_quiet (fail); try go_wp2)
            go_loopg [9, 10, 86] kj10 (fun kq v9 v10 v86 w' => ∃ (x0_3 : List Int) (x9_3 : Int) (x10_3 : Int) (x86_3 : Int), v9 = .int .u64 x9_3 ∧ v10 = .int .u64 x10_3 ∧ v86 = .int .i64 x86_3 ∧ Aside0 (nat_step.l1 kq x0_3 l1 (l1.length : Int) x7_1 x9_3 x10_3 (l1.length : Int) x86_3 = some (r1, r2)) ∧ Aside0 (kq ≤ kj10) ∧ Aside0 (MR pre_ post_ cap_ 100 w' w0.heap.size (fun k_ => (P0_ k_ ∨ w.heap.size ≤ k_)) (.slice (some ad182) l0.length co10) x0_3) ∧ Aside0 (Kept w w' (fun k_ => P0_ k_)) ∧ Aside0 (Below w0.heap.size w0 w'))
            case atStart => exact ⟨(l0), (0), (0), (0), (by rfl), (by rfl), (by rfl), H', ⟨Nat.le_refl _⟩, ⟨by (with_reducible repeat (fail)); exact HO_0.out⟩, ⟨by repeat ((with_reducible exact HK.out))⟩, ⟨by repeat ((with_reducible exact HB.out))⟩⟩
            case round =>
             clear H'
             obtain ⟨x0_3, x9_3, x10_3, x86_3, rfl, rfl, rfl, HA, HK3, HO_0, HK, HB⟩ := hrel
             have hl0_3 := (MR_reads' HO_0.out).1
             rw [hl0_3] at HO_0
             (try simp only [hl0_3])
             cases gk with
             | zero => exact absurd HA.out (by simp [nat_step.l1])
             | succ k3 =>
              have H := HA.out
              clear HA
              simp only [nat_step.l1] at H
              by_cases c21 : x86_3 < (l1.length : Int)
              ·rw [if_pos c21] at H
               have c21b0 : decide (x86_3 < (l1.length : Int)) = true := decide_eq_true c21
               clear c21
               by_cases c22 : 0 ≤ x86_3
               ·rw [if_pos c22] at H
                have c22b0 : decide (0 ≤ x86_3) = true := decide_eq_true c22
                clear c22
                by_cases c23 : x86_3 < (l1.length : Int)
                ·rw [if_pos c23] at H
                 have c23b0 : decide (x86_3 < (l1.length : Int)) = true := decide_eq_true c23
                 clear c23
                 by_cases c24 : x86_3 < (x0_3.length : Int)
                 ·rw [if_pos c24] at H
                  have c24b0 : decide (x86_3 < (x0_3.length : Int)) = true := decide_eq_true c24
                  clear c24
                  obtain ⟨y191, hy191⟩ : ∃ y_ : List Int, y_ = (x0_3.set (x86_3 : Int).toNat ((IntKind.u64.wrap ((IntKind.u64.wrap ((IntKind.u64.wrap (rd x0_3 x86_3)) - ((IntKind.u64.wrap ((IntKind.u64.wrap (x7_1 * (IntKind.u64.wrap (rd l1 x86_3)))) + x10_3)) % 4294967296))) - x9_3)) % 4294967296)) := ⟨_, rfl⟩
                  replace H : (nat_step.l1 k3 y191 l1 (l1.length : Int) x7_1 ((IntKind.u64.wrap ((IntKind.u64.wrap ((IntKind.u64.wrap (rd x0_3 x86_3)) - ((IntKind.u64.wrap ((IntKind.u64.wrap (x7_1 * (IntKind.u64.wrap (rd l1 x86_3)))) + x10_3)) % 4294967296))) - x9_3)) / 9223372036854775808) ((IntKind.u64.wrap ((IntKind.u64.wrap (x7_1 * (IntKind.u64.wrap (rd l1 x86_3)))) + x10_3)) / 4294967296) (l1.length : Int) (wrap64 (x86_3 + 1))) = some (r1, r2) := by (rw [hy191]; with_reducible exact H)
                  have Ny191 := Aside0.mk hy191
                  clear hy191
                  have H' := Aside0.mk H
                  clear H
                  have p189 : 0 ≤ (x86_3 : Int) := of_decide_eq_true (by (with_reducible assumption))
                  have q189 : x86_3 < (l1.length : Int) := of_decide_eq_true (by (with_reducible assumption))
                  obtain ⟨ad189, e189, hx189_0⟩ := Kd.at_int (Kd.C_kept_now HR1.out HK.out) x86_3 p189 q189
                  obtain rfl : ad184 = ad189 := (by injection e189)
                  replace p189 := eq_true p189
                  replace q189 := eq_true q189
                  have p190 : 0 ≤ (x86_3 : Int) := of_decide_eq_true (by (with_reducible assumption))
                  have q190 : x86_3 < (x0_3.length : Int) := of_decide_eq_true (by (with_reducible assumption))
                  obtain ⟨ad190, e190, hx190_0⟩ := Kd.at_int (MR_reads' HO_0.out).2.2 x86_3 p190 q190
                  obtain rfl : ad182 = ad190 := (by injection e190)
                  replace p190 := eq_true p190
                  replace q190 := eq_true q190
                  have p25 : 0 ≤ (x86_3 : Int) := of_decide_eq_true (by (with_reducible assumption))
                  have q25 : (x86_3 : Int) < ((x0_3.length : Int) : Int) := of_decide_eq_true (by (with_reducible assumption))
                  obtain ⟨go25, co25, eo25, gb25, gl25, cl25, HG25⟩ := MR_form HO_0.out (by omega)
                  (cases eo25)
                  have GB25 := Aside0.mk gb25
                  have GG25 := Aside0.mk HG25
                  clear gb25 gl25 HG25
                  have HMgo25 := Aside0.mk (show (P0_ go25 ∨ w.heap.size ≤ go25) from (HO_0.out.1 _ rfl))
                  (skip)
                  (skip)
                  (skip)
                  (simp only [add_mid] at hx190_0)
                  obtain ⟨hx25_0, hf25_0⟩ := MR_celln 0 rfl HO_0.out (x86_3 : Int) p25 q25
                  replace p25 := eq_true p25
                  replace q25 := eq_true q25
                  have HP26 := MR_putg HO_0.out (x86_3 : Int) ((IntKind.u64.wrap ((IntKind.u64.wrap ((IntKind.u64.wrap (rd x0_3 x86_3)) - ((IntKind.u64.wrap ((IntKind.u64.wrap (x7_1 * (IntKind.u64.wrap (rd l1 x86_3)))) + x10_3)) % 4294967296))) - x9_3)) % 4294967296) (of_eq_true p25) (of_eq_true q25)
                  go_wp2_with (((with_reducible refine gate_store (t := 100) (p := 115) rfl ?_); refine store_event (t := 100) (p := 115) (v := ?vo_w27) (w1 := (wr.setCell ⟨go25, pre_.length + (x86_3 : Int).toNat, none⟩ (.int .u32 ((IntKind.u64.wrap ((IntKind.u64.wrap ((IntKind.u64.wrap (rd x0_3 x86_3)) - ((IntKind.u64.wrap ((IntKind.u64.wrap (x7_1 * (IntKind.u64.wrap (rd l1 x86_3)))) + x10_3)) % 4294967296))) - x9_3)) % 4294967296)))) ?hg ?ho ?hn ?hr ?_; (case ho => rfl); (case hg => rfl); (case hn => rfl); (case hr => (go_simp; done)); intro w27 hw; have hg : wr.grownBy w27 (some go25) := (by rw [hw]; exact HP26.2); have hp_ : MR pre_ post_ cap_ 100 w27 w0.heap.size (fun k_ => (P0_ k_ ∨ w.heap.size ≤ k_)) (.slice (some ⟨go25, pre_.length, none⟩) x0_3.length co10) y191 := (by rw [hw, Ny191.out]; exact HP26.1); clear HP26; have n0_ := Aside0.mk (hp_); have n1_ := Aside0.mk ((by rw [hw]; exact below_set (HB.out) GB25.out : Below w0.heap.size w0 w27)); have n2_ := Aside0.mk (Kept.of_grown (S := (fun k_ => P0_ k_)) hg (by repeat ((with_reducible exact HK.out))) (fun k_ e_ => (HO_0.out.1 k_ e_))); clear HO_0; clear HB; clear HK; have HO_0 := n0_; have HB := n1_; have HK := n2_; clear n0_ n1_ n2_; clear hg hw hp_))
                  repeat (go_quiet (fail); try go_wp2_with (fail))
                  (try simp only [← hl0_3])
                  ((simp only [← add_mid]; go_roundg k3))
                  case measure => have := HK1.out; have := HJ10.out; have := HK3.out; omega
                  case rel => exact ⟨(y191), ((IntKind.u64.wrap ((IntKind.u64.wrap ((IntKind.u64.wrap (rd x0_3 x86_3)) - ((IntKind.u64.wrap ((IntKind.u64.wrap (x7_1 * (IntKind.u64.wrap (rd l1 x86_3)))) + x10_3)) % 4294967296))) - x9_3)) / 9223372036854775808), ((IntKind.u64.wrap ((IntKind.u64.wrap (x7_1 * (IntKind.u64.wrap (rd l1 x86_3)))) + x10_3)) / 4294967296), (wrap64 (x86_3 + 1)), (by rfl), (by rfl), (by rfl), H', ⟨by have := HK1.out; have := HJ10.out; have := HK3.out; omega⟩, ⟨by (try simp only [hl0_3]); (with_reducible repeat (fail)); exact HO_0.out⟩, ⟨by repeat ((with_reducible exact HK.out))⟩, ⟨by repeat ((with_reducible exact HB.out))⟩⟩
                 ·rw [if_neg c24] at H
                  exact absurd H (by simp)
                ·rw [if_neg c23] at H
                 exact absurd H (by simp)
               ·rw [if_neg c22] at H
                exact absurd H (by simp)
              ·rw [if_neg c21] at H
               have c21b0 : decide (x86_3 < (l1.length : Int)) = false := decide_eq_false c21
               clear c21
               by_cases c28 : 0 ≤ (l1.length : Int)
               ·rw [if_pos c28] at H
                have c28b0 : decide (0 ≤ (l1.length : Int)) = true := decide_eq_true c28
                have c28b1 : decide (0 ≤ l1.length) = true := decide_eq_true (by omega)
                clear c28
                by_cases c29 : (l1.length : Int) < (x0_3.length : Int)
                ·rw [if_pos c29] at H
                 have c29b0 : decide ((l1.length : Int) < (x0_3.length : Int)) = true := decide_eq_true c29
                 have c29b1 : decide (l1.length < x0_3.length) = true := decide_eq_true (Int.ofNat_lt.mp c29)
                 clear c29
                 obtain ⟨y193, hy193⟩ : ∃ y_ : List Int, y_ = (x0_3.set ((l1.length : Int) : Int).toNat ((IntKind.u64.wrap ((IntKind.u64.wrap ((IntKind.u64.wrap (rd x0_3 (l1.length : Int))) - x10_3)) - x9_3)) % 4294967296)) := ⟨_, rfl⟩
                 replace H : (if ((IntKind.u64.wrap ((IntKind.u64.wrap ((IntKind.u64.wrap (rd x0_3 (l1.length : Int))) - x10_3)) - x9_3)) / 9223372036854775808) = 0 then (some ((x7_1) % 4294967296, y193)) else (nat_step.l2 k3 y193 l1 (l1.length : Int) x7_1 0 (l1.length : Int) 0)) = some (r1, r2) := by (have H2_ := (Option.bind_some _ _).symm.trans H; rw [hy193]; with_reducible exact H2_)
                 have Ny193 := Aside0.mk hy193
                 clear hy193
                 by_cases c31 : ((IntKind.u64.wrap ((IntKind.u64.wrap ((IntKind.u64.wrap (rd x0_3 (l1.length : Int))) - x10_3)) - x9_3)) / 9223372036854775808) = 0
                 ·rw [if_pos c31] at H
                  have c31b0 : (((IntKind.u64.wrap ((IntKind.u64.wrap ((IntKind.u64.wrap (rd x0_3 (l1.length : Int))) - x10_3)) - x9_3)) / 9223372036854775808) == 0) = true := beq_iff_eq.mpr c31
                  have c31b1 : (((IntKind.u64.wrap ((IntKind.u64.wrap ((IntKind.u64.wrap (rd x0_3 (l1.length : Int))) - x10_3)) - x9_3)) / 9223372036854775808) != 0) = false := bne_eq_false_iff_eq.mpr c31
                  clear c31
                  simp only [Option.some.injEq, Prod.mk.injEq] at H
                  obtain ⟨rfl, rfl⟩ := H
                  have p192 : 0 ≤ ((l1.length : Int) : Int) := of_decide_eq_true (by (with_reducible assumption))
                  have q192 : (l1.length : Int) < (x0_3.length : Int) := of_decide_eq_true (by (with_reducible assumption))
                  obtain ⟨ad192, e192, hx192_0⟩ := Kd.at_int (MR_reads' HO_0.out).2.2 (l1.length : Int) p192 q192
                  obtain rfl : ad182 = ad192 := (by injection e192)
                  (try simp only [Go.IntWalk.toNatUp] at hx192_0)
                  replace p192 := eq_true p192
                  replace q192 := eq_true q192
                  have p30 : 0 ≤ ((l1.length : Int) : Int) := of_decide_eq_true (by (with_reducible assumption))
                  have q30 : ((l1.length : Int) : Int) < ((x0_3.length : Int) : Int) := of_decide_eq_true (by (with_reducible assumption))
                  obtain ⟨go30, co30, eo30, gb30, gl30, cl30, HG30⟩ := MR_form HO_0.out (by omega)
                  (cases eo30)
                  have GB30 := Aside0.mk gb30
                  have GG30 := Aside0.mk HG30
                  clear gb30 gl30 HG30
                  have HMgo30 := Aside0.mk (show (P0_ go30 ∨ w.heap.size ≤ go30) from (HO_0.out.1 _ rfl))
                  (simp only [add_mid] at hx192_0)
                  obtain ⟨hx30_0, hf30_0⟩ := MR_celln 0 rfl HO_0.out ((l1.length : Int) : Int) p30 q30
                  (try simp only [Int.toNat_natCast, Go.IntWalk.toNatUp] at hx30_0)
                  (try simp only [Int.toNat_natCast, Go.IntWalk.toNatUp] at hf30_0)
                  replace p30 := eq_true p30
                  replace q30 := eq_true q30
                  have HP32 := MR_putg HO_0.out ((l1.length : Int) : Int) ((IntKind.u64.wrap ((IntKind.u64.wrap ((IntKind.u64.wrap (rd x0_3 (l1.length : Int))) - x10_3)) - x9_3)) % 4294967296) (of_eq_true p30) (of_eq_true q30)
                  go_wp2_with (((with_reducible refine gate_store (t := 100) (p := 132) rfl ?_); refine store_event (t := 100) (p := 132) (v := ?vo_w33) (w1 := (wr.setCell ⟨go30, pre_.length + ((l1.length : Int) : Int).toNat, none⟩ (.int .u32 ((IntKind.u64.wrap ((IntKind.u64.wrap ((IntKind.u64.wrap (rd x0_3 (l1.length : Int))) - x10_3)) - x9_3)) % 4294967296)))) ?hg ?ho ?hn ?hr ?_; (case ho => rfl); (case hg => rfl); (case hn => rfl); (case hr => (go_simp; done)); intro w33 hw; have hg : wr.grownBy w33 (some go30) := (by rw [hw]; exact HP32.2); have hp_ : MR pre_ post_ cap_ 100 w33 w0.heap.size (fun k_ => (P0_ k_ ∨ w.heap.size ≤ k_)) (.slice (some ⟨go30, pre_.length, none⟩) x0_3.length co10) y193 := (by rw [hw, Ny193.out]; exact HP32.1); clear HP32; have n0_ := Aside0.mk (hp_); have n1_ := Aside0.mk ((by rw [hw]; exact below_set (HB.out) GB30.out : Below w0.heap.size w0 w33)); have n2_ := Aside0.mk (Kept.of_grown (S := (fun k_ => P0_ k_)) hg (by repeat ((with_reducible exact HK.out))) (fun k_ e_ => (HO_0.out.1 k_ e_))); clear HO_0; clear HB; clear HK; have HO_0 := n0_; have HB := n1_; have HK := n2_; clear n0_ n1_ n2_; clear hg hw hp_))
                  repeat (go_quiet (fail); try go_wp2_with (fail))
                  go_ret
                  exact ⟨by rfl, (by exact (by (with_reducible repeat (fail)); exact HO_0.out)), by repeat ((with_reducible exact HB.out)), by repeat ((with_reducible exact HK.out))⟩
                 ·rw [if_neg c31] at H
                  have c31b0 : (((IntKind.u64.wrap ((IntKind.u64.wrap ((IntKind.u64.wrap (rd x0_3 (l1.length : Int))) - x10_3)) - x9_3)) / 9223372036854775808) == 0) = false := beq_eq_false_iff_ne.mpr c31
                  have c31b1 : (((IntKind.u64.wrap ((IntKind.u64.wrap ((IntKind.u64.wrap (rd x0_3 (l1.length : Int))) - x10_3)) - x9_3)) / 9223372036854775808) != 0) = true := bne_iff_ne.mpr c31
                  have H' := Aside0.mk H
                  clear H
                  have p192 : 0 ≤ ((l1.length : Int) : Int) := of_decide_eq_true (by (with_reducible assumption))
                  have q192 : (l1.length : Int) < (x0_3.length : Int) := of_decide_eq_true (by (with_reducible assumption))
                  obtain ⟨ad192, e192, hx192_0⟩ := Kd.at_int (MR_reads' HO_0.out).2.2 (l1.length : Int) p192 q192
                  obtain rfl : ad182 = ad192 := (by injection e192)
                  (try simp only [Go.IntWalk.toNatUp] at hx192_0)
                  replace p192 := eq_true p192
                  replace q192 := eq_true q192
                  have p30 : 0 ≤ ((l1.length : Int) : Int) := of_decide_eq_true (by (with_reducible assumption))
                  have q30 : ((l1.length : Int) : Int) < ((x0_3.length : Int) : Int) := of_decide_eq_true (by (with_reducible assumption))
                  obtain ⟨go30, co30, eo30, gb30, gl30, cl30, HG30⟩ := MR_form HO_0.out (by omega)
                  (cases eo30)
                  have GB30 := Aside0.mk gb30
                  have GG30 := Aside0.mk HG30
                  clear gb30 gl30 HG30
                  have HMgo30 := Aside0.mk (show (P0_ go30 ∨ w.heap.size ≤ go30) from (HO_0.out.1 _ rfl))
                  (simp only [add_mid] at hx192_0)
                  obtain ⟨hx30_0, hf30_0⟩ := MR_celln 0 rfl HO_0.out ((l1.length : Int) : Int) p30 q30
                  (try simp only [Int.toNat_natCast, Go.IntWalk.toNatUp] at hx30_0)
                  (try simp only [Int.toNat_natCast, Go.IntWalk.toNatUp] at hf30_0)
                  replace p30 := eq_true p30
                  replace q30 := eq_true q30
                  have HP34 := MR_putg HO_0.out ((l1.length : Int) : Int) ((IntKind.u64.wrap ((IntKind.u64.wrap ((IntKind.u64.wrap (rd x0_3 (l1.length : Int))) - x10_3)) - x9_3)) % 4294967296) (of_eq_true p30) (of_eq_true q30)
                  go_wp2_with (((with_reducible refine gate_store (t := 100) (p := 132) rfl ?_); refine store_event (t := 100) (p := 132) (v := ?vo_w35) (w1 := (wr.setCell ⟨go30, pre_.length + ((l1.length : Int) : Int).toNat, none⟩ (.int .u32 ((IntKind.u64.wrap ((IntKind.u64.wrap ((IntKind.u64.wrap (rd x0_3 (l1.length : Int))) - x10_3)) - x9_3)) % 4294967296)))) ?hg ?ho ?hn ?hr ?_; (case ho => rfl); (case hg => rfl); (case hn => rfl); (case hr => (go_simp; done)); intro w35 hw; have hg : wr.grownBy w35 (some go30) := (by rw [hw]; exact HP34.2); have hp_ : MR pre_ post_ cap_ 100 w35 w0.heap.size (fun k_ => (P0_ k_ ∨ w.heap.size ≤ k_)) (.slice (some ⟨go30, pre_.length, none⟩) x0_3.length co10) y193 := (by rw [hw, Ny193.out]; exact HP34.1); clear HP34; have n0_ := Aside0.mk (hp_); have n1_ := Aside0.mk ((by rw [hw]; exact below_set (HB.out) GB30.out : Below w0.heap.size w0 w35)); have n2_ := Aside0.mk (Kept.of_grown (S := (fun k_ => P0_ k_)) hg (by repeat ((with_reducible exact HK.out))) (fun k_ e_ => (HO_0.out.1 k_ e_))); clear HO_0; clear HB; clear HK; have HO_0 := n0_; have HB := n1_; have HK := n2_; clear n0_ n1_ n2_; clear hg hw hp_))
                  repeat (go_quiet (fail); try go_wp2_with (fail))
                  go_loopg [10, 140] k3 (fun kq v10 v140 w' => ∃ (x0_4 : List Int) (x10_4 : Int) (x140_4 : Int), v10 = .int .u64 x10_4 ∧ v140 = .int .i64 x140_4 ∧ Aside0 (nat_step.l2 kq x0_4 l1 (l1.length : Int) x7_1 x10_4 (l1.length : Int) x140_4 = some (r1, r2)) ∧ Aside0 (kq ≤ k3) ∧ Aside0 (MR pre_ post_ cap_ 100 w' w0.heap.size (fun k_ => (P0_ k_ ∨ w.heap.size ≤ k_)) (.slice (some ⟨go30, pre_.length, none⟩) x0_3.length co10) x0_4) ∧ Aside0 (Kept w w' (fun k_ => P0_ k_)) ∧ Aside0 (Below w0.heap.size w0 w'))
                  case atStart => exact ⟨(y193), (0), (0), (by rfl), (by rfl), H', ⟨Nat.le_refl _⟩, ⟨by (with_reducible repeat (fail)); exact HO_0.out⟩, ⟨by repeat ((with_reducible exact HK.out))⟩, ⟨by repeat ((with_reducible exact HB.out))⟩⟩
                  case round =>
                   clear H'
                   try clear c21b0
                   try clear c28b0
                   try clear c28b1
                   try clear c29b0
                   try clear c29b1
                   try clear p30
                   try clear q30
                   try clear c31
                   try clear c31b0
                   try clear c31b1
                   try clear hx192_0
                   try clear hx30_0
                   try clear p192
                   try clear q192
                   obtain ⟨x0_4, x10_4, x140_4, rfl, rfl, HA, HK4, HO_0, HK, HB⟩ := hrel
                   have hl0_4 := (MR_reads' HO_0.out).1
                   rw [hl0_4] at HO_0
                   (try simp only [hl0_4])
                   cases gk with
                   | zero => exact absurd HA.out (by simp [nat_step.l2])
                   | succ k4 =>
                    have H := HA.out
                    clear HA
                    simp only [nat_step.l2] at H
                    by_cases c36 : x140_4 < (l1.length : Int)
                    ·rw [if_pos c36] at H
                     have c36b0 : decide (x140_4 < (l1.length : Int)) = true := decide_eq_true c36
                     clear c36
                     by_cases c37 : 0 ≤ x140_4
                     ·rw [if_pos c37] at H
                      have c37b0 : decide (0 ≤ x140_4) = true := decide_eq_true c37
                      clear c37
                      by_cases c38 : x140_4 < (x0_4.length : Int)
                      ·rw [if_pos c38] at H
                       have c38b0 : decide (x140_4 < (x0_4.length : Int)) = true := decide_eq_true c38
                       clear c38
                       by_cases c39 : x140_4 < (l1.length : Int)
                       ·rw [if_pos c39] at H
                        have c39b0 : decide (x140_4 < (l1.length : Int)) = true := decide_eq_true c39
                        clear c39
                        obtain ⟨y196, hy196⟩ : ∃ y_ : List Int, y_ = (x0_4.set (x140_4 : Int).toNat ((IntKind.u64.wrap ((IntKind.u64.wrap ((IntKind.u64.wrap (rd x0_4 x140_4)) + (IntKind.u64.wrap (rd l1 x140_4)))) + x10_4)) % 4294967296)) := ⟨_, rfl⟩
                        replace H : (nat_step.l2 k4 y196 l1 (l1.length : Int) x7_1 ((IntKind.u64.wrap ((IntKind.u64.wrap ((IntKind.u64.wrap (rd x0_4 x140_4)) + (IntKind.u64.wrap (rd l1 x140_4)))) + x10_4)) / 4294967296) (l1.length : Int) (wrap64 (x140_4 + 1))) = some (r1, r2) := by (rw [hy196]; with_reducible exact H)
                        have Ny196 := Aside0.mk hy196
                        clear hy196
                        have H' := Aside0.mk H
                        clear H
                        have p194 : 0 ≤ (x140_4 : Int) := of_decide_eq_true (by (with_reducible assumption))
                        have q194 : x140_4 < (x0_4.length : Int) := of_decide_eq_true (by (with_reducible assumption))
                        obtain ⟨ad194, e194, hx194_0⟩ := Kd.at_int (MR_reads' HO_0.out).2.2 x140_4 p194 q194
                        obtain rfl : (⟨go30, pre_.length, none⟩ : Addr) = ad194 := (by injection e194)
                        (simp only [add_mid] at hx194_0)
                        replace p194 := eq_true p194
                        replace q194 := eq_true q194
                        have p195 : 0 ≤ (x140_4 : Int) := of_decide_eq_true (by (with_reducible assumption))
                        have q195 : x140_4 < (l1.length : Int) := of_decide_eq_true (by (with_reducible assumption))
                        obtain ⟨ad195, e195, hx195_0⟩ := Kd.at_int (Kd.C_kept_now HR1.out HK.out) x140_4 p195 q195
                        obtain rfl : ad184 = ad195 := (by injection e195)
                        replace p195 := eq_true p195
                        replace q195 := eq_true q195
                        have p40 : 0 ≤ (x140_4 : Int) := of_decide_eq_true (by (with_reducible assumption))
                        have q40 : (x140_4 : Int) < ((x0_4.length : Int) : Int) := of_decide_eq_true (by (with_reducible assumption))
                        obtain ⟨hx40_0, hf40_0⟩ := MR_celln 0 rfl HO_0.out (x140_4 : Int) p40 q40
                        replace p40 := eq_true p40
                        replace q40 := eq_true q40
                        have HP41 := MR_putg HO_0.out (x140_4 : Int) ((IntKind.u64.wrap ((IntKind.u64.wrap ((IntKind.u64.wrap (rd x0_4 x140_4)) + (IntKind.u64.wrap (rd l1 x140_4)))) + x10_4)) % 4294967296) (of_eq_true p40) (of_eq_true q40)
                        go_wp2_with (fail)
                        repeat (go_quiet (fail); try go_wp2_with (((with_reducible refine gate_store (t := 100) (p := 160) rfl ?_); (try (rw [drewN_self wr]; generalize hq_ : World.drewN wr _ = wr; have n0_ := Aside0.mk (MR_at hq_ HO_0.out); have n1_ := Aside0.mk (kept_at hq_ HK.out); have n2_ := Aside0.mk (below_at hq_ HB.out); clear hq_ HO_0 HK HB; have HO_0 := n0_; have HK := n1_; have HB := n2_; clear n0_ n1_ n2_; (try (have HP41 := MR_putg HO_0.out (x140_4 : Int) ((IntKind.u64.wrap ((IntKind.u64.wrap ((IntKind.u64.wrap (rd x0_4 x140_4)) + (IntKind.u64.wrap (rd l1 x140_4)))) + x10_4)) % 4294967296) (of_eq_true p40) (of_eq_true q40))); (try (obtain ⟨hx40_0, hf40_0⟩ := MR_celln 0 rfl HO_0.out (x140_4 : Int) (of_eq_true p40) (of_eq_true q40))); (try skip); (try skip))); refine store_event (t := 100) (p := 160) (v := ?vo_w42) (w1 := (wr.setCell ⟨go30, pre_.length + (x140_4 : Int).toNat, none⟩ (.int .u32 ((IntKind.u64.wrap ((IntKind.u64.wrap ((IntKind.u64.wrap (rd x0_4 x140_4)) + (IntKind.u64.wrap (rd l1 x140_4)))) + x10_4)) % 4294967296)))) ?hg ?ho ?hn ?hr ?_; (case ho => rfl); (case hg => rfl); (case hn => rfl); (case hr => (go_simp; done)); intro w42 hw; have hg : wr.grownBy w42 (some go30) := (by rw [hw]; exact HP41.2); have hp_ : MR pre_ post_ cap_ 100 w42 w0.heap.size (fun k_ => (P0_ k_ ∨ w.heap.size ≤ k_)) (.slice (some ⟨go30, pre_.length, none⟩) x0_4.length co10) y196 := (by rw [hw, Ny196.out]; exact HP41.1); clear HP41; have n0_ := Aside0.mk (hp_); have n1_ := Aside0.mk ((by rw [hw]; exact below_set (HB.out) GB30.out : Below w0.heap.size w0 w42)); have n2_ := Aside0.mk (Kept.of_grown (S := (fun k_ => P0_ k_)) hg (by repeat ((with_reducible exact HK.out))) (fun k_ e_ => (HO_0.out.1 k_ e_))); clear HO_0; clear HB; clear HK; have HO_0 := n0_; have HB := n1_; have HK := n2_; clear n0_ n1_ n2_; clear hg hw hp_)))
                        (try simp only [← hl0_4])
                        (go_roundg k4)
                        case measure => have := HK1.out; have := HJ10.out; have := HK3.out; have := HK4.out; omega
                        case rel => exact ⟨(y196), ((IntKind.u64.wrap ((IntKind.u64.wrap ((IntKind.u64.wrap (rd x0_4 x140_4)) + (IntKind.u64.wrap (rd l1 x140_4)))) + x10_4)) / 4294967296), (wrap64 (x140_4 + 1)), (by rfl), (by rfl), H', ⟨by have := HK1.out; have := HJ10.out; have := HK3.out; have := HK4.out; omega⟩, ⟨by (try simp only [hl0_4]); (with_reducible repeat (fail)); exact HO_0.out⟩, ⟨by repeat ((with_reducible exact HK.out))⟩, ⟨by repeat ((with_reducible exact HB.out))⟩⟩
                       ·rw [if_neg c39] at H
                        exact absurd H (by simp)
                      ·rw [if_neg c38] at H
                       exact absurd H (by simp)
                     ·rw [if_neg c37] at H
                      exact absurd H (by simp)
                    ·rw [if_neg c36] at H
                     have c36b0 : decide (x140_4 < (l1.length : Int)) = false := decide_eq_false c36
                     clear c36
                     by_cases c43 : 0 ≤ (l1.length : Int)
                     ·rw [if_pos c43] at H
                      have c43b0 : decide (0 ≤ (l1.length : Int)) = true := decide_eq_true c43
                      have c43b1 : decide (0 ≤ l1.length) = true := decide_eq_true (by omega)
                      clear c43
                      by_cases c44 : (l1.length : Int) < (x0_4.length : Int)
                      ·rw [if_pos c44] at H
                       have c44b0 : decide ((l1.length : Int) < (x0_4.length : Int)) = true := decide_eq_true c44
                       have c44b1 : decide (l1.length < x0_4.length) = true := decide_eq_true (Int.ofNat_lt.mp c44)
                       clear c44
                       obtain ⟨y198, hy198⟩ : ∃ y_ : List Int, y_ = (x0_4.set ((l1.length : Int) : Int).toNat (((rd x0_4 (l1.length : Int)) + ((x10_4) % 4294967296)) % 4294967296)) := ⟨_, rfl⟩
                       replace H : (some ((IntKind.u64.wrap (x7_1 - 1)) % 4294967296, y198)) = some (r1, r2) := by (rw [hy198]; with_reducible exact H)
                       have Ny198 := Aside0.mk hy198
                       clear hy198
                       simp only [Option.some.injEq, Prod.mk.injEq] at H
                       obtain ⟨rfl, rfl⟩ := H
                       have p197 : 0 ≤ ((l1.length : Int) : Int) := of_decide_eq_true (by (with_reducible assumption))
                       have q197 : (l1.length : Int) < (x0_4.length : Int) := of_decide_eq_true (by (with_reducible assumption))
                       obtain ⟨ad197, e197, hx197_0⟩ := Kd.at_int (MR_reads' HO_0.out).2.2 (l1.length : Int) p197 q197
                       obtain rfl : (⟨go30, pre_.length, none⟩ : Addr) = ad197 := (by injection e197)
                       (simp only [add_mid] at hx197_0)
                       (try simp only [Go.IntWalk.toNatUp] at hx197_0)
                       replace p197 := eq_true p197
                       replace q197 := eq_true q197
                       have p45 : 0 ≤ ((l1.length : Int) : Int) := of_decide_eq_true (by (with_reducible assumption))
                       have q45 : ((l1.length : Int) : Int) < ((x0_4.length : Int) : Int) := of_decide_eq_true (by (with_reducible assumption))
                       obtain ⟨hx45_0, hf45_0⟩ := MR_celln 0 rfl HO_0.out ((l1.length : Int) : Int) p45 q45
                       (try simp only [Int.toNat_natCast, Go.IntWalk.toNatUp] at hx45_0)
                       (try simp only [Int.toNat_natCast, Go.IntWalk.toNatUp] at hf45_0)
                       replace p45 := eq_true p45
                       replace q45 := eq_true q45
                       have HP46 := MR_putg HO_0.out ((l1.length : Int) : Int) (((rd x0_4 (l1.length : Int)) + ((x10_4) % 4294967296)) % 4294967296) (of_eq_true p45) (of_eq_true q45)
                       go_wp2_with (((with_reducible refine gate_store (t := 100) (p := 171) rfl ?_); refine store_event (t := 100) (p := 171) (v := ?vo_w47) (w1 := (wr.setCell ⟨go30, pre_.length + ((l1.length : Int) : Int).toNat, none⟩ (.int .u32 (((rd x0_4 (l1.length : Int)) + ((x10_4) % 4294967296)) % 4294967296)))) ?hg ?ho ?hn ?hr ?_; (case ho => rfl); (case hg => rfl); (case hn => rfl); (case hr => (go_simp; done)); intro w47 hw; have hg : wr.grownBy w47 (some go30) := (by rw [hw]; exact HP46.2); have hp_ : MR pre_ post_ cap_ 100 w47 w0.heap.size (fun k_ => (P0_ k_ ∨ w.heap.size ≤ k_)) (.slice (some ⟨go30, pre_.length, none⟩) x0_4.length co10) y198 := (by rw [hw, Ny198.out]; exact HP46.1); clear HP46; have n0_ := Aside0.mk (hp_); have n1_ := Aside0.mk ((by rw [hw]; exact below_set (HB.out) GB30.out : Below w0.heap.size w0 w47)); have n2_ := Aside0.mk (Kept.of_grown (S := (fun k_ => P0_ k_)) hg (by repeat ((with_reducible exact HK.out))) (fun k_ e_ => (HO_0.out.1 k_ e_))); clear HO_0; clear HB; clear HK; have HO_0 := n0_; have HB := n1_; have HK := n2_; clear n0_ n1_ n2_; clear hg hw hp_))
                       repeat (go_quiet (fail); try go_wp2_with (fail))
                       go_ret
                       exact ⟨by rfl, (by exact (by (with_reducible repeat (fail)); exact HO_0.out)), by repeat ((with_reducible exact HB.out)), by repeat ((with_reducible exact HK.out))⟩
                      ·rw [if_neg c44] at H
                       exact absurd H (by simp)
                     ·rw [if_neg c43] at H
                      exact absurd H (by simp)
                ·rw [if_neg c29] at H
                 exact absurd H (by simp)
               ·rw [if_neg c28] at H
                exact absurd H (by simp)
     ·rw [if_neg c8] at H
      exact absurd H (by simp)
    ·rw [if_neg c7] at H
     exact absurd H (by simp)
   ·rw [if_neg c6] at H
    exact absurd H (by simp)
  ·rw [if_neg c4] at H
   exact absurd H (by simp)
 ·rw [if_neg c3] at H
  exact absurd H (by simp)
theorem nat_stepm.calls (k : Nat) (P0_ : Nat → Prop) (u : Value) (l0 : List Int) (A1 : Option Addr) (c1 : Nat) (l1 : List Int) (lo hi : Int) (r1 : Int) (r2 : List Int) (w0 w : World) (hB : Below w0.heap.size w0 w) (ho0 : Kd.R (Kd.int .u32) 100 w w0.heap.size P0_ u l0) (hr1 : ∀ W_, Kept w W_ (fun k_ => P0_ k_) → Kd.C (Kd.int .u32) W_ A1 l1.length l1) (hc1 : l1.length ≤ c1) (h : nat_stepm.f k l0 l1 lo hi = some (r1, r2)) :
  ∃ sl : Value, (∀ W, (Instr.slice 44 u (some (.int .i64 lo)) (some (.int .i64 hi)) none).run Try.prog W = .ok sl W) ∧
   Calls Try.prog 143 #[sl, .slice A1 l1.length c1] w fun e w' => e = .returned (.int .u32 r1) ∧ Kd.R (Kd.int .u32) 100 w' w0.heap.size (fun k_ => (P0_ k_ ∨ w.heap.size ≤ k_)) u r2 ∧ Below w0.heap.size w0 w' ∧ Kept w w' (fun k_ => P0_ k_) := by
 unfold nat_stepm.f at h
 by_cases h1 : 0 ≤ lo
 ·rw [if_pos h1] at h
  by_cases h2 : lo ≤ hi
  ·rw [if_pos h2] at h
   by_cases h3 : hi ≤ (l0.length : Int)
   ·rw [if_pos h3] at h
    obtain ⟨s, hs, h⟩ := Option.bind_eq_some_iff.mp h
    obtain ⟨rfl, rfl⟩ := Prod.mk.inj (Option.some.inj h)
    have hne : lo < hi := by
     rcases Int.lt_or_le lo hi with hlt | hge
     ·exact hlt
     ·exfalso
      have he : ((l0.take hi.toNat).drop lo.toNat) = [] := by rw [List.drop_eq_nil_iff, List.length_take]; omega
      rw [he] at hs
      unfold nat_step.f at hs
      rw [if_pos (Int.natCast_nonneg _), if_neg (by simp only [List.length_nil]; omega)] at hs
      exact absurd hs (by simp)
    obtain ⟨g, cap, he, hb, hl, hcs⟩ := Kd.R_form ho0 (by omega)
    subst he
    obtain ⟨_, hcap, _⟩ := Kd.R_reads' ho0
    obtain ⟨i0, hi0, _, hsz, _⟩ := info_parts info100
    have hcut := cut_mid (P := Try.prog) 44 100 .i64 .i64 Try.underlying44 hi0 1 hsz (some ⟨g, 0, none⟩) l0.length cap lo hi h1 h2 h3 hcap
    have hpl : (l0.take lo.toNat).length = lo.toNat := by rw [List.length_take]; omega
    have hxl : ((l0.take hi.toNat).drop lo.toNat).length = hi.toNat - lo.toNat := by rw [List.length_drop, List.length_take]; omega
    have hspl : l0.take lo.toNat ++ (l0.take hi.toNat).drop lo.toNat ++ l0.drop hi.toNat = l0 := by
     have e1 : l0.take lo.toNat = (l0.take hi.toNat).take lo.toNat := by rw [List.take_take, Nat.min_eq_left (by omega)]
     rw [e1, List.take_append_drop, List.take_append_drop]
    have hA : (if cap = lo.toNat then (some ⟨g, 0, none⟩ : Option Addr) else (some ⟨g, 0, none⟩ : Option Addr).map (·.add (lo.toNat * 1))) = some ⟨g, (l0.take lo.toNat).length, none⟩ := by
     rw [if_neg (by omega), hpl, Option.map_some, Nat.mul_one, add_plain]
    refine ⟨_, hcut, ?_⟩
    rw [hA, ← hxl]
    have hm : MR (l0.take lo.toNat) (l0.drop hi.toNat) cap 100 w w0.heap.size P0_ (.slice (some ⟨g, (l0.take lo.toNat).length, none⟩) ((l0.take hi.toNat).drop lo.toNat).length (cap - lo.toNat)) ((l0.take hi.toNat).drop lo.toNat) :=
     ⟨fun k_ hk_ => ho0.1 k_ (by simpa [Value.ownBlock] using hk_), g, _, rfl, by rw [hxl]; omega, by rw [hspl]; exact ho0⟩
    refine (nat_step.calls k P0_ _ (l0.take lo.toNat) (l0.drop hi.toNat) cap _ A1 c1 l1 s.1 s.2 w0 w hB hm hr1 hc1 hs).mono ?_
    rintro e w' ⟨rfl, hr, hb', hk'⟩
    refine ⟨rfl, ?_, hb', hk'⟩
    obtain ⟨_, g', cS, hv, _, hr⟩ := hr
    injection hv with hv1 hv2 hv3
    injection hv1 with hv1
    injection hv1 with hv1
    subst hv1
    have hlen : (l0.take lo.toNat ++ s.2 ++ l0.drop hi.toNat).length = l0.length := by
     have e1 := congrArg List.length hspl
     simp only [List.length_append] at e1 ⊢
     omega
    rw [hlen] at hr
    exact hr
   ·rw [if_neg h3] at h
    exact absurd h (by simp)
  ·rw [if_neg h2] at h
   exact absurd h (by simp)
 ·rw [if_neg h1] at h
  exact absurd h (by simp)
end Go.Proofs.Ythheakfgmombdaa.F
end
section
namespace Go.Proofs.Ythheakfgmombdaa.F
open Go.RowKit Go.Proofs.YthheakfgmombdaaX.PrintWords Go.Proofs.YthheakfgmombdaaX.PrintLast Go.Proofs.YthheakfgmombdaaX.PrintMore
attribute [local go_sem] max2_int min2_int max_two min_two max_three min_three max_four min_four   -- for this text's walks alone
set_option linter.unusedVariables false
set_option linter.unusedSimpArgs false
def nat_long.T14 : Bool × List (List Nat × List Nat) := (true, [([], []), ([], []), ([], []), ([], []), ([2, 3], [2, 3]), ([4], [4]), ([5], [5]), ([], []), ([], []), ([8], [8]), ([7, 9], [7, 9]), ([10], [10]), ([11], [11]), ([12], [12]), ([6, 13], [6, 13]), ([], []), ([14, 15], [14, 15]), ([16], [16]), ([0, 1, 0, 1, 2, 3, 4, 5, 6, 7, 8, 9, 10, 11, 12, 13, 14, 15, 16, 17], [0, 1]), ([18, 17, 0, 1, 2, 3, 4, 5, 6, 7, 8, 9, 10, 11, 12, 13, 14, 15, 16, 17], [17, 18])])
def nat_long.B14 : List Nat := [0, 0, 0, 0, 12, 28, 60, 0, 0, 256, 896, 1920, 3968, 8064, 16380, 0, 65532, 131068, 262143, 524287]
theorem nat_long.tab14 : rtab .any (opsOf Try.f134 14) = nat_long.T14 := by kernel_rfl
theorem nat_long.bits14 : waitsOk nat_long.T14.2 nat_long.B14 = true := by kernel_rfl
set_option maxHeartbeats 8000000 in
set_option maxRecDepth 100000 in
theorem nat_long.calls (k : Nat) (A0 : Option Addr) (c0 : Nat) (l0 : List Int) (A1 : Option Addr) (c1 : Nat) (l1 : List Int) (r1 : List Int) (r2 : List Int) (w : World) (hr0 : Kd.C (Kd.int .u32) w A0 l0.length l0) (hc0 : l0.length ≤ c0) (hr1 : Kd.C (Kd.int .u32) w A1 l1.length l1) (hc1 : l1.length ≤ c1) (h : nat_long.f k l0 l1 = some (r1, r2)) :
  Calls Try.prog 134 #[.slice A0 l0.length c0, .slice A1 l1.length c1] w fun e w' => ∃ v0_ v1_ : Value, e = .returned (.tuple #[v0_, v1_]) ∧ Kd.R (Kd.int .u32) 100 w' w.heap.size (fun k_ => some k_ ≠ (v1_ : Value).ownBlock) v0_ r1 ∧ Kd.R (Kd.int .u32) 100 w' w.heap.size (fun k_ => some k_ ≠ (v0_ : Value).ownBlock) v1_ r2 ∧ Below w.heap.size w w' := by
 have HR0 := Aside0.mk hr0
 have HC0 := Aside0.mk hc0
 clear hr0 hc0
 have HR1 := Aside0.mk hr1
 have HC1 := Aside0.mk hc1
 clear hr1 hc1
 have HB := Aside0.mk (Below.refl w.heap.size w)
 have H : (if 0 ≤ (wrap64 ((l1.length : Int) - 1)) then (if (wrap64 ((l1.length : Int) - 1)) < (l1.length : Int) then ((bits_LeadingZeros32.f k (rd l1 (wrap64 ((l1.length : Int) - 1)))).bind fun t200 => ((nat_shift.f k l1 t200).bind fun t201 => ((nat_shorto.f k t201).bind fun t204 => ((nat_shift.f k l0 t200).bind fun t207 => (if 0 ≤ (wrap64 ((t207.length : Int) - (t204.length : Int))) then (if (wrap64 ((t207.length : Int) - (t204.length : Int)) : Int).toNat ≤ 70368744177664 then (nat_long.l0 k (List.replicate (wrap64 ((t207.length : Int) - (t204.length : Int)) : Int).toNat 0) t200 t204 t207 (t204.length : Int) (wrap64 ((wrap64 ((t207.length : Int) - (t204.length : Int))) - 1))) else (none)) else (none)))))) else (none)) else (none)) = some (r1, r2) := h
 clear h
 obtain ⟨ji3, hji3⟩ : ∃ j_ : Int, (wrap64 ((l1.length : Int) - 1)) = j_ := ⟨_, rfl⟩
 rw [hji3] at H
 by_cases c4 : 0 ≤ (ji3)
 ·rw [if_pos c4] at H
  have c4b0 : decide (0 ≤ (ji3)) = true := decide_eq_true c4
  clear c4
  by_cases c5 : (ji3) < (l1.length : Int)
  ·rw [if_pos c5] at H
   have c5b0 : decide ((ji3) < (l1.length : Int)) = true := decide_eq_true c5
   clear c5
   obtain ⟨t200, A6, H⟩ := bindA H
   obtain ⟨t201, A7, H⟩ := bindA H
   obtain ⟨t204, A8, H⟩ := bindA H
   obtain ⟨t207, A9, H⟩ := bindA H
   obtain ⟨ji10, hji10⟩ : ∃ j_ : Int, (wrap64 ((t207.length : Int) - (t204.length : Int))) = j_ := ⟨_, rfl⟩
   rw [hji10] at H
   have hji10w : (IntKind.i64.wrap ((t207.length : Int) - (t204.length : Int))) = ji10 := (i64_w _).trans hji10
   by_cases c11 : 0 ≤ (ji10)
   ·rw [if_pos c11] at H
    have c11b1 : decide (0 ≤ (ji10)) = true := decide_eq_true c11
    clear c11
    by_cases c12 : (ji10 : Int).toNat ≤ 70368744177664
    ·rw [if_pos c12] at H
     have c12b1 : decide ((ji10 : Int).toNat ≤ 70368744177664) = true := decide_eq_true c12
     clear c12
     obtain ⟨y210, hy210⟩ : ∃ y_ : List Int, y_ = (List.replicate (ji10 : Int).toNat 0) := ⟨_, rfl⟩
     (try replace H := (Option.bind_some _ _).symm.trans H); rw [← hy210] at H
     have Ny210 := Aside0.mk hy210
     clear hy210
     have H' := Aside0.mk H
     clear H
     have p199 : 0 ≤ ((ji3) : Int) := of_decide_eq_true (by assumption)
     have q199 : (ji3) < (l1.length : Int) := of_decide_eq_true (by assumption)
     obtain ⟨ad199, e199, hx199_0⟩ := Kd.at_int HR1.out (ji3) p199 q199
     cases e199
     replace q199 := eq_true q199
     go_enter Try.func134, Try.ntmps134
     go_wp2_with (first | (refine goesL_ (some 18) rfl rfl Try.func141 (by kernel_rfl) rfl #[.int .u32 (rd l1 (ji3))] rfl (by (try simp only [List.map_toArray, List.map_cons, List.map_nil]); (simp only [hji3]; rfl)) ?_; (with_reducible refine (bits_LeadingZeros32.calls k (rd l1 (ji3)) t200 _ A6.out).mono ?_); rintro e w' ⟨rfl, ⟨nd, rfl⟩⟩; refine ⟨_, rfl, ?_⟩) | (refine goesL_ (some 21) rfl rfl Try.func142 (by kernel_rfl) rfl #[.slice (some ad199) l1.length c1, .int .i64 t200] rfl (by simp only [List.map_toArray, List.map_cons, List.map_nil]; rfl) ?_; (with_reducible refine (nat_shift.calls k _ _ l1 t200 t201 _ ?side1 ?side2 A7.out).mono ?_); (case side1 => exact HR1.out); (case side2 => exact HC1.out); rintro e w13 ⟨v202, rfl, ho0, hb⟩; refine ⟨_, rfl, ?_⟩; have HO203 := Aside0.mk (Kd.R_lower ho0 (below_size (by repeat ((with_reducible first | exact HB.out | apply pw_below_drewN))))); replace HB := Aside0.mk (below_step (by repeat ((with_reducible first | exact HB.out | apply pw_below_drewN))) hb); (try clear hb); (try clear ho0); obtain ⟨Ao14, co14, eo14⟩ := Kd.R_slice HO203.out; subst eo14) | (refine goesL_ (some 22) rfl rfl Try.func123 (by kernel_rfl) rfl #[.slice Ao14 t201.length co14] rfl (by simp only [List.map_toArray, List.map_cons, List.map_nil]; rfl) ?_; (with_reducible refine (nat_shorto.calls k (fun k_ => some k_ = (.slice Ao14 t201.length co14 : Value).ownBlock) (.slice Ao14 t201.length co14) t201 t204 w _ HB.out (Kd.R_tight rfl HO203.out) A8.out).mono ?_); rintro e w15 ⟨v205, rfl, ho0, hb, hkp⟩; refine ⟨_, rfl, ?_⟩; have HO206 := Aside0.mk (Kd.R_mono (ok' := fun k_ => True) ho0 (fun k_ hk_ => trivial)); replace HB := Aside0.mk (hb); clear HO203) | (refine goesL_ (some 25) rfl rfl Try.func142 (by kernel_rfl) rfl #[.slice A0 l0.length c0, .int .i64 t200] rfl (by simp only [List.map_toArray, List.map_cons, List.map_nil]; rfl) ?_; (with_reducible refine (nat_shift.calls k _ _ l0 t200 t207 _ (Kd.C_below HR0.out HB.out) HC0.out A9.out).mono ?_); rintro e w16 ⟨v208, rfl, ho0, hb⟩; refine ⟨_, rfl, ?_⟩; have n0_ := Aside0.mk (Kd.R_elder' (HO206.out) (Kd.R_base ho0) hb); have n1_ := Aside0.mk (Kd.R_lower (Kd.R_new' ho0 (Kd.R_lt (HO206.out))) (below_size (HB.out))); have n2_ := Aside0.mk (below_step (HB.out) hb); clear HO206; clear HB; have HO206 := n0_; have HO209 := n1_; have HB := n2_; clear n0_ n1_ n2_; (try clear hb); (try clear ho0); obtain ⟨Ao17, co17, eo17⟩ := Kd.R_slice HO206.out; subst eo17; obtain ⟨Ao18, co18, eo18⟩ := Kd.R_slice HO209.out; subst eo18) | (refine Kd.R_make (Kd.int .u32) _ 100 rfl (N := 32) rfl 44 _ _ rfl ji10 rfl rfl Try.underlying44 (.int .u32 0) 4 info100 rfl (by decide) (by omega) 0 (ok := fun _ => True) (okp := fun _ => True) rfl (fun _ hk => hk) trivial (of_decide_eq_true (by assumption)) (Nat.le_trans (Nat.mul_le_mul_right _ (of_decide_eq_true (by assumption) : ji10.toNat ≤ 70368744177664)) (by omega)) (Below.refl _ _) (Nat.le_refl _) ?_; intro v211 w19 ho20 hb hg_ hnew_; clear hg_ hnew_; (rw [← Ny210.out] at ho20); have n0_ := Aside0.mk (Kd.R_elder' (HO206.out) (Kd.R_base ho20) hb); have n1_ := Aside0.mk (Kd.R_elder' (HO209.out) (Kd.R_base ho20) hb); have n2_ := Aside0.mk (Kd.R_lower (Kd.R_new' (Kd.R_new' ho20 (Kd.R_lt (HO206.out))) (Kd.R_lt (HO209.out))) (below_size (HB.out))); have n3_ := Aside0.mk (below_step (HB.out) hb); clear HO206; clear HO209; clear HB; have HO206 := n0_; have HO209 := n1_; have HO212 := n2_; have HB := n3_; clear n0_ n1_ n2_ n3_; clear hb ho20))
     go_loopg [10] k (fun kq v10 w' => ∃ (x4_1 : List Int) (x8_1 : List Int) (x10_1 : Int), v10 = .int .i64 x10_1 ∧ Aside0 (nat_long.l0 kq x4_1 t200 t204 x8_1 (t204.length : Int) x10_1 = some (r1, r2)) ∧ Aside0 (kq ≤ k) ∧ Aside0 (Kd.R (Kd.int .u32) 100 w' w.heap.size (fun k_ => some k_ ≠ ((.slice Ao17 t204.length co17) : Value).ownBlock ∧ some k_ ≠ ((.slice Ao18 t207.length co18) : Value).ownBlock) v211 x4_1) ∧ Aside0 (Kd.R (Kd.int .u32) 100 w' w.heap.size (fun k_ => some k_ ≠ (v211 : Value).ownBlock ∧ some k_ ≠ ((.slice Ao18 t207.length co18) : Value).ownBlock) (.slice Ao17 t204.length co17) t204) ∧ Aside0 (Kd.R (Kd.int .u32) 100 w' w.heap.size (fun k_ => some k_ ≠ (v211 : Value).ownBlock ∧ some k_ ≠ ((.slice Ao17 t204.length co17) : Value).ownBlock) (.slice Ao18 t207.length co18) x8_1) ∧ Aside0 (Below w.heap.size w w'))
     case atStart => exact ⟨(y210), (t207), (wrap64 ((ji10) - 1)), rfl, H', ⟨Nat.le_refl _⟩, ⟨Kd.R_mono HO212.out (fun _ hk => ⟨hk.1.2, hk.2⟩)⟩, ⟨Kd.R_mono HO206.out (fun _ hk => ⟨hk.2, hk.1.2⟩)⟩, ⟨Kd.R_mono HO209.out (fun _ hk => ⟨hk.2, hk.1.2⟩)⟩, ⟨HB.out⟩⟩
     case round =>
      clear H'
      obtain ⟨x4_1, x8_1, x10_1, rfl, HA, HK1, HO_4, HO_7, HO_8, HB⟩ := hrel
      have hl8_1 := (Kd.R_reads' HO_8.out).1
      rw [hl8_1] at HO_8
      (try simp only [hl8_1] at HO_4)
      (try simp only [hl8_1] at HO_7)
      cases gk with
      | zero => exact absurd HA.out (by simp [nat_long.l0])
      | succ k1 =>
       have H := HA.out
       clear HA
       simp only [nat_long.l0] at H
       by_cases c21 : x10_1 ≥ 0
       ·rw [if_pos c21] at H
        have c21b0 : decide (0 ≤ x10_1) = true := decide_eq_true c21
        clear c21
        obtain ⟨⟨t213, t214⟩, A22, H⟩ := bindA H
        by_cases c23 : 0 ≤ x10_1
        ·rw [if_pos c23] at H
         have c23b0 : decide (0 ≤ x10_1) = true := decide_eq_true c23
         clear c23
         by_cases c24 : x10_1 < (x4_1.length : Int)
         ·rw [if_pos c24] at H
          have c24b0 : decide (x10_1 < (x4_1.length : Int)) = true := decide_eq_true c24
          clear c24
          obtain ⟨y215, hy215⟩ : ∃ y_ : List Int, y_ = (x4_1.set (x10_1 : Int).toNat t213) := ⟨_, rfl⟩
          (try replace H := (Option.bind_some _ _).symm.trans H); rw [← hy215] at H
          have Ny215 := Aside0.mk hy215
          clear hy215
          have H' := Aside0.mk H
          clear H
          obtain ⟨sl_, hsl_, hst_⟩ := nat_stepm.calls k1 (fun k_ => some k_ = (.slice Ao18 x8_1.length co18 : Value).ownBlock) (.slice Ao18 x8_1.length co18) x8_1 _ _ t204 x10_1 (wrap64 ((wrap64 (x10_1 + (t204.length : Int))) + 1)) t213 t214 w wr (HB.out) (by exact Kd.R_tight rfl HO_8.out) (by exact Kd.C_kept_own (HO_7.out) (fun k_ hk_ hs_ => (hk_.2) hs_)) (by exact (Kd.R_reads' HO_7.out).2.1) A22.out
          go_wp2_with (first | (refine goesL_ (some 52) rfl rfl Try.func143 (by kernel_rfl) rfl #[sl_, .slice Ao17 t204.length co17] rfl (by simp only [List.map_toArray, List.map_cons, List.map_nil]; rfl) ?_; (with_reducible refine hst_.mono ?_); rintro e w26 ⟨rfl, hy0, hb, hkp⟩; refine ⟨_, rfl, ?_⟩; replace HO_4 := Aside0.mk (Kd.R_mono (ok' := fun k_ => some k_ ≠ (.slice Ao17 t204.length co17 : Value).ownBlock ∧ some k_ ≠ (.slice Ao18 x8_1.length co18 : Value).ownBlock) (Kd.R_keptB (HO_4.out) hkp (fun k_ hk_ hs_ => (hk_.2) hs_)) (fun k_ hk_ => ⟨hk_.1.1, hk_.1.2⟩)); replace HO_7 := Aside0.mk (Kd.R_mono (ok' := fun k_ => some k_ ≠ (v211 : Value).ownBlock ∧ some k_ ≠ (.slice Ao18 x8_1.length co18 : Value).ownBlock) (Kd.R_keptB (HO_7.out) hkp (fun k_ hk_ hs_ => (hk_.2) hs_)) (fun k_ hk_ => ⟨hk_.1.1, hk_.1.2⟩)); replace HO_8 := Aside0.mk (Kd.R_reok rfl hy0 (fun k_ e_ => HO_8.out.1 k_ e_)); replace HB := Aside0.mk (hb); (try clear hb); (try clear hkp); (try clear hy0); have p25 : 0 ≤ (x10_1 : Int) := of_decide_eq_true (by assumption); have q25 : (x10_1 : Int) < ((x4_1.length : Int) : Int) := of_decide_eq_true (by assumption); obtain ⟨go25, co25, eo25, gb25, gl25, cl25, HG25⟩ := Kd.R_form HO_4.out (by omega); (cases eo25); have GB25 := Aside0.mk gb25; have GG25 := Aside0.mk HG25; clear gb25 gl25 HG25; obtain ⟨hx25_0, hf25_0⟩ := Kd.R_celln 0 HO_4.out (x10_1 : Int) p25 q25; replace p25 := eq_true p25; replace q25 := eq_true q25; obtain ⟨hy27_, hz27_⟩ := Kd.R_celln 0 HO_4.out (x10_1 : Int) (of_decide_eq_true (by assumption)) (of_decide_eq_true (by assumption)); have HP27 := Kd.R_putg HO_4.out (x10_1 : Int) t213) | (refine store_event (t := 100) (p := 53) (v := ?vo_w28) (w1 := (w26.setCell ⟨go25, (x10_1 : Int).toNat, none⟩ (.int .u32 t213))) ?hg ?ho ?hn ?hr ?_; (case ho => rfl); (case hg => rfl); (case hn => rfl); (case hr => go_simp; done); intro w28 hw; have hg : w26.grownBy w28 (some go25) := (by rw [hw]; exact HP27.2); have hp_ : Kd.R (Kd.int .u32) 100 w28 w.heap.size (fun k_ => some k_ ≠ (.slice Ao17 t204.length co17 : Value).ownBlock ∧ some k_ ≠ (.slice Ao18 x8_1.length co18 : Value).ownBlock) (.slice (some ⟨go25, 0, none⟩) x4_1.length co25) y215 := (by rw [hw, Ny215.out]; exact HP27.1); clear HP27; replace HO_4 := Aside0.mk (hp_); replace HO_7 := Aside0.mk (Kd.R_after (v := (.slice (some ⟨go25, 0, none⟩) x4_1.length co25)) (v1 := (.slice (some ⟨go25, 0, none⟩) x4_1.length co25)) (ok := (fun k_ => some k_ ≠ (.slice Ao18 x8_1.length co18 : Value).ownBlock)) (Kd.R_mono HO_7.out (fun _ hk => ⟨hk.2, hk.1⟩)) hg (.inl rfl)); replace HO_8 := Aside0.mk (Kd.R_after (v := (.slice (some ⟨go25, 0, none⟩) x4_1.length co25)) (v1 := (.slice (some ⟨go25, 0, none⟩) x4_1.length co25)) (ok := (fun k_ => some k_ ≠ (.slice Ao17 t204.length co17 : Value).ownBlock)) (Kd.R_mono HO_8.out (fun _ hk => ⟨hk.2, hk.1⟩)) hg (.inl rfl)); replace HB := Aside0.mk ((by rw [hw]; exact below_set (HB.out) GB25.out : Below w.heap.size w w28)); clear hg hw hp_))
          (try simp only [← hl8_1])
          go_roundg k1
          case measure => have := HK1.out; omega
          case rel => exact ⟨(y215), (t214), (wrap64 (x10_1 - 1)), rfl, H', ⟨by have := HK1.out; omega⟩, ⟨by (try simp only [hl8_1]); (with_reducible repeat (fail)); exact HO_4.out⟩, ⟨by (try simp only [hl8_1]); (with_reducible repeat (fail)); exact Kd.R_mono HO_7.out (fun _ hk => ⟨hk.2, hk.1⟩)⟩, ⟨by (try simp only [hl8_1]); (with_reducible repeat (fail)); exact Kd.R_mono HO_8.out (fun _ hk => ⟨hk.2, hk.1⟩)⟩, ⟨HB.out⟩⟩
         ·rw [if_neg c24] at H
          exact absurd H (by simp)
        ·rw [if_neg c23] at H
         exact absurd H (by simp)
       ·rw [if_neg c21] at H
        have c21b0 : decide (0 ≤ x10_1) = false := decide_eq_false c21
        clear c21
        by_cases c29 : 0 ≤ (t204.length : Int)
        ·rw [if_pos c29] at H
         have c29b0 := eq_true c29
         have c29b1 : decide (0 ≤ (t204.length : Int)) = true := decide_eq_true c29
         clear c29
         by_cases c30 : ((t204.length : Int) : Int).toNat ≤ 70368744177664
         ·rw [if_pos c30] at H
          have c30b0 := eq_true c30
          have c30b1 : decide (((t204.length : Int) : Int).toNat ≤ 70368744177664) = true := decide_eq_true c30
          clear c30
          obtain ⟨y216, hy216⟩ : ∃ y_ : List Int, y_ = (List.replicate ((t204.length : Int) : Int).toNat 0) := ⟨_, rfl⟩
          (try replace H := (Option.bind_some _ _).symm.trans H); rw [← hy216] at H
          have Ny216 := Aside0.mk hy216
          clear hy216
          have H' := Aside0.mk H
          clear H
          go_wp2_with ((refine Kd.R_make (Kd.int .u32) _ 100 rfl (N := 55) rfl 44 _ _ rfl (t204.length : Int) rfl rfl Try.underlying44 (.int .u32 0) 4 info100 rfl (by decide) (by omega) 0 (ok := fun _ => True) (okp := fun _ => True) rfl (fun _ hk => hk) trivial (of_decide_eq_true (by assumption)) (Nat.le_trans (Nat.mul_le_mul_right _ (of_decide_eq_true (by assumption) : (t204.length : Int).toNat ≤ 70368744177664)) (by omega)) (Below.refl _ _) (Nat.le_refl _) ?_; intro v217 w31 ho32 hb hg_ hnew_; clear hg_ hnew_; (rw [← Ny216.out] at ho32); have n0_ := Aside0.mk (Kd.R_elder' (HO_4.out) (Kd.R_base ho32) hb); have n1_ := Aside0.mk (Kd.R_elder' (HO_7.out) (Kd.R_base ho32) hb); have n2_ := Aside0.mk (Kd.R_elder' (HO_8.out) (Kd.R_base ho32) hb); have n3_ := Aside0.mk (Kd.R_lower (Kd.R_new' (Kd.R_new' (Kd.R_new' ho32 (Kd.R_lt (HO_4.out))) (Kd.R_lt (HO_7.out))) (Kd.R_lt (HO_8.out))) (below_size (HB.out))); have n4_ := Aside0.mk (below_step (HB.out) hb); clear HO_4; clear HO_7; clear HO_8; clear HB; have HO_4 := n0_; have HO_7 := n1_; have HO_8 := n2_; have HO218 := n3_; have HB := n4_; clear n0_ n1_ n2_ n3_ n4_; clear hb ho32; obtain ⟨Ao33, co33, eo33⟩ := Kd.R_slice HO218.out; subst eo33))
          go_loopg [58] k1 (fun kq v58 w' => ∃ (x5_2 : List Int) (x58_2 : Int), v58 = .int .i64 x58_2 ∧ Aside0 (nat_long.l1 kq x4_1 x5_2 t200 x8_1 (y216.length : Int) x58_2 = some (r1, r2)) ∧ Aside0 (kq ≤ k1) ∧ Aside0 (Kd.R (Kd.int .u32) 100 w' w.heap.size (fun k_ => some k_ ≠ ((.slice Ao33 y216.length co33) : Value).ownBlock ∧ some k_ ≠ ((.slice Ao18 x8_1.length co18) : Value).ownBlock) v211 x4_1) ∧ Aside0 (Kd.R (Kd.int .u32) 100 w' w.heap.size (fun k_ => some k_ ≠ (v211 : Value).ownBlock ∧ some k_ ≠ ((.slice Ao18 x8_1.length co18) : Value).ownBlock) (.slice Ao33 y216.length co33) x5_2) ∧ Aside0 (Kd.R (Kd.int .u32) 100 w' w.heap.size (fun k_ => some k_ ≠ (v211 : Value).ownBlock ∧ some k_ ≠ ((.slice Ao33 y216.length co33) : Value).ownBlock) (.slice Ao18 x8_1.length co18) x8_1) ∧ Aside0 (Below w.heap.size w w'))
          case atStart => exact ⟨(y216), (0), rfl, H', ⟨Nat.le_refl _⟩, ⟨by (with_reducible repeat (fail)); exact Kd.R_mono HO_4.out (fun _ hk => ⟨hk.2, hk.1.2⟩)⟩, ⟨by (with_reducible repeat (fail)); exact Kd.R_mono HO218.out (fun _ hk => ⟨hk.1.1.2, hk.2⟩)⟩, ⟨by (with_reducible repeat (fail)); exact Kd.R_mono HO_8.out (fun _ hk => ⟨hk.1.1, hk.2⟩)⟩, ⟨HB.out⟩⟩
          case round =>
           clear H'
           obtain ⟨x5_2, x58_2, rfl, HA, HK2, HO_4, HO_5, HO_8, HB⟩ := hrel
           have hl5_2 := (Kd.R_reads' HO_5.out).1
           rw [hl5_2] at HO_5
           (try simp only [hl5_2])
           (try simp only [hl5_2] at HO_4)
           (try simp only [hl5_2] at HO_8)
           cases gk with
           | zero => exact absurd HA.out (by simp [nat_long.l1])
           | succ k2 =>
            have H := HA.out
            clear HA
            simp only [nat_long.l1] at H
            by_cases c34 : x58_2 < (y216.length : Int)
            ·rw [if_pos c34] at H
             have c34b0 : decide (x58_2 < (y216.length : Int)) = true := decide_eq_true c34
             (try (have c34b0h := c34b0; simp only [hl8_1, hl5_2] at c34b0h))
             clear c34
             by_cases c35 : 0 ≤ x58_2
             ·rw [if_pos c35] at H
              have c35b0 : decide (0 ≤ x58_2) = true := decide_eq_true c35
              clear c35
              by_cases c36 : x58_2 < (x8_1.length : Int)
              ·rw [if_pos c36] at H
               have c36b0 : decide (x58_2 < (x8_1.length : Int)) = true := decide_eq_true c36
               clear c36
               obtain ⟨ji37, hji37⟩ : ∃ j_ : Int, (wrap64 (x58_2 + 1)) = j_ := ⟨_, rfl⟩
               rw [hji37] at H
               have hji37w : (IntKind.i64.wrap (x58_2 + 1)) = ji37 := (i64_w _).trans hji37
               by_cases c38 : 0 ≤ (ji37)
               ·rw [if_pos c38] at H
                have c38b0 : decide (0 ≤ (ji37)) = true := decide_eq_true c38
                clear c38
                by_cases c39 : (ji37) < (x8_1.length : Int)
                ·rw [if_pos c39] at H
                 have c39b0 : decide ((ji37) < (x8_1.length : Int)) = true := decide_eq_true c39
                 clear c39
                 by_cases c40 : 0 ≤ t200
                 ·rw [if_pos c40] at H
                  have c40b0 := eq_true c40
                  have c40b1 : decide (0 ≤ t200) = true := decide_eq_true c40
                  clear c40
                  obtain ⟨ji41, hji41⟩ : ∃ j_ : Int, (shr .u64 (Go.bits .or .u64 (IntKind.u64.wrap (rd x8_1 x58_2)) (IntKind.u64.wrap ((IntKind.u64.wrap (rd x8_1 (ji37))) * 4294967296))) t200) = j_ := ⟨_, rfl⟩
                  rw [hji41] at H
                  have hji41_ : ((Go.bits .or .u64 (IntKind.u64.wrap (rd x8_1 x58_2)) (IntKind.u64.wrap ((IntKind.u64.wrap (rd x8_1 (ji37))) * 4294967296))) / 2 ^ min t200.toNat 64) = ji41 := hji41
                  have hji41z : t200 ≤ 64 → ((Go.bits .or .u64 (IntKind.u64.wrap (rd x8_1 x58_2)) (IntKind.u64.wrap ((IntKind.u64.wrap (rd x8_1 (ji37))) * 4294967296))) / 2 ^ t200.toNat) = ji41 := shr_small hji41
                  by_cases c42 : x58_2 < (x5_2.length : Int)
                  ·rw [if_pos c42] at H
                   have c42b0 : decide (x58_2 < (x5_2.length : Int)) = true := decide_eq_true c42
                   clear c42
                   obtain ⟨y221, hy221⟩ : ∃ y_ : List Int, y_ = (x5_2.set (x58_2 : Int).toNat ((ji41) % 4294967296)) := ⟨_, rfl⟩
                   (try replace H := (Option.bind_some _ _).symm.trans H); rw [← hy221] at H
                   have Ny221 := Aside0.mk hy221
                   clear hy221
                   have H' := Aside0.mk H
                   clear H
                   try go_wp2
                   replace HO_4 := Aside0.mk (Kd.R_drew HO_4.out)
                   replace HO_5 := Aside0.mk (Kd.R_drew HO_5.out)
                   replace HO_8 := Aside0.mk (Kd.R_drew HO_8.out)
                   replace HB := Aside0.mk (below_drew1 HB.out)
                   have p219 : 0 ≤ (x58_2 : Int) := of_decide_eq_true (by assumption)
                   have q219 : x58_2 < (x8_1.length : Int) := of_decide_eq_true (by assumption)
                   obtain ⟨ad219, e219, hx219_0⟩ := Kd.at_int (Kd.R_reads' HO_8.out).2.2 x58_2 p219 q219
                   cases e219
                   replace q219 := eq_true q219
                   have p220 : 0 ≤ ((ji37) : Int) := of_decide_eq_true (by assumption)
                   have q220 : (ji37) < (x8_1.length : Int) := of_decide_eq_true (by assumption)
                   obtain ⟨ad220, e220, hx220_0⟩ := Kd.at_int (Kd.R_reads' HO_8.out).2.2 (ji37) p220 q220
                   obtain rfl : ad219 = ad220 := (by injection e220)
                   replace q220 := eq_true q220
                   have p43 : 0 ≤ (x58_2 : Int) := of_decide_eq_true (by assumption)
                   have q43 : (x58_2 : Int) < ((x5_2.length : Int) : Int) := of_decide_eq_true (by assumption)
                   obtain ⟨go43, co43, eo43, gb43, gl43, cl43, HG43⟩ := Kd.R_form HO_5.out (by omega)
                   (cases eo43)
                   have GB43 := Aside0.mk gb43
                   have GG43 := Aside0.mk HG43
                   clear gb43 gl43 HG43
                   obtain ⟨hx43_0, hf43_0⟩ := Kd.R_celln 0 HO_5.out (x58_2 : Int) p43 q43
                   replace p43 := eq_true p43
                   replace q43 := eq_true q43
                   have HP45 := Kd.R_putn HO_5.out (x58_2 : Int) ((ji41) % 4294967296)
                   rw [← Ny221.out] at HP45
                   have HQ45 := Aside0.mk HP45
                   clear HP45
                   refine start_ (n := 20) (S := fun w' => w'.cell? (ad219.add (x58_2).toNat) = some (.int .u32 (rd x8_1 x58_2)) ∧ w'.cell? (ad219.add ((ji37)).toNat) = some (.int .u32 (rd x8_1 (ji37)))) (ds := [19]) #[false, false, false, false, false, false, false, false, false, false, false, false, false, false, false, false, false, false, false, false] (by kernel_rfl) rfl rfl ⟨hx219_0, hx220_0⟩ (fun hHeld => ?_); refine with_tabW nat_long.tab14 nat_long.bits14 (fun HT_ HW_ => ?_)
                   generalize wr.drew = w44 at HO_4 HO_5 HO_8 HB GG43 HQ45 hf43_0 hx219_0 hx220_0 hx43_0 hHeld ⊢
                   refine pure_ (i := 0) (N := some 61) (v := ?_) (a' := ?_) #[true, false, false, false, false, false, false, false, false, false, false, false, false, false, false, false, false, false, false, false] rfl rfl (any_of HT_.out (by kernel_rfl)) (fun _ _ _ h => h) (Or.inl ⟨by rfl, ?_⟩) ?_ ?_
                   rotate_left
                   ·intro w'
                    go_simp
                    with_reducible rfl
                   rotate_left
                   ·simp only [Act.put, List.setIfInBounds_toArray, List.set_cons_zero, List.set_cons_succ, i64_w, i32_w]
                    rfl
                   refine pure_ (i := 1) (N := some 62) (v := ?_) (a' := ?_) #[true, true, false, false, false, false, false, false, false, false, false, false, false, false, false, false, false, false, false, false] rfl rfl (any_of HT_.out (by kernel_rfl)) (fun _ _ _ h => h) (Or.inl ⟨by rfl, ?_⟩) ?_ ?_
                   rotate_left
                   ·intro w'
                    go_simp
                    with_reducible rfl
                   rotate_left
                   ·simp only [Act.put, List.setIfInBounds_toArray, List.set_cons_zero, List.set_cons_succ, i64_w, i32_w]
                    rfl
                   refine pure_ (i := 2) (N := some 63) (v := ?_) (a' := ?_) #[true, true, true, false, false, false, false, false, false, false, false, false, false, false, false, false, false, false, false, false] rfl rfl (any_of HT_.out (by kernel_rfl)) (fun _ _ _ h => h) (Or.inl ⟨by rfl, ?_⟩) ?_ ?_
                   rotate_left
                   ·intro w'
                    go_simp
                    with_reducible rfl
                   rotate_left
                   ·simp only [Act.put, List.setIfInBounds_toArray, List.set_cons_zero, List.set_cons_succ, i64_w, i32_w]
                    rfl
                   refine pure_ (i := 3) (N := some 64) (v := ?_) (a' := ?_) #[true, true, true, true, false, false, false, false, false, false, false, false, false, false, false, false, false, false, false, false] rfl rfl (any_of HT_.out (by kernel_rfl)) (fun _ _ _ h => h) (Or.inl ⟨by rfl, ?_⟩) ?_ ?_
                   rotate_left
                   ·intro w'
                    go_simp
                    with_reducible rfl
                   rotate_left
                   ·simp only [Act.put, List.setIfInBounds_toArray, List.set_cons_zero, List.set_cons_succ, i64_w, i32_w]
                    rfl
                   refine pure_ (i := 4) (N := some 65) (v := ?_) (a' := ?_) #[true, true, true, true, true, false, false, false, false, false, false, false, false, false, false, false, false, false, false, false] rfl rfl (any_of HT_.out (by kernel_rfl)) (fun _ _ _ h => h) (Or.inl ⟨by rfl, ?_⟩) ?_ ?_
                   rotate_left
                   ·intro w'
                    go_simp
                    with_reducible rfl
                   rotate_left
                   ·simp only [Act.put, List.setIfInBounds_toArray, List.set_cons_zero, List.set_cons_succ, i64_w, i32_w]
                    rfl
                   refine pure_ (i := 7) (N := some 68) (v := ?_) (a' := ?_) #[true, true, true, true, true, false, false, true, false, false, false, false, false, false, false, false, false, false, false, false] rfl rfl (any_of HT_.out (by kernel_rfl)) (fun _ _ _ h => h) (Or.inl ⟨by rfl, ?_⟩) ?_ ?_
                   rotate_left
                   ·intro w'
                    go_simp
                    with_reducible rfl
                   rotate_left
                   ·simp only [Act.put, List.setIfInBounds_toArray, List.set_cons_zero, List.set_cons_succ, i64_w, i32_w]
                    rfl
                   refine pure_ (i := 8) (N := some 69) (v := ?_) (a' := ?_) #[true, true, true, true, true, false, false, true, true, false, false, false, false, false, false, false, false, false, false, false] rfl rfl (any_of HT_.out (by kernel_rfl)) (fun _ _ _ h => h) (Or.inl ⟨by rfl, ?_⟩) ?_ ?_
                   rotate_left
                   ·intro w'
                    go_simp
                    with_reducible rfl
                   rotate_left
                   ·simp only [Act.put, List.setIfInBounds_toArray, List.set_cons_zero, List.set_cons_succ, i64_w, i32_w]
                    rfl
                   refine pure_ (i := 9) (N := some 70) (v := ?_) (a' := ?_) #[true, true, true, true, true, false, false, true, true, true, false, false, false, false, false, false, false, false, false, false] rfl rfl (any_of HT_.out (by kernel_rfl)) (fun _ _ _ h => h) (Or.inl ⟨by rfl, ?_⟩) ?_ ?_
                   rotate_left
                   ·intro w'
                    go_simp
                    with_reducible rfl
                   rotate_left
                   ·simp only [Act.put, List.setIfInBounds_toArray, List.set_cons_zero, List.set_cons_succ, i64_w, i32_w]
                    rfl
                   refine pure_ (i := 10) (N := some 71) (v := ?_) (a' := ?_) #[true, true, true, true, true, false, false, true, true, true, true, false, false, false, false, false, false, false, false, false] rfl rfl (any_of HT_.out (by kernel_rfl)) (fun _ _ _ h => h) (Or.inl ⟨by rfl, ?_⟩) ?_ ?_
                   rotate_left
                   ·intro w'
                    go_simp
                    with_reducible rfl
                   rotate_left
                   ·simp only [Act.put, List.setIfInBounds_toArray, List.set_cons_zero, List.set_cons_succ, i64_w, i32_w]
                    rfl
                   refine pure_ (i := 15) (N := some 76) (v := ?_) (a' := ?_) #[true, true, true, true, true, false, false, true, true, true, true, false, false, false, false, true, false, false, false, false] rfl rfl (any_of HT_.out (by kernel_rfl)) (fun _ _ _ h => h) (Or.inl ⟨by rfl, ?_⟩) ?_ ?_
                   rotate_left
                   ·intro w'
                    go_simp
                    with_reducible rfl
                   rotate_left
                   ·simp only [Act.put, List.setIfInBounds_toArray, List.set_cons_zero, List.set_cons_succ, i64_w, i32_w]
                    rfl
                   refine take_ (i := 5) (N := some 66) (v := ?_) (a' := ?_) #[true, true, true, true, true, true, false, true, true, true, true, false, false, false, false, true, false, false, false, false] rfl rfl (take_ofW HT_.out HW_.out (by kernel_rfl)) (fun _ _ _ h => h) (Or.inl ⟨by rfl, ?_⟩) hHeld ?_ ?_
                   rotate_left
                   ·rintro w' ⟨s0, s1⟩
                    go_simp
                    with_reducible rfl
                   rotate_left
                   ·simp only [Act.put, List.setIfInBounds_toArray, List.set_cons_zero, List.set_cons_succ, i64_w, i32_w]
                    rfl
                   refine pure_ (i := 6) (N := some 67) (v := ?_) (a' := ?_) #[true, true, true, true, true, true, true, true, true, true, true, false, false, false, false, true, false, false, false, false] rfl rfl (any_of HT_.out (by kernel_rfl)) (fun _ _ _ h => h) (Or.inl ⟨by rfl, ?_⟩) ?_ ?_
                   rotate_left
                   ·intro w'
                    go_simp
                    with_reducible rfl
                   rotate_left
                   ·simp only [Act.put, List.setIfInBounds_toArray, List.set_cons_zero, List.set_cons_succ, i64_w, i32_w]
                    rfl
                   refine take_ (i := 11) (N := some 72) (v := ?_) (a' := ?_) #[true, true, true, true, true, true, true, true, true, true, true, true, false, false, false, true, false, false, false, false] rfl rfl (take_ofW HT_.out HW_.out (by kernel_rfl)) (fun _ _ _ h => h) (Or.inl ⟨by rfl, ?_⟩) hHeld ?_ ?_
                   rotate_left
                   ·rintro w' ⟨s0, s1⟩
                    go_simp
                    with_reducible rfl
                   rotate_left
                   ·simp only [Act.put, List.setIfInBounds_toArray, List.set_cons_zero, List.set_cons_succ, i64_w, i32_w]
                    rfl
                   refine pure_ (i := 12) (N := some 73) (v := ?_) (a' := ?_) #[true, true, true, true, true, true, true, true, true, true, true, true, true, false, false, true, false, false, false, false] rfl rfl (any_of HT_.out (by kernel_rfl)) (fun _ _ _ h => h) (Or.inl ⟨by rfl, ?_⟩) ?_ ?_
                   rotate_left
                   ·intro w'
                    go_simp
                    with_reducible rfl
                   rotate_left
                   ·simp only [Act.put, List.setIfInBounds_toArray, List.set_cons_zero, List.set_cons_succ, i64_w, i32_w]
                    rfl
                   refine pure_ (i := 13) (N := some 74) (v := ?_) (a' := ?_) #[true, true, true, true, true, true, true, true, true, true, true, true, true, true, false, true, false, false, false, false] rfl rfl (any_of HT_.out (by kernel_rfl)) (fun _ _ _ h => h) (Or.inl ⟨by rfl, ?_⟩) ?_ ?_
                   rotate_left
                   ·intro w'
                    go_simp
                    with_reducible rfl
                   rotate_left
                   ·simp only [Act.put, List.setIfInBounds_toArray, List.set_cons_zero, List.set_cons_succ, i64_w, i32_w]
                    rfl
                   refine pure_ (i := 14) (N := some 75) (v := ?_) (a' := ?_) #[true, true, true, true, true, true, true, true, true, true, true, true, true, true, true, true, false, false, false, false] rfl rfl (any_of HT_.out (by kernel_rfl)) (fun _ _ _ h => h) (Or.inl ⟨by rfl, ?_⟩) ?_ ?_
                   rotate_left
                   ·intro w'
                    go_simp
                    with_reducible rfl
                   rotate_left
                   ·simp only [Act.put, List.setIfInBounds_toArray, List.set_cons_zero, List.set_cons_succ, i64_w, i32_w]
                    rfl
                   refine pure_ (i := 16) (N := some 77) (v := ?_) (a' := ?_) #[true, true, true, true, true, true, true, true, true, true, true, true, true, true, true, true, true, false, false, false] rfl rfl (any_of HT_.out (by kernel_rfl)) (fun _ _ _ h => h) (Or.inl ⟨by rfl, ?_⟩) ?_ ?_
                   rotate_left
                   ·intro w'
                    go_simp
                    with_reducible rfl
                   rotate_left
                   ·simp only [Act.put, List.setIfInBounds_toArray, List.set_cons_zero, List.set_cons_succ, i64_w, i32_w]
                    rfl
                   refine pure_ (i := 17) (N := some 78) (v := ?_) (a' := ?_) #[true, true, true, true, true, true, true, true, true, true, true, true, true, true, true, true, true, true, false, false] rfl rfl (any_of HT_.out (by kernel_rfl)) (fun _ _ _ h => h) (Or.inl ⟨by rfl, ?_⟩) ?_ ?_
                   rotate_left
                   ·intro w'
                    go_simp
                    with_reducible rfl
                   rotate_left
                   ·simp only [Act.put, List.setIfInBounds_toArray, List.set_cons_zero, List.set_cons_succ, i64_w, i32_w]
                    rfl
                   refine pure_ (i := 18) (N := some 79) (v := ?_) (a' := ?_) #[true, true, true, true, true, true, true, true, true, true, true, true, true, true, true, true, true, true, true, false] rfl rfl (any_of HT_.out (by kernel_rfl)) (fun _ _ _ h => h) (Or.inl ⟨by rfl, ?_⟩) ?_ ?_
                   rotate_left
                   ·intro w'
                    go_simp
                    with_reducible rfl
                   rotate_left
                   ·simp only [Act.put, List.setIfInBounds_toArray, List.set_cons_zero, List.set_cons_succ, i64_w, i32_w]
                    rfl
                   refine last_ (i := 19) (N := none) #[true, true, true, true, true, true, true, true, true, true, true, true, true, true, true, true, true, true, true, true] rfl rfl (one_of HT_.out (by kernel_rfl)) (by decide) (fun K hK => ?_)
                   refine skip_ (w1 := ?_) (by rfl) rfl ?_ ?_
                   rotate_left
                   ·go_simp
                    rfl
                   refine hK.out _ _ ?_
                   clear hK K
                   refine done_ (done_of HT_.out (by kernel_rfl)) ?_
                   try go_wp2
                   (try simp only [← hl5_2])
                   go_roundg k2
                   case measure => have := HK1.out; have := HK2.out; omega
                   case rel => exact ⟨(y221), (ji37), rfl, H', ⟨by have := HK1.out; have := HK2.out; omega⟩, ⟨by (try simp only [hl5_2]); (with_reducible repeat (fail)); exact Kd.R_mono (Kd.R_far (p := ⟨go43, (x58_2 : Int).toNat, none⟩) (Kd.R_mono HO_4.out (fun k_ hk => (⟨hk, fun e_ => hk.1 (by rw [e_]; rfl)⟩ : _ ∧ k_ ≠ go43))) (fun _ hk => hk.2) (.int .u32 ((ji41) % 4294967296))) (fun _ hk => ⟨hk.1.1, hk.1.2⟩)⟩, ⟨by (try simp only [hl5_2]); (with_reducible repeat (fail)); exact HQ45.out⟩, ⟨by (try simp only [hl5_2]); (with_reducible repeat (fail)); exact Kd.R_mono (Kd.R_far (p := ⟨go43, (x58_2 : Int).toNat, none⟩) (Kd.R_mono HO_8.out (fun k_ hk => (⟨hk, fun e_ => hk.2 (by rw [e_]; rfl)⟩ : _ ∧ k_ ≠ go43))) (fun _ hk => hk.2) (.int .u32 ((ji41) % 4294967296))) (fun _ hk => ⟨hk.1.1, hk.1.2⟩)⟩, ⟨by repeat ((with_reducible first | exact HB.out | refine below_set ?_ GB43.out))⟩⟩
                  ·rw [if_neg c42] at H
                   exact absurd H (by simp)
                 ·rw [if_neg c40] at H
                  exact absurd H (by simp)
                ·rw [if_neg c39] at H
                 exact absurd H (by simp)
               ·rw [if_neg c38] at H
                exact absurd H (by simp)
              ·rw [if_neg c36] at H
               exact absurd H (by simp)
             ·rw [if_neg c35] at H
              exact absurd H (by simp)
            ·rw [if_neg c34] at H
             have c34b0 : decide (x58_2 < (y216.length : Int)) = false := decide_eq_false c34
             (try (have c34b0h := c34b0; simp only [hl8_1, hl5_2] at c34b0h))
             clear c34
             simp only [Option.some.injEq, Prod.mk.injEq] at H
             obtain ⟨rfl, rfl⟩ := H
             go_wp2
             go_ret2
             exact ⟨_, _, rfl, Kd.R_mono HO_4.out (fun _ hk => hk.1), Kd.R_mono HO_5.out (fun _ hk => hk.1), HB.out⟩
         ·rw [if_neg c30] at H
          exact absurd H (by simp)
        ·rw [if_neg c29] at H
         exact absurd H (by simp)
    ·rw [if_neg c12] at H
     exact absurd H (by simp)
   ·rw [if_neg c11] at H
    exact absurd H (by simp)
  ·rw [if_neg c5] at H
   exact absurd H (by simp)
 ·rw [if_neg c4] at H
  exact absurd H (by simp)
end Go.Proofs.Ythheakfgmombdaa.F
end
section
namespace Go.Proofs.Ythheakfgmombdaa.F
open Go.RowKit Go.Proofs.YthheakfgmombdaaX.PrintWords Go.Proofs.YthheakfgmombdaaX.PrintLast Go.Proofs.YthheakfgmombdaaX.PrintMore
attribute [local go_sem] max2_int min2_int max_two min_two max_three min_three max_four min_four   -- for this text's walks alone
set_option linter.unusedVariables false
set_option linter.unusedSimpArgs false
set_option maxHeartbeats 8000000 in
set_option maxRecDepth 100000 in
theorem nat_DivMod.calls (k : Nat) (A0 : Option Addr) (c0 : Nat) (l0 : List Int) (A1 : Option Addr) (c1 : Nat) (l1 : List Int) (r1 : List Int) (r2 : List Int) (r3 : Int) (w : World) (hr0 : Kd.C (Kd.int .u32) w A0 l0.length l0) (hc0 : l0.length ≤ c0) (hr1 : Kd.C (Kd.int .u32) w A1 l1.length l1) (hc1 : l1.length ≤ c1) (h : nat_DivMod.f k l0 l1 = some (r1, r2, r3)) :
  Calls Try.prog 118 #[.slice A0 l0.length c0, .slice A1 l1.length c1] w fun e w' => ∃ v0_ v1_ : Value, e = .returned (.tuple #[v0_, v1_, .int .i64 r3]) ∧ Kd.R (Kd.int .u32) 100 w' w.heap.size (fun k_ => some k_ ≠ (v1_ : Value).ownBlock) v0_ r1 ∧ Kd.R (Kd.int .u32) 100 w' w.heap.size (fun k_ => some k_ ≠ (v0_ : Value).ownBlock) v1_ r2 ∧ Below w.heap.size w w' := by
 have HR0 := Aside0.mk hr0
 have HC0 := Aside0.mk hc0
 clear hr0 hc0
 have HR1 := Aside0.mk hr1
 have HC1 := Aside0.mk hc1
 clear hr1 hc1
 have HB := Aside0.mk (Below.refl w.heap.size w)
 have H : ((nat_short.f k l0).bind fun t222 => ((nat_short.f k l1).bind fun t225 => (if (t225.length : Int) = 0 then (some (([] : List Int), ([] : List Int), 7)) else ((nat_Cmp.f k t222 t225).bind fun t228 => (if t228 < 0 then ((nat_Trim.f k t222).bind fun t229 => (some (([] : List Int), t229, 0))) else (if (t225.length : Int) = 1 then (if 0 < (t225.length : Int) then ((nat_digit.f k t222 (rd t225 0)).bind fun bt233 => ((nat_Of.f k (IntKind.u64.wrap (bt233.2))).bind fun t237 => (some (bt233.1, t237, 0)))) else (none)) else ((nat_long.f k t222 t225).bind fun bt240 => ((nat_Trim.f k bt240.1).bind fun t246 => ((nat_Trim.f k bt240.2).bind fun t249 => (some (t246, t249, 0))))))))))) = some (r1, r2, r3) := h
 clear h
 obtain ⟨t222, A3, H⟩ := bindA H
 obtain ⟨t225, A4, H⟩ := bindA H
 by_cases c5 : (t225.length : Int) = 0
 ·rw [if_pos c5] at H
  have c5b1 : ((t225.length : Int) != 0) = false := bne_eq_false_iff_eq.mpr c5
  clear c5
  simp only [Option.some.injEq, Prod.mk.injEq] at H
  obtain ⟨rfl, rfl, rfl⟩ := H
  go_enter Try.func118, Try.ntmps118
  go_wp2_with (first | (refine goesL_ (some 12) rfl rfl Try.func123 (by kernel_rfl) rfl #[.slice A0 l0.length c0] rfl (by simp only [List.map_toArray, List.map_cons, List.map_nil]; rfl) ?_; (with_reducible refine (nat_short.calls k (fun k_ => k_ < w.heap.size) _ _ l0 t222 _ (Kd.V_mk HC0.out (Kd.F_below (Kd.C_F (Kd.heap_int .u32) HR0.out) (HB.out))) A3.out).mono ?_); rintro e w6 ⟨v223, rfl, ho0, hb⟩; refine ⟨_, rfl, ?_⟩; have HO224 := Aside0.mk (Kd.V_lower (Kd.V_mono (ok' := fun k_ => True) ho0 (fun k_ hk_ => trivial)) (below_size (HB.out))); replace HB := Aside0.mk (below_step (HB.out) hb)) | (refine goesL_ (some 14) rfl rfl Try.func123 (by kernel_rfl) rfl #[.slice A1 l1.length c1] rfl (by simp only [List.map_toArray, List.map_cons, List.map_nil]; rfl) ?_; (with_reducible refine (nat_short.calls k (fun k_ => k_ < w.heap.size) _ _ l1 t225 _ (Kd.V_mk HC1.out (Kd.F_below (Kd.C_F (Kd.heap_int .u32) HR1.out) (HB.out))) A4.out).mono ?_); rintro e w7 ⟨v226, rfl, ho0, hb⟩; refine ⟨_, rfl, ?_⟩; replace HO224 := Aside0.mk (Kd.V_below (HO224.out) hb); have HO227 := Aside0.mk (Kd.V_lower (Kd.V_mono (ok' := fun k_ => True) ho0 (fun k_ hk_ => trivial)) (below_size (HB.out))); replace HB := Aside0.mk (below_step (HB.out) hb); (try clear hb); (try clear ho0); obtain ⟨Ao8, co8, eo8⟩ := Kd.V_slice HO227.out; subst eo8))
  go_ret3
  exact ⟨_, _, rfl, by exact Kd.R_nil _ _ _ _ _, by exact Kd.R_nil _ _ _ _ _, HB.out⟩
 ·rw [if_neg c5] at H
  obtain ⟨t228, A9, H⟩ := bindA H
  by_cases c10 : t228 < 0
  ·rw [if_pos c10] at H
   have c10b0 : decide (t228 < 0) = true := decide_eq_true c10
   clear c10
   obtain ⟨t229, A11, H⟩ := bindA H
   simp only [Option.some.injEq, Prod.mk.injEq] at H
   obtain ⟨rfl, rfl, rfl⟩ := H
   go_enter Try.func118, Try.ntmps118
   go_wp2_with (first | (refine goesL_ (some 12) rfl rfl Try.func123 (by kernel_rfl) rfl #[.slice A0 l0.length c0] rfl (by simp only [List.map_toArray, List.map_cons, List.map_nil]; rfl) ?_; (with_reducible refine (nat_short.calls k (fun k_ => k_ < w.heap.size) _ _ l0 t222 _ (Kd.V_mk HC0.out (Kd.F_below (Kd.C_F (Kd.heap_int .u32) HR0.out) (HB.out))) A3.out).mono ?_); rintro e w12 ⟨v223, rfl, ho0, hb⟩; refine ⟨_, rfl, ?_⟩; have HO224 := Aside0.mk (Kd.V_lower (Kd.V_mono (ok' := fun k_ => True) ho0 (fun k_ hk_ => trivial)) (below_size (HB.out))); replace HB := Aside0.mk (below_step (HB.out) hb)) | (refine goesL_ (some 14) rfl rfl Try.func123 (by kernel_rfl) rfl #[.slice A1 l1.length c1] rfl (by simp only [List.map_toArray, List.map_cons, List.map_nil]; rfl) ?_; (with_reducible refine (nat_short.calls k (fun k_ => k_ < w.heap.size) _ _ l1 t225 _ (Kd.V_mk HC1.out (Kd.F_below (Kd.C_F (Kd.heap_int .u32) HR1.out) (HB.out))) A4.out).mono ?_); rintro e w13 ⟨v226, rfl, ho0, hb⟩; refine ⟨_, rfl, ?_⟩; replace HO224 := Aside0.mk (Kd.V_below (HO224.out) hb); have HO227 := Aside0.mk (Kd.V_lower (Kd.V_mono (ok' := fun k_ => True) ho0 (fun k_ hk_ => trivial)) (below_size (HB.out))); replace HB := Aside0.mk (below_step (HB.out) hb); (try clear hb); (try clear ho0); obtain ⟨Ao14, co14, eo14⟩ := Kd.V_slice HO227.out; subst eo14; obtain ⟨Ao15, co15, eo15⟩ := Kd.V_slice HO224.out; subst eo15) | (refine goesL_ (some 22) rfl rfl Try.func130 (by kernel_rfl) rfl #[.slice Ao15 t222.length co15, .slice Ao14 t225.length co14] rfl (by simp only [List.map_toArray, List.map_cons, List.map_nil]; rfl) ?_; (with_reducible refine (nat_Cmp.calls k _ _ t222 _ _ t225 t228 _ ?side1 ?side2 ?side3 ?side4 A9.out).mono ?_); (case side1 => exact (Kd.V_reads' HO224.out).2.2); (case side2 => exact (Kd.V_reads' HO224.out).2.1); (case side3 => exact (Kd.V_reads' HO227.out).2.2); (case side4 => exact (Kd.V_reads' HO227.out).2.1); rintro e w16 ⟨rfl, hb⟩; refine ⟨_, rfl, ?_⟩; replace HO224 := Aside0.mk (Kd.V_below (HO224.out) hb); replace HO227 := Aside0.mk (Kd.V_below (HO227.out) hb); replace HB := Aside0.mk (below_step (HB.out) hb)) | (refine goesL_ (some 25) rfl rfl Try.func132 (by kernel_rfl) rfl #[.slice Ao15 t222.length co15] rfl (by simp only [List.map_toArray, List.map_cons, List.map_nil]; rfl) ?_; (with_reducible refine (nat_Trim.calls k _ _ t222 t229 _ ?side1 ?side2 A11.out).mono ?_); (case side1 => exact (Kd.V_reads' HO224.out).2.2); (case side2 => exact (Kd.V_reads' HO224.out).2.1); rintro e w17 ⟨v230, rfl, ho0, hb⟩; refine ⟨_, rfl, ?_⟩; replace HO224 := Aside0.mk (Kd.V_elder' (HO224.out) (Kd.R_base ho0) hb); replace HO227 := Aside0.mk (Kd.V_elder' (HO227.out) (Kd.R_base ho0) hb); have HO231 := Aside0.mk (Kd.R_lower ho0 (below_size (HB.out))); replace HB := Aside0.mk (below_step (HB.out) hb)))
   go_ret3
   exact ⟨_, _, rfl, by exact Kd.R_nil _ _ _ _ _, Kd.R_mono HO231.out (fun _ hk => (by simp [Value.ownBlock])), HB.out⟩
  ·rw [if_neg c10] at H
   have c10b0 : decide (t228 < 0) = false := decide_eq_false c10
   clear c10
   by_cases c18 : (t225.length : Int) = 1
   ·rw [if_pos c18] at H
    have c18b1 : ((t225.length : Int) != 1) = false := bne_eq_false_iff_eq.mpr c18
    clear c18
    by_cases c19 : 0 < (t225.length : Int)
    ·rw [if_pos c19] at H
     have c19b0 : decide (0 < (t225.length : Int)) = true := decide_eq_true c19
     clear c19
     obtain ⟨⟨t233, t234⟩, A20, H⟩ := bindA H
     obtain ⟨t237, A21, H⟩ := bindA H
     simp only [Option.some.injEq, Prod.mk.injEq] at H
     obtain ⟨rfl, rfl, rfl⟩ := H
     go_enter Try.func118, Try.ntmps118
     go_wp2_with (first | (refine goesL_ (some 12) rfl rfl Try.func123 (by kernel_rfl) rfl #[.slice A0 l0.length c0] rfl (by simp only [List.map_toArray, List.map_cons, List.map_nil]; rfl) ?_; (with_reducible refine (nat_short.calls k (fun k_ => k_ < w.heap.size) _ _ l0 t222 _ (Kd.V_mk HC0.out (Kd.F_below (Kd.C_F (Kd.heap_int .u32) HR0.out) (HB.out))) A3.out).mono ?_); rintro e w22 ⟨v223, rfl, ho0, hb⟩; refine ⟨_, rfl, ?_⟩; have HO224 := Aside0.mk (Kd.V_lower (Kd.V_mono (ok' := fun k_ => True) ho0 (fun k_ hk_ => trivial)) (below_size (HB.out))); replace HB := Aside0.mk (below_step (HB.out) hb)) | (refine goesL_ (some 14) rfl rfl Try.func123 (by kernel_rfl) rfl #[.slice A1 l1.length c1] rfl (by simp only [List.map_toArray, List.map_cons, List.map_nil]; rfl) ?_; (with_reducible refine (nat_short.calls k (fun k_ => k_ < w.heap.size) _ _ l1 t225 _ (Kd.V_mk HC1.out (Kd.F_below (Kd.C_F (Kd.heap_int .u32) HR1.out) (HB.out))) A4.out).mono ?_); rintro e w23 ⟨v226, rfl, ho0, hb⟩; refine ⟨_, rfl, ?_⟩; replace HO224 := Aside0.mk (Kd.V_below (HO224.out) hb); have HO227 := Aside0.mk (Kd.V_lower (Kd.V_mono (ok' := fun k_ => True) ho0 (fun k_ hk_ => trivial)) (below_size (HB.out))); replace HB := Aside0.mk (below_step (HB.out) hb); (try clear hb); (try clear ho0); obtain ⟨Ao24, co24, eo24⟩ := Kd.V_slice HO227.out; subst eo24; obtain ⟨Ao25, co25, eo25⟩ := Kd.V_slice HO224.out; subst eo25) | (refine goesL_ (some 22) rfl rfl Try.func130 (by kernel_rfl) rfl #[.slice Ao25 t222.length co25, .slice Ao24 t225.length co24] rfl (by simp only [List.map_toArray, List.map_cons, List.map_nil]; rfl) ?_; (with_reducible refine (nat_Cmp.calls k _ _ t222 _ _ t225 t228 _ ?side1 ?side2 ?side3 ?side4 A9.out).mono ?_); (case side1 => exact (Kd.V_reads' HO224.out).2.2); (case side2 => exact (Kd.V_reads' HO224.out).2.1); (case side3 => exact (Kd.V_reads' HO227.out).2.2); (case side4 => exact (Kd.V_reads' HO227.out).2.1); rintro e w26 ⟨rfl, hb⟩; refine ⟨_, rfl, ?_⟩; replace HO224 := Aside0.mk (Kd.V_below (HO224.out) hb); replace HO227 := Aside0.mk (Kd.V_below (HO227.out) hb); replace HB := Aside0.mk (below_step (HB.out) hb); (try clear hb); have p232 : 0 ≤ (0 : Int) := (by omega); have q232 : 0 < (t225.length : Int) := of_decide_eq_true (by assumption); obtain ⟨ad232, e232, hx232_0⟩ := Kd.at_int (Kd.V_reads' HO227.out).2.2 0 p232 q232; cases e232; have qi232 : (0 < t225.length) = True := eq_true (by omega); (try rw [show ((0 : Int)).toNat = 0 from rfl] at hx232_0); (try rw [Addr.add_zero'] at hx232_0); replace p232 := eq_true p232; replace q232 := eq_true q232) | (refine goesL_ (some 35) rfl rfl Try.func133 (by kernel_rfl) rfl #[.slice Ao25 t222.length co25, .int .u32 (rd t225 0)] rfl (by simp only [List.map_toArray, List.map_cons, List.map_nil]; rfl) ?_; (with_reducible refine (nat_digit.calls k _ _ t222 (rd t225 0) t233 t234 _ ?side1 ?side2 A20.out).mono ?_); (case side1 => exact (Kd.V_reads' HO224.out).2.2); (case side2 => exact (Kd.V_reads' HO224.out).2.1); rintro e w27 ⟨v235, rfl, ho0, hb⟩; refine ⟨_, rfl, ?_⟩; replace HO224 := Aside0.mk (Kd.V_elder' (HO224.out) (Kd.R_base ho0) hb); replace HO227 := Aside0.mk (Kd.V_elder' (HO227.out) (Kd.R_base ho0) hb); have HO236 := Aside0.mk (Kd.R_lower ho0 (below_size (HB.out))); replace HB := Aside0.mk (below_step (HB.out) hb)) | (refine goesL_ (some 41) rfl rfl Try.func119 (by kernel_rfl) rfl #[.int .u64 (IntKind.u64.wrap (t234))] rfl (by simp only [List.map_toArray, List.map_cons, List.map_nil]; rfl) ?_; (with_reducible refine (nat_Of.calls k (IntKind.u64.wrap (t234)) t237 _ A21.out).mono ?_); rintro e w28 ⟨v238, rfl, ho0, hb⟩; refine ⟨_, rfl, ?_⟩; have n0_ := Aside0.mk (Kd.V_elder' (HO224.out) (Kd.R_base ho0) hb); have n1_ := Aside0.mk (Kd.V_elder' (HO227.out) (Kd.R_base ho0) hb); have n2_ := Aside0.mk (Kd.R_elder' (HO236.out) (Kd.R_base ho0) hb); have n3_ := Aside0.mk (Kd.R_lower (Kd.R_new' ho0 (Kd.R_lt (HO236.out))) (below_size (HB.out))); have n4_ := Aside0.mk (below_step (HB.out) hb); clear HO224; clear HO227; clear HO236; clear HB; have HO224 := n0_; have HO227 := n1_; have HO236 := n2_; have HO239 := n3_; have HB := n4_; clear n0_ n1_ n2_ n3_ n4_))
     go_ret3
     exact ⟨_, _, rfl, Kd.R_mono HO236.out (fun _ hk => hk.2), Kd.R_mono HO239.out (fun _ hk => hk.2), HB.out⟩
    ·rw [if_neg c19] at H
     exact absurd H (by simp)
   ·rw [if_neg c18] at H
    obtain ⟨⟨t240, t241⟩, A29, H⟩ := bindA H
    obtain ⟨t246, A30, H⟩ := bindA H
    obtain ⟨t249, A31, H⟩ := bindA H
    simp only [Option.some.injEq, Prod.mk.injEq] at H
    obtain ⟨rfl, rfl, rfl⟩ := H
    go_enter Try.func118, Try.ntmps118
    go_wp2_with (first | (refine goesL_ (some 12) rfl rfl Try.func123 (by kernel_rfl) rfl #[.slice A0 l0.length c0] rfl (by simp only [List.map_toArray, List.map_cons, List.map_nil]; rfl) ?_; (with_reducible refine (nat_short.calls k (fun k_ => k_ < w.heap.size) _ _ l0 t222 _ (Kd.V_mk HC0.out (Kd.F_below (Kd.C_F (Kd.heap_int .u32) HR0.out) (HB.out))) A3.out).mono ?_); rintro e w32 ⟨v223, rfl, ho0, hb⟩; refine ⟨_, rfl, ?_⟩; have HO224 := Aside0.mk (Kd.V_lower (Kd.V_mono (ok' := fun k_ => True) ho0 (fun k_ hk_ => trivial)) (below_size (HB.out))); replace HB := Aside0.mk (below_step (HB.out) hb)) | (refine goesL_ (some 14) rfl rfl Try.func123 (by kernel_rfl) rfl #[.slice A1 l1.length c1] rfl (by simp only [List.map_toArray, List.map_cons, List.map_nil]; rfl) ?_; (with_reducible refine (nat_short.calls k (fun k_ => k_ < w.heap.size) _ _ l1 t225 _ (Kd.V_mk HC1.out (Kd.F_below (Kd.C_F (Kd.heap_int .u32) HR1.out) (HB.out))) A4.out).mono ?_); rintro e w33 ⟨v226, rfl, ho0, hb⟩; refine ⟨_, rfl, ?_⟩; replace HO224 := Aside0.mk (Kd.V_below (HO224.out) hb); have HO227 := Aside0.mk (Kd.V_lower (Kd.V_mono (ok' := fun k_ => True) ho0 (fun k_ hk_ => trivial)) (below_size (HB.out))); replace HB := Aside0.mk (below_step (HB.out) hb); (try clear hb); (try clear ho0); obtain ⟨Ao34, co34, eo34⟩ := Kd.V_slice HO227.out; subst eo34; obtain ⟨Ao35, co35, eo35⟩ := Kd.V_slice HO224.out; subst eo35) | (refine goesL_ (some 22) rfl rfl Try.func130 (by kernel_rfl) rfl #[.slice Ao35 t222.length co35, .slice Ao34 t225.length co34] rfl (by simp only [List.map_toArray, List.map_cons, List.map_nil]; rfl) ?_; (with_reducible refine (nat_Cmp.calls k _ _ t222 _ _ t225 t228 _ ?side1 ?side2 ?side3 ?side4 A9.out).mono ?_); (case side1 => exact (Kd.V_reads' HO224.out).2.2); (case side2 => exact (Kd.V_reads' HO224.out).2.1); (case side3 => exact (Kd.V_reads' HO227.out).2.2); (case side4 => exact (Kd.V_reads' HO227.out).2.1); rintro e w36 ⟨rfl, hb⟩; refine ⟨_, rfl, ?_⟩; replace HO224 := Aside0.mk (Kd.V_below (HO224.out) hb); replace HO227 := Aside0.mk (Kd.V_below (HO227.out) hb); replace HB := Aside0.mk (below_step (HB.out) hb)) | (refine goesL_ (some 45) rfl rfl Try.func134 (by kernel_rfl) rfl #[.slice Ao35 t222.length co35, .slice Ao34 t225.length co34] rfl (by simp only [List.map_toArray, List.map_cons, List.map_nil]; rfl) ?_; (with_reducible refine (nat_long.calls k _ _ t222 _ _ t225 t240 t241 _ ?side1 ?side2 ?side3 ?side4 A29.out).mono ?_); (case side1 => exact (Kd.V_reads' HO224.out).2.2); (case side2 => exact (Kd.V_reads' HO224.out).2.1); (case side3 => exact (Kd.V_reads' HO227.out).2.2); (case side4 => exact (Kd.V_reads' HO227.out).2.1); rintro e w37 ⟨v242, v244, rfl, ho0, ho1, hb⟩; refine ⟨_, rfl, ?_⟩; replace HO224 := Aside0.mk (Kd.V_mono (Kd.V_told (Kd.V_told (Kd.V_old (HO224.out) hb) (Kd.R_base ho0)) (Kd.R_base ho1)) (fun _ h_ => h_.1)); replace HO227 := Aside0.mk (Kd.V_mono (Kd.V_told (Kd.V_told (Kd.V_old (HO227.out) hb) (Kd.R_base ho0)) (Kd.R_base ho1)) (fun _ h_ => h_.1)); have HO243 := Aside0.mk (Kd.R_lower ho0 (below_size (HB.out))); have HO245 := Aside0.mk (Kd.R_lower ho1 (below_size (HB.out))); replace HB := Aside0.mk (below_step (HB.out) hb); (try clear hb); (try clear ho0); (try clear ho1); obtain ⟨Ao38, co38, eo38⟩ := Kd.R_slice HO243.out; subst eo38) | (refine goesL_ (some 49) rfl rfl Try.func132 (by kernel_rfl) rfl #[.slice Ao38 t240.length co38] rfl (by simp only [List.map_toArray, List.map_cons, List.map_nil]; rfl) ?_; (with_reducible refine (nat_Trim.calls k _ _ t240 t246 _ ?side1 ?side2 A30.out).mono ?_); (case side1 => exact (Kd.R_reads' HO243.out).2.2); (case side2 => exact (Kd.R_reads' HO243.out).2.1); rintro e w39 ⟨v247, rfl, ho0, hb⟩; refine ⟨_, rfl, ?_⟩; have n0_ := Aside0.mk (Kd.V_elder' (HO224.out) (Kd.R_base ho0) hb); have n1_ := Aside0.mk (Kd.V_elder' (HO227.out) (Kd.R_base ho0) hb); have n2_ := Aside0.mk (Kd.R_elder' (HO243.out) (Kd.R_base ho0) hb); have n3_ := Aside0.mk (Kd.R_elder' (HO245.out) (Kd.R_base ho0) hb); have n4_ := Aside0.mk (Kd.R_lower (Kd.R_new' (Kd.R_new' ho0 (Kd.R_lt (HO243.out))) (Kd.R_lt (HO245.out))) (below_size (HB.out))); have n5_ := Aside0.mk (below_step (HB.out) hb); clear HO224; clear HO227; clear HO243; clear HO245; clear HB; have HO224 := n0_; have HO227 := n1_; have HO243 := n2_; have HO245 := n3_; have HO248 := n4_; have HB := n5_; clear n0_ n1_ n2_ n3_ n4_ n5_; (try clear hb); (try clear ho0); obtain ⟨Ao40, co40, eo40⟩ := Kd.R_slice HO245.out; subst eo40) | (refine goesL_ (some 51) rfl rfl Try.func132 (by kernel_rfl) rfl #[.slice Ao40 t241.length co40] rfl (by simp only [List.map_toArray, List.map_cons, List.map_nil]; rfl) ?_; (with_reducible refine (nat_Trim.calls k _ _ t241 t249 _ ?side1 ?side2 A31.out).mono ?_); (case side1 => exact (Kd.R_reads' HO245.out).2.2); (case side2 => exact (Kd.R_reads' HO245.out).2.1); rintro e w41 ⟨v250, rfl, ho0, hb⟩; refine ⟨_, rfl, ?_⟩; have n0_ := Aside0.mk (Kd.V_elder' (HO224.out) (Kd.R_base ho0) hb); have n1_ := Aside0.mk (Kd.V_elder' (HO227.out) (Kd.R_base ho0) hb); have n2_ := Aside0.mk (Kd.R_elder' (HO243.out) (Kd.R_base ho0) hb); have n3_ := Aside0.mk (Kd.R_elder' (HO245.out) (Kd.R_base ho0) hb); have n4_ := Aside0.mk (Kd.R_elder' (HO248.out) (Kd.R_base ho0) hb); have n5_ := Aside0.mk (Kd.R_lower (Kd.R_new' (Kd.R_new' (Kd.R_new' ho0 (Kd.R_lt (HO243.out))) (Kd.R_lt (HO245.out))) (Kd.R_lt (HO248.out))) (below_size (HB.out))); have n6_ := Aside0.mk (below_step (HB.out) hb); clear HO224; clear HO227; clear HO243; clear HO245; clear HO248; clear HB; have HO224 := n0_; have HO227 := n1_; have HO243 := n2_; have HO245 := n3_; have HO248 := n4_; have HO251 := n5_; have HB := n6_; clear n0_ n1_ n2_ n3_ n4_ n5_ n6_))
    go_ret3
    exact ⟨_, _, rfl, Kd.R_mono HO248.out (fun _ hk => hk.2), Kd.R_mono HO251.out (fun _ hk => hk.2), HB.out⟩
end Go.Proofs.Ythheakfgmombdaa.F
end
section
namespace Go.Proofs.Ythheakfgmombdaa.F
open Go.RowKit Go.Proofs.YthheakfgmombdaaX.PrintWords Go.Proofs.YthheakfgmombdaaX.PrintLast Go.Proofs.YthheakfgmombdaaX.PrintMore
attribute [local go_sem] max2_int min2_int max_two min_two max_three min_three max_four min_four   -- for this text's walks alone
set_option linter.unusedVariables false
set_option linter.unusedSimpArgs false
set_option maxHeartbeats 8000000 in
set_option maxRecDepth 100000 in
theorem nat_Gcd.calls (k : Nat) (A0 : Option Addr) (c0 : Nat) (l0 : List Int) (A1 : Option Addr) (c1 : Nat) (l1 : List Int) (r : List Int) (w : World) (hr0 : Kd.C (Kd.int .u32) w A0 l0.length l0) (hc0 : l0.length ≤ c0) (hr1 : Kd.C (Kd.int .u32) w A1 l1.length l1) (hc1 : l1.length ≤ c1) (h : nat_Gcd.f k l0 l1 = some r) :
  Calls Try.prog 117 #[.slice A0 l0.length c0, .slice A1 l1.length c1] w fun e w' => ∃ v0_ : Value, e = .returned (v0_) ∧ Kd.R (Kd.int .u32) 100 w' w.heap.size (fun _ => True) v0_ r ∧ Below w.heap.size w w' := by
 have HR0 := Aside0.mk hr0
 have HC0 := Aside0.mk hc0
 clear hr0 hc0
 have HR1 := Aside0.mk hr1
 have HC1 := Aside0.mk hc1
 clear hr1 hc1
 have HB := Aside0.mk (Below.refl w.heap.size w)
 have H : ((nat_short.f k l0).bind fun t252 => ((nat_short.f k l1).bind fun t255 => (nat_Gcd.l0 k t252 t255))) = some r := h
 clear h
 obtain ⟨t252, A3, H⟩ := bindA H
 obtain ⟨t255, A4, H⟩ := bindA H
 have H' := Aside0.mk H
 clear H
 go_enter Try.func117, Try.ntmps117
 go_wp2_with (first | (refine goesL_ (some 9) rfl rfl Try.func123 (by kernel_rfl) rfl #[.slice A0 l0.length c0] rfl (by simp only [List.map_toArray, List.map_cons, List.map_nil]; rfl) ?_; (with_reducible refine (nat_short.calls k (fun k_ => k_ < w.heap.size) _ _ l0 t252 _ (Kd.V_mk HC0.out (Kd.F_below (Kd.C_F (Kd.heap_int .u32) HR0.out) (HB.out))) A3.out).mono ?_); rintro e w5 ⟨v253, rfl, ho0, hb⟩; refine ⟨_, rfl, ?_⟩; have HO254 := Aside0.mk (Kd.V_lower (Kd.V_mono (ok' := fun k_ => True) ho0 (fun k_ hk_ => trivial)) (below_size (HB.out))); replace HB := Aside0.mk (below_step (HB.out) hb)) | (refine goesL_ (some 11) rfl rfl Try.func123 (by kernel_rfl) rfl #[.slice A1 l1.length c1] rfl (by simp only [List.map_toArray, List.map_cons, List.map_nil]; rfl) ?_; (with_reducible refine (nat_short.calls k (fun k_ => k_ < w.heap.size) _ _ l1 t255 _ (Kd.V_mk HC1.out (Kd.F_below (Kd.C_F (Kd.heap_int .u32) HR1.out) (HB.out))) A4.out).mono ?_); rintro e w6 ⟨v256, rfl, ho0, hb⟩; refine ⟨_, rfl, ?_⟩; replace HO254 := Aside0.mk (Kd.V_below (HO254.out) hb); have HO257 := Aside0.mk (Kd.V_lower (Kd.V_mono (ok' := fun k_ => True) ho0 (fun k_ hk_ => trivial)) (below_size (HB.out))); replace HB := Aside0.mk (below_step (HB.out) hb)))
 go_loopg [0, 1] k (fun kq v0 v1 w' => ∃ (x0_1 : List Int) (x1_1 : List Int), Aside0 (nat_Gcd.l0 kq x0_1 x1_1 = some r) ∧ Aside0 (kq ≤ k) ∧ Aside0 (Kd.V (Kd.int .u32) 100 w' w.heap.size (fun _ => True) v0 x0_1) ∧ Aside0 (Kd.V (Kd.int .u32) 100 w' w.heap.size (fun _ => True) v1 x1_1) ∧ Aside0 (Below w.heap.size w w'))
 case atStart => exact ⟨(t252), (t255), H', ⟨Nat.le_refl _⟩, ⟨HO254.out⟩, ⟨HO257.out⟩, ⟨HB.out⟩⟩
 case round =>
  clear H'
  obtain ⟨x0_1, x1_1, HA, HK1, HO_0, HO_1, HB⟩ := hrel
  cases gk with
  | zero => exact absurd HA.out (by simp [nat_Gcd.l0])
  | succ k1 =>
   have H := HA.out
   clear HA
   simp only [nat_Gcd.l0] at H
   by_cases c7 : (x1_1.length : Int) > 0
   ·rw [if_pos c7] at H
    have c7b1 : decide (0 < x1_1.length) = true := decide_eq_true (by omega)
    clear c7
    obtain ⟨⟨t258, t259, t260⟩, A8, H⟩ := bindA H
    have H' := Aside0.mk H
    clear H
    obtain ⟨Ao9, co9, eo9⟩ := Kd.V_slice HO_1.out
    subst eo9
    obtain ⟨Ao10, co10, eo10⟩ := Kd.V_slice HO_0.out
    subst eo10
    go_wp2_with ((refine goesL_ (some 18) rfl rfl Try.func118 (by kernel_rfl) rfl #[.slice Ao10 x0_1.length co10, .slice Ao9 x1_1.length co9] rfl (by simp only [List.map_toArray, List.map_cons, List.map_nil]; rfl) ?_; (with_reducible refine (nat_DivMod.calls k1 _ _ x0_1 _ _ x1_1 t258 t259 t260 _ ?side1 ?side2 ?side3 ?side4 A8.out).mono ?_); (case side1 => exact (Kd.V_reads' HO_0.out).2.2); (case side2 => exact (Kd.V_reads' HO_0.out).2.1); (case side3 => exact (Kd.V_reads' HO_1.out).2.2); (case side4 => exact (Kd.V_reads' HO_1.out).2.1); rintro e w11 ⟨v261, v263, rfl, ho0, ho1, hb⟩; refine ⟨_, rfl, ?_⟩; replace HO_0 := Aside0.mk (Kd.V_mono (Kd.V_told (Kd.V_told (Kd.V_old (HO_0.out) hb) (Kd.R_base ho0)) (Kd.R_base ho1)) (fun _ h_ => h_.1)); replace HO_1 := Aside0.mk (Kd.V_mono (Kd.V_told (Kd.V_told (Kd.V_old (HO_1.out) hb) (Kd.R_base ho0)) (Kd.R_base ho1)) (fun _ h_ => h_.1)); have HO262 := Aside0.mk (Kd.R_lower ho0 (below_size (HB.out))); have HO264 := Aside0.mk (Kd.R_lower ho1 (below_size (HB.out))); replace HB := Aside0.mk (below_step (HB.out) hb)))
    go_roundg k1
    case measure => have := HK1.out; omega
    case rel => exact ⟨(x1_1), (t259), H', ⟨by have := HK1.out; omega⟩, ⟨Kd.V_mono HO_1.out (fun _ hk => trivial)⟩, ⟨Kd.R_V (Kd.R_mono HO264.out (fun _ hk => trivial))⟩, ⟨HB.out⟩⟩
   ·rw [if_neg c7] at H
    have c7b1 : decide (0 < x1_1.length) = false := decide_eq_false (by omega)
    clear c7
    obtain ⟨t265, A12, H⟩ := bindA H
    obtain rfl := Option.some.inj H
    obtain ⟨Ao13, co13, eo13⟩ := Kd.V_slice HO_1.out
    subst eo13
    obtain ⟨Ao14, co14, eo14⟩ := Kd.V_slice HO_0.out
    subst eo14
    go_wp2_with ((refine goesL_ (some 25) rfl rfl Try.func132 (by kernel_rfl) rfl #[.slice Ao14 x0_1.length co14] rfl (by simp only [List.map_toArray, List.map_cons, List.map_nil]; rfl) ?_; (with_reducible refine (nat_Trim.calls k1 _ _ x0_1 t265 _ ?side1 ?side2 A12.out).mono ?_); (case side1 => exact (Kd.V_reads' HO_0.out).2.2); (case side2 => exact (Kd.V_reads' HO_0.out).2.1); rintro e w15 ⟨v266, rfl, ho0, hb⟩; refine ⟨_, rfl, ?_⟩; replace HO_0 := Aside0.mk (Kd.V_elder' (HO_0.out) (Kd.R_base ho0) hb); replace HO_1 := Aside0.mk (Kd.V_elder' (HO_1.out) (Kd.R_base ho0) hb); have HO267 := Aside0.mk (Kd.R_lower ho0 (below_size (HB.out))); replace HB := Aside0.mk (below_step (HB.out) hb)))
    go_ret
    exact ⟨_, rfl, HO267.out, HB.out⟩
end Go.Proofs.Ythheakfgmombdaa.F
end
section
namespace Go.Proofs.Ythheakfgmombdaa.F
open Go.RowKit Go.Proofs.YthheakfgmombdaaX.PrintWords Go.Proofs.YthheakfgmombdaaX.PrintLast Go.Proofs.YthheakfgmombdaaX.PrintMore
attribute [local go_sem] max2_int min2_int max_two min_two max_three min_three max_four min_four   -- for this text's walks alone
set_option linter.unusedVariables false
set_option linter.unusedSimpArgs false
set_option maxHeartbeats 8000000 in
set_option maxRecDepth 100000 in
theorem rational_canonical.calls (k : Nat) (a0 : Bool) (A1 : Option Addr) (c1 : Nat) (l1 : List Int) (A2 : Option Addr) (c2 : Nat) (l2 : List Int) (r1 : Bool) (r2 : List Int) (r3 : List Int) (w : World) (hr1 : Kd.C (Kd.int .u32) w A1 l1.length l1) (hc1 : l1.length ≤ c1) (hr2 : Kd.C (Kd.int .u32) w A2 l2.length l2) (hc2 : l2.length ≤ c2) (h : rational_canonical.f k a0 l1 l2 = some (r1, r2, r3)) :
  Calls Try.prog 94 #[.bool a0, .slice A1 l1.length c1, .slice A2 l2.length c2] w fun e w' => ∃ v1_ v2_ : Value, e = .returned (.agg #[.bool r1, v1_, v2_]) ∧ Kd.R (Kd.int .u32) 100 w' w.heap.size (fun k_ => some k_ ≠ (v2_ : Value).ownBlock) v1_ r2 ∧ Kd.R (Kd.int .u32) 100 w' w.heap.size (fun k_ => some k_ ≠ (v1_ : Value).ownBlock) v2_ r3 ∧ Below w.heap.size w w' := by
 have hu46 := Try.underlying46
 have HR1 := Aside0.mk hr1
 have HC1 := Aside0.mk hc1
 clear hr1 hc1
 have HR2 := Aside0.mk hr2
 have HC2 := Aside0.mk hc2
 clear hr2 hc2
 have HB := Aside0.mk (Below.refl w.heap.size w)
 have H : ((nat_Bits.f k l1).bind fun t269 => (if t269 = 0 then (rational_canonical.j0 k a0 l1 l2 true) else ((nat_Bits.f k l2).bind fun t270 => (rational_canonical.j0 k a0 l1 l2 (t270 == 0))))) = some (r1, r2, r3) := h
 clear h
 have HC4 := Aside0.mk H
 clear H
 go_enter Try.func94, Try.ntmps94
 go_upto_region 1 with ((refine box_event ?hg (N := 6) ?hd (cs := #[.bool false, .slice none 0 0, .slice none 0 0]) (t := 46) ?hr ?_; (case hd => rfl); (case hg => rfl); (case hr => go_simp; done); intro gb268 hg w5 hbox hb; have n0_ := Aside0.mk (below_step (HB.out) hb); have n1_ := Aside0.mk (hbox); have n2_ := Aside0.mk ((by rw [hg]; exact (below_size (HB.out)) : w.heap.size ≤ gb268)); have n3_ := Aside0.mk ((by rw [hg]; exact (below_size (HB.out)) : w.heap.size ≤ gb268)); clear HB; have HB := n0_; have BK268 := n1_; have GW268 := n2_; have GE268 := n3_; clear n0_ n1_ n2_ n3_; clear hb hbox hg))
 (try simp only [Act.put, List.setIfInBounds_toArray, List.set_cons_zero, List.set_cons_succ])
 go_cut [15] (fun v15 wc => ∃ (kq : Nat) (x15_3 : Bool), v15 = .bool x15_3 ∧ Aside0 (rational_canonical.j0 kq a0 l1 l2 x15_3 = some (r1, r2, r3)) ∧ Aside0 (kq ≤ k) ∧ Aside0 (wc.heap[gb268]? = some (.cells #[.bool false, (.slice none 0 0), (.slice none 0 0)] 46 (0, 0))) ∧ Aside0 (Below w.heap.size w wc))
 case first =>
  have H := HC4.out
  clear HC4
  obtain ⟨t269, A6, H⟩ := bindA H
  by_cases c7 : t269 = 0
  ·rw [if_pos c7] at H
   have c7b0 : (t269 == 0) = true := beq_iff_eq.mpr c7
   clear c7
   (skip)
   have H' := Aside0.mk H
   clear H
   go_wp2_with ((refine goesL_ (some 9) rfl rfl Try.func110 (by kernel_rfl) rfl #[.slice A1 l1.length c1] rfl (by simp only [List.map_toArray, List.map_cons, List.map_nil]; rfl) ?_; (with_reducible refine (nat_Bits.calls k _ _ l1 t269 _ (Kd.C_below HR1.out HB.out) HC1.out A6.out).mono ?_); rintro e w8 ⟨rfl, hb⟩; refine ⟨_, rfl, ?_⟩; replace BK268 := Aside0.mk (blk_below (BK268.out) hb); replace HB := Aside0.mk (below_step (HB.out) hb)))
   go_meet
   case rel => exact ⟨_, (true), rfl, H', ⟨by omega⟩, ⟨BK268.out⟩, ⟨HB.out⟩⟩
  ·rw [if_neg c7] at H
   have c7b0 : (t269 == 0) = false := beq_eq_false_iff_ne.mpr c7
   (skip)
   obtain ⟨t270, A9, H⟩ := bindA H
   have H' := Aside0.mk H
   clear H
   go_wp2_with (first | (refine goesL_ (some 9) rfl rfl Try.func110 (by kernel_rfl) rfl #[.slice A1 l1.length c1] rfl (by simp only [List.map_toArray, List.map_cons, List.map_nil]; rfl) ?_; (with_reducible refine (nat_Bits.calls k _ _ l1 t269 _ (Kd.C_below HR1.out HB.out) HC1.out A6.out).mono ?_); rintro e w10 ⟨rfl, hb⟩; refine ⟨_, rfl, ?_⟩; replace BK268 := Aside0.mk (blk_below (BK268.out) hb); replace HB := Aside0.mk (below_step (HB.out) hb)) | (go_at_call 110; (with_reducible refine (nat_Bits.calls k _ _ l2 t270 _ (Kd.C_below HR2.out HB.out) HC2.out A9.out).mono ?_); rintro e w11 ⟨rfl, hb⟩; replace BK268 := Aside0.mk (blk_below (BK268.out) hb); replace HB := Aside0.mk (below_step (HB.out) hb)))
   go_meet
   case rel => exact ⟨_, ((t270 == 0)), rfl, H', ⟨by omega⟩, ⟨BK268.out⟩, ⟨HB.out⟩⟩
 case rest =>
  clear HC4
  obtain ⟨kq, x15_3, rfl, HA, HJ3, BK268, HB⟩ := hcut
  cases kq with
  | zero => exact absurd HA.out (by simp [rational_canonical.j0])
  | succ kj3 =>
   have H := HA.out
   clear HA
   simp only [rational_canonical.j0] at H
   by_cases c12 : x15_3 = true
   ·subst c12
    rw [if_pos rfl] at H
    obtain ⟨t271, A13, H⟩ := bindA H
    simp only [Option.some.injEq, Prod.mk.injEq] at H
    obtain ⟨rfl, rfl, rfl⟩ := H
    go_wp2_with ((refine goesL_ (some 16) rfl rfl Try.func112 (by kernel_rfl) rfl #[] rfl (by simp only [List.map_toArray, List.map_cons, List.map_nil]) ?_; (with_reducible refine (rational_one.calls  t271 _ A13.out).mono ?_); rintro e w14 ⟨v272, rfl, ho0, hb⟩; refine ⟨_, rfl, ?_⟩; have HO273 := Aside0.mk (Kd.R_lower ho0 (below_size (HB.out))); replace BK268 := Aside0.mk (blk_below (BK268.out) hb); replace HB := Aside0.mk (below_step (HB.out) hb); (try clear hb); (try clear ho0); obtain ⟨Ao15, co15, eo15⟩ := Kd.R_slice HO273.out; subst eo15; have hcz16_0 : w14.cell? ⟨gb268, 0, none⟩ = some (.bool false) := (blk_cell BK268.out 0).trans rfl; have hcz16_1 : w14.cell? ⟨gb268, 1, none⟩ = some (.slice none 0 0) := (blk_cell BK268.out 1).trans rfl; have hcz16_2 : w14.cell? ⟨gb268, 2, none⟩ = some (.slice none 0 0) := (blk_cell BK268.out 2).trans rfl; have hfz16_0 := blk_frozen BK268.out 0; have hfz16_1 := blk_frozen BK268.out 1; have hfz16_2 := blk_frozen BK268.out 2))
    refine bodyPost_ret (results_cell_row rfl _ _ gb268 46 #[.bool false, .slice none 0 0, .slice Ao15 t271.length co15] (0, 0) _ rfl (by (with_reducible repeat (fail)); refine blk_put (cs := #[.bool false, .slice none 0 0, .slice none 0 0]) ?_ 2 _ rfl; (with_reducible repeat (fail)); refine blk_put (cs := #[.bool false, .slice none 0 0, .slice none 0 0]) ?_ 1 _ rfl; (with_reducible repeat (fail)); refine blk_put (cs := #[.bool false, .slice none 0 0, .slice none 0 0]) ?_ 0 _ rfl; (with_reducible repeat (fail)); exact BK268.out) Try.underlying46 rfl (by kernel_rfl)) rfl ?_
    exact ⟨_, _, rfl, by exact Kd.R_nil _ _ _ _ _, Kd.R_mono (Kd.R_far (p := ⟨gb268, 2, none⟩) (Kd.R_far (p := ⟨gb268, 1, none⟩) (Kd.R_far (p := ⟨gb268, 0, none⟩) (Kd.R_types HO273.out BK268.out (by decide)) (fun _ hk => hk.2) (.bool false)) (fun _ hk => hk.2) (.slice none 0 0)) (fun _ hk => hk.2) (.slice Ao15 t271.length co15)) (fun _ hk => (by simp [Value.ownBlock])), by repeat ((with_reducible first | exact HB.out | refine below_set ?_ GE268.out))⟩
   ·replace c12 := Bool.eq_false_iff.mpr c12
    subst c12
    rw [if_neg (show ¬ (false = true) by decide)] at H
    obtain ⟨t274, A17, H⟩ := bindA H
    obtain ⟨⟨t277, t278, t279⟩, A18, H⟩ := bindA H
    obtain ⟨⟨t284, t285, t286⟩, A19, H⟩ := bindA H
    simp only [Option.some.injEq, Prod.mk.injEq] at H
    obtain ⟨rfl, rfl, rfl⟩ := H
    go_wp2_with (first | (refine goesL_ (some 20) rfl rfl Try.func117 (by kernel_rfl) rfl #[.slice A1 l1.length c1, .slice A2 l2.length c2] rfl (by simp only [List.map_toArray, List.map_cons, List.map_nil]; rfl) ?_; (with_reducible refine (nat_Gcd.calls kj3 _ _ l1 _ _ l2 t274 _ (Kd.C_below HR1.out HB.out) HC1.out (Kd.C_below HR2.out HB.out) HC2.out A17.out).mono ?_); rintro e w20 ⟨v275, rfl, ho0, hb⟩; refine ⟨_, rfl, ?_⟩; have HO276 := Aside0.mk (Kd.R_lower ho0 (below_size (HB.out))); replace BK268 := Aside0.mk (blk_below (BK268.out) hb); replace HB := Aside0.mk (below_step (HB.out) hb); (try clear hb); (try clear ho0); obtain ⟨Ao21, co21, eo21⟩ := Kd.R_slice HO276.out; subst eo21) | (refine goesL_ (some 24) rfl rfl Try.func118 (by kernel_rfl) rfl #[.slice A1 l1.length c1, .slice Ao21 t274.length co21] rfl (by simp only [List.map_toArray, List.map_cons, List.map_nil]; rfl) ?_; (with_reducible refine (nat_DivMod.calls kj3 _ _ l1 _ _ t274 t277 t278 t279 _ ?side1 ?side2 ?side3 ?side4 A18.out).mono ?_); (case side1 => exact (Kd.C_below HR1.out HB.out)); (case side2 => exact HC1.out); (case side3 => exact (Kd.R_reads' HO276.out).2.2); (case side4 => exact (Kd.R_reads' HO276.out).2.1); rintro e w22 ⟨v280, v282, rfl, ho0, ho1, hb⟩; refine ⟨_, rfl, ?_⟩; have n0_ := Aside0.mk (Kd.R_mono (Kd.R_told (Kd.R_told (Kd.R_old (HO276.out) hb) (Kd.R_base ho0)) (Kd.R_base ho1)) (fun _ h_ => h_.1)); have n1_ := Aside0.mk (Kd.R_lower (Kd.R_new' ho0 (Kd.R_lt (HO276.out))) (below_size (HB.out))); have n2_ := Aside0.mk (Kd.R_lower (Kd.R_new' ho1 (Kd.R_lt (HO276.out))) (below_size (HB.out))); have n3_ := Aside0.mk (blk_below (BK268.out) hb); have n4_ := Aside0.mk (below_step (HB.out) hb); clear HO276; clear BK268; clear HB; have HO276 := n0_; have HO281 := n1_; have HO283 := n2_; have BK268 := n3_; have HB := n4_; clear n0_ n1_ n2_ n3_ n4_) | (refine goesL_ (some 31) rfl rfl Try.func118 (by kernel_rfl) rfl #[.slice A2 l2.length c2, .slice Ao21 t274.length co21] rfl (by simp only [List.map_toArray, List.map_cons, List.map_nil]; rfl) ?_; (with_reducible refine (nat_DivMod.calls kj3 _ _ l2 _ _ t274 t284 t285 t286 _ ?side1 ?side2 ?side3 ?side4 A19.out).mono ?_); (case side1 => exact (Kd.C_below HR2.out HB.out)); (case side2 => exact HC2.out); (case side3 => exact (Kd.R_reads' HO276.out).2.2); (case side4 => exact (Kd.R_reads' HO276.out).2.1); rintro e w23 ⟨v287, v289, rfl, ho0, ho1, hb⟩; refine ⟨_, rfl, ?_⟩; have n0_ := Aside0.mk (Kd.R_mono (Kd.R_told (Kd.R_told (Kd.R_old (HO276.out) hb) (Kd.R_base ho0)) (Kd.R_base ho1)) (fun _ h_ => h_.1)); have n1_ := Aside0.mk (Kd.R_mono (Kd.R_told (Kd.R_told (Kd.R_old (HO281.out) hb) (Kd.R_base ho0)) (Kd.R_base ho1)) (fun _ h_ => h_.1)); have n2_ := Aside0.mk (Kd.R_mono (Kd.R_told (Kd.R_told (Kd.R_old (HO283.out) hb) (Kd.R_base ho0)) (Kd.R_base ho1)) (fun _ h_ => h_.1)); have n3_ := Aside0.mk (Kd.R_lower (Kd.R_new' (Kd.R_new' (Kd.R_new' ho0 (Kd.R_lt (HO276.out))) (Kd.R_lt (HO281.out))) (Kd.R_lt (HO283.out))) (below_size (HB.out))); have n4_ := Aside0.mk (Kd.R_lower (Kd.R_new' (Kd.R_new' (Kd.R_new' ho1 (Kd.R_lt (HO276.out))) (Kd.R_lt (HO281.out))) (Kd.R_lt (HO283.out))) (below_size (HB.out))); have n5_ := Aside0.mk (blk_below (BK268.out) hb); have n6_ := Aside0.mk (below_step (HB.out) hb); clear HO276; clear HO281; clear HO283; clear BK268; clear HB; have HO276 := n0_; have HO281 := n1_; have HO283 := n2_; have HO288 := n3_; have HO290 := n4_; have BK268 := n5_; have HB := n6_; clear n0_ n1_ n2_ n3_ n4_ n5_ n6_; (try clear hb); (try clear ho0); (try clear ho1); obtain ⟨Ao24, co24, eo24⟩ := Kd.R_slice HO288.out; subst eo24; obtain ⟨Ao25, co25, eo25⟩ := Kd.R_slice HO281.out; subst eo25; have hcz26_0 : w23.cell? ⟨gb268, 0, none⟩ = some (.bool false) := (blk_cell BK268.out 0).trans rfl; have hcz26_1 : w23.cell? ⟨gb268, 1, none⟩ = some (.slice none 0 0) := (blk_cell BK268.out 1).trans rfl; have hcz26_2 : w23.cell? ⟨gb268, 2, none⟩ = some (.slice none 0 0) := (blk_cell BK268.out 2).trans rfl; have hfz26_0 := blk_frozen BK268.out 0; have hfz26_1 := blk_frozen BK268.out 1; have hfz26_2 := blk_frozen BK268.out 2))
    refine bodyPost_ret (results_cell_row rfl _ _ gb268 46 #[.bool a0, .slice Ao25 t277.length co25, .slice Ao24 t284.length co24] (0, 0) _ rfl (by (with_reducible repeat (fail)); refine blk_put (cs := #[.bool a0, .slice Ao25 t277.length co25, .slice none 0 0]) ?_ 2 _ rfl; (with_reducible repeat (fail)); refine blk_put (cs := #[.bool a0, .slice none 0 0, .slice none 0 0]) ?_ 1 _ rfl; (with_reducible repeat (fail)); refine blk_put (cs := #[.bool false, .slice none 0 0, .slice none 0 0]) ?_ 0 _ rfl; (with_reducible repeat (fail)); exact BK268.out) Try.underlying46 rfl (by kernel_rfl)) rfl ?_
    exact ⟨_, _, rfl, Kd.R_mono (Kd.R_far (p := ⟨gb268, 2, none⟩) (Kd.R_far (p := ⟨gb268, 1, none⟩) (Kd.R_far (p := ⟨gb268, 0, none⟩) (Kd.R_types HO281.out BK268.out (by decide)) (fun _ hk => hk.2) (.bool a0)) (fun _ hk => hk.2) (.slice Ao25 t277.length co25)) (fun _ hk => hk.2) (.slice Ao24 t284.length co24)) (fun _ hk => hk.1.1.2), Kd.R_mono (Kd.R_far (p := ⟨gb268, 2, none⟩) (Kd.R_far (p := ⟨gb268, 1, none⟩) (Kd.R_far (p := ⟨gb268, 0, none⟩) (Kd.R_types HO288.out BK268.out (by decide)) (fun _ hk => hk.2) (.bool a0)) (fun _ hk => hk.2) (.slice Ao25 t277.length co25)) (fun _ hk => hk.2) (.slice Ao24 t284.length co24)) (fun _ hk => hk.1.1.2), by repeat ((with_reducible first | exact HB.out | refine below_set ?_ GE268.out))⟩
end Go.Proofs.Ythheakfgmombdaa.F
end
section
namespace Go.Proofs.Ythheakfgmombdaa.F
open Go.RowKit Go.Proofs.YthheakfgmombdaaX.PrintWords Go.Proofs.YthheakfgmombdaaX.PrintLast Go.Proofs.YthheakfgmombdaaX.PrintMore
attribute [local go_sem] max2_int min2_int max_two min_two max_three min_three max_four min_four   -- for this text's walks alone
set_option linter.unusedVariables false
set_option linter.unusedSimpArgs false
set_option maxHeartbeats 8000000 in
set_option maxRecDepth 100000 in
theorem rational_size.calls (k : Nat) (a0 : Int) (r : List Int) (w : World) (h : rational_size.f k a0 = some r) :
  Calls Try.prog 95 #[.int .i64 a0] w fun e w' => ∃ v0_ : Value, e = .returned (v0_) ∧ Kd.R (Kd.int .u32) 100 w' w.heap.size (fun _ => True) v0_ r ∧ Below w.heap.size w w' := by
 have HB := Aside0.mk (Below.refl w.heap.size w)
 have H : (if a0 < 0 then ((nat_Of.f k (IntKind.u64.wrap (-(IntKind.u64.wrap (a0))))).bind fun t273 => (some t273)) else ((nat_Of.f k (IntKind.u64.wrap (a0))).bind fun t276 => (some t276))) = some r := h
 clear h
 by_cases c2 : a0 < 0
 ·rw [if_pos c2] at H
  have c2b0 : decide (a0 < 0) = true := decide_eq_true c2
  clear c2
  replace H := Option.bind_eq_some_iff.mp H
  obtain ⟨t273, A30, H⟩ := H
  replace H : (some t273) = some r := H
  have A3 := Aside0.mk A30
  clear A30
  obtain rfl := Option.some.inj H
  go_enter Try.func95, Try.ntmps95
  go_wp2_with (((with_reducible refine gate_callee (f := 119) rfl ?_); refine goesL_ (some 8) rfl rfl Try.func119 (by kernel_rfl) rfl #[.int .u64 (IntKind.u64.wrap (-(IntKind.u64.wrap (a0))))] rfl (by (try simp only [List.map_toArray, List.map_cons, List.map_nil]); rfl) ?_; (with_reducible refine (nat_Of.calls k (IntKind.u64.wrap (-(IntKind.u64.wrap (a0)))) t273 _ A3.out).mono ?_); rintro e w4 ⟨v274, rfl, ho0, hb⟩; refine ⟨_, rfl, ?_⟩; have n0_ := Aside0.mk (Kd.R_lower ho0 (below_size (by repeat ((with_reducible exact HB.out))))); have n1_ := Aside0.mk (below_step (by repeat ((with_reducible exact HB.out))) hb); clear HB; have HO275 := n0_; have HB := n1_; clear n0_ n1_; (try clear hb); (try clear ho0)))
  go_ret
  exact ⟨_, by rfl, by (with_reducible repeat (fail)); exact HO275.out, by repeat ((with_reducible exact HB.out))⟩
 ·rw [if_neg c2] at H
  have c2b0 : decide (a0 < 0) = false := decide_eq_false c2
  clear c2
  replace H := Option.bind_eq_some_iff.mp H
  obtain ⟨t276, A50, H⟩ := H
  replace H : (some t276) = some r := H
  have A5 := Aside0.mk A50
  clear A50
  obtain rfl := Option.some.inj H
  go_enter Try.func95, Try.ntmps95
  go_wp2_with (((with_reducible refine gate_callee (f := 119) rfl ?_); refine goesL_ (some 11) rfl rfl Try.func119 (by kernel_rfl) rfl #[.int .u64 (IntKind.u64.wrap (a0))] rfl (by (try simp only [List.map_toArray, List.map_cons, List.map_nil]); rfl) ?_; (with_reducible refine (nat_Of.calls k (IntKind.u64.wrap (a0)) t276 _ A5.out).mono ?_); rintro e w6 ⟨v277, rfl, ho0, hb⟩; refine ⟨_, rfl, ?_⟩; have n0_ := Aside0.mk (Kd.R_lower ho0 (below_size (by repeat ((with_reducible exact HB.out))))); have n1_ := Aside0.mk (below_step (by repeat ((with_reducible exact HB.out))) hb); clear HB; have HO278 := n0_; have HB := n1_; clear n0_ n1_; (try clear hb); (try clear ho0)))
  go_ret
  exact ⟨_, by rfl, by (with_reducible repeat (fail)); exact HO278.out, by repeat ((with_reducible exact HB.out))⟩
end Go.Proofs.Ythheakfgmombdaa.F
end
section
namespace Go.Proofs.Ythheakfgmombdaa.F
open Go.RowKit Go.Proofs.YthheakfgmombdaaX.PrintWords Go.Proofs.YthheakfgmombdaaX.PrintLast Go.Proofs.YthheakfgmombdaaX.PrintMore
attribute [local go_sem] max2_int min2_int max_two min_two max_three min_three max_four min_four   -- for this text's walks alone
set_option linter.unusedVariables false
set_option linter.unusedSimpArgs false
set_option maxHeartbeats 8000000 in
set_option maxRecDepth 100000 in
theorem rational_Of.calls (k : Nat) (a0 : Int) (a1 : Int) (r1 : Bool) (r2 : List Int) (r3 : List Int) (r4 : Int) (w : World) (h : rational_Of.f k a0 a1 = some (r1, r2, r3, r4)) :
  Calls Try.prog 63 #[.int .i64 a0, .int .i64 a1] w fun e w' => ∃ v1_ v2_ : Value, e = .returned (.tuple #[.agg #[.bool r1, v1_, v2_], .int .i64 r4]) ∧ Kd.R (Kd.int .u32) 100 w' w.heap.size (fun k_ => some k_ ≠ (v2_ : Value).ownBlock) v1_ r2 ∧ Kd.R (Kd.int .u32) 100 w' w.heap.size (fun k_ => some k_ ≠ (v1_ : Value).ownBlock) v2_ r3 ∧ Below w.heap.size w w' := by
 have hu46 := Try.underlying46
 have HB := Aside0.mk (Below.refl w.heap.size w)
 have H : (if a1 = 0 then (some (false, ([] : List Int), ([] : List Int), 7)) else ((rational_size.f k a0).bind fun t280 => ((rational_size.f k a1).bind fun t283 => ((rational_canonical.f k ((decide (a0 < 0)) != (decide (a1 < 0))) t280 t283).bind fun bt286 => (some (bt286.1, bt286.2.1, bt286.2.2, 0)))))) = some (r1, r2, r3, r4) := h
 clear h
 by_cases c3 : a1 = 0
 ·rw [if_pos c3] at H
  have c3b0 : (a1 == 0) = true := beq_iff_eq.mpr c3
  have c3b1 : (a1 != 0) = false := bne_eq_false_iff_eq.mpr c3
  clear c3
  simp only [Option.some.injEq, Prod.mk.injEq] at H
  obtain ⟨rfl, rfl, rfl, rfl⟩ := H
  go_enter Try.func63, Try.ntmps63
  go_wp2_with (((with_reducible refine gate_dst (N := 4) rfl ?_); refine box_event ?hg (N := 4) ?hd (cs := #[.bool false, .slice none 0 0, .slice none 0 0]) (t := 46) ?hr ?_; (case hd => rfl); (case hg => rfl); (case hr => (go_simp; done)); intro gb279 hg w4 hbox hb; have n0_ := Aside0.mk (below_step (by repeat ((with_reducible exact HB.out))) hb); have n1_ := Aside0.mk (hbox); have n2_ := Aside0.mk ((by rw [hg]; exact (below_size (by repeat ((with_reducible exact HB.out)))) : w.heap.size ≤ gb279)); have n3_ := Aside0.mk ((by rw [hg]; exact (below_size (by repeat ((with_reducible exact HB.out)))) : w.heap.size ≤ gb279)); clear HB; have HB := n0_; have BK279 := n1_; have GW279 := n2_; have GE279 := n3_; clear n0_ n1_ n2_ n3_; clear hb hbox hg; have hcz5_0 : w4.cell? ⟨gb279, 0, none⟩ = some (.bool false) := (blk_cell BK279.out 0).trans rfl; have hcz5_1 : w4.cell? ⟨gb279, 1, none⟩ = some (.slice none 0 0) := (blk_cell BK279.out 1).trans rfl; have hcz5_2 : w4.cell? ⟨gb279, 2, none⟩ = some (.slice none 0 0) := (blk_cell BK279.out 2).trans rfl; have hfz5_0 := blk_frozen BK279.out 0; have hfz5_1 := blk_frozen BK279.out 1; have hfz5_2 := blk_frozen BK279.out 2))
  refine bodyPost_ret (results_ct rfl _ _ gb279 46 #[.bool false, .slice none 0 0, .slice none 0 0] (0, 0) _ rfl (by (with_reducible repeat (fail)); refine blk_put (cs := #[.bool false, .slice none 0 0, .slice none 0 0]) ?_ 2 _ rfl; (with_reducible repeat (fail)); refine blk_put (cs := #[.bool false, .slice none 0 0, .slice none 0 0]) ?_ 1 _ rfl; (with_reducible repeat (fail)); refine blk_put (cs := #[.bool false, .slice none 0 0, .slice none 0 0]) ?_ 0 _ rfl; (with_reducible repeat (fail)); exact BK279.out) Try.underlying46 rfl (by kernel_rfl)) rfl ?_
  exact ⟨_, _, by rfl, by exact Kd.R_nil _ _ _ _ _, by exact Kd.R_nil _ _ _ _ _, by repeat ((with_reducible first | exact HB.out | refine below_set ?_ GE279.out))⟩
 ·rw [if_neg c3] at H
  have c3b0 : (a1 == 0) = false := beq_eq_false_iff_ne.mpr c3
  have c3b1 : (a1 != 0) = true := bne_iff_ne.mpr c3
  replace H := Option.bind_eq_some_iff.mp H
  obtain ⟨t280, A60, H⟩ := H
  replace H : ((rational_size.f k a1).bind fun t283 => ((rational_canonical.f k ((decide (a0 < 0)) != (decide (a1 < 0))) t280 t283).bind fun bt286 => (some (bt286.1, bt286.2.1, bt286.2.2, 0)))) = some (r1, r2, r3, r4) := H
  have A6 := Aside0.mk A60
  clear A60
  replace H := Option.bind_eq_some_iff.mp H
  obtain ⟨t283, A70, H⟩ := H
  replace H : ((rational_canonical.f k ((decide (a0 < 0)) != (decide (a1 < 0))) t280 t283).bind fun bt286 => (some (bt286.1, bt286.2.1, bt286.2.2, 0))) = some (r1, r2, r3, r4) := H
  have A7 := Aside0.mk A70
  clear A70
  replace H := Option.bind_eq_some_iff.mp H
  obtain ⟨⟨t286, t287, t290⟩, A80, H⟩ := H
  replace H : (some (t286, t287, t290, 0)) = some (r1, r2, r3, r4) := H
  have A8 := Aside0.mk A80
  clear A80
  simp only [Option.some.injEq, Prod.mk.injEq] at H
  obtain ⟨rfl, rfl, rfl, rfl⟩ := H
  go_enter Try.func63, Try.ntmps63
  go_wp2_with (first | ((with_reducible refine gate_dst (N := 4) rfl ?_); refine box_event ?hg (N := 4) ?hd (cs := #[.bool false, .slice none 0 0, .slice none 0 0]) (t := 46) ?hr ?_; (case hd => rfl); (case hg => rfl); (case hr => (go_simp; done)); intro gb279 hg w9 hbox hb; have n0_ := Aside0.mk (below_step (by repeat ((with_reducible exact HB.out))) hb); have n1_ := Aside0.mk (hbox); have n2_ := Aside0.mk ((by rw [hg]; exact (below_size (by repeat ((with_reducible exact HB.out)))) : w.heap.size ≤ gb279)); have n3_ := Aside0.mk ((by rw [hg]; exact (below_size (by repeat ((with_reducible exact HB.out)))) : w.heap.size ≤ gb279)); clear HB; have HB := n0_; have BK279 := n1_; have GW279 := n2_; have GE279 := n3_; clear n0_ n1_ n2_ n3_; clear hb hbox hg) | ((with_reducible refine gate_callee (f := 95) rfl ?_); refine goesL_ (some 15) rfl rfl Try.func95 (by kernel_rfl) rfl #[.int .i64 a0] rfl (by (try simp only [List.map_toArray, List.map_cons, List.map_nil]); rfl) ?_; (with_reducible refine (rational_size.calls k a0 t280 _ A6.out).mono ?_); rintro e w10 ⟨v281, rfl, ho0, hb⟩; refine ⟨_, rfl, ?_⟩; have n0_ := Aside0.mk (Kd.R_lower ho0 (below_size (by repeat ((with_reducible exact HB.out))))); have n1_ := Aside0.mk (blk_below (g := gb279) (o := .cells #[.bool false, .slice none 0 0, .slice none 0 0] 46 (0, 0)) (by (with_reducible repeat (fail)); exact BK279.out) hb); have n2_ := Aside0.mk (below_step (by repeat ((with_reducible exact HB.out))) hb); clear BK279; clear HB; have HO282 := n0_; have BK279 := n1_; have HB := n2_; clear n0_ n1_ n2_; (try clear hb); (try clear ho0)) | ((with_reducible refine gate_callee (f := 95) rfl ?_); refine goesL_ (some 17) rfl rfl Try.func95 (by kernel_rfl) rfl #[.int .i64 a1] rfl (by (try simp only [List.map_toArray, List.map_cons, List.map_nil]); rfl) ?_; (with_reducible refine (rational_size.calls k a1 t283 _ A7.out).mono ?_); rintro e w11 ⟨v284, rfl, ho0, hb⟩; refine ⟨_, rfl, ?_⟩; have n0_ := Aside0.mk (Kd.R_elder' (by (with_reducible repeat (fail)); exact HO282.out) (Kd.R_base ho0) hb); have n1_ := Aside0.mk (Kd.R_lower (Kd.R_new' ho0 (Kd.R_lt (by (with_reducible repeat (fail)); exact HO282.out))) (below_size (by repeat ((with_reducible exact HB.out))))); have n2_ := Aside0.mk (blk_below (g := gb279) (o := .cells #[.bool false, .slice none 0 0, .slice none 0 0] 46 (0, 0)) (by (with_reducible repeat (fail)); exact BK279.out) hb); have n3_ := Aside0.mk (below_step (by repeat ((with_reducible exact HB.out))) hb); clear HO282; clear BK279; clear HB; have HO282 := n0_; have HO285 := n1_; have BK279 := n2_; have HB := n3_; clear n0_ n1_ n2_ n3_; (try clear hb); (try clear ho0); obtain ⟨Ao12, co12, eo12⟩ := Kd.R_slice HO282.out; subst eo12; obtain ⟨Ao13, co13, eo13⟩ := Kd.R_slice HO285.out; subst eo13) | ((with_reducible refine gate_callee (f := 94) rfl ?_); refine goesL_ (some 18) rfl rfl Try.func94 (by kernel_rfl) rfl #[.bool ((decide (a0 < 0)) != (decide (a1 < 0))), .slice Ao12 t280.length co12, .slice Ao13 t283.length co13] rfl (by (try simp only [List.map_toArray, List.map_cons, List.map_nil]); rfl) ?_; (with_reducible refine (rational_canonical.calls k ((decide (a0 < 0)) != (decide (a1 < 0))) _ _ t280 _ _ t283 t286 t287 t290 _ ?side1 ?side2 ?side3 ?side4 A8.out).mono ?_); (case side1 => exact (Kd.R_reads' HO282.out).2.2); (case side2 => exact (Kd.R_reads' HO282.out).2.1); (case side3 => exact (Kd.R_reads' HO285.out).2.2); (case side4 => exact (Kd.R_reads' HO285.out).2.1); rintro e w14 ⟨v288, v291, rfl, ho0, ho1, hb⟩; refine ⟨_, rfl, ?_⟩; have n0_ := Aside0.mk (Kd.R_mono (Kd.R_told (Kd.R_told (Kd.R_old (by (with_reducible repeat (fail)); exact HO282.out) hb) (Kd.R_base ho0)) (Kd.R_base ho1)) (fun _ h_ => h_.1)); have n1_ := Aside0.mk (Kd.R_mono (Kd.R_told (Kd.R_told (Kd.R_old (by (with_reducible repeat (fail)); exact HO285.out) hb) (Kd.R_base ho0)) (Kd.R_base ho1)) (fun _ h_ => h_.1)); have n2_ := Aside0.mk (Kd.R_lower (Kd.R_new' (Kd.R_new' ho0 (Kd.R_lt (by (with_reducible repeat (fail)); exact HO282.out))) (Kd.R_lt (by (with_reducible repeat (fail)); exact HO285.out))) (below_size (by repeat ((with_reducible exact HB.out))))); have n3_ := Aside0.mk (Kd.R_lower (Kd.R_new' (Kd.R_new' ho1 (Kd.R_lt (by (with_reducible repeat (fail)); exact HO282.out))) (Kd.R_lt (by (with_reducible repeat (fail)); exact HO285.out))) (below_size (by repeat ((with_reducible exact HB.out))))); have n4_ := Aside0.mk (blk_below (g := gb279) (o := .cells #[.bool false, .slice none 0 0, .slice none 0 0] 46 (0, 0)) (by (with_reducible repeat (fail)); exact BK279.out) hb); have n5_ := Aside0.mk (below_step (by repeat ((with_reducible exact HB.out))) hb); clear HO282; clear HO285; clear BK279; clear HB; have HO282 := n0_; have HO285 := n1_; have HO289 := n2_; have HO292 := n3_; have BK279 := n4_; have HB := n5_; clear n0_ n1_ n2_ n3_ n4_ n5_; (try clear hb); (try clear ho0); (try clear ho1); have hcz15_0 : w14.cell? ⟨gb279, 0, none⟩ = some (.bool false) := (blk_cell BK279.out 0).trans rfl; have hcz15_1 : w14.cell? ⟨gb279, 1, none⟩ = some (.slice none 0 0) := (blk_cell BK279.out 1).trans rfl; have hcz15_2 : w14.cell? ⟨gb279, 2, none⟩ = some (.slice none 0 0) := (blk_cell BK279.out 2).trans rfl; have hfz15_0 := blk_frozen BK279.out 0; have hfz15_1 := blk_frozen BK279.out 1; have hfz15_2 := blk_frozen BK279.out 2; obtain ⟨Ao16, co16, eo16⟩ := Kd.R_slice HO289.out; subst eo16; obtain ⟨Ao17, co17, eo17⟩ := Kd.R_slice HO292.out; subst eo17))
  refine bodyPost_ret (results_ct rfl _ _ gb279 46 #[.bool t286, .slice Ao16 t287.length co16, .slice Ao17 t290.length co17] (0, 0) _ rfl (by (with_reducible repeat (fail)); refine blk_put (cs := #[.bool t286, .slice Ao16 t287.length co16, .slice none 0 0]) ?_ 2 _ rfl; (with_reducible repeat (fail)); refine blk_put (cs := #[.bool t286, .slice none 0 0, .slice none 0 0]) ?_ 1 _ rfl; (with_reducible repeat (fail)); refine blk_put (cs := #[.bool false, .slice none 0 0, .slice none 0 0]) ?_ 0 _ rfl; (with_reducible repeat (fail)); exact BK279.out) Try.underlying46 rfl (by kernel_rfl)) rfl ?_
  exact ⟨_, _, by rfl, by (with_reducible repeat (fail)); exact Kd.R_mono (Kd.R_far (p := ⟨gb279, 2, none⟩) (Kd.R_far (p := ⟨gb279, 1, none⟩) (Kd.R_far (p := ⟨gb279, 0, none⟩) (Kd.R_types HO289.out BK279.out (by decide)) (fun _ hk => hk.2) (.bool t286)) (fun _ hk => hk.2) (.slice Ao16 t287.length co16)) (fun _ hk => hk.2) (.slice Ao17 t290.length co17)) (fun _ hk => hk.1.1.1), by (with_reducible repeat (fail)); exact Kd.R_mono (Kd.R_far (p := ⟨gb279, 2, none⟩) (Kd.R_far (p := ⟨gb279, 1, none⟩) (Kd.R_far (p := ⟨gb279, 0, none⟩) (Kd.R_types HO292.out BK279.out (by decide)) (fun _ hk => hk.2) (.bool t286)) (fun _ hk => hk.2) (.slice Ao16 t287.length co16)) (fun _ hk => hk.2) (.slice Ao17 t290.length co17)) (fun _ hk => hk.1.1.1), by repeat ((with_reducible first | exact HB.out | refine below_set ?_ GE279.out))⟩
end Go.Proofs.Ythheakfgmombdaa.F
end
section
namespace Go.Proofs.Ythheakfgmombdaa.F
open Go.RowKit Go.Proofs.YthheakfgmombdaaX.PrintWords Go.Proofs.YthheakfgmombdaaX.PrintLast Go.Proofs.YthheakfgmombdaaX.PrintMore
attribute [local go_sem] max2_int min2_int max_two min_two max_three min_three max_four min_four   -- for this text's walks alone
set_option linter.unusedVariables false
set_option linter.unusedSimpArgs false
set_option maxHeartbeats 8000000 in
set_option maxRecDepth 100000 in
theorem delsarte_Distances.calls (k : Nat) (a0 : Int) (A1 : Option Addr) (c1 : Nat) (l1 : List (List Int)) (r1 : List (S46)) (r2 : Int) (w : World) (hr1 : Kd.C (Kd.slice 3 (Kd.int .i64)) w A1 l1.length l1) (hc1 : l1.length ≤ c1) (h : delsarte_Distances.f k a0 l1 = some (r1, r2)) :
  Calls Try.prog 25 #[.int .i64 a0, .slice A1 l1.length c1] w fun e w' => ∃ v0_ : Value, e = .returned (.tuple #[v0_, .int .i64 r2]) ∧ Kd.S k46 46 w' w.heap.size (fun _ => True) v0_ r1 ∧ Below w.heap.size w w' := by
 have hu46 := Try.underlying46
 have HR1 := Aside0.mk hr1
 have HC1 := Aside0.mk hc1
 clear hr1 hc1
 have HB := Aside0.mk (Below.refl w.heap.size w)
 have H : (if a0 < 2 then (delsarte_Distances.j0 k a0 l1 true) else (delsarte_Distances.j0 k a0 l1 (decide (a0 > 256)))) = some (r1, r2) := h
 clear h
 have HC3 := Aside0.mk H
 clear H
 go_enter Try.func25, Try.ntmps25
 go_upto_region 1 with (fail)
 repeat (go_quiet (fail); go_upto_region 1 with (fail))
 go_cut [23] (fun v23 wc => ∃ (kq : Nat) (x23_2 : Bool), v23 = .bool x23_2 ∧ Aside0 (delsarte_Distances.j0 kq a0 l1 x23_2 = some (r1, r2)) ∧ Aside0 (kq ≤ k) ∧ Aside0 (Below w.heap.size w wc))
 case first =>
  have H := HC3.out
  clear HC3
  by_cases c4 : a0 < 2
  ·rw [if_pos c4] at H
   have c4b0 : decide (a0 < 2) = true := decide_eq_true c4
   clear c4
   (skip)
   have H' := Aside0.mk H
   clear H
   go_wp2
   repeat (go_quiet (fail); try go_wp2)
   go_meet
   case rel => exact ⟨_, (true), (by rfl), H', ⟨by omega⟩, ⟨by repeat ((with_reducible exact HB.out))⟩⟩
  ·rw [if_neg c4] at H
   have c4b0 : decide (a0 < 2) = false := decide_eq_false c4
   clear c4
   (skip)
   have H' := Aside0.mk H
   clear H
   go_wp2
   repeat (go_quiet (fail); try go_wp2)
   go_meet
   case rel => exact ⟨_, (decide (a0 > 256)), (by rfl), H', ⟨by omega⟩, ⟨by repeat ((with_reducible exact HB.out))⟩⟩
 case rest =>
  clear HC3
  obtain ⟨kq, x23_2, rfl, HA, HJ2, HB⟩ := hcut
  cases kq with
  | zero => exact absurd HA.out (by simp [delsarte_Distances.j0])
  | succ kj2 =>
   have H := HA.out
   clear HA
   simp only [delsarte_Distances.j0] at H
   by_cases c5 : x23_2 = true
   ·subst c5
    have H1 : (some (([] : List (S46)), 6)) = some (r1, r2) := by rw [if_pos rfl] at H; exact H
    clear H
    have H := H1
    clear H1
    simp only [Option.some.injEq, Prod.mk.injEq] at H
    obtain ⟨rfl, rfl⟩ := H
    go_wp2
    repeat (go_quiet (fail); try go_wp2)
    go_ret2
    exact ⟨_, by rfl, by exact Kd.S_nil _ _ _ _ _, by repeat ((with_reducible exact HB.out))⟩
   ·replace c5 := Bool.eq_false_iff.mpr c5
    subst c5
    have H1 : (if (l1.length : Int) = 0 then (some (([] : List (S46)), 11)) else (if 0 < (l1.length : Int) then (if ((rd_LI l1 0).length : Int) < 1 then (some (([] : List (S46)), 4)) else (if ((rd_LI l1 0).length : Int) > 64 then (some (([] : List (S46)), 4)) else (delsarte_Distances.l0 kj2 a0 l1 ((rd_LI l1 0).length : Int) l1 (l1.length : Int) 0))) else (none))) = some (r1, r2) := by rw [if_neg (show ¬ (false = true) by decide)] at H; exact H
    clear H
    have H := H1
    clear H1
    by_cases c6 : (l1.length : Int) = 0
    ·rw [if_pos c6] at H
     have c6b0 : ((l1.length : Int) == 0) = true := beq_iff_eq.mpr c6
     have c6b1 : ((l1.length : Int) != 0) = false := bne_eq_false_iff_eq.mpr c6
     clear c6
     simp only [Option.some.injEq, Prod.mk.injEq] at H
     obtain ⟨rfl, rfl⟩ := H
     go_wp2
     repeat (go_quiet (fail); try go_wp2)
     go_ret2
     exact ⟨_, by rfl, by exact Kd.S_nil _ _ _ _ _, by repeat ((with_reducible exact HB.out))⟩
    ·rw [if_neg c6] at H
     have c6b0 : ((l1.length : Int) == 0) = false := beq_eq_false_iff_ne.mpr c6
     have c6b1 : ((l1.length : Int) != 0) = true := bne_iff_ne.mpr c6
     have c6b2 : ¬ (l1 = []) := fun h_ => c6 (by rw [h_]; rfl)
     by_cases c7 : 0 < (l1.length : Int)
     ·rw [if_pos c7] at H
      have c7b0 : decide (0 < (l1.length : Int)) = true := decide_eq_true c7
      have c7b1 : decide (0 < l1.length) = true := decide_eq_true (by omega)
      clear c7
      by_cases c8 : ((rd_LI l1 0).length : Int) < 1
      ·rw [if_pos c8] at H
       have c8b0 : decide (((rd_LI l1 0).length : Int) < 1) = true := decide_eq_true c8
       have c8b1 : decide ((rd_LI l1 0).length < 1) = true := decide_eq_true (by omega)
       clear c8
       simp only [Option.some.injEq, Prod.mk.injEq] at H
       obtain ⟨rfl, rfl⟩ := H
       have p293 : 0 ≤ (0 : Int) := (by omega)
       have q293 : 0 < (l1.length : Int) := of_decide_eq_true (by (with_reducible assumption))
       obtain ⟨ad293, A293_0, c293_0, e293, hx293_0, hl293_0, hi293_0⟩ := at_LI HR1.out 0 p293 q293
       cases e293
       have qi293 : (0 < l1.length) = True := eq_true (by omega)
       (try rw [show ((0 : Int)).toNat = 0 from rfl] at hx293_0)
       (try rw [Addr.add_zero'] at hx293_0)
       replace hx293_0 := (HB.out.cell (World.block_lt_of_cell? w _ hx293_0)).trans hx293_0
       have HR293_0 := Aside0.mk hi293_0
       have HC293_0 := Aside0.mk hl293_0
       clear hi293_0 hl293_0
       replace p293 := eq_true p293
       replace q293 := eq_true q293
       go_wp2
       repeat (go_quiet (fail); try go_wp2)
       go_ret2
       exact ⟨_, by rfl, by exact Kd.S_nil _ _ _ _ _, by repeat ((with_reducible exact HB.out))⟩
      ·rw [if_neg c8] at H
       have c8b0 : decide (((rd_LI l1 0).length : Int) < 1) = false := decide_eq_false c8
       have c8b1 : decide ((rd_LI l1 0).length < 1) = false := decide_eq_false (by omega)
       clear c8
       by_cases c9 : ((rd_LI l1 0).length : Int) > 64
       ·rw [if_pos c9] at H
        have c9b0 : decide (64 < ((rd_LI l1 0).length : Int)) = true := decide_eq_true c9
        have c9b1 : decide (64 < (rd_LI l1 0).length) = true := decide_eq_true (by omega)
        clear c9
        simp only [Option.some.injEq, Prod.mk.injEq] at H
        obtain ⟨rfl, rfl⟩ := H
        have p293 : 0 ≤ (0 : Int) := (by omega)
        have q293 : 0 < (l1.length : Int) := of_decide_eq_true (by (with_reducible assumption))
        obtain ⟨ad293, A293_0, c293_0, e293, hx293_0, hl293_0, hi293_0⟩ := at_LI HR1.out 0 p293 q293
        cases e293
        have qi293 : (0 < l1.length) = True := eq_true (by omega)
        (try rw [show ((0 : Int)).toNat = 0 from rfl] at hx293_0)
        (try rw [Addr.add_zero'] at hx293_0)
        replace hx293_0 := (HB.out.cell (World.block_lt_of_cell? w _ hx293_0)).trans hx293_0
        have HR293_0 := Aside0.mk hi293_0
        have HC293_0 := Aside0.mk hl293_0
        clear hi293_0 hl293_0
        replace p293 := eq_true p293
        replace q293 := eq_true q293
        have p294 : 0 ≤ (0 : Int) := (by omega)
        have q294 : 0 < (l1.length : Int) := of_decide_eq_true (by (with_reducible assumption))
        obtain ⟨ad294, A294_0, c294_0, e294, hx294_0, hl294_0, hi294_0⟩ := at_LI HR1.out 0 p294 q294
        obtain rfl : ad293 = ad294 := (by injection e294)
        have qi294 : (0 < l1.length) = True := eq_true (by omega)
        (try rw [show ((0 : Int)).toNat = 0 from rfl] at hx294_0)
        (try rw [Addr.add_zero'] at hx294_0)
        replace hx294_0 := (HB.out.cell (World.block_lt_of_cell? w _ hx294_0)).trans hx294_0
        have HR294_0 := Aside0.mk hi294_0
        have HC294_0 := Aside0.mk hl294_0
        clear hi294_0 hl294_0
        replace p294 := eq_true p294
        replace q294 := eq_true q294
        have ea_ := Option.some.inj (hx293_0.symm.trans hx294_0)
        injection ea_ with ea_ en_ ec_
        subst ea_
        subst ec_
        clear en_
        go_wp2
        repeat (go_quiet (fail); try go_wp2)
        go_ret2
        exact ⟨_, by rfl, by exact Kd.S_nil _ _ _ _ _, by repeat ((with_reducible exact HB.out))⟩
       ·rw [if_neg c9] at H
        have c9b0 : decide (64 < ((rd_LI l1 0).length : Int)) = false := decide_eq_false c9
        have c9b1 : decide (64 < (rd_LI l1 0).length) = false := decide_eq_false (by omega)
        clear c9
        have H' := Aside0.mk H
        clear H
        have p293 : 0 ≤ (0 : Int) := (by omega)
        have q293 : 0 < (l1.length : Int) := of_decide_eq_true (by (with_reducible assumption))
        obtain ⟨ad293, A293_0, c293_0, e293, hx293_0, hl293_0, hi293_0⟩ := at_LI HR1.out 0 p293 q293
        cases e293
        have qi293 : (0 < l1.length) = True := eq_true (by omega)
        (try rw [show ((0 : Int)).toNat = 0 from rfl] at hx293_0)
        (try rw [Addr.add_zero'] at hx293_0)
        replace hx293_0 := (HB.out.cell (World.block_lt_of_cell? w _ hx293_0)).trans hx293_0
        have HR293_0 := Aside0.mk hi293_0
        have HC293_0 := Aside0.mk hl293_0
        clear hi293_0 hl293_0
        replace p293 := eq_true p293
        replace q293 := eq_true q293
        have p294 : 0 ≤ (0 : Int) := (by omega)
        have q294 : 0 < (l1.length : Int) := of_decide_eq_true (by (with_reducible assumption))
        obtain ⟨ad294, A294_0, c294_0, e294, hx294_0, hl294_0, hi294_0⟩ := at_LI HR1.out 0 p294 q294
        obtain rfl : ad293 = ad294 := (by injection e294)
        have qi294 : (0 < l1.length) = True := eq_true (by omega)
        (try rw [show ((0 : Int)).toNat = 0 from rfl] at hx294_0)
        (try rw [Addr.add_zero'] at hx294_0)
        replace hx294_0 := (HB.out.cell (World.block_lt_of_cell? w _ hx294_0)).trans hx294_0
        have HR294_0 := Aside0.mk hi294_0
        have HC294_0 := Aside0.mk hl294_0
        clear hi294_0 hl294_0
        replace p294 := eq_true p294
        replace q294 := eq_true q294
        have ea_ := Option.some.inj (hx293_0.symm.trans hx294_0)
        injection ea_ with ea_ en_ ec_
        subst ea_
        subst ec_
        clear en_
        have p295 : 0 ≤ (0 : Int) := (by omega)
        have q295 : 0 < (l1.length : Int) := of_decide_eq_true (by (with_reducible assumption))
        obtain ⟨ad295, A295_0, c295_0, e295, hx295_0, hl295_0, hi295_0⟩ := at_LI HR1.out 0 p295 q295
        obtain rfl : ad293 = ad295 := (by injection e295)
        have qi295 : (0 < l1.length) = True := eq_true (by omega)
        (try rw [show ((0 : Int)).toNat = 0 from rfl] at hx295_0)
        (try rw [Addr.add_zero'] at hx295_0)
        replace hx295_0 := (HB.out.cell (World.block_lt_of_cell? w _ hx295_0)).trans hx295_0
        have HR295_0 := Aside0.mk hi295_0
        have HC295_0 := Aside0.mk hl295_0
        clear hi295_0 hl295_0
        replace p295 := eq_true p295
        replace q295 := eq_true q295
        have ea_ := Option.some.inj (hx293_0.symm.trans hx295_0)
        injection ea_ with ea_ en_ ec_
        subst ea_
        subst ec_
        clear en_
        go_wp2
        repeat (go_quiet (fail); try go_wp2)
        go_loopg [53] kj2 (fun kq v53 w' => ∃ (x53_2 : Int), v53 = .int .i64 x53_2 ∧ Aside0 (delsarte_Distances.l0 kq a0 l1 ((rd_LI l1 0).length : Int) l1 (l1.length : Int) x53_2 = some (r1, r2)) ∧ Aside0 (kq ≤ kj2) ∧ Aside0 (Below w.heap.size w w'))
        case atStart => exact ⟨(0), (by rfl), H', ⟨Nat.le_refl _⟩, ⟨by repeat ((with_reducible exact HB.out))⟩⟩
        case round =>
         clear H'
         try clear c6
         try clear c6b0
         try clear c6b1
         try clear c6b2
         try clear c7b0
         try clear c7b1
         try clear c8b0
         try clear c8b1
         try clear c9b0
         try clear c9b1
         try clear hx293_0
         try clear hx294_0
         try clear hx295_0
         try clear p293
         try clear p294
         try clear p295
         try clear q293
         try clear q294
         try clear q295
         obtain ⟨x53_2, rfl, HA, HK2, HB⟩ := hrel
         cases gk with
         | zero => exact absurd HA.out (by simp [delsarte_Distances.l0])
         | succ k2 =>
          have H := HA.out
          clear HA
          simp only [delsarte_Distances.l0] at H
          by_cases c10 : x53_2 < (l1.length : Int)
          ·rw [if_pos c10] at H
           have c10b0 : decide (x53_2 < (l1.length : Int)) = true := decide_eq_true c10
           clear c10
           by_cases c11 : 0 ≤ x53_2
           ·rw [if_pos c11] at H
            have c11b0 : decide (0 ≤ x53_2) = true := decide_eq_true c11
            clear c11
            by_cases c12 : x53_2 < (l1.length : Int)
            ·rw [if_pos c12] at H
             have c12b0 : decide (x53_2 < (l1.length : Int)) = true := decide_eq_true c12
             clear c12
             by_cases c13 : ((rd_LI l1 x53_2).length : Int) = ((rd_LI l1 0).length : Int)
             ·rw [if_pos c13] at H
              have c13b0 : (((rd_LI l1 x53_2).length : Int) == ((rd_LI l1 0).length : Int)) = true := beq_iff_eq.mpr c13
              have c13b1 : (((rd_LI l1 x53_2).length : Int) != ((rd_LI l1 0).length : Int)) = false := bne_eq_false_iff_eq.mpr c13
              have c13b2 : ((rd_LI l1 x53_2).length == (rd_LI l1 0).length) = true := by (simp at c13 ⊢; omega)
              clear c13
              have H' := Aside0.mk H
              clear H
              have p296 : 0 ≤ (x53_2 : Int) := of_decide_eq_true (by (with_reducible assumption))
              have q296 : x53_2 < (l1.length : Int) := of_decide_eq_true (by (with_reducible assumption))
              obtain ⟨ad296, A296_0, c296_0, e296, hx296_0, hl296_0, hi296_0⟩ := at_LI HR1.out x53_2 p296 q296
              obtain rfl : ad293 = ad296 := (by injection e296)
              replace hx296_0 := (HB.out.cell (World.block_lt_of_cell? w _ hx296_0)).trans hx296_0
              have HR296_0 := Aside0.mk hi296_0
              have HC296_0 := Aside0.mk hl296_0
              clear hi296_0 hl296_0
              replace p296 := eq_true p296
              replace q296 := eq_true q296
              go_wp2
              repeat (go_quiet (fail); try go_wp2)
              go_loopg [63] k2 (fun kq v63 w' => ∃ (x63_3 : Int), v63 = .int .i64 x63_3 ∧ Aside0 (delsarte_Distances.l1 kq a0 l1 ((rd_LI l1 0).length : Int) l1 (l1.length : Int) x53_2 (rd_LI l1 x53_2) ((rd_LI l1 x53_2).length : Int) x63_3 = some (r1, r2)) ∧ Aside0 (kq ≤ k2) ∧ Aside0 (Below w.heap.size w w'))
              case atStart => exact ⟨(0), (by rfl), H', ⟨Nat.le_refl _⟩, ⟨by repeat ((with_reducible exact HB.out))⟩⟩
              case round =>
               clear H'
               try clear c10b0
               try clear c11b0
               try clear c12b0
               try clear c13b0
               try clear c13b1
               try clear c13b2
               try clear hx296_0
               try clear p296
               try clear q296
               obtain ⟨x63_3, rfl, HA, HK3, HB⟩ := hrel
               cases gk with
               | zero => exact absurd HA.out (by simp [delsarte_Distances.l1])
               | succ k3 =>
                have H := HA.out
                clear HA
                simp only [delsarte_Distances.l1] at H
                by_cases c14 : x63_3 < ((rd_LI l1 x53_2).length : Int)
                ·rw [if_pos c14] at H
                 have c14b0 : decide (x63_3 < ((rd_LI l1 x53_2).length : Int)) = true := decide_eq_true c14
                 clear c14
                 by_cases c15 : 0 ≤ x63_3
                 ·rw [if_pos c15] at H
                  have c15b0 : decide (0 ≤ x63_3) = true := decide_eq_true c15
                  clear c15
                  by_cases c16 : x63_3 < ((rd_LI l1 x53_2).length : Int)
                  ·rw [if_pos c16] at H
                   have c16b0 : decide (x63_3 < ((rd_LI l1 x53_2).length : Int)) = true := decide_eq_true c16
                   clear c16
                   by_cases c17 : (rd (rd_LI l1 x53_2) x63_3) < 0
                   ·rw [if_pos c17] at H
                    have c17b0 : decide ((rd (rd_LI l1 x53_2) x63_3) < 0) = true := decide_eq_true c17
                    clear c17
                    simp only [Option.some.injEq, Prod.mk.injEq] at H
                    obtain ⟨rfl, rfl⟩ := H
                    have p297 : 0 ≤ (x63_3 : Int) := of_decide_eq_true (by (with_reducible assumption))
                    have q297 : x63_3 < ((rd_LI l1 x53_2).length : Int) := of_decide_eq_true (by (with_reducible assumption))
                    obtain ⟨ad297, e297, hx297_0⟩ := Kd.at_int HR296_0.out x63_3 p297 q297
                    cases e297
                    replace hx297_0 := (HB.out.cell (World.block_lt_of_cell? w _ hx297_0)).trans hx297_0
                    replace p297 := eq_true p297
                    replace q297 := eq_true q297
                    go_wp2
                    repeat (go_quiet (fail); try go_wp2)
                    go_ret2
                    exact ⟨_, by rfl, by exact Kd.S_nil _ _ _ _ _, by repeat ((with_reducible exact HB.out))⟩
                   ·rw [if_neg c17] at H
                    have c17b0 : decide ((rd (rd_LI l1 x53_2) x63_3) < 0) = false := decide_eq_false c17
                    clear c17
                    by_cases c18 : (rd (rd_LI l1 x53_2) x63_3) ≥ a0
                    ·rw [if_pos c18] at H
                     have c18b0 : decide (a0 ≤ (rd (rd_LI l1 x53_2) x63_3)) = true := decide_eq_true c18
                     clear c18
                     simp only [Option.some.injEq, Prod.mk.injEq] at H
                     obtain ⟨rfl, rfl⟩ := H
                     have p297 : 0 ≤ (x63_3 : Int) := of_decide_eq_true (by (with_reducible assumption))
                     have q297 : x63_3 < ((rd_LI l1 x53_2).length : Int) := of_decide_eq_true (by (with_reducible assumption))
                     obtain ⟨ad297, e297, hx297_0⟩ := Kd.at_int HR296_0.out x63_3 p297 q297
                     cases e297
                     replace hx297_0 := (HB.out.cell (World.block_lt_of_cell? w _ hx297_0)).trans hx297_0
                     replace p297 := eq_true p297
                     replace q297 := eq_true q297
                     go_wp2
                     repeat (go_quiet (fail); try go_wp2)
                     go_ret2
                     exact ⟨_, by rfl, by exact Kd.S_nil _ _ _ _ _, by repeat ((with_reducible exact HB.out))⟩
                    ·rw [if_neg c18] at H
                     have c18b0 : decide (a0 ≤ (rd (rd_LI l1 x53_2) x63_3)) = false := decide_eq_false c18
                     clear c18
                     have H' := Aside0.mk H
                     clear H
                     have p297 : 0 ≤ (x63_3 : Int) := of_decide_eq_true (by (with_reducible assumption))
                     have q297 : x63_3 < ((rd_LI l1 x53_2).length : Int) := of_decide_eq_true (by (with_reducible assumption))
                     obtain ⟨ad297, e297, hx297_0⟩ := Kd.at_int HR296_0.out x63_3 p297 q297
                     cases e297
                     replace hx297_0 := (HB.out.cell (World.block_lt_of_cell? w _ hx297_0)).trans hx297_0
                     replace p297 := eq_true p297
                     replace q297 := eq_true q297
                     go_wp2
                     repeat (go_quiet (fail); try go_wp2)
                     go_roundg k3
                     case measure => have := HJ2.out; have := HK2.out; have := HK3.out; omega
                     case rel => exact ⟨(wrap64 (x63_3 + 1)), (by rfl), H', ⟨by have := HJ2.out; have := HK2.out; have := HK3.out; omega⟩, ⟨by repeat ((with_reducible exact HB.out))⟩⟩
                  ·rw [if_neg c16] at H
                   exact absurd H (by simp)
                 ·rw [if_neg c15] at H
                  exact absurd H (by simp)
                ·rw [if_neg c14] at H
                 have c14b0 : decide (x63_3 < ((rd_LI l1 x53_2).length : Int)) = false := decide_eq_false c14
                 clear c14
                 have H' := Aside0.mk H
                 clear H
                 go_wp2
                 repeat (go_quiet (fail); try go_wp2)
                 go_roundg k3
                 case measure => have := HJ2.out; have := HK2.out; have := HK3.out; omega
                 case rel => exact ⟨(wrap64 (x53_2 + 1)), (by rfl), H', ⟨by have := HJ2.out; have := HK2.out; have := HK3.out; omega⟩, ⟨by repeat ((with_reducible exact HB.out))⟩⟩
             ·rw [if_neg c13] at H
              have c13b0 : (((rd_LI l1 x53_2).length : Int) == ((rd_LI l1 0).length : Int)) = false := beq_eq_false_iff_ne.mpr c13
              have c13b1 : (((rd_LI l1 x53_2).length : Int) != ((rd_LI l1 0).length : Int)) = true := bne_iff_ne.mpr c13
              have c13b2 : ((rd_LI l1 x53_2).length == (rd_LI l1 0).length) = false := by (simp at c13 ⊢; omega)
              simp only [Option.some.injEq, Prod.mk.injEq] at H
              obtain ⟨rfl, rfl⟩ := H
              have p296 : 0 ≤ (x53_2 : Int) := of_decide_eq_true (by (with_reducible assumption))
              have q296 : x53_2 < (l1.length : Int) := of_decide_eq_true (by (with_reducible assumption))
              obtain ⟨ad296, A296_0, c296_0, e296, hx296_0, hl296_0, hi296_0⟩ := at_LI HR1.out x53_2 p296 q296
              obtain rfl : ad293 = ad296 := (by injection e296)
              replace hx296_0 := (HB.out.cell (World.block_lt_of_cell? w _ hx296_0)).trans hx296_0
              have HR296_0 := Aside0.mk hi296_0
              have HC296_0 := Aside0.mk hl296_0
              clear hi296_0 hl296_0
              replace p296 := eq_true p296
              replace q296 := eq_true q296
              go_wp2
              repeat (go_quiet (fail); try go_wp2)
              go_ret2
              exact ⟨_, by rfl, by exact Kd.S_nil _ _ _ _ _, by repeat ((with_reducible exact HB.out))⟩
            ·rw [if_neg c12] at H
             exact absurd H (by simp)
           ·rw [if_neg c11] at H
            exact absurd H (by simp)
          ·rw [if_neg c10] at H
           have c10b0 : decide (x53_2 < (l1.length : Int)) = false := decide_eq_false c10
           clear c10
           obtain ⟨ji19, hji19⟩ : ∃ j_ : Int, (wrap64 (((rd_LI l1 0).length : Int) + 1)) = j_ := ⟨_, rfl⟩
           replace H : (if 0 ≤ (ji19) then (if (ji19 : Int).toNat ≤ 35184372088832 then (delsarte_Distances.l2 k2 l1 (List.replicate (ji19 : Int).toNat 0) l1 (l1.length : Int) 0) else (none)) else (none)) = some (r1, r2) := by (rw [hji19] at H; exact H)
           have hji19w : (IntKind.i64.wrap (((rd_LI l1 0).length : Int) + 1)) = ji19 := (i64_w _).trans hji19
           by_cases c20 : 0 ≤ (ji19)
           ·rw [if_pos c20] at H
            have c20b0 := eq_true c20
            have c20b1 : decide (0 ≤ (ji19)) = true := decide_eq_true c20
            clear c20
            by_cases c21 : (ji19 : Int).toNat ≤ 35184372088832
            ·rw [if_pos c21] at H
             have c21b0 := eq_true c21
             have c21b1 : decide ((ji19 : Int).toNat ≤ 35184372088832) = true := decide_eq_true c21
             clear c21
             obtain ⟨y298, hy298⟩ : ∃ y_ : List Int, y_ = (List.replicate (ji19 : Int).toNat 0) := ⟨_, rfl⟩
             replace H : (delsarte_Distances.l2 k2 l1 y298 l1 (l1.length : Int) 0) = some (r1, r2) := by (rw [hy298]; with_reducible exact H)
             have Ny298 := Aside0.mk hy298
             clear hy298
             have H' := Aside0.mk H
             clear H
             go_wp2_with (((with_reducible refine gate_dst (N := 78) rfl ?_); (try (refine gate_guard (by rfl) ?_; dsimp only)); refine Kd.R_make (Kd.int .i64) _ 3 rfl (N := 78) rfl 41 _ _ rfl ji19 rfl rfl Try.underlying41 (.int .i64 0) 8 info3 rfl (by decide) (by omega) 0 (ok := fun _ => True) (okp := fun _ => True) rfl (fun _ hk => hk) trivial (of_decide_eq_true (by (with_reducible assumption))) (Nat.le_trans (Nat.mul_le_mul_right _ (of_decide_eq_true (by (with_reducible assumption)) : ji19.toNat ≤ 35184372088832)) (by omega)) (Below.refl _ _) (Nat.le_refl _) ?_; intro v299 w22 ho23 hb hg_ hnew_; clear hg_ hnew_; (rw [← Ny298.out] at ho23); have n0_ := Aside0.mk (Kd.R_lower ho23 (below_size (by repeat ((with_reducible exact HB.out))))); have n1_ := Aside0.mk (below_step (by repeat ((with_reducible exact HB.out))) hb); clear HB; have HO300 := n0_; have HB := n1_; clear n0_ n1_; clear hb ho23))
             repeat (go_quiet (fail); try go_wp2_with (fail))
             go_loopg [81] k2 (fun kq v81 w' => ∃ (x11_3 : List Int) (x81_3 : Int), v81 = .int .i64 x81_3 ∧ Aside0 (delsarte_Distances.l2 kq l1 x11_3 l1 (l1.length : Int) x81_3 = some (r1, r2)) ∧ Aside0 (kq ≤ k2) ∧ Aside0 (Kd.R (Kd.int .i64) 3 w' w.heap.size (fun _ => True) v299 x11_3) ∧ Aside0 (Below w.heap.size w w'))
             case atStart => exact ⟨(y298), (0), (by rfl), H', ⟨Nat.le_refl _⟩, ⟨by (with_reducible repeat (fail)); exact HO300.out⟩, ⟨by repeat ((with_reducible exact HB.out))⟩⟩
             case round =>
              clear H'
              try clear c10b0
              try clear c20b0
              try clear c20b1
              try clear c21b0
              try clear c21b1
              obtain ⟨x11_3, x81_3, rfl, HA, HK3, HO_11, HB⟩ := hrel
              cases gk with
              | zero => exact absurd HA.out (by simp [delsarte_Distances.l2])
              | succ k3 =>
               have H := HA.out
               clear HA
               simp only [delsarte_Distances.l2] at H
               by_cases c24 : x81_3 < (l1.length : Int)
               ·rw [if_pos c24] at H
                have c24b0 : decide (x81_3 < (l1.length : Int)) = true := decide_eq_true c24
                clear c24
                by_cases c25 : 0 ≤ x81_3
                ·rw [if_pos c25] at H
                 have c25b0 : decide (0 ≤ x81_3) = true := decide_eq_true c25
                 clear c25
                 by_cases c26 : x81_3 < (l1.length : Int)
                 ·rw [if_pos c26] at H
                  have c26b0 : decide (x81_3 < (l1.length : Int)) = true := decide_eq_true c26
                  clear c26
                  have H' := Aside0.mk H
                  clear H
                  have p301 : 0 ≤ (x81_3 : Int) := of_decide_eq_true (by (with_reducible assumption))
                  have q301 : x81_3 < (l1.length : Int) := of_decide_eq_true (by (with_reducible assumption))
                  obtain ⟨ad301, A301_0, c301_0, e301, hx301_0, hl301_0, hi301_0⟩ := at_LI HR1.out x81_3 p301 q301
                  obtain rfl : ad293 = ad301 := (by injection e301)
                  replace hx301_0 := (HB.out.cell (World.block_lt_of_cell? w _ hx301_0)).trans hx301_0
                  have HR301_0 := Aside0.mk hi301_0
                  have HC301_0 := Aside0.mk hl301_0
                  clear hi301_0 hl301_0
                  replace p301 := eq_true p301
                  replace q301 := eq_true q301
                  go_wp2
                  repeat (go_quiet (fail); try go_wp2)
                  go_loopg [87] k3 (fun kq v87 w' => ∃ (x11_4 : List Int) (x87_4 : Int), v87 = .int .i64 x87_4 ∧ Aside0 (delsarte_Distances.l3 kq l1 x11_4 (rd_LI l1 x81_3) l1 (l1.length : Int) x81_3 l1 (l1.length : Int) x87_4 = some (r1, r2)) ∧ Aside0 (kq ≤ k3) ∧ Aside0 (Kd.R (Kd.int .i64) 3 w' w.heap.size (fun _ => True) v299 x11_4) ∧ Aside0 (Below w.heap.size w w'))
                  case atStart => exact ⟨(x11_3), (0), (by rfl), H', ⟨Nat.le_refl _⟩, ⟨by (with_reducible repeat (fail)); exact HO_11.out⟩, ⟨by repeat ((with_reducible exact HB.out))⟩⟩
                  case round =>
                   clear H'
                   try clear c24b0
                   try clear c25b0
                   try clear c26b0
                   try clear hx301_0
                   try clear p301
                   try clear q301
                   obtain ⟨x11_4, x87_4, rfl, HA, HK4, HO_11, HB⟩ := hrel
                   cases gk with
                   | zero => exact absurd HA.out (by simp [delsarte_Distances.l3])
                   | succ k4 =>
                    have H := HA.out
                    clear HA
                    simp only [delsarte_Distances.l3] at H
                    by_cases c27 : x87_4 < (l1.length : Int)
                    ·rw [if_pos c27] at H
                     have c27b0 : decide (x87_4 < (l1.length : Int)) = true := decide_eq_true c27
                     clear c27
                     by_cases c28 : 0 ≤ x87_4
                     ·rw [if_pos c28] at H
                      have c28b0 : decide (0 ≤ x87_4) = true := decide_eq_true c28
                      clear c28
                      by_cases c29 : x87_4 < (l1.length : Int)
                      ·rw [if_pos c29] at H
                       have c29b0 : decide (x87_4 < (l1.length : Int)) = true := decide_eq_true c29
                       clear c29
                       have H' := Aside0.mk H
                       clear H
                       have p302 : 0 ≤ (x87_4 : Int) := of_decide_eq_true (by (with_reducible assumption))
                       have q302 : x87_4 < (l1.length : Int) := of_decide_eq_true (by (with_reducible assumption))
                       obtain ⟨ad302, A302_0, c302_0, e302, hx302_0, hl302_0, hi302_0⟩ := at_LI HR1.out x87_4 p302 q302
                       obtain rfl : ad293 = ad302 := (by injection e302)
                       replace hx302_0 := (HB.out.cell (World.block_lt_of_cell? w _ hx302_0)).trans hx302_0
                       have HR302_0 := Aside0.mk hi302_0
                       have HC302_0 := Aside0.mk hl302_0
                       clear hi302_0 hl302_0
                       replace p302 := eq_true p302
                       replace q302 := eq_true q302
                       go_wp2
                       repeat (go_quiet (fail); try go_wp2)
                       go_loopg [16, 93] k4 (fun kq v16 v93 w' => ∃ (x16_5 : Int) (x93_5 : Int), v16 = .int .i64 x16_5 ∧ v93 = .int .i64 x93_5 ∧ Aside0 (delsarte_Distances.l4 kq l1 x11_4 (rd_LI l1 x81_3) (rd_LI l1 x87_4) x16_5 l1 (l1.length : Int) x81_3 l1 (l1.length : Int) x87_4 ((rd_LI l1 x81_3).length : Int) x93_5 = some (r1, r2)) ∧ Aside0 (kq ≤ k4) ∧ Aside0 (Kd.R (Kd.int .i64) 3 w' w.heap.size (fun _ => True) v299 x11_4) ∧ Aside0 (Below w.heap.size w w'))
                       case atStart => exact ⟨(0), (0), (by rfl), (by rfl), H', ⟨Nat.le_refl _⟩, ⟨by (with_reducible repeat (fail)); exact HO_11.out⟩, ⟨by repeat ((with_reducible exact HB.out))⟩⟩
                       case round =>
                        clear H'
                        try clear c27b0
                        try clear c28b0
                        try clear c29b0
                        try clear hx302_0
                        try clear p302
                        try clear q302
                        obtain ⟨x16_5, x93_5, rfl, rfl, HA, HK5, HO_11, HB⟩ := hrel
                        cases gk with
                        | zero => exact absurd HA.out (by simp [delsarte_Distances.l4])
                        | succ k5 =>
                         have H := HA.out
                         clear HA
                         simp only [delsarte_Distances.l4] at H
                         by_cases c30 : x93_5 < ((rd_LI l1 x81_3).length : Int)
                         ·rw [if_pos c30] at H
                          have c30b0 : decide (x93_5 < ((rd_LI l1 x81_3).length : Int)) = true := decide_eq_true c30
                          clear c30
                          by_cases c31 : 0 ≤ x93_5
                          ·rw [if_pos c31] at H
                           have c31b0 : decide (0 ≤ x93_5) = true := decide_eq_true c31
                           clear c31
                           by_cases c32 : x93_5 < ((rd_LI l1 x81_3).length : Int)
                           ·rw [if_pos c32] at H
                            have c32b0 : decide (x93_5 < ((rd_LI l1 x81_3).length : Int)) = true := decide_eq_true c32
                            clear c32
                            by_cases c33 : x93_5 < ((rd_LI l1 x87_4).length : Int)
                            ·rw [if_pos c33] at H
                             have c33b0 : decide (x93_5 < ((rd_LI l1 x87_4).length : Int)) = true := decide_eq_true c33
                             clear c33
                             by_cases c34 : (rd (rd_LI l1 x81_3) x93_5) = (rd (rd_LI l1 x87_4) x93_5)
                             ·rw [if_pos c34] at H
                              have c34b0 : ((rd (rd_LI l1 x81_3) x93_5) == (rd (rd_LI l1 x87_4) x93_5)) = true := beq_iff_eq.mpr c34
                              have c34b1 : ((rd (rd_LI l1 x81_3) x93_5) != (rd (rd_LI l1 x87_4) x93_5)) = false := bne_eq_false_iff_eq.mpr c34
                              clear c34
                              have H' := Aside0.mk H
                              clear H
                              have p305 : 0 ≤ (x93_5 : Int) := of_decide_eq_true (by (with_reducible assumption))
                              have q305 : x93_5 < ((rd_LI l1 x81_3).length : Int) := of_decide_eq_true (by (with_reducible assumption))
                              obtain ⟨ad305, e305, hx305_0⟩ := Kd.at_int HR301_0.out x93_5 p305 q305
                              cases e305
                              replace hx305_0 := (HB.out.cell (World.block_lt_of_cell? w _ hx305_0)).trans hx305_0
                              replace p305 := eq_true p305
                              replace q305 := eq_true q305
                              have p306 : 0 ≤ (x93_5 : Int) := of_decide_eq_true (by (with_reducible assumption))
                              have q306 : x93_5 < ((rd_LI l1 x87_4).length : Int) := of_decide_eq_true (by (with_reducible assumption))
                              obtain ⟨ad306, e306, hx306_0⟩ := Kd.at_int HR302_0.out x93_5 p306 q306
                              cases e306
                              replace hx306_0 := (HB.out.cell (World.block_lt_of_cell? w _ hx306_0)).trans hx306_0
                              replace p306 := eq_true p306
                              replace q306 := eq_true q306
                              go_wp2
                              repeat (go_quiet (fail); try go_wp2)
                              go_roundg k5
                              case measure => have := HJ2.out; have := HK2.out; have := HK3.out; have := HK4.out; have := HK5.out; omega
                              case rel => exact ⟨(x16_5), (wrap64 (x93_5 + 1)), (by rfl), (by rfl), H', ⟨by have := HJ2.out; have := HK2.out; have := HK3.out; have := HK4.out; have := HK5.out; omega⟩, ⟨by (with_reducible repeat (apply Kd.R_drewN)); exact HO_11.out⟩, ⟨by repeat ((with_reducible first | exact HB.out | apply pw_below_drewN))⟩⟩
                             ·rw [if_neg c34] at H
                              have c34b0 : ((rd (rd_LI l1 x81_3) x93_5) == (rd (rd_LI l1 x87_4) x93_5)) = false := beq_eq_false_iff_ne.mpr c34
                              have c34b1 : ((rd (rd_LI l1 x81_3) x93_5) != (rd (rd_LI l1 x87_4) x93_5)) = true := bne_iff_ne.mpr c34
                              have H' := Aside0.mk H
                              clear H
                              have p305 : 0 ≤ (x93_5 : Int) := of_decide_eq_true (by (with_reducible assumption))
                              have q305 : x93_5 < ((rd_LI l1 x81_3).length : Int) := of_decide_eq_true (by (with_reducible assumption))
                              obtain ⟨ad305, e305, hx305_0⟩ := Kd.at_int HR301_0.out x93_5 p305 q305
                              cases e305
                              replace hx305_0 := (HB.out.cell (World.block_lt_of_cell? w _ hx305_0)).trans hx305_0
                              replace p305 := eq_true p305
                              replace q305 := eq_true q305
                              have p306 : 0 ≤ (x93_5 : Int) := of_decide_eq_true (by (with_reducible assumption))
                              have q306 : x93_5 < ((rd_LI l1 x87_4).length : Int) := of_decide_eq_true (by (with_reducible assumption))
                              obtain ⟨ad306, e306, hx306_0⟩ := Kd.at_int HR302_0.out x93_5 p306 q306
                              cases e306
                              replace hx306_0 := (HB.out.cell (World.block_lt_of_cell? w _ hx306_0)).trans hx306_0
                              replace p306 := eq_true p306
                              replace q306 := eq_true q306
                              go_wp2
                              repeat (go_quiet (fail); try go_wp2)
                              go_roundg k5
                              case measure => have := HJ2.out; have := HK2.out; have := HK3.out; have := HK4.out; have := HK5.out; omega
                              case rel => exact ⟨(wrap64 (x16_5 + 1)), (wrap64 (x93_5 + 1)), (by rfl), (by rfl), H', ⟨by have := HJ2.out; have := HK2.out; have := HK3.out; have := HK4.out; have := HK5.out; omega⟩, ⟨by (with_reducible repeat (apply Kd.R_drewN)); exact HO_11.out⟩, ⟨by repeat ((with_reducible first | exact HB.out | apply pw_below_drewN))⟩⟩
                            ·rw [if_neg c33] at H
                             exact absurd H (by simp)
                           ·rw [if_neg c32] at H
                            exact absurd H (by simp)
                          ·rw [if_neg c31] at H
                           exact absurd H (by simp)
                         ·rw [if_neg c30] at H
                          have c30b0 : decide (x93_5 < ((rd_LI l1 x81_3).length : Int)) = false := decide_eq_false c30
                          clear c30
                          by_cases c35 : 0 ≤ x16_5
                          ·rw [if_pos c35] at H
                           have c35b0 : decide (0 ≤ x16_5) = true := decide_eq_true c35
                           clear c35
                           by_cases c36 : x16_5 < (x11_4.length : Int)
                           ·rw [if_pos c36] at H
                            have c36b0 : decide (x16_5 < (x11_4.length : Int)) = true := decide_eq_true c36
                            clear c36
                            obtain ⟨y304, hy304⟩ : ∃ y_ : List Int, y_ = (x11_4.set (x16_5 : Int).toNat (wrap64 ((rd x11_4 x16_5) + 1))) := ⟨_, rfl⟩
                            replace H : (delsarte_Distances.l3 k5 l1 y304 (rd_LI l1 x81_3) l1 (l1.length : Int) x81_3 l1 (l1.length : Int) (wrap64 (x87_4 + 1))) = some (r1, r2) := by (rw [hy304]; with_reducible exact H)
                            have Ny304 := Aside0.mk hy304
                            clear hy304
                            have H' := Aside0.mk H
                            clear H
                            obtain ⟨Ao38, co38, eo38⟩ := Kd.R_slice HO_11.out
                            subst eo38
                            have p303 : 0 ≤ (x16_5 : Int) := of_decide_eq_true (by (with_reducible assumption))
                            have q303 : x16_5 < (x11_4.length : Int) := of_decide_eq_true (by (with_reducible assumption))
                            obtain ⟨ad303, e303, hx303_0⟩ := Kd.at_int (Kd.R_reads' HO_11.out).2.2 x16_5 p303 q303
                            cases e303
                            replace p303 := eq_true p303
                            replace q303 := eq_true q303
                            have p37 : 0 ≤ (x16_5 : Int) := of_decide_eq_true (by (with_reducible assumption))
                            have q37 : (x16_5 : Int) < ((x11_4.length : Int) : Int) := of_decide_eq_true (by (with_reducible assumption))
                            obtain ⟨go37, co37, eo37, gb37, gl37, cl37, HG37⟩ := Kd.R_form HO_11.out (by omega)
                            (cases eo37)
                            have GB37 := Aside0.mk gb37
                            have GG37 := Aside0.mk HG37
                            clear gb37 gl37 HG37
                            (simp only [add_plain] at hx303_0)
                            obtain ⟨hx37_0, hf37_0⟩ := Kd.R_celln 0 HO_11.out (x16_5 : Int) p37 q37
                            replace p37 := eq_true p37
                            replace q37 := eq_true q37
                            have HP39 := Kd.R_putg HO_11.out (x16_5 : Int) (wrap64 ((rd x11_4 x16_5) + 1))
                            go_wp2_with (((with_reducible refine gate_store (t := 3) (p := 113) rfl ?_); refine store_event (t := 3) (p := 113) (v := ?vo_w40) (w1 := (wr.setCell ⟨go37, (x16_5 : Int).toNat, none⟩ (.int .i64 (wrap64 ((rd x11_4 x16_5) + 1))))) ?hg ?ho ?hn ?hr ?_; (case ho => rfl); (case hg => rfl); (case hn => rfl); (case hr => (go_simp; done)); intro w40 hw; have hg : wr.grownBy w40 (some go37) := (by rw [hw]; exact HP39.2); have hp_ : Kd.R (Kd.int .i64) 3 w40 w.heap.size (fun _ => True) (.slice (some ⟨go37, 0, none⟩) x11_4.length co38) y304 := (by rw [hw, Ny304.out]; exact HP39.1); clear HP39; have n0_ := Aside0.mk (hp_); have n1_ := Aside0.mk ((by rw [hw]; exact below_set (HB.out) GB37.out : Below w.heap.size w w40)); clear HO_11; clear HB; have HO_11 := n0_; have HB := n1_; clear n0_ n1_; clear hg hw hp_))
                            repeat (go_quiet (fail); try go_wp2_with (fail))
                            go_roundg k5
                            case measure => have := HJ2.out; have := HK2.out; have := HK3.out; have := HK4.out; have := HK5.out; omega
                            case rel => exact ⟨(y304), (wrap64 (x87_4 + 1)), (by rfl), H', ⟨by have := HJ2.out; have := HK2.out; have := HK3.out; have := HK4.out; have := HK5.out; omega⟩, ⟨by (with_reducible repeat (fail)); exact HO_11.out⟩, ⟨by repeat ((with_reducible exact HB.out))⟩⟩
                           ·rw [if_neg c36] at H
                            exact absurd H (by simp)
                          ·rw [if_neg c35] at H
                           exact absurd H (by simp)
                      ·rw [if_neg c29] at H
                       exact absurd H (by simp)
                     ·rw [if_neg c28] at H
                      exact absurd H (by simp)
                    ·rw [if_neg c27] at H
                     have c27b0 : decide (x87_4 < (l1.length : Int)) = false := decide_eq_false c27
                     clear c27
                     have H' := Aside0.mk H
                     clear H
                     go_wp2
                     repeat (go_quiet (fail); try go_wp2)
                     go_roundg k4
                     case measure => have := HJ2.out; have := HK2.out; have := HK3.out; have := HK4.out; omega
                     case rel => exact ⟨(x11_4), (wrap64 (x81_3 + 1)), (by rfl), H', ⟨by have := HJ2.out; have := HK2.out; have := HK3.out; have := HK4.out; omega⟩, ⟨by (with_reducible repeat (fail)); exact HO_11.out⟩, ⟨by repeat ((with_reducible exact HB.out))⟩⟩
                 ·rw [if_neg c26] at H
                  exact absurd H (by simp)
                ·rw [if_neg c25] at H
                 exact absurd H (by simp)
               ·rw [if_neg c24] at H
                have c24b0 : decide (x81_3 < (l1.length : Int)) = false := decide_eq_false c24
                clear c24
                have H' := Aside0.mk H
                clear H
                obtain ⟨Ao41, co41, eo41⟩ := Kd.R_slice HO_11.out
                subst eo41
                go_wp2
                repeat (go_quiet (fail); try go_wp2)
                go_loopg [18, 118] k3 (fun kq v18 v118 w' => ∃ (x18_4 : List (S46)) (x118_4 : Int), v118 = .int .i64 x118_4 ∧ Aside0 (delsarte_Distances.l5 kq l1 x18_4 x11_3 (x11_3.length : Int) x118_4 = some (r1, r2)) ∧ Aside0 (kq ≤ k3) ∧ Aside0 (Kd.S k46 46 w' w.heap.size (fun _ => True) v18 x18_4) ∧ Aside0 (Kd.R (Kd.int .i64) 3 w' w.heap.size (fun _ => True) (.slice Ao41 x11_3.length co41) x11_3) ∧ Aside0 (Below w.heap.size w w'))
                case atStart => exact ⟨(([] : List (S46))), (0), (by rfl), H', ⟨Nat.le_refl _⟩, ⟨by exact Kd.S_nil _ _ _ _ _⟩, ⟨by (with_reducible repeat (fail)); exact HO_11.out⟩, ⟨by repeat ((with_reducible exact HB.out))⟩⟩
                case round =>
                 clear H'
                 try clear c24b0
                 obtain ⟨x18_4, x118_4, rfl, HA, HK4, HO_18, HO_116, HB⟩ := hrel
                 cases gk with
                 | zero => exact absurd HA.out (by simp [delsarte_Distances.l5])
                 | succ k4 =>
                  have H := HA.out
                  clear HA
                  simp only [delsarte_Distances.l5] at H
                  by_cases c42 : x118_4 < (x11_3.length : Int)
                  ·rw [if_pos c42] at H
                   have c42b0 : decide (x118_4 < (x11_3.length : Int)) = true := decide_eq_true c42
                   clear c42
                   by_cases c43 : 0 ≤ x118_4
                   ·rw [if_pos c43] at H
                    have c43b0 : decide (0 ≤ x118_4) = true := decide_eq_true c43
                    clear c43
                    by_cases c44 : x118_4 < (x11_3.length : Int)
                    ·rw [if_pos c44] at H
                     have c44b0 : decide (x118_4 < (x11_3.length : Int)) = true := decide_eq_true c44
                     clear c44
                     replace H := Option.bind_eq_some_iff.mp H
                     obtain ⟨⟨t308, t309, t312, t315⟩, A450, H⟩ := H
                     replace H : (if x18_4.length < 2513169434916 then (delsarte_Distances.l5 k4 l1 (x18_4 ++ [(⟨t308, t309, t312⟩ : S46)]) x11_3 (x11_3.length : Int) (wrap64 (x118_4 + 1))) else (none)) = some (r1, r2) := H
                     have A45 := Aside0.mk A450
                     clear A450
                     by_cases c46 : x18_4.length < 2513169434916
                     ·rw [if_pos c46] at H
                      have LMc46 := Aside0.mk c46
                      clear c46
                      obtain ⟨y317, hy317⟩ : ∃ y_ : List (S46), y_ = (x18_4 ++ [(⟨t308, t309, t312⟩ : S46)]) := ⟨_, rfl⟩
                      replace H : (delsarte_Distances.l5 k4 l1 y317 x11_3 (x11_3.length : Int) (wrap64 (x118_4 + 1))) = some (r1, r2) := by (rw [hy317]; with_reducible exact H)
                      have Ny317 := Aside0.mk hy317
                      clear hy317
                      have H' := Aside0.mk H
                      clear H
                      have p307 : 0 ≤ (x118_4 : Int) := of_decide_eq_true (by (with_reducible assumption))
                      have q307 : x118_4 < (x11_3.length : Int) := of_decide_eq_true (by (with_reducible assumption))
                      obtain ⟨ad307, e307, hx307_0⟩ := Kd.at_int (Kd.R_reads' HO_116.out).2.2 x118_4 p307 q307
                      cases e307
                      replace p307 := eq_true p307
                      replace q307 := eq_true q307
                      go_wp2_with (first | (go_at_call 63; (with_reducible refine (rational_Of.calls k4 (rd x11_3 x118_4) (l1.length : Int) t308 t309 t312 t315 _ A45.out).mono ?_); rintro e w47 ⟨v310, v313, rfl, ho0, ho1, hb⟩; have n0_ := Aside0.mk (Kd.S_mono (Kd.S_told (Kd.S_told (Kd.S_old (by (with_reducible repeat (fail)); exact HO_18.out) hb) (Kd.R_base ho0)) (Kd.R_base ho1)) (fun _ h_ => h_.1)); have n1_ := Aside0.mk (Kd.R_below (by (with_reducible repeat (fail)); exact HO_116.out) hb); have n2_ := Aside0.mk (Kd.R_lower ho0 (below_size (by repeat ((with_reducible exact HB.out))))); have n3_ := Aside0.mk (Kd.R_lower ho1 (below_size (by repeat ((with_reducible exact HB.out))))); have n4_ := Aside0.mk (below_step (by repeat ((with_reducible exact HB.out))) hb); clear HO_18; clear HO_116; clear HB; have HO_18 := n0_; have HO_116 := n1_; have HO311 := n2_; have HO314 := n3_; have HB := n4_; clear n0_ n1_ n2_ n3_ n4_; (try clear hb); (try clear ho0); (try clear ho1)) | ((with_reducible refine gate_dst (N := 21) rfl ?_); (try (refine gate_guard (by rfl) ?_; dsimp only)); refine box_event ?hg (N := 21) ?hd (cs := #[.bool false, .slice none 0 0, .slice none 0 0]) (t := 46) ?hr ?_; (case hd => rfl); (case hg => rfl); (case hr => (go_simp; done)); intro gb316 hg w48 hbox hb; have n0_ := Aside0.mk (Kd.S_below (Kd.S_elderB (by (with_reducible repeat (fail)); exact HO_18.out) gb316 (Nat.le_of_eq hg.symm)) hb); have n1_ := Aside0.mk (Kd.R_below (by (with_reducible repeat (fail)); exact HO_116.out) hb); have n2_ := Aside0.mk (Kd.R_below (by (with_reducible repeat (fail)); exact HO311.out) hb); have n3_ := Aside0.mk (Kd.R_below (by (with_reducible repeat (fail)); exact HO314.out) hb); have n4_ := Aside0.mk (below_step (by repeat ((with_reducible exact HB.out))) hb); have n5_ := Aside0.mk (hbox); have n6_ := Aside0.mk ((by rw [hg]; exact (below_size (by repeat ((with_reducible exact HB.out)))) : w.heap.size ≤ gb316)); have n7_ := Aside0.mk ((by rw [hg]; exact (below_size (by repeat ((with_reducible exact HB.out)))) : w.heap.size ≤ gb316)); clear HO_18; clear HO_116; clear HO311; clear HO314; clear HB; have HO_18 := n0_; have HO_116 := n1_; have HO311 := n2_; have HO314 := n3_; have HB := n4_; have BK316 := n5_; have GW316 := n6_; have GE316 := n7_; clear n0_ n1_ n2_ n3_ n4_ n5_ n6_ n7_; clear hb hbox hg; have hcz49_0 : w48.cell? ⟨gb316, 0, none⟩ = some (.bool false) := (blk_cell BK316.out 0).trans rfl; have hcz49_1 : w48.cell? ⟨gb316, 1, none⟩ = some (.slice none 0 0) := (blk_cell BK316.out 1).trans rfl; have hcz49_2 : w48.cell? ⟨gb316, 2, none⟩ = some (.slice none 0 0) := (blk_cell BK316.out 2).trans rfl; have hfz49_0 := blk_frozen BK316.out 0; have hfz49_1 := blk_frozen BK316.out 1; have hfz49_2 := blk_frozen BK316.out 2; obtain ⟨Ao50, co50, eo50⟩ := Kd.R_slice HO311.out; subst eo50; obtain ⟨Ao51, co51, eo51⟩ := Kd.R_slice HO314.out; subst eo51) | ((with_reducible refine gate_store (t := 46) (p := 21) rfl ?_); refine store_event (t := 46) (p := 21) (v := ?vo_w52) (w1 := (((w48.setCell ⟨gb316, 0, none⟩ (.bool t308)).setCell ⟨gb316, 1, none⟩ (.slice Ao50 t309.length co50)).setCell ⟨gb316, 2, none⟩ (.slice Ao51 t312.length co51))) ?hg ?ho ?hn ?hr ?_; (case ho => rfl); (case hg => rfl); (case hn => rfl); (case hr => (go_simp; done)); intro w52 hw; have n0_ : Aside0 (Kd.S k46 46 w52 w.heap.size (fun k_ => some k_ ≠ (.slice Ao50 t309.length co50 : Value).ownBlock ∧ some k_ ≠ (.slice Ao51 t312.length co51 : Value).ownBlock ∧ k_ ≠ gb316) u18 x18_4) := ⟨(by rw [hw]; exact (by (with_reducible repeat (fail)); exact Kd.S_mono (Kd.S_far (p := ⟨gb316, 2, none⟩) (Kd.S_far (p := ⟨gb316, 1, none⟩) (Kd.S_far (p := ⟨gb316, 0, none⟩) (Kd.S_mono HO_18.out (fun k_ hk => (⟨hk, hk.2⟩ : _ ∧ k_ ≠ gb316))) (fun _ hk => hk.2) (.bool t308)) (fun _ hk => hk.2) (.slice Ao50 t309.length co50)) (fun _ hk => hk.2) (.slice Ao51 t312.length co51)) (fun _ hk => ⟨hk.1.1.1.2, ⟨hk.1.1.2, hk.1.2⟩⟩)))⟩; have n1_ : Aside0 (Kd.R (Kd.int .i64) 3 w52 w.heap.size (fun _ => True) (.slice (some ad307) x11_3.length co41) x11_3) := ⟨(by rw [hw]; exact (by (with_reducible repeat (fail)); exact Kd.R_mono (Kd.R_far (p := ⟨gb316, 2, none⟩) (Kd.R_far (p := ⟨gb316, 1, none⟩) (Kd.R_far (p := ⟨gb316, 0, none⟩) (Kd.R_types HO_116.out BK316.out (by decide)) (fun _ hk => hk.2) (.bool t308)) (fun _ hk => hk.2) (.slice Ao50 t309.length co50)) (fun _ hk => hk.2) (.slice Ao51 t312.length co51)) (fun _ hk => trivial)))⟩; have n2_ : Aside0 (Kd.R (Kd.int .u32) 100 w52 w.heap.size (fun k_ => some k_ ≠ (.slice Ao51 t312.length co51 : Value).ownBlock) (.slice Ao50 t309.length co50) t309) := ⟨(by rw [hw]; exact (by (with_reducible repeat (fail)); exact Kd.R_mono (Kd.R_far (p := ⟨gb316, 2, none⟩) (Kd.R_far (p := ⟨gb316, 1, none⟩) (Kd.R_far (p := ⟨gb316, 0, none⟩) (Kd.R_types HO311.out BK316.out (by decide)) (fun _ hk => hk.2) (.bool t308)) (fun _ hk => hk.2) (.slice Ao50 t309.length co50)) (fun _ hk => hk.2) (.slice Ao51 t312.length co51)) (fun _ hk => hk.1)))⟩; have n3_ : Aside0 (Kd.R (Kd.int .u32) 100 w52 w.heap.size (fun k_ => some k_ ≠ (.slice Ao50 t309.length co50 : Value).ownBlock) (.slice Ao51 t312.length co51) t312) := ⟨(by rw [hw]; exact (by (with_reducible repeat (fail)); exact Kd.R_mono (Kd.R_far (p := ⟨gb316, 2, none⟩) (Kd.R_far (p := ⟨gb316, 1, none⟩) (Kd.R_far (p := ⟨gb316, 0, none⟩) (Kd.R_types HO314.out BK316.out (by decide)) (fun _ hk => hk.2) (.bool t308)) (fun _ hk => hk.2) (.slice Ao50 t309.length co50)) (fun _ hk => hk.2) (.slice Ao51 t312.length co51)) (fun _ hk => hk.1)))⟩; have n4_ : Aside0 (w52.heap[gb316]? = some (.cells #[.bool t308, .slice Ao50 t309.length co50, .slice Ao51 t312.length co51] 46 (0, 0))) := ⟨(by rw [hw]; exact (by (with_reducible repeat (fail)); refine blk_put (cs := #[.bool t308, .slice Ao50 t309.length co50, .slice none 0 0]) ?_ 2 _ rfl; (with_reducible repeat (fail)); refine blk_put (cs := #[.bool t308, .slice none 0 0, .slice none 0 0]) ?_ 1 _ rfl; (with_reducible repeat (fail)); refine blk_put (cs := #[.bool false, .slice none 0 0, .slice none 0 0]) ?_ 0 _ rfl; (with_reducible repeat (fail)); exact BK316.out))⟩; have n5_ : Aside0 (Below w.heap.size w w52) := ⟨(by rw [hw]; exact (by repeat ((with_reducible first | exact HB.out | refine below_set ?_ GE316.out))))⟩; clear hw; clear HO_18; clear HO_116; clear HO311; clear HO314; clear BK316; clear HB; have HO_18 := n0_; have HO_116 := n1_; have HO311 := n2_; have HO314 := n3_; have BK316 := n4_; have HB := n5_; clear n0_ n1_ n2_ n3_ n4_ n5_; have hcz53_0 : w52.cell? ⟨gb316, 0, none⟩ = some (.bool t308) := (blk_cell BK316.out 0).trans rfl; have hcz53_1 : w52.cell? ⟨gb316, 1, none⟩ = some (.slice Ao50 t309.length co50) := (blk_cell BK316.out 1).trans rfl; have hcz53_2 : w52.cell? ⟨gb316, 2, none⟩ = some (.slice Ao51 t312.length co51) := (blk_cell BK316.out 2).trans rfl; have hfz53_0 := blk_frozen BK316.out 0; have hfz53_1 := blk_frozen BK316.out 1; have hfz53_2 := blk_frozen BK316.out 2) | ((with_reducible refine gate_builtin (b := .append) (xs := #[.tmp 129, .tmp 131]) rfl ?_); (try (refine gate_guard (by rfl) ?_; dsimp only)); at_builtin; refine Kd.S_append k46 (w0 := w) w.heap.size rfl (.tmp 129) (.tmp 131) 22 46 (.agg #[(.bool false), (.slice none 0 0), (.slice none 0 0)]) 56 rfl Try.underlying22 info46 rfl (by decide) (by omega) u18 x18_4 (⟨t308, t309, t312⟩ : S46) [.bool t308, .slice Ao50 t309.length co50, .slice Ao51 t312.length co51] (fun k_ => k_ ≠ gb316) (fun k_ => some k_ = (.slice Ao50 t309.length co50 : Value).ownBlock ∨ some k_ = (.slice Ao51 t312.length co51 : Value).ownBlock) rfl rfl ?aP (fun k_ hk_ => hk_.elim (fun h_ => ((Kd.R_mono (ok' := fun k_ => ((fun k_ => k_ ≠ gb316)) k_ ∧ some k_ ≠ (u18 : Value).ownBlock) (Kd.R_types (Kd.R_apart' (HO311.out) (Kd.S_typed HO_18.out) (by decide)) BK316.out (by decide)) (fun k_ hk => ⟨hk.2, hk.1.2⟩))).1 k_ h_.symm) (fun h_ => ((Kd.R_mono (ok' := fun k_ => ((fun k_ => k_ ≠ gb316)) k_ ∧ some k_ ≠ (u18 : Value).ownBlock) (Kd.R_types (Kd.R_apart' (HO314.out) (Kd.S_typed HO_18.out) (by decide)) BK316.out (by decide)) (fun k_ hk => ⟨hk.2, hk.1.2⟩))).1 k_ h_.symm)) ?aF ?aO ?aB ?aS ?aL ?_; (case aP => exact k46_mkM _ _ _ (⟨t308, t309, t312⟩ : S46) (Kd.R_mono (Kd.R_tight rfl (Kd.R_mono (ok' := fun k_ => ((fun k_ => k_ ≠ gb316)) k_ ∧ some k_ ≠ (u18 : Value).ownBlock) (Kd.R_types (Kd.R_apart' (HO311.out) (Kd.S_typed HO_18.out) (by decide)) BK316.out (by decide)) (fun k_ hk => ⟨hk.2, hk.1.2⟩))) (fun _ h_ => Or.inl h_)) (Kd.R_mono (Kd.R_tight rfl (Kd.R_mono (ok' := fun k_ => ((fun k_ => k_ ≠ gb316)) k_ ∧ some k_ ≠ (u18 : Value).ownBlock) (Kd.R_types (Kd.R_apart' (HO314.out) (Kd.S_typed HO_18.out) (by decide)) BK316.out (by decide)) (fun k_ hk => ⟨hk.2, hk.1.2⟩))) (fun _ h_ => Or.inr (h_)))); (case aB => exact (by repeat ((with_reducible exact HB.out)))); (case aF => exact (fun k_ hk => Kd.freshB (g := gb316) (o := .cells #[.bool t308, .slice Ao50 t309.length co50, .slice Ao51 t312.length co51] 46 (0, 0)) (by (with_reducible repeat (fail)); exact BK316.out) k_ hk)); (case aO => exact (by (with_reducible repeat (fail)); exact Kd.S_mono HO_18.out (fun k_ hk => ⟨hk.2.2, fun e_ => e_.elim (fun h_ => hk.1 h_) (fun h_ => hk.2.1 h_)⟩))); (case aS => exact (below_size (by repeat ((with_reducible exact HB.out))))); (case aL => have := LMc46.out; omega); intro v318 w54 ho hb hg hat; rw [← Ny317.out] at ho; have n0_ := Aside0.mk (Kd.R_over' (by (with_reducible repeat (fail)); exact HO_116.out) (Kd.S_typed (by (with_reducible repeat (fail)); exact HO_18.out)) (by decide) hg); have n1_ := Aside0.mk (blk_grown (g := gb316) (o := .cells #[.bool t308, .slice Ao50 t309.length co50, .slice Ao51 t312.length co51] 46 (0, 0)) (by (with_reducible repeat (fail)); exact BK316.out) hg (Kd.S_away HO_18.out (fun _ hk => hk.2.2))); have n2_ := Aside0.mk (hb); have n3_ := Aside0.mk (ho); clear HO_116; clear BK316; clear HB; clear HO_18; clear HO311; clear HO314; have HO_116 := n0_; have BK316 := n1_; have HB := n2_; have HO319 := n3_; clear n0_ n1_ n2_ n3_; clear ho hb hg hat))
                      repeat (go_quiet (fail); try go_wp2_with (fail))
                      go_roundg k4
                      case measure => have := HJ2.out; have := HK2.out; have := HK3.out; have := HK4.out; omega
                      case rel => exact ⟨(y317), (wrap64 (x118_4 + 1)), (by rfl), H', ⟨by have := HJ2.out; have := HK2.out; have := HK3.out; have := HK4.out; omega⟩, ⟨by (with_reducible repeat (fail)); exact Kd.S_mono HO319.out (fun _ hk => trivial)⟩, ⟨by (with_reducible repeat (fail)); exact HO_116.out⟩, ⟨by repeat ((with_reducible exact HB.out))⟩⟩
                     ·rw [if_neg c46] at H
                      exact absurd H (by simp)
                    ·rw [if_neg c44] at H
                     exact absurd H (by simp)
                   ·rw [if_neg c43] at H
                    exact absurd H (by simp)
                  ·rw [if_neg c42] at H
                   have c42b0 : decide (x118_4 < (x11_3.length : Int)) = false := decide_eq_false c42
                   clear c42
                   simp only [Option.some.injEq, Prod.mk.injEq] at H
                   obtain ⟨rfl, rfl⟩ := H
                   go_wp2
                   repeat (go_quiet (fail); try go_wp2)
                   go_ret2
                   exact ⟨_, by rfl, by (with_reducible repeat (fail)); exact HO_18.out, by repeat ((with_reducible exact HB.out))⟩
            ·rw [if_neg c21] at H
             exact absurd H (by simp)
           ·rw [if_neg c20] at H
            exact absurd H (by simp)
     ·rw [if_neg c7] at H
      exact absurd H (by simp)
end Go.Proofs.Ythheakfgmombdaa.F
end
