import Derived.RowKit3
import Derived.RowKit
import Derived.Laws.Bits64b
import Derived.KernelRfl
import Derived.Test.YthheakfgmombdaaCDelsarteLinearC
/- Part D of the proof: P, Num, PD, RefNat1, RefNat2, ProgNat1, ProgNat2, ProgNat3, ProgNat4, ProgNat5, RatNum1, RatNum2, Lin1, Kraw, Dist1, Dist2, Field1, Field2, Field3, RefNat3, Lp, Kraw2, PS, Sums, Field4. -/
section
namespace Go.Proofs.Ythheakfgmombdaa.F
open Go.RowKit Go.Proofs.YthheakfgmombdaaX.PrintWords Go.Proofs.YthheakfgmombdaaX.PrintLast Go.Proofs.YthheakfgmombdaaX.PrintMore
set_option linter.unusedVariables false
def rd_L2 (xs : List (List Int)) (i : Int) : (List Int) := xs.getD i.toNat ([] : List Int)
structure S46 where
  f0 : Bool
  f1 : (List Int)
  f2 : (List Int)
def z46 : S46 := ⟨false, ([] : List Int), ([] : List Int)⟩
def rd_T46 (xs : List S46) (i : Int) : S46 := xs.getD i.toNat z46
def rd_L4 (xs : List (List S46)) (i : Int) : (List S46) := xs.getD i.toNat ([] : List S46)
def nat_short.l0 : Nat → List Int → Int → Option (List Int)
  | 0, _, _ => none
  | k + 1, x0, x3 => if x3 > 0 then (if 0 ≤ (wrap64 (x3 - 1)) then (if (wrap64 (x3 - 1)) < (x0.length : Int) then (if (rd x0 (wrap64 (x3 - 1))) = 0 then (nat_short.l0 k x0 (wrap64 (x3 - 1))) else (if 0 ≤ x3 then (if x3 ≤ (x0.length : Int) then (some (x0.take (x3 : Int).toNat)) else (none)) else (none))) else (none)) else (none)) else (if 0 ≤ x3 then (if x3 ≤ (x0.length : Int) then (some (x0.take (x3 : Int).toNat)) else (none)) else (none))
def nat_short.f (k : Nat) (l0 : List Int) : Option (List Int) := nat_short.l0 k l0 (l0.length : Int)
def nat_shorto.l0 : Nat → List Int → Int → Option (List Int)
  | 0, _, _ => none
  | k + 1, x0, x3 => if x3 > 0 then (if 0 ≤ (wrap64 (x3 - 1)) then (if (wrap64 (x3 - 1)) < (x0.length : Int) then (if (rd x0 (wrap64 (x3 - 1))) = 0 then (nat_shorto.l0 k x0 (wrap64 (x3 - 1))) else (if 0 ≤ x3 then (if x3 ≤ (x0.length : Int) then (some (x0.take (x3 : Int).toNat)) else (none)) else (none))) else (none)) else (none)) else (if 0 ≤ x3 then (if x3 ≤ (x0.length : Int) then (some (x0.take (x3 : Int).toNat)) else (none)) else (none))
def nat_shorto.f (k : Nat) (l0 : List Int) : Option (List Int) := nat_shorto.l0 k l0 (l0.length : Int)
def bits_Len32.j0 : Nat → Int → Int → Option (Int)
  | 0, _, _ => none
  | k + 1, x0, x2 => if x0 ≥ 256 then (if 0 ≤ ((x0 / 256) % 256) then (if ((x0 / 256) % 256) < 256 then (some (wrap64 ((wrap64 (x2 + 8)) + (wrap64 (bt (⟨#[0, 1, 2, 2, 3, 3, 3, 3, 4, 4, 4, 4, 4, 4, 4, 4, 5, 5, 5, 5, 5, 5, 5, 5, 5, 5, 5, 5, 5, 5, 5, 5, 6, 6, 6, 6, 6, 6, 6, 6, 6, 6, 6, 6, 6, 6, 6, 6, 6, 6, 6, 6, 6, 6, 6, 6, 6, 6, 6, 6, 6, 6, 6, 6, 7, 7, 7, 7, 7, 7, 7, 7, 7, 7, 7, 7, 7, 7, 7, 7, 7, 7, 7, 7, 7, 7, 7, 7, 7, 7, 7, 7, 7, 7, 7, 7, 7, 7, 7, 7, 7, 7, 7, 7, 7, 7, 7, 7, 7, 7, 7, 7, 7, 7, 7, 7, 7, 7, 7, 7, 7, 7, 7, 7, 7, 7, 7, 7, 8, 8, 8, 8, 8, 8, 8, 8, 8, 8, 8, 8, 8, 8, 8, 8, 8, 8, 8, 8, 8, 8, 8, 8, 8, 8, 8, 8, 8, 8, 8, 8, 8, 8, 8, 8, 8, 8, 8, 8, 8, 8, 8, 8, 8, 8, 8, 8, 8, 8, 8, 8, 8, 8, 8, 8, 8, 8, 8, 8, 8, 8, 8, 8, 8, 8, 8, 8, 8, 8, 8, 8, 8, 8, 8, 8, 8, 8, 8, 8, 8, 8, 8, 8, 8, 8, 8, 8, 8, 8, 8, 8, 8, 8, 8, 8, 8, 8, 8, 8, 8, 8, 8, 8, 8, 8, 8, 8, 8, 8, 8, 8, 8, 8, 8, 8, 8, 8, 8, 8, 8, 8, 8, 8, 8, 8, 8, 8]⟩ : ByteArray) ((x0 / 256) % 256)))))) else (none)) else (none)) else (if 0 ≤ ((x0) % 256) then (if ((x0) % 256) < 256 then (some (wrap64 (x2 + (wrap64 (bt (⟨#[0, 1, 2, 2, 3, 3, 3, 3, 4, 4, 4, 4, 4, 4, 4, 4, 5, 5, 5, 5, 5, 5, 5, 5, 5, 5, 5, 5, 5, 5, 5, 5, 6, 6, 6, 6, 6, 6, 6, 6, 6, 6, 6, 6, 6, 6, 6, 6, 6, 6, 6, 6, 6, 6, 6, 6, 6, 6, 6, 6, 6, 6, 6, 6, 7, 7, 7, 7, 7, 7, 7, 7, 7, 7, 7, 7, 7, 7, 7, 7, 7, 7, 7, 7, 7, 7, 7, 7, 7, 7, 7, 7, 7, 7, 7, 7, 7, 7, 7, 7, 7, 7, 7, 7, 7, 7, 7, 7, 7, 7, 7, 7, 7, 7, 7, 7, 7, 7, 7, 7, 7, 7, 7, 7, 7, 7, 7, 7, 8, 8, 8, 8, 8, 8, 8, 8, 8, 8, 8, 8, 8, 8, 8, 8, 8, 8, 8, 8, 8, 8, 8, 8, 8, 8, 8, 8, 8, 8, 8, 8, 8, 8, 8, 8, 8, 8, 8, 8, 8, 8, 8, 8, 8, 8, 8, 8, 8, 8, 8, 8, 8, 8, 8, 8, 8, 8, 8, 8, 8, 8, 8, 8, 8, 8, 8, 8, 8, 8, 8, 8, 8, 8, 8, 8, 8, 8, 8, 8, 8, 8, 8, 8, 8, 8, 8, 8, 8, 8, 8, 8, 8, 8, 8, 8, 8, 8, 8, 8, 8, 8, 8, 8, 8, 8, 8, 8, 8, 8, 8, 8, 8, 8, 8, 8, 8, 8, 8, 8, 8, 8, 8, 8, 8, 8, 8, 8]⟩ : ByteArray) ((x0) % 256)))))) else (none)) else (none))
def bits_Len32.f (k : Nat) (a0 : Int) : Option (Int) := if a0 ≥ 65536 then (bits_Len32.j0 k (a0 / 65536) 16) else (bits_Len32.j0 k a0 0)
def nat_Bits.f (k : Nat) (l0 : List Int) : Option (Int) := (nat_short.f k l0).bind fun t137 => (if (t137.length : Int) = 0 then (some 0) else (if 0 ≤ (wrap64 ((t137.length : Int) - 1)) then (if (wrap64 ((t137.length : Int) - 1)) < (t137.length : Int) then ((bits_Len32.f k (rd t137 (wrap64 ((t137.length : Int) - 1)))).bind fun t141 => (some (wrap64 ((wrap64 (32 * (wrap64 ((t137.length : Int) - 1)))) + t141)))) else (none)) else (none)))
def rational_one.f  : Option (List Int) := some (([1] : List Int))
def nat_Trim.f (k : Nat) (l0 : List Int) : Option (List Int) := (nat_short.f k l0).bind fun t145 => (if ([] : List Int).length + t145.length < 35184372088832 then (some (([] : List Int) ++ t145)) else (none))
def nat_Of.f (k : Nat) (a0 : Int) : Option (List Int) := (nat_Trim.f k (([(a0) % 4294967296, (a0 / 4294967296) % 4294967296] : List Int))).bind fun t154 => (some t154)
def nat_Cmp.l0 : Nat → List Int → List Int → Int → Option (Int)
  | 0, _, _, _ => none
  | k + 1, x0, x1, x5 => if x5 ≥ 0 then (if 0 ≤ x5 then (if x5 < (x0.length : Int) then (if x5 < (x1.length : Int) then (if (rd x0 x5) < (rd x1 x5) then (some (-1)) else (if (rd x0 x5) > (rd x1 x5) then (some 1) else (nat_Cmp.l0 k x0 x1 (wrap64 (x5 - 1))))) else (none)) else (none)) else (none)) else (some 0)
def nat_Cmp.f (k : Nat) (l0 : List Int) (l1 : List Int) : Option (Int) := (nat_short.f k l0).bind fun t157 => ((nat_short.f k l1).bind fun t160 => (if (t157.length : Int) = (t160.length : Int) then (nat_Cmp.l0 k t157 t160 (wrap64 ((t157.length : Int) - 1))) else (if (t157.length : Int) < (t160.length : Int) then (some (-1)) else (some 1))))
def nat_digit.l0 : Nat → List Int → Int → List Int → Int → Int → Option (List Int × Int)
  | 0, _, _, _, _, _ => none
  | k + 1, x0, x1, x6, x7, x8 => if x8 ≥ 0 then (if 0 ≤ x8 then (if x8 < (x0.length : Int) then (if (IntKind.u64.wrap (x1)) = 0 then (none) else (if x8 < (x6.length : Int) then (nat_digit.l0 k x0 x1 (x6.set (x8 : Int).toNat ((IntKind.u64.wrap (Int.tdiv (Go.bits .or .u64 (IntKind.u64.wrap (x7 * 4294967296)) (IntKind.u64.wrap (rd x0 x8))) (IntKind.u64.wrap (x1)))) % 4294967296)) (Int.tmod (Go.bits .or .u64 (IntKind.u64.wrap (x7 * 4294967296)) (IntKind.u64.wrap (rd x0 x8))) (IntKind.u64.wrap (x1))) (wrap64 (x8 - 1))) else (none))) else (none)) else (none)) else ((nat_shorto.f k x6).bind fun t172 => (some (t172, (x7) % 4294967296)))
def nat_digit.f (k : Nat) (l0 : List Int) (a1 : Int) : Option (List Int × Int) := if 0 ≤ (l0.length : Int) then (if ((l0.length : Int) : Int).toNat ≤ 70368744177664 then (nat_digit.l0 k l0 a1 (List.replicate ((l0.length : Int) : Int).toNat 0) 0 (wrap64 ((l0.length : Int) - 1))) else (none)) else (none)
def bits_LeadingZeros32.f (k : Nat) (a0 : Int) : Option (Int) := (bits_Len32.f k a0).bind fun t175 => (some (wrap64 (32 - t175)))
def nat_shift.l0 : Nat → List Int → Int → List Int → Int → List Int → Int → Int → Option (List Int)
  | 0, _, _, _, _, _, _, _ => none
  | k + 1, x0, x1, x5, x6, x14, x15, x16 => if x16 < x15 then (if 0 ≤ x16 then (if x16 < (x14.length : Int) then (if 0 ≤ x1 then (if x16 < (x5.length : Int) then (nat_shift.l0 k x0 x1 (x5.set (x16 : Int).toNat ((Go.bits .or .u64 (shl .u64 (IntKind.u64.wrap (rd x14 x16)) x1) x6) % 4294967296)) ((Go.bits .or .u64 (shl .u64 (IntKind.u64.wrap (rd x14 x16)) x1) x6) / 4294967296) x14 x15 (wrap64 (x16 + 1))) else (none)) else (none)) else (none)) else (none)) else (if 0 ≤ (x0.length : Int) then (if (x0.length : Int) < (x5.length : Int) then (some (x5.set ((x0.length : Int) : Int).toNat ((x6) % 4294967296))) else (none)) else (none))
def nat_shift.f (k : Nat) (l0 : List Int) (a1 : Int) : Option (List Int) := if 0 ≤ (wrap64 ((l0.length : Int) + 1)) then (if (wrap64 ((l0.length : Int) + 1) : Int).toNat ≤ 70368744177664 then (nat_shift.l0 k l0 a1 (List.replicate (wrap64 ((l0.length : Int) + 1) : Int).toNat 0) 0 l0 (l0.length : Int) 0) else (none)) else (none)
mutual
def nat_step.l0 : Nat → List Int → List Int → Int → Int → Int → Option (Int × List Int)
  | 0, _, _, _, _, _ => none
  | k + 1, x0, x1, x5, x7, x8 => if x8 < 4294967296 then (if x7 ≥ 4294967296 then (nat_step.j1 k x0 x1 x5 x7 x8 true) else (if 0 ≤ (wrap64 (x5 - 2)) then (if (wrap64 (x5 - 2)) < (x1.length : Int) then (if (wrap64 (x5 - 2)) < (x0.length : Int) then (nat_step.j1 k x0 x1 x5 x7 x8 (decide ((IntKind.u64.wrap (x7 * (IntKind.u64.wrap (rd x1 (wrap64 (x5 - 2)))))) > (Go.bits .or .u64 (IntKind.u64.wrap (x8 * 4294967296)) (IntKind.u64.wrap (rd x0 (wrap64 (x5 - 2)))))))) else (none)) else (none)) else (none))) else (nat_step.j1 k x0 x1 x5 x7 x8 false)
def nat_step.j1 : Nat → List Int → List Int → Int → Int → Int → Bool → Option (Int × List Int)
  | 0, _, _, _, _, _, _ => none
  | k + 1, x0, x1, x5, x7, x8, x73 => if x73 = true then (if 0 ≤ (wrap64 (x5 - 1)) then (if (wrap64 (x5 - 1)) < (x1.length : Int) then (nat_step.l0 k x0 x1 x5 (IntKind.u64.wrap (x7 - 1)) (IntKind.u64.wrap (x8 + (IntKind.u64.wrap (rd x1 (wrap64 (x5 - 1))))))) else (none)) else (none)) else (nat_step.l1 k x0 x1 x5 x7 0 0 (x1.length : Int) 0)
def nat_step.l1 : Nat → List Int → List Int → Int → Int → Int → Int → Int → Int → Option (Int × List Int)
  | 0, _, _, _, _, _, _, _, _ => none
  | k + 1, x0, x1, x5, x7, x9, x10, x85, x86 => if x86 < x85 then (if 0 ≤ x86 then (if x86 < (x1.length : Int) then (if x86 < (x0.length : Int) then (nat_step.l1 k (x0.set (x86 : Int).toNat ((IntKind.u64.wrap ((IntKind.u64.wrap ((IntKind.u64.wrap (rd x0 x86)) - ((IntKind.u64.wrap ((IntKind.u64.wrap (x7 * (IntKind.u64.wrap (rd x1 x86)))) + x10)) % 4294967296))) - x9)) % 4294967296)) x1 x5 x7 ((IntKind.u64.wrap ((IntKind.u64.wrap ((IntKind.u64.wrap (rd x0 x86)) - ((IntKind.u64.wrap ((IntKind.u64.wrap (x7 * (IntKind.u64.wrap (rd x1 x86)))) + x10)) % 4294967296))) - x9)) / 9223372036854775808) ((IntKind.u64.wrap ((IntKind.u64.wrap (x7 * (IntKind.u64.wrap (rd x1 x86)))) + x10)) / 4294967296) x85 (wrap64 (x86 + 1))) else (none)) else (none)) else (none)) else (if 0 ≤ x5 then (if x5 < (x0.length : Int) then ((some (x0.set (x5 : Int).toNat ((IntKind.u64.wrap ((IntKind.u64.wrap ((IntKind.u64.wrap (rd x0 x5)) - x10)) - x9)) % 4294967296) : List Int)).bind fun y193 => (if ((IntKind.u64.wrap ((IntKind.u64.wrap ((IntKind.u64.wrap (rd x0 x5)) - x10)) - x9)) / 9223372036854775808) = 0 then (some ((x7) % 4294967296, y193)) else (nat_step.l2 k y193 x1 x5 x7 0 (x1.length : Int) 0))) else (none)) else (none))
def nat_step.l2 : Nat → List Int → List Int → Int → Int → Int → Int → Int → Option (Int × List Int)
  | 0, _, _, _, _, _, _, _ => none
  | k + 1, x0, x1, x5, x7, x10, x139, x140 => if x140 < x139 then (if 0 ≤ x140 then (if x140 < (x0.length : Int) then (if x140 < (x1.length : Int) then (nat_step.l2 k (x0.set (x140 : Int).toNat ((IntKind.u64.wrap ((IntKind.u64.wrap ((IntKind.u64.wrap (rd x0 x140)) + (IntKind.u64.wrap (rd x1 x140)))) + x10)) % 4294967296)) x1 x5 x7 ((IntKind.u64.wrap ((IntKind.u64.wrap ((IntKind.u64.wrap (rd x0 x140)) + (IntKind.u64.wrap (rd x1 x140)))) + x10)) / 4294967296) x139 (wrap64 (x140 + 1))) else (none)) else (none)) else (none)) else (if 0 ≤ x5 then (if x5 < (x0.length : Int) then (some ((IntKind.u64.wrap (x7 - 1)) % 4294967296, (x0.set (x5 : Int).toNat (((rd x0 x5) + ((x10) % 4294967296)) % 4294967296)))) else (none)) else (none))
end
def nat_step.f (k : Nat) (l0 : List Int) (l1 : List Int) : Option (Int × List Int) := if 0 ≤ (l1.length : Int) then (if (l1.length : Int) < (l0.length : Int) then (if 0 ≤ (wrap64 ((l1.length : Int) - 1)) then (if (wrap64 ((l1.length : Int) - 1)) < (l0.length : Int) then (if (wrap64 ((l1.length : Int) - 1)) < (l1.length : Int) then (if (IntKind.u64.wrap (rd l1 (wrap64 ((l1.length : Int) - 1)))) = 0 then (none) else (nat_step.l0 k l0 l1 (l1.length : Int) (IntKind.u64.wrap (Int.tdiv (Go.bits .or .u64 (IntKind.u64.wrap ((IntKind.u64.wrap (rd l0 (l1.length : Int))) * 4294967296)) (IntKind.u64.wrap (rd l0 (wrap64 ((l1.length : Int) - 1))))) (IntKind.u64.wrap (rd l1 (wrap64 ((l1.length : Int) - 1)))))) (Int.tmod (Go.bits .or .u64 (IntKind.u64.wrap ((IntKind.u64.wrap (rd l0 (l1.length : Int))) * 4294967296)) (IntKind.u64.wrap (rd l0 (wrap64 ((l1.length : Int) - 1))))) (IntKind.u64.wrap (rd l1 (wrap64 ((l1.length : Int) - 1))))))) else (none)) else (none)) else (none)) else (none)) else (none)
def nat_stepm.f (k : Nat) (l0 : List Int) (l1 : List Int) (lo hi : Int) : Option (Int × List Int) := if 0 ≤ lo then (if lo ≤ hi then (if hi ≤ (l0.length : Int) then ((nat_step.f k ((l0.take hi.toNat).drop lo.toNat) l1).bind fun s => some (s.1, l0.take lo.toNat ++ s.2 ++ l0.drop hi.toNat)) else none) else none) else none
mutual
def nat_long.l0 : Nat → List Int → Int → List Int → List Int → Int → Int → Option (List Int × List Int)
  | 0, _, _, _, _, _, _ => none
  | k + 1, x4, x6, x7, x8, x9, x10 => if x10 ≥ 0 then ((nat_stepm.f k x8 x7 x10 (wrap64 ((wrap64 (x10 + x9)) + 1))).bind fun bt213 => (if 0 ≤ x10 then (if x10 < (x4.length : Int) then (nat_long.l0 k (x4.set (x10 : Int).toNat bt213.1) x6 x7 bt213.2 x9 (wrap64 (x10 - 1))) else (none)) else (none))) else (if 0 ≤ x9 then (if (x9 : Int).toNat ≤ 70368744177664 then ((some (List.replicate (x9 : Int).toNat 0 : List Int)).bind fun y216 => (nat_long.l1 k x4 y216 x6 x8 (y216.length : Int) 0)) else (none)) else (none))
def nat_long.l1 : Nat → List Int → List Int → Int → List Int → Int → Int → Option (List Int × List Int)
  | 0, _, _, _, _, _, _ => none
  | k + 1, x4, x5, x6, x8, x57, x58 => if x58 < x57 then (if 0 ≤ x58 then (if x58 < (x8.length : Int) then (if 0 ≤ (wrap64 (x58 + 1)) then (if (wrap64 (x58 + 1)) < (x8.length : Int) then (if 0 ≤ x6 then (if x58 < (x5.length : Int) then (nat_long.l1 k x4 (x5.set (x58 : Int).toNat ((shr .u64 (Go.bits .or .u64 (IntKind.u64.wrap (rd x8 x58)) (IntKind.u64.wrap ((IntKind.u64.wrap (rd x8 (wrap64 (x58 + 1)))) * 4294967296))) x6) % 4294967296)) x6 x8 x57 (wrap64 (x58 + 1))) else (none)) else (none)) else (none)) else (none)) else (none)) else (none)) else (some (x4, x5))
end
def nat_long.f (k : Nat) (l0 : List Int) (l1 : List Int) : Option (List Int × List Int) := if 0 ≤ (wrap64 ((l1.length : Int) - 1)) then (if (wrap64 ((l1.length : Int) - 1)) < (l1.length : Int) then ((bits_LeadingZeros32.f k (rd l1 (wrap64 ((l1.length : Int) - 1)))).bind fun t200 => ((nat_shift.f k l1 t200).bind fun t201 => ((nat_shorto.f k t201).bind fun t204 => ((nat_shift.f k l0 t200).bind fun t207 => (if 0 ≤ (wrap64 ((t207.length : Int) - (t204.length : Int))) then (if (wrap64 ((t207.length : Int) - (t204.length : Int)) : Int).toNat ≤ 70368744177664 then (nat_long.l0 k (List.replicate (wrap64 ((t207.length : Int) - (t204.length : Int)) : Int).toNat 0) t200 t204 t207 (t204.length : Int) (wrap64 ((wrap64 ((t207.length : Int) - (t204.length : Int))) - 1))) else (none)) else (none)))))) else (none)) else (none)
def nat_DivMod.f (k : Nat) (l0 : List Int) (l1 : List Int) : Option (List Int × List Int × Int) := (nat_short.f k l0).bind fun t222 => ((nat_short.f k l1).bind fun t225 => (if (t225.length : Int) = 0 then (some (([] : List Int), ([] : List Int), 7)) else ((nat_Cmp.f k t222 t225).bind fun t228 => (if t228 < 0 then ((nat_Trim.f k t222).bind fun t229 => (some (([] : List Int), t229, 0))) else (if (t225.length : Int) = 1 then (if 0 < (t225.length : Int) then ((nat_digit.f k t222 (rd t225 0)).bind fun bt233 => ((nat_Of.f k (IntKind.u64.wrap (bt233.2))).bind fun t237 => (some (bt233.1, t237, 0)))) else (none)) else ((nat_long.f k t222 t225).bind fun bt240 => ((nat_Trim.f k bt240.1).bind fun t246 => ((nat_Trim.f k bt240.2).bind fun t249 => (some (t246, t249, 0))))))))))
def nat_Gcd.l0 : Nat → List Int → List Int → Option (List Int)
  | 0, _, _ => none
  | k + 1, x0, x1 => if (x1.length : Int) > 0 then ((nat_DivMod.f k x0 x1).bind fun bt258 => (nat_Gcd.l0 k x1 bt258.2.1)) else ((nat_Trim.f k x0).bind fun t265 => (some t265))
def nat_Gcd.f (k : Nat) (l0 : List Int) (l1 : List Int) : Option (List Int) := (nat_short.f k l0).bind fun t252 => ((nat_short.f k l1).bind fun t255 => (nat_Gcd.l0 k t252 t255))
def rational_canonical.j0 : Nat → Bool → List Int → List Int → Bool → Option (Bool × List Int × List Int)
  | 0, _, _, _, _ => none
  | k + 1, x0, x1, x2, x15 => if x15 = true then ((rational_one.f).bind fun t271 => (some (false, ([] : List Int), t271))) else ((nat_Gcd.f k x1 x2).bind fun t274 => ((nat_DivMod.f k x1 t274).bind fun bt277 => ((nat_DivMod.f k x2 t274).bind fun bt284 => (some (x0, bt277.1, bt284.1)))))
def rational_canonical.f (k : Nat) (a0 : Bool) (l1 : List Int) (l2 : List Int) : Option (Bool × List Int × List Int) := (nat_Bits.f k l1).bind fun t269 => (if t269 = 0 then (rational_canonical.j0 k a0 l1 l2 true) else ((nat_Bits.f k l2).bind fun t270 => (rational_canonical.j0 k a0 l1 l2 (t270 == 0))))
def codewrightref01_Trim.l0 : Nat → List Int → Int → Option (List Int)
  | 0, _, _ => none
  | k + 1, x0, x3 => if x3 > 0 then (if 0 ≤ (wrap64 (x3 - 1)) then (if (wrap64 (x3 - 1)) < (x0.length : Int) then (if (rd x0 (wrap64 (x3 - 1))) = 0 then (codewrightref01_Trim.l0 k x0 (wrap64 (x3 - 1))) else ((some (([] : List Int) : List Int)).bind fun y338 => (if 0 ≤ x3 then (if x3 ≤ (x0.length : Int) then (if y338.length + (x0.take (x3 : Int).toNat).length < 35184372088832 then (some (y338 ++ (x0.take (x3 : Int).toNat))) else (none)) else (none)) else (none)))) else (none)) else (none)) else ((some (([] : List Int) : List Int)).bind fun y345 => (if 0 ≤ x3 then (if x3 ≤ (x0.length : Int) then (if y345.length + (x0.take (x3 : Int).toNat).length < 35184372088832 then (some (y345 ++ (x0.take (x3 : Int).toNat))) else (none)) else (none)) else (none)))
def codewrightref01_Trim.f (k : Nat) (l0 : List Int) : Option (List Int) := codewrightref01_Trim.l0 k l0 (l0.length : Int)
def codewrightref01_Zero.f (k : Nat) (l0 : List Int) : Option (Bool) := (codewrightref01_Trim.f k l0).bind fun t352 => (some ((t352.length : Int) == 0))
def codewrightref01_limb.f (l0 : List Int) (a1 : Int) : Option (Int) := if a1 < (l0.length : Int) then (if 0 ≤ a1 then (some (IntKind.u64.wrap (rd l0 a1))) else (none)) else (some 0)
mutual
def codewrightref01_Add.l0 : Nat → List Int → List Int → List Int → Int → Int → Option (List Int)
  | 0, _, _, _, _, _ => none
  | k + 1, x0, x1, x5, x6, x7 => if x7 < (x0.length : Int) then (codewrightref01_Add.j1 k x0 x1 x5 x6 x7 true) else (if x7 < (x1.length : Int) then (codewrightref01_Add.j1 k x0 x1 x5 x6 x7 true) else (codewrightref01_Add.j1 k x0 x1 x5 x6 x7 (decide (x6 > 0))))
def codewrightref01_Add.j1 : Nat → List Int → List Int → List Int → Int → Int → Bool → Option (List Int)
  | 0, _, _, _, _, _, _ => none
  | k + 1, x0, x1, x5, x6, x7, x22 => if x22 = true then ((codewrightref01_limb.f x0 x7).bind fun t359 => ((codewrightref01_limb.f x1 x7).bind fun t360 => (if x5.length < 35184372088832 then (codewrightref01_Add.l0 k x0 x1 (x5 ++ [(Int.tmod (IntKind.u64.wrap ((IntKind.u64.wrap (t359 + t360)) + x6)) 4294967296) % 4294967296]) (IntKind.u64.wrap (Int.tdiv (IntKind.u64.wrap ((IntKind.u64.wrap (t359 + t360)) + x6)) 4294967296)) (wrap64 (x7 + 1))) else (none)))) else ((codewrightref01_Trim.f k x5).bind fun t356 => (some t356))
end
def codewrightref01_Add.f (k : Nat) (l0 : List Int) (l1 : List Int) : Option (List Int) := codewrightref01_Add.l0 k l0 l1 ([] : List Int) 0 0
def codewrightref01_Cmp.l0 : Nat → List Int → List Int → Int → Option (Int)
  | 0, _, _, _ => none
  | k + 1, x0, x1, x5 => if x5 ≥ 0 then ((codewrightref01_limb.f x0 x5).bind fun t364 => ((codewrightref01_limb.f x1 x5).bind fun t365 => (if t364 < t365 then (some (-1)) else ((codewrightref01_limb.f x0 x5).bind fun t366 => ((codewrightref01_limb.f x1 x5).bind fun t367 => (if t366 > t367 then (some 1) else (codewrightref01_Cmp.l0 k x0 x1 (wrap64 (x5 - 1))))))))) else (some 0)
def codewrightref01_Cmp.f (k : Nat) (l0 : List Int) (l1 : List Int) : Option (Int) := codewrightref01_Cmp.l0 k l0 l1 (wrap64 ((mx (l0.length : Int) (l1.length : Int)) - 1))
def codewrightref01_Sub.l0 : Nat → List Int → List Int → List Int → Int → Int → Option (List Int)
  | 0, _, _, _, _, _ => none
  | k + 1, x0, x1, x5, x6, x7 => if x7 < (x0.length : Int) then ((codewrightref01_limb.f x0 x7).bind fun t371 => ((codewrightref01_limb.f x1 x7).bind fun t372 => (if x5.length < 35184372088832 then (codewrightref01_Sub.l0 k x0 x1 (x5 ++ [(Int.tmod (IntKind.u64.wrap ((IntKind.u64.wrap ((IntKind.u64.wrap (t371 + 4294967296)) - t372)) - x6)) 4294967296) % 4294967296]) (IntKind.u64.wrap (1 - (IntKind.u64.wrap (Int.tdiv (IntKind.u64.wrap ((IntKind.u64.wrap ((IntKind.u64.wrap (t371 + 4294967296)) - t372)) - x6)) 4294967296)))) (wrap64 (x7 + 1))) else (none)))) else ((codewrightref01_Trim.f k x5).bind fun t368 => (some t368))
def codewrightref01_Sub.f (k : Nat) (l0 : List Int) (l1 : List Int) : Option (List Int) := codewrightref01_Sub.l0 k l0 l1 ([] : List Int) 0 0
def codewrightref01_Bits.l0 : Nat → Int → Int → Option (Int)
  | 0, _, _ => none
  | k + 1, x3, x4 => if x4 > 0 then (codewrightref01_Bits.l0 k (wrap64 (x3 + 1)) ((Int.tdiv x4 2) % 4294967296)) else (some x3)
def codewrightref01_Bits.f (k : Nat) (l0 : List Int) : Option (Int) := (codewrightref01_Trim.f k l0).bind fun t376 => (if (t376.length : Int) = 0 then (some 0) else (if 0 ≤ (wrap64 ((t376.length : Int) - 1)) then (if (wrap64 ((t376.length : Int) - 1)) < (t376.length : Int) then (codewrightref01_Bits.l0 k (wrap64 (32 * (wrap64 ((t376.length : Int) - 1)))) (rd t376 (wrap64 ((t376.length : Int) - 1)))) else (none)) else (none)))
def codewrightref01_shift.l0 : Nat → List Int → Int → List Int → Int → Int → Option (List Int)
  | 0, _, _, _, _, _ => none
  | k + 1, x0, x1, x5, x6, x7 => if x7 < (x0.length : Int) then (if 0 ≤ x7 then (if 0 ≤ (Int.tmod x1 32) then (if x5.length < 35184372088832 then (codewrightref01_shift.l0 k x0 x1 (x5 ++ [(Int.tmod (IntKind.u64.wrap ((shl .u64 (IntKind.u64.wrap (rd x0 x7)) (Int.tmod x1 32)) + x6)) 4294967296) % 4294967296]) (IntKind.u64.wrap (Int.tdiv (IntKind.u64.wrap ((shl .u64 (IntKind.u64.wrap (rd x0 x7)) (Int.tmod x1 32)) + x6)) 4294967296)) (wrap64 (x7 + 1))) else (none)) else (none)) else (none)) else (if x5.length < 35184372088832 then ((codewrightref01_Trim.f k (x5 ++ [(x6) % 4294967296])).bind fun t390 => (some t390)) else (none))
def codewrightref01_shift.f (k : Nat) (l0 : List Int) (a1 : Int) : Option (List Int) := if 0 ≤ (wrap64 (Int.tdiv a1 32)) then (if (wrap64 (Int.tdiv a1 32) : Int).toNat ≤ 70368744177664 then (codewrightref01_shift.l0 k l0 a1 (List.replicate (wrap64 (Int.tdiv a1 32) : Int).toNat 0) 0 0) else (none)) else (none)
def codewrightref01_DivMod.l0 : Nat → List Int → List Int → List Int → Int → Option (List Int × List Int)
  | 0, _, _, _, _ => none
  | k + 1, x1, x4, x5, x7 => if x7 ≥ 0 then ((codewrightref01_shift.f k x1 x7).bind fun t401 => ((codewrightref01_Cmp.f k x5 t401).bind fun t404 => (if t404 ≥ 0 then ((codewrightref01_Sub.f k x5 t401).bind fun t405 => ((codewrightref01_shift.f k (([1] : List Int)) x7).bind fun t411 => ((codewrightref01_Add.f k x4 t411).bind fun t414 => (codewrightref01_DivMod.l0 k x1 t414 t405 (wrap64 (x7 - 1)))))) else (codewrightref01_DivMod.l0 k x1 x4 x5 (wrap64 (x7 - 1)))))) else ((codewrightref01_Trim.f k x4).bind fun t398 => (some (t398, x5)))
def codewrightref01_DivMod.f (k : Nat) (l0 : List Int) (l1 : List Int) : Option (List Int × List Int) := (codewrightref01_Trim.f k l0).bind fun t393 => ((codewrightref01_Bits.f k l0).bind fun t396 => ((codewrightref01_Bits.f k l1).bind fun t397 => (codewrightref01_DivMod.l0 k l1 ([] : List Int) t393 (wrap64 (t396 - t397)))))
def codewrightref01_Gcd.l0 : Nat → List Int → List Int → Option (List Int)
  | 0, _, _ => none
  | k + 1, x0, x1 => (codewrightref01_Zero.f k x1).bind fun t417 => (if t417 = true then ((codewrightref01_Trim.f k x0).bind fun t418 => (some t418)) else ((codewrightref01_DivMod.f k x0 x1).bind fun bt421 => (codewrightref01_Gcd.l0 k x1 bt421.2)))
def codewrightref01_Gcd.f (k : Nat) (l0 : List Int) (l1 : List Int) : Option (List Int) := codewrightref01_Gcd.l0 k l0 l1
def codewrightref02_Make.j0 : Nat → Bool → List Int → List Int → Bool → Option (Bool × List Int × List Int)
  | 0, _, _, _, _ => none
  | k + 1, x0, x1, x2, x17 => if x17 = true then (some (false, (([] : List Int)), (([1] : List Int)))) else ((codewrightref01_Gcd.f k x1 x2).bind fun t436 => ((codewrightref01_DivMod.f k x1 t436).bind fun bt439 => ((codewrightref01_DivMod.f k x2 t436).bind fun bt445 => (some (x0, bt439.1, bt445.1)))))
def codewrightref02_Make.f (k : Nat) (a0 : Bool) (l1 : List Int) (l2 : List Int) : Option (Bool × List Int × List Int) := (codewrightref01_Zero.f k l1).bind fun t428 => (if t428 = true then (codewrightref02_Make.j0 k a0 l1 l2 true) else ((codewrightref01_Zero.f k l2).bind fun t429 => (codewrightref02_Make.j0 k a0 l1 l2 t429)))
def codewrightref01_Of.f (k : Nat) (a0 : Int) : Option (List Int) := (codewrightref01_Trim.f k (([(Int.tmod a0 4294967296) % 4294967296, (IntKind.u64.wrap (Int.tdiv a0 4294967296)) % 4294967296] : List Int))).bind fun t582 => (some t582)
def codewrightref01_Same.l0 : Nat → List Int → List Int → Int → Option (Bool)
  | 0, _, _, _ => none
  | k + 1, x0, x1, x5 => if x5 < (x0.length : Int) then (if 0 ≤ x5 then (if x5 < (x1.length : Int) then (if (rd x0 x5) = (rd x1 x5) then (codewrightref01_Same.l0 k x0 x1 (wrap64 (x5 + 1))) else (some false)) else (none)) else (none)) else (some true)
def codewrightref01_Same.f (k : Nat) (l0 : List Int) (l1 : List Int) : Option (Bool) := if (l0.length : Int) = (l1.length : Int) then (codewrightref01_Same.l0 k l0 l1 0) else (some false)
def codewrightref02_Same.f (k : Nat) (a0_0 : Bool) (l0_1 : List Int) (l0_2 : List Int) (a1_0 : Bool) (l1_1 : List Int) (l1_2 : List Int) : Option (Bool) := if (a0_0 == a1_0) = true then ((codewrightref01_Same.f k l0_1 l1_1).bind fun t343 => (if t343 = true then ((codewrightref01_Same.f k l0_2 l1_2).bind fun t344 => (some t344)) else (some false))) else (some false)
end Go.Proofs.Ythheakfgmombdaa.F
end
section
namespace Go.Proofs.Ythheakfgmombdaa.Num
set_option linter.unusedVariables false
open Go.RowKit Go.Proofs.YthheakfgmombdaaX.PrintWords Go.Proofs.YthheakfgmombdaaX.PrintMore
def Ev {α : Type} (f : Nat → Option α) (a : α) : Prop := ∃ K, ∀ k, K ≤ k → f k = some a
theorem Ev.const {α : Type} (a : α) : Ev (fun _ => some a) a := ⟨0, fun _ _ => rfl⟩
theorem Ev.of {α : Type} {f : Nat → Option α} {a : α} (h : ∀ k, f k = Option.some a) : Ev f a := ⟨0, fun k _ => h k⟩
theorem Ev.bind {α β : Type} {f : Nat → Option α} {g : Nat → α → Option β} {a : α} {b : β} (hf : Ev f a) (hg : Ev (fun k => g k a) b) : Ev (fun k => (f k).bind (g k)) b := by
  obtain ⟨K, hf⟩ := hf
  obtain ⟨L, hg⟩ := hg
  exact ⟨max K L, fun k hk => by show (f k).bind (g k) = some b; rw [hf k (by omega)]; exact hg k (by omega)⟩
theorem Ev.congr {α : Type} {f g : Nat → Option α} {a : α} (hf : Ev f a) (h : ∀ k, g k = f k) : Ev g a := by
  obtain ⟨K, hf⟩ := hf
  exact ⟨K, fun k hk => by rw [h]; exact hf k hk⟩
theorem Ev.congr' {α : Type} {f : Nat → Option α} {a b : α} (hf : Ev f a) (h : a = b) : Ev f b := h ▸ hf
theorem Ev.succ {α : Type} {f : Nat → Option α} {a : α} (h : Ev (fun k => f (k + 1)) a) : Ev f a := by
  obtain ⟨K, h⟩ := h
  exact ⟨K + 1, fun k hk => by obtain ⟨m, rfl⟩ : ∃ m, k = m + 1 := ⟨k - 1, by omega⟩; exact h m (by omega)⟩
theorem Ev.some {α : Type} {f : Nat → Option α} {a : α} (h : Ev f a) : ∃ k, f k = some a := by
  obtain ⟨K, h⟩ := h
  exact ⟨K, h K (Nat.le_refl _)⟩
theorem Ev.ite {α : Type} {c : Prop} [Decidable c] {f g : Nat → Option α} {a : α} (h1 : c → Ev f a) (h2 : ¬ c → Ev g a) : Ev (fun k => if c then f k else g k) a := by
  by_cases h : c
  · exact (h1 h).congr fun k => if_pos h
  · exact (h2 h).congr fun k => if_neg h
theorem Ev.pos {α : Type} {c : Prop} [Decidable c] {f g : Nat → Option α} {a : α} (h : c) (h1 : Ev f a) : Ev (fun k => if c then f k else g k) a := h1.congr fun _ => if_pos h
theorem Ev.neg {α : Type} {c : Prop} [Decidable c] {f g : Nat → Option α} {a : α} (h : ¬ c) (h1 : Ev g a) : Ev (fun k => if c then f k else g k) a := h1.congr fun _ => if_neg h
theorem Ev.loop {σ α : Type} {l : Nat → σ → Nat → Option α} {r : α} (n : Nat) (st : Nat → σ) (step : ∀ i, i < n → ∀ k, l (k + 1) (st i) i = l k (st (i + 1)) (i + 1)) (last : Ev (fun k => l k (st n) n) r) (i : Nat) (hi : i ≤ n) : Ev (fun k => l k (st i) i) r := by
  obtain ⟨d, hd⟩ : ∃ d, d + i = n := ⟨n - i, by omega⟩
  induction d generalizing i with
  | zero =>
    obtain rfl : i = n := by omega
    exact last
  | succ d ih =>
    have := ih (i + 1) (by omega) (by omega)
    exact Ev.succ (this.congr fun k => step i (by omega) k)
theorem w64 {x : Int} (h0 : -9223372036854775808 ≤ x) (h1 : x < 9223372036854775808) : wrap64 x = x := by unfold wrap64; omega
theorem wu64 {x : Int} (h0 : 0 ≤ x) (h1 : x < 18446744073709551616) : IntKind.u64.wrap x = x := by
  show x % 18446744073709551616 = x
  omega
theorem wu64m (x : Int) : IntKind.u64.wrap x = x % 18446744073709551616 := rfl
def B : Nat := 4294967296
def V : List Int → Nat
  | [] => 0
  | x :: l => x.toNat + 4294967296 * V l
def Lim (l : List Int) : Prop := ∀ x ∈ l, 0 ≤ x ∧ x < 4294967296
theorem V_nil : V [] = 0 := rfl
theorem V_cons (x : Int) (l : List Int) : V (x :: l) = x.toNat + 4294967296 * V l := rfl
theorem Lim_nil : Lim [] := fun _ h => by cases h
theorem Lim_cons {x : Int} {l : List Int} (h0 : 0 ≤ x) (h1 : x < 4294967296) (h : Lim l) : Lim (x :: l) := fun y hy => by
  rcases List.mem_cons.1 hy with rfl | hy
  · exact ⟨h0, h1⟩
  · exact h y hy
theorem Lim_tail {x : Int} {l : List Int} (h : Lim (x :: l)) : Lim l := fun y hy => h y (List.mem_cons_of_mem _ hy)
theorem Lim_head {x : Int} {l : List Int} (h : Lim (x :: l)) : 0 ≤ x ∧ x < 4294967296 := h x List.mem_cons_self
theorem Lim_append {a b : List Int} (ha : Lim a) (hb : Lim b) : Lim (a ++ b) := fun y hy => by
  rcases List.mem_append.1 hy with h | h
  · exact ha y h
  · exact hb y h
theorem Lim_take {a : List Int} (h : Lim a) (n : Nat) : Lim (a.take n) := fun y hy => h y (List.mem_of_mem_take hy)
theorem Lim_drop {a : List Int} (h : Lim a) (n : Nat) : Lim (a.drop n) := fun y hy => h y (List.mem_of_mem_drop hy)
theorem Lim_set {a : List Int} (h : Lim a) (i : Nat) {x : Int} (h0 : 0 ≤ x) (h1 : x < 4294967296) : Lim (a.set i x) := fun y hy => by
  rcases List.mem_or_eq_of_mem_set hy with h' | rfl
  · exact h y h'
  · exact ⟨h0, h1⟩
theorem Lim_replicate (n : Nat) : Lim (List.replicate n 0) := fun y hy => by
  rw [(List.mem_replicate.1 hy).2]
  omega
theorem Lim_wf {l : List Int} (h : ∀ x ∈ l, (Lit.int .u32 x).wf = true) : Lim l := fun x hx => by
  have := h x hx
  simp [Lit.wf, IntKind.min, IntKind.max, IntKind.signed, IntKind.bits] at this
  omega
theorem V_append (a b : List Int) : V (a ++ b) = V a + 4294967296 ^ a.length * V b := by
  induction a with
  | nil => simp [V]
  | cons x a ih =>
    rw [List.cons_append, V_cons, V_cons, ih, List.length_cons, Nat.pow_succ, Nat.mul_add, Nat.add_assoc, Nat.mul_comm (4294967296 ^ a.length) 4294967296, Nat.mul_assoc]
theorem V_lt {l : List Int} (h : Lim l) : V l < 4294967296 ^ l.length := by
  induction l with
  | nil => simp [V]
  | cons x l ih =>
    have h1 := ih (Lim_tail h)
    have h2 := Lim_head h
    rw [V_cons, List.length_cons, Nat.pow_succ]
    omega
theorem V_replicate (n : Nat) : V (List.replicate n 0) = 0 := by
  induction n with
  | zero => rfl
  | succ n ih => rw [List.replicate_succ, V_cons, ih]; rfl
theorem V_take_drop (l : List Int) (n : Nat) (h : n ≤ l.length) : V l = V (l.take n) + 4294967296 ^ n * V (l.drop n) := by
  have := V_append (l.take n) (l.drop n)
  rw [List.take_append_drop, List.length_take, Nat.min_eq_left h] at this
  exact this
theorem V_snoc (l : List Int) (x : Int) : V (l ++ [x]) = V l + 4294967296 ^ l.length * x.toNat := by
  rw [V_append]; simp [V]
theorem V_take_succ (l : List Int) (n : Nat) (h : n < l.length) : V (l.take (n + 1)) = V (l.take n) + 4294967296 ^ n * (l[n]).toNat := by
  rw [List.take_succ_eq_append_getElem h, V_snoc, List.length_take, Nat.min_eq_left (Nat.le_of_lt h)]
def L (n : Nat) : List Int := if h : n = 0 then [] else ((n % 4294967296 : Nat) : Int) :: L (n / 4294967296)
termination_by n
theorem L_zero : L 0 = [] := by rw [L]; rfl
theorem L_pos {n : Nat} (h : n ≠ 0) : L n = ((n % 4294967296 : Nat) : Int) :: L (n / 4294967296) := by rw [L, dif_neg h]
theorem V_L (n : Nat) : V (L n) = n := by
  induction n using Nat.strongRecOn with
  | ind n ih =>
    by_cases h : n = 0
    · subst h; rw [L_zero]; rfl
    · rw [L_pos h, V_cons, ih _ (Nat.div_lt_self (by omega) (by omega)), Int.toNat_natCast]
      omega
theorem Lim_L (n : Nat) : Lim (L n) := by
  induction n using Nat.strongRecOn with
  | ind n ih =>
    by_cases h : n = 0
    · subst h; rw [L_zero]; exact Lim_nil
    · rw [L_pos h]
      exact Lim_cons (by omega) (by omega) (ih _ (Nat.div_lt_self (by omega) (by omega)))
theorem L_eq_nil {n : Nat} : L n = [] ↔ n = 0 := by
  constructor
  · intro h
    have := V_L n
    rw [h] at this
    exact this.symm
  · rintro rfl
    exact L_zero
theorem L_length_le {n k : Nat} (h : n < 4294967296 ^ k) : (L n).length ≤ k := by
  induction k generalizing n with
  | zero =>
    obtain rfl : n = 0 := by simpa using h
    rw [L_zero]; exact Nat.le_refl _
  | succ k ih =>
    by_cases h0 : n = 0
    · subst h0; rw [L_zero]; exact Nat.zero_le _
    · rw [L_pos h0, List.length_cons]
      have := ih (n := n / 4294967296) (by rw [Nat.pow_succ] at h; omega)
      omega
def Trimmed (l : List Int) : Prop := ∀ h : l ≠ [], l.getLast h ≠ 0
theorem L_of_trimmed : ∀ {l : List Int}, Lim l → Trimmed l → L (V l) = l
  | [], _, _ => by rw [V_nil, L_zero]
  | x :: l, h, ht => by
    have h1 := Lim_head h
    have hl : Trimmed l := fun hne => by
      have := ht (by simp)
      rwa [List.getLast_cons hne] at this
    have ih := L_of_trimmed (Lim_tail h) hl
    have hne : V (x :: l) ≠ 0 := by
      rw [V_cons]
      by_cases hn : l = []
      · subst hn
        have := ht (by simp)
        simp only [List.getLast_singleton] at this
        rw [V_nil]
        omega
      · have : V l ≠ 0 := fun h0 => by
          rw [h0, L_zero] at ih
          exact hn ih.symm
        omega
    rw [L_pos hne]
    have e1 : ((V (x :: l) % 4294967296 : Nat) : Int) = x := by rw [V_cons]; omega
    have e2 : V (x :: l) / 4294967296 = V l := by rw [V_cons]; omega
    rw [e1, e2, ih]
theorem trimmed_L (n : Nat) : Trimmed (L n) := by
  induction n using Nat.strongRecOn with
  | ind n ih =>
    intro hne
    by_cases h : n = 0
    · exact absurd (L_eq_nil.2 h) hne
    · have e := L_pos h
      by_cases h2 : n / 4294967296 = 0
      · have : L n = [((n % 4294967296 : Nat) : Int)] := by rw [e, h2, L_zero]
        simp only [this, List.getLast_singleton]
        omega
      · have h3 : L (n / 4294967296) ≠ [] := fun h4 => h2 (L_eq_nil.1 h4)
        have := ih _ (Nat.div_lt_self (by omega) (by omega)) h3
        simp only [e, List.getLast_cons h3]
        exact this
theorem L_length_pow {n : Nat} (h : n ≠ 0) : 4294967296 ^ ((L n).length - 1) ≤ n := by
  induction n using Nat.strongRecOn with
  | ind n ih =>
    rw [L_pos h, List.length_cons, Nat.add_sub_cancel]
    by_cases h2 : n / 4294967296 = 0
    · rw [h2, L_zero]; simp; omega
    · have := ih _ (Nat.div_lt_self (by omega) (by omega)) h2
      have h3 : (L (n / 4294967296)).length ≠ 0 := fun h4 => h2 (L_eq_nil.1 (List.eq_nil_of_length_eq_zero h4))
      obtain ⟨m, hm⟩ : ∃ m, (L (n / 4294967296)).length = m + 1 := ⟨(L (n / 4294967296)).length - 1, by omega⟩
      rw [hm] at this ⊢
      rw [Nat.add_sub_cancel] at this
      rw [Nat.pow_succ]
      have h5 := Nat.div_mul_le_self n 4294967296
      calc 4294967296 ^ m * 4294967296 ≤ (n / 4294967296) * 4294967296 := Nat.mul_le_mul_right _ this
        _ ≤ n := h5
theorem rd_eq (l : List Int) (i : Nat) (h : i < l.length) : rd l (i : Int) = l[i] := by
  unfold rd
  rw [Int.toNat_natCast, List.getD_eq_getElem?_getD, List.getElem?_eq_getElem h]
  rfl
theorem Lim_get {l : List Int} (h : Lim l) (i : Nat) (hi : i < l.length) : 0 ≤ l[i] ∧ l[i] < 4294967296 := h _ (List.getElem_mem hi)
def W : Nat → Int
  | 0 => 1
  | n + 1 => 4294967296 * W n
theorem W_zero : W 0 = 1 := rfl
theorem W_succ (n : Nat) : W (n + 1) = 4294967296 * W n := rfl
theorem W_pos (n : Nat) : 0 < W n := by
  induction n with
  | zero => rw [W_zero]; omega
  | succ n ih => rw [W_succ]; omega
theorem W_eq (n : Nat) : W n = ((4294967296 ^ n : Nat) : Int) := by
  induction n with
  | zero => rfl
  | succ n ih => rw [W_succ, ih, Nat.pow_succ, Int.natCast_mul]; exact Int.mul_comm _ _
theorem W_add (m n : Nat) : W (m + n) = W m * W n := by
  rw [W_eq, W_eq, W_eq, Nat.pow_add, Int.natCast_mul]
theorem Vi_nil : (V [] : Int) = 0 := rfl
theorem Vi_cons {x : Int} (l : List Int) (h : 0 ≤ x) : (V (x :: l) : Int) = x + 4294967296 * (V l : Int) := by rw [V_cons]; omega
theorem Vi_nonneg (l : List Int) : 0 ≤ (V l : Int) := by omega
theorem Vi_lt {l : List Int} (h : Lim l) : (V l : Int) < W l.length := by
  rw [W_eq]; exact Int.ofNat_lt.2 (V_lt h)
theorem Vi_append (a b : List Int) : (V (a ++ b) : Int) = V a + W a.length * V b := by
  rw [V_append, W_eq, Int.natCast_add, Int.natCast_mul]
theorem Vi_snoc (l : List Int) {x : Int} (h : 0 ≤ x) : (V (l ++ [x]) : Int) = V l + W l.length * x := by
  rw [Vi_append, Vi_cons [] h, Vi_nil]; congr 2; omega
theorem Vi_take_drop (l : List Int) (n : Nat) (h : n ≤ l.length) : (V l : Int) = V (l.take n) + W n * V (l.drop n) := by
  rw [V_take_drop l n h, W_eq, Int.natCast_add, Int.natCast_mul]
def lb (a : List Int) (i : Nat) : Int := a.getD i 0
theorem lb_of_lt {a : List Int} {i : Nat} (h : i < a.length) : lb a i = a[i] := by
  unfold lb
  rw [List.getD_eq_getElem?_getD, List.getElem?_eq_getElem h]
  rfl
theorem lb_of_ge {a : List Int} {i : Nat} (h : a.length ≤ i) : lb a i = 0 := by
  unfold lb
  rw [List.getD_eq_getElem?_getD, List.getElem?_eq_none h]
  rfl
theorem lb_nonneg {a : List Int} (ha : Lim a) (i : Nat) : 0 ≤ lb a i := by
  by_cases h : i < a.length
  · rw [lb_of_lt h]; exact (Lim_get ha i h).1
  · rw [lb_of_ge (by omega)]; omega
theorem lb_lt {a : List Int} (ha : Lim a) (i : Nat) : lb a i < 4294967296 := by
  by_cases h : i < a.length
  · rw [lb_of_lt h]; exact (Lim_get ha i h).2
  · rw [lb_of_ge (by omega)]; omega
theorem rd_lb (a : List Int) (i : Nat) : rd a (i : Int) = lb a i := by
  unfold rd lb
  rw [Int.toNat_natCast]
theorem Vi_take_succ {a : List Int} (ha : Lim a) (i : Nat) : (V (a.take (i + 1)) : Int) = V (a.take i) + W i * lb a i := by
  by_cases h : i < a.length
  · rw [List.take_succ_eq_append_getElem h, Vi_snoc _ (Lim_get ha i h).1, lb_of_lt h, List.length_take, Nat.min_eq_left (Nat.le_of_lt h)]
  · rw [List.take_of_length_le (by omega), List.take_of_length_le (by omega), lb_of_ge (by omega), Int.mul_zero, Int.add_zero]
theorem Vi_take_all {a : List Int} {i : Nat} (h : a.length ≤ i) : (V (a.take i) : Int) = V a := by rw [List.take_of_length_le h]
theorem Vi_drop_succ {a : List Int} (ha : Lim a) (i : Nat) : (V (a.drop i) : Int) = lb a i + 4294967296 * (V (a.drop (i + 1)) : Int) := by
  by_cases h : i < a.length
  · rw [List.drop_eq_getElem_cons h, Vi_cons _ (Lim_get ha i h).1, lb_of_lt h]
  · rw [List.drop_of_length_le (by omega), List.drop_of_length_le (by omega), lb_of_ge (by omega)]; rfl
theorem carry_bounds {s : Int} (h0 : 0 ≤ s) (m : Int) (h1 : s < 4294967296 * m) : 0 ≤ s % 4294967296 ∧ s % 4294967296 < 4294967296 ∧ 0 ≤ s / 4294967296 ∧ s / 4294967296 < m ∧ s % 4294967296 + 4294967296 * (s / 4294967296) = s := by omega
theorem tmodB {s : Int} (h : 0 ≤ s) : Int.tmod s 4294967296 = s % 4294967296 := Int.tmod_eq_emod_of_nonneg h
theorem tdivB {s : Int} (h : 0 ≤ s) : Int.tdiv s 4294967296 = s / 4294967296 := Int.tdiv_eq_ediv_of_nonneg h
theorem wsucc {i : Nat} (h : i < 4611686018427387904) : wrap64 ((i : Int) + 1) = ((i + 1 : Nat) : Int) := by rw [w64 (by omega) (by omega)]; rfl
theorem wpred {i : Nat} (h : i < 4611686018427387904) : wrap64 (((i + 1 : Nat) : Int) - 1) = (i : Int) := by rw [w64 (by omega) (by omega)]; omega
end Go.Proofs.Ythheakfgmombdaa.Num
end
section
namespace Go.Proofs.Ythheakfgmombdaa.F
open Go.RowKit Go.Proofs.YthheakfgmombdaaX.PrintWords Go.Proofs.YthheakfgmombdaaX.PrintLast Go.Proofs.YthheakfgmombdaaX.PrintMore
set_option linter.unusedVariables false
def rd_LI (xs : List (List Int)) (i : Int) : (List Int) := xs.getD i.toNat ([] : List Int)
def rational_size.f (k : Nat) (a0 : Int) : Option (List Int) := if a0 < 0 then ((nat_Of.f k (IntKind.u64.wrap (-(IntKind.u64.wrap (a0))))).bind fun t273 => (some t273)) else ((nat_Of.f k (IntKind.u64.wrap (a0))).bind fun t276 => (some t276))
def rational_Of.f (k : Nat) (a0 : Int) (a1 : Int) : Option (Bool × List Int × List Int × Int) := if a1 = 0 then (some (false, ([] : List Int), ([] : List Int), 7)) else ((rational_size.f k a0).bind fun t280 => ((rational_size.f k a1).bind fun t283 => ((rational_canonical.f k ((decide (a0 < 0)) != (decide (a1 < 0))) t280 t283).bind fun bt286 => (some (bt286.1, bt286.2.1, bt286.2.2, 0)))))
mutual
def delsarte_Distances.j0 : Nat → Int → List (List Int) → Bool → Option ((List (S46)) × Int)
  | 0, _, _, _ => none
  | k + 1, x0, x1, x23 => if x23 = true then (some (([] : List (S46)), 6)) else (if (x1.length : Int) = 0 then (some (([] : List (S46)), 11)) else (if 0 < (x1.length : Int) then (if ((rd_LI x1 0).length : Int) < 1 then (some (([] : List (S46)), 4)) else (if ((rd_LI x1 0).length : Int) > 64 then (some (([] : List (S46)), 4)) else (delsarte_Distances.l0 k x0 x1 ((rd_LI x1 0).length : Int) x1 (x1.length : Int) 0))) else (none)))
def delsarte_Distances.l0 : Nat → Int → List (List Int) → Int → List (List Int) → Int → Int → Option ((List (S46)) × Int)
  | 0, _, _, _, _, _, _ => none
  | k + 1, x0, x1, x6, x51, x52, x53 => if x53 < x52 then (if 0 ≤ x53 then (if x53 < (x51.length : Int) then (if ((rd_LI x51 x53).length : Int) = x6 then (delsarte_Distances.l1 k x0 x1 x6 x51 x52 x53 (rd_LI x51 x53) ((rd_LI x51 x53).length : Int) 0) else (some (([] : List (S46)), 3))) else (none)) else (none)) else (if 0 ≤ (wrap64 (x6 + 1)) then (if (wrap64 (x6 + 1) : Int).toNat ≤ 35184372088832 then (delsarte_Distances.l2 k x1 (List.replicate (wrap64 (x6 + 1) : Int).toNat 0) x1 (x1.length : Int) 0) else (none)) else (none))
def delsarte_Distances.l1 : Nat → Int → List (List Int) → Int → List (List Int) → Int → Int → List Int → Int → Int → Option ((List (S46)) × Int)
  | 0, _, _, _, _, _, _, _, _, _ => none
  | k + 1, x0, x1, x6, x51, x52, x53, x61, x62, x63 => if x63 < x62 then (if 0 ≤ x63 then (if x63 < (x61.length : Int) then (if (rd x61 x63) < 0 then (some (([] : List (S46)), 2)) else (if (rd x61 x63) ≥ x0 then (some (([] : List (S46)), 2)) else (delsarte_Distances.l1 k x0 x1 x6 x51 x52 x53 x61 x62 (wrap64 (x63 + 1))))) else (none)) else (none)) else (delsarte_Distances.l0 k x0 x1 x6 x51 x52 (wrap64 (x53 + 1)))
def delsarte_Distances.l2 : Nat → List (List Int) → List Int → List (List Int) → Int → Int → Option ((List (S46)) × Int)
  | 0, _, _, _, _, _ => none
  | k + 1, x1, x11, x79, x80, x81 => if x81 < x80 then (if 0 ≤ x81 then (if x81 < (x79.length : Int) then (delsarte_Distances.l3 k x1 x11 (rd_LI x79 x81) x79 x80 x81 x1 (x1.length : Int) 0) else (none)) else (none)) else (delsarte_Distances.l5 k x1 ([] : List (S46)) x11 (x11.length : Int) 0)
def delsarte_Distances.l3 : Nat → List (List Int) → List Int → List Int → List (List Int) → Int → Int → List (List Int) → Int → Int → Option ((List (S46)) × Int)
  | 0, _, _, _, _, _, _, _, _, _ => none
  | k + 1, x1, x11, x13, x79, x80, x81, x85, x86, x87 => if x87 < x86 then (if 0 ≤ x87 then (if x87 < (x85.length : Int) then (delsarte_Distances.l4 k x1 x11 x13 (rd_LI x85 x87) 0 x79 x80 x81 x85 x86 x87 (x13.length : Int) 0) else (none)) else (none)) else (delsarte_Distances.l2 k x1 x11 x79 x80 (wrap64 (x81 + 1)))
def delsarte_Distances.l4 : Nat → List (List Int) → List Int → List Int → List Int → Int → List (List Int) → Int → Int → List (List Int) → Int → Int → Int → Int → Option ((List (S46)) × Int)
  | 0, _, _, _, _, _, _, _, _, _, _, _, _, _ => none
  | k + 1, x1, x11, x13, x15, x16, x79, x80, x81, x85, x86, x87, x92, x93 => if x93 < x92 then (if 0 ≤ x93 then (if x93 < (x13.length : Int) then (if x93 < (x15.length : Int) then (if (rd x13 x93) = (rd x15 x93) then (delsarte_Distances.l4 k x1 x11 x13 x15 x16 x79 x80 x81 x85 x86 x87 x92 (wrap64 (x93 + 1))) else (delsarte_Distances.l4 k x1 x11 x13 x15 (wrap64 (x16 + 1)) x79 x80 x81 x85 x86 x87 x92 (wrap64 (x93 + 1)))) else (none)) else (none)) else (none)) else (if 0 ≤ x16 then (if x16 < (x11.length : Int) then (delsarte_Distances.l3 k x1 (x11.set (x16 : Int).toNat (wrap64 ((rd x11 x16) + 1))) x13 x79 x80 x81 x85 x86 (wrap64 (x87 + 1))) else (none)) else (none))
def delsarte_Distances.l5 : Nat → List (List Int) → List (S46) → List Int → Int → Int → Option ((List (S46)) × Int)
  | 0, _, _, _, _, _ => none
  | k + 1, x1, x18, x116, x117, x118 => if x118 < x117 then (if 0 ≤ x118 then (if x118 < (x116.length : Int) then ((rational_Of.f k (rd x116 x118) (x1.length : Int)).bind fun bt308 => (if x18.length < 2513169434916 then (delsarte_Distances.l5 k x1 (x18 ++ [(⟨bt308.1, bt308.2.1, bt308.2.2.1⟩ : S46)]) x116 x117 (wrap64 (x118 + 1))) else (none))) else (none)) else (none)) else (some (x18, 0))
end
def delsarte_Distances.f (k : Nat) (a0 : Int) (l1 : List (List Int)) : Option ((List (S46)) × Int) := if a0 < 2 then (delsarte_Distances.j0 k a0 l1 true) else (delsarte_Distances.j0 k a0 l1 (decide (a0 > 256)))
def codewrightref24_Distance.l0 : Nat → List Int → List Int → Int → Int → Option (Int)
  | 0, _, _, _, _ => none
  | k + 1, x0, x1, x5, x6 => if x6 < (x0.length : Int) then (if 0 ≤ x6 then (if x6 < (x1.length : Int) then (if (rd x0 x6) = (rd x1 x6) then (codewrightref24_Distance.l0 k x0 x1 x5 (wrap64 (x6 + 1))) else (codewrightref24_Distance.l0 k x0 x1 (wrap64 (x5 + 1)) (wrap64 (x6 + 1)))) else (none)) else (none)) else (some x5)
def codewrightref24_Distance.f (k : Nat) (l0 : List Int) (l1 : List Int) : Option (Int) := codewrightref24_Distance.l0 k l0 l1 0 0
def codewrightref02_Nat.f (k : Nat) (l0 : List Int) : Option (Bool × List Int × List Int) := (codewrightref02_Make.f k false l0 (([1] : List Int))).bind fun bt645 => (some (bt645.1, bt645.2.1, bt645.2.2))
mutual
def codewrightref04_Order.j0 : Nat → Bool → Int → Int → List Int → Option (Int)
  | 0, _, _, _, _ => none
  | k + 1, x17, x327000, x327001, x327002 => if x17 = true then (some 0) else (codewrightref04_Order.l0 k 1 0 x327000 x327001 x327002)
def codewrightref04_Order.l0 : Nat → Int → Int → Int → Int → List Int → Option (Int)
  | 0, _, _, _, _, _ => none
  | k + 1, x3, x4, x327000, x327001, x327002 => if x4 < x327001 then (if x327000 = 0 then (none) else (if x3 > (wrap64 ((256 : Int) / x327000)) then (some 0) else (codewrightref04_Order.l0 k (wrap64 (x3 * x327000)) (wrap64 (x4 + 1)) x327000 x327001 x327002))) else (some x3)
end
def codewrightref04_Order.f (k : Nat) (a0_0 : Int) (a0_1 : Int) (l0_2 : List Int) : Option (Int) := if a0_0 < 2 then (codewrightref04_Order.j0 k true a0_0 a0_1 l0_2) else (if a0_1 < 1 then (codewrightref04_Order.j0 k true a0_0 a0_1 l0_2) else (codewrightref04_Order.j0 k (decide (a0_1 > 8)) a0_0 a0_1 l0_2))
def codewrightref04_prime.l0 : Nat → Int → Int → Option (Bool)
  | 0, _, _ => none
  | k + 1, x0, x3 => if x3 < x0 then (if x3 = 0 then (none) else (if (Int.tmod x0 x3) = 0 then (some false) else (codewrightref04_prime.l0 k x0 (wrap64 (x3 + 1))))) else (some true)
def codewrightref04_prime.f (k : Nat) (a0 : Int) : Option (Bool) := codewrightref04_prime.l0 k a0 2
mutual
def codewrightref04_divides.l0 : Nat → List Int → Int → Int → List Int → Int → Option (Bool)
  | 0, _, _, _, _, _ => none
  | k + 1, x0, x2, x7, x8, x9 => if x9 ≥ x7 then (if 0 ≤ x9 then (if x9 < (x8.length : Int) then (codewrightref04_divides.l1 k x0 x2 x7 x8 x9 (rd x8 x9) 0) else (none)) else (none)) else (codewrightref04_divides.l2 k x8 0)
def codewrightref04_divides.l1 : Nat → List Int → Int → Int → List Int → Int → Int → Int → Option (Bool)
  | 0, _, _, _, _, _, _, _ => none
  | k + 1, x0, x2, x7, x8, x9, x10, x11 => if x11 < x7 then (if 0 ≤ (wrap64 ((wrap64 (x9 - x7)) + x11)) then (if (wrap64 ((wrap64 (x9 - x7)) + x11)) < (x8.length : Int) then (if 0 ≤ x11 then (if x11 < (x0.length : Int) then (if x2 = 0 then (none) else (codewrightref04_divides.l1 k x0 x2 x7 (x8.set ((wrap64 ((wrap64 (x9 - x7)) + x11)) : Int).toNat (Int.tmod (wrap64 ((rd x8 (wrap64 ((wrap64 (x9 - x7)) + x11))) + (wrap64 ((wrap64 (x2 - x10)) * (rd x0 x11))))) x2)) x9 x10 (wrap64 (x11 + 1)))) else (none)) else (none)) else (none)) else (none)) else (if 0 ≤ x9 then (if x9 < (x8.length : Int) then (codewrightref04_divides.l0 k x0 x2 x7 (x8.set (x9 : Int).toNat 0) (wrap64 (x9 - 1))) else (none)) else (none))
def codewrightref04_divides.l2 : Nat → List Int → Int → Option (Bool)
  | 0, _, _ => none
  | k + 1, x8, x12 => if x12 < (x8.length : Int) then (if 0 ≤ x12 then (if (rd x8 x12) = 0 then (codewrightref04_divides.l2 k x8 (wrap64 (x12 + 1))) else (some false)) else (none)) else (some true)
end
def codewrightref04_divides.f (k : Nat) (l0 : List Int) (l1 : List Int) (a2 : Int) : Option (Bool) := (some (([] : List Int) : List Int)).bind fun y327 => (if y327.length + l1.length < 17592186044416 then ((some (y327 ++ l1 : List Int)).bind fun y330 => (if y330.length < 17592186044416 then ((some (y330 ++ [1] : List Int)).bind fun y333 => (codewrightref04_divides.l0 k l0 a2 (l0.length : Int) y333 (wrap64 ((y333.length : Int) - 1)))) else (none))) else (none))
def codewrightref04_digits.l0 : Nat → Int → Int → Int → List Int → Int → Option (List Int)
  | 0, _, _, _, _, _ => none
  | k + 1, x0, x1, x2, x7, x8 => if x8 < x2 then (if x1 = 0 then (none) else (if 0 ≤ x8 then (if x8 < (x7.length : Int) then (codewrightref04_digits.l0 k (wrap64 (Int.tdiv x0 x1)) x1 x2 (x7.set (x8 : Int).toNat (Int.tmod x0 x1)) (wrap64 (x8 + 1))) else (none)) else (none))) else (some x7)
def codewrightref04_digits.f (k : Nat) (a0 : Int) (a1 : Int) (a2 : Int) : Option (List Int) := if 0 ≤ a2 then (if (a2 : Int).toNat ≤ 35184372088832 then (codewrightref04_digits.l0 k a0 a1 a2 (List.replicate (a2 : Int).toNat 0) 0) else (none)) else (none)
mutual
def codewrightref04_irreducible.l0 : Nat → List Int → Int → Int → Int → Option (Bool)
  | 0, _, _, _, _ => none
  | k + 1, x0, x1, x5, x6 => if (wrap64 (2 * x6)) ≤ (x0.length : Int) then (codewrightref04_irreducible.l1 k x0 x1 (wrap64 (x5 * x1)) x6 0) else (some true)
def codewrightref04_irreducible.l1 : Nat → List Int → Int → Int → Int → Int → Option (Bool)
  | 0, _, _, _, _, _ => none
  | k + 1, x0, x1, x5, x6, x7 => if x7 < x5 then ((codewrightref04_digits.f k x7 x1 x6).bind fun t346 => ((codewrightref04_divides.f k t346 x0 x1).bind fun t349 => (if t349 = true then (some false) else (codewrightref04_irreducible.l1 k x0 x1 x5 x6 (wrap64 (x7 + 1)))))) else (codewrightref04_irreducible.l0 k x0 x1 x5 (wrap64 (x6 + 1)))
end
def codewrightref04_irreducible.f (k : Nat) (l0 : List Int) (a1 : Int) : Option (Bool) := codewrightref04_irreducible.l0 k l0 a1 1 1
mutual
def codewrightref04_Check.j0 : Nat → Bool → Int → Int → List Int → Option (Int)
  | 0, _, _, _, _ => none
  | k + 1, x12, x351000, x351001, x351002 => if x12 = true then (some 1) else (if x351001 = 1 then (if (x351002.length : Int) = 0 then (some 0) else (some 1)) else (if (x351002.length : Int) = x351001 then (codewrightref04_Check.l0 k 0 x351000 x351001 x351002) else (some 1)))
def codewrightref04_Check.l0 : Nat → Int → Int → Int → List Int → Option (Int)
  | 0, _, _, _, _ => none
  | k + 1, x3, x351000, x351001, x351002 => if x3 < x351001 then (if 0 ≤ x3 then (if x3 < (x351002.length : Int) then (if (rd x351002 x3) < 0 then (some 1) else (if (rd x351002 x3) ≥ x351000 then (some 1) else (codewrightref04_Check.l0 k (wrap64 (x3 + 1)) x351000 x351001 x351002))) else (none)) else (none)) else ((codewrightref04_irreducible.f k x351002 x351000).bind fun t355 => (if t355 = true then (some 0) else (some 1)))
end
def codewrightref04_Check.f (k : Nat) (a0_0 : Int) (a0_1 : Int) (l0_2 : List Int) : Option (Int) := (codewrightref04_Order.f k a0_0 a0_1 l0_2).bind fun t351 => (if t351 = 0 then (codewrightref04_Check.j0 k true a0_0 a0_1 l0_2) else ((codewrightref04_prime.f k a0_0).bind fun t352 => (codewrightref04_Check.j0 k (!t352) a0_0 a0_1 l0_2)))
def codewrightref04_Is.f (k : Nat) (a0_0 : Int) (a0_1 : Int) (l0_2 : List Int) (a1 : Int) : Option (Bool) := if a1 ≥ 0 then ((codewrightref04_Order.f k a0_0 a0_1 l0_2).bind fun t357 => (some (decide (a1 < t357)))) else (some false)
def codewrightref04_In.f (k : Nat) (a0_0 : Int) (a0_1 : Int) (l0_2 : List Int) (a1 : Int) : Option (Int) := (codewrightref04_Is.f k a0_0 a0_1 l0_2 a1).bind fun t359 => (if t359 = true then (some a1) else (some 0))
def codewrightref24_Row.l0 : Nat → Int → List Int → List Int → Int → Int → Int → List Int → Option (List Int)
  | 0, _, _, _, _, _, _, _ => none
  | k + 1, x1, x2, x7, x8, x361000, x361001, x361002 => if x8 < x1 then (if x8 < (x2.length : Int) then (if 0 ≤ x8 then ((codewrightref04_In.f k x361000 x361001 x361002 (rd x2 x8)).bind fun t365 => (if x8 < (x7.length : Int) then (codewrightref24_Row.l0 k x1 x2 (x7.set (x8 : Int).toNat t365) (wrap64 (x8 + 1)) x361000 x361001 x361002) else (none))) else (none)) else (some x7)) else (some x7)
def codewrightref24_Row.f (k : Nat) (a0_0 : Int) (a0_1 : Int) (l0_2 : List Int) (a1 : Int) (l2 : List Int) : Option (List Int) := if 0 ≤ a1 then (if (a1 : Int).toNat ≤ 35184372088832 then (codewrightref24_Row.l0 k a1 l2 (List.replicate (a1 : Int).toNat 0) 0 a0_0 a0_1 l0_2) else (none)) else (none)
def codewrightref24_has.l0 : Nat → List (List Int) → List Int → Int → Option (Bool)
  | 0, _, _, _ => none
  | k + 1, x0, x1, x5 => if x5 < (x0.length : Int) then (if 0 ≤ x5 then ((codewrightref24_Distance.f k (rd_LI x0 x5) x1).bind fun t370 => (if t370 = 0 then (some true) else (codewrightref24_has.l0 k x0 x1 (wrap64 (x5 + 1))))) else (none)) else (some false)
def codewrightref24_has.f (k : Nat) (l0 : List (List Int)) (l1 : List Int) : Option (Bool) := codewrightref24_has.l0 k l0 l1 0
def codewrightref04_Digits.f (k : Nat) (a0_0 : Int) (a0_1 : Int) (l0_2 : List Int) (a1 : Int) : Option (List Int) := (codewrightref04_In.f k a0_0 a0_1 l0_2 a1).bind fun t372 => ((codewrightref04_digits.f k t372 a0_0 a0_1).bind fun t373 => (some t373))
def codewrightref04_Value.l0 : Nat → List Int → Int → Int → Int → Int → List Int → Option (Int)
  | 0, _, _, _, _, _, _ => none
  | k + 1, x1, x5, x6, x377000, x377001, x377002 => if x6 ≥ 0 then (if 0 ≤ x6 then (if x6 < (x1.length : Int) then (codewrightref04_Value.l0 k x1 (wrap64 ((wrap64 (x5 * x377000)) + (rd x1 x6))) (wrap64 (x6 - 1)) x377000 x377001 x377002) else (none)) else (none)) else (some x5)
def codewrightref04_Value.f (k : Nat) (a0_0 : Int) (a0_1 : Int) (l0_2 : List Int) (l1 : List Int) : Option (Int) := codewrightref04_Value.l0 k l1 0 (wrap64 ((l1.length : Int) - 1)) a0_0 a0_1 l0_2
def codewrightref04_Add.l0 : Nat → List Int → List Int → Int → Int → Int → List Int → Option (Int)
  | 0, _, _, _, _, _, _ => none
  | k + 1, x7, x8, x9, x379000, x379001, x379002 => if x9 < (x7.length : Int) then (if 0 ≤ x9 then (if x9 < (x8.length : Int) then (if x379000 = 0 then (none) else (codewrightref04_Add.l0 k (x7.set (x9 : Int).toNat (Int.tmod (wrap64 ((rd x7 x9) + (rd x8 x9))) x379000)) x8 (wrap64 (x9 + 1)) x379000 x379001 x379002)) else (none)) else (none)) else ((codewrightref04_Value.f k x379000 x379001 x379002 x7).bind fun t388 => (some t388))
def codewrightref04_Add.f (k : Nat) (a0_0 : Int) (a0_1 : Int) (l0_2 : List Int) (a1 : Int) (a2 : Int) : Option (Int) := (codewrightref04_Digits.f k a0_0 a0_1 l0_2 a1).bind fun t379 => ((codewrightref04_Digits.f k a0_0 a0_1 l0_2 a2).bind fun t382 => (codewrightref04_Add.l0 k t379 t382 0 a0_0 a0_1 l0_2))
mutual
def codewrightref04_Mul.l0 : Nat → List Int → List Int → List Int → Int → Int → Int → List Int → Option (Int)
  | 0, _, _, _, _, _, _, _ => none
  | k + 1, x7, x8, x9, x10, x390000, x390001, x390002 => if x10 < x390001 then (codewrightref04_Mul.l1 k x7 x8 x9 x10 0 x390000 x390001 x390002) else (codewrightref04_Mul.l2 k x9 (wrap64 ((wrap64 (2 * x390001)) - 2)) x390000 x390001 x390002)
def codewrightref04_Mul.l1 : Nat → List Int → List Int → List Int → Int → Int → Int → Int → List Int → Option (Int)
  | 0, _, _, _, _, _, _, _, _ => none
  | k + 1, x7, x8, x9, x10, x11, x390000, x390001, x390002 => if x11 < x390001 then (if 0 ≤ (wrap64 (x10 + x11)) then (if (wrap64 (x10 + x11)) < (x9.length : Int) then (if 0 ≤ x10 then (if x10 < (x7.length : Int) then (if 0 ≤ x11 then (if x11 < (x8.length : Int) then (if x390000 = 0 then (none) else (codewrightref04_Mul.l1 k x7 x8 (x9.set ((wrap64 (x10 + x11)) : Int).toNat (Int.tmod (wrap64 ((rd x9 (wrap64 (x10 + x11))) + (wrap64 ((rd x7 x10) * (rd x8 x11))))) x390000)) x10 (wrap64 (x11 + 1)) x390000 x390001 x390002)) else (none)) else (none)) else (none)) else (none)) else (none)) else (none)) else (codewrightref04_Mul.l0 k x7 x8 x9 (wrap64 (x10 + 1)) x390000 x390001 x390002)
def codewrightref04_Mul.l2 : Nat → List Int → Int → Int → Int → List Int → Option (Int)
  | 0, _, _, _, _, _ => none
  | k + 1, x9, x12, x390000, x390001, x390002 => if x12 ≥ x390001 then (codewrightref04_Mul.l3 k x9 x12 0 x390000 x390001 x390002) else (if 0 ≤ x390001 then (if x390001 ≤ (x9.length : Int) then ((codewrightref04_Value.f k x390000 x390001 x390002 (x9.take (x390001 : Int).toNat)).bind fun t407 => (some t407)) else (none)) else (none))
def codewrightref04_Mul.l3 : Nat → List Int → Int → Int → Int → Int → List Int → Option (Int)
  | 0, _, _, _, _, _, _ => none
  | k + 1, x9, x12, x13, x390000, x390001, x390002 => if x13 < x390001 then (if 0 ≤ (wrap64 ((wrap64 (x12 - x390001)) + x13)) then (if (wrap64 ((wrap64 (x12 - x390001)) + x13)) < (x9.length : Int) then (if 0 ≤ x12 then (if x12 < (x9.length : Int) then (if 0 ≤ x13 then (if x13 < (x390002.length : Int) then (if x390000 = 0 then (none) else (codewrightref04_Mul.l3 k (x9.set ((wrap64 ((wrap64 (x12 - x390001)) + x13)) : Int).toNat (Int.tmod (wrap64 ((rd x9 (wrap64 ((wrap64 (x12 - x390001)) + x13))) + (wrap64 ((wrap64 (x390000 - (rd x9 x12))) * (rd x390002 x13))))) x390000)) x12 (wrap64 (x13 + 1)) x390000 x390001 x390002)) else (none)) else (none)) else (none)) else (none)) else (none)) else (none)) else (codewrightref04_Mul.l2 k x9 (wrap64 (x12 - 1)) x390000 x390001 x390002)
end
def codewrightref04_Mul.f (k : Nat) (a0_0 : Int) (a0_1 : Int) (l0_2 : List Int) (a1 : Int) (a2 : Int) : Option (Int) := (codewrightref04_Digits.f k a0_0 a0_1 l0_2 a1).bind fun t390 => ((codewrightref04_Digits.f k a0_0 a0_1 l0_2 a2).bind fun t393 => (if 0 ≤ (wrap64 ((wrap64 (2 * a0_1)) - 1)) then (if (wrap64 ((wrap64 (2 * a0_1)) - 1) : Int).toNat ≤ 35184372088832 then (codewrightref04_Mul.l0 k t390 t393 (List.replicate (wrap64 ((wrap64 (2 * a0_1)) - 1) : Int).toNat 0) 0 a0_0 a0_1 l0_2) else (none)) else (none)))
mutual
def codewrightref24_Span.l0 : Nat → Int → List (List Int) → Int → List (List Int) → Int → Int → Int → List Int → Option ((List (List Int)))
  | 0, _, _, _, _, _, _, _, _ => none
  | k + 1, x1, x2, x3, x9, x10, x413000, x413001, x413002 => if x10 < (x2.length : Int) then (if 0 ≤ x10 then ((codewrightref24_Row.f k x413000 x413001 x413002 x1 (rd_LI x2 x10)).bind fun t420 => ((codewrightref24_has.f k x9 t420).bind fun t423 => (if t423 = true then (codewrightref24_Span.l0 k x1 x2 x3 x9 (wrap64 (x10 + 1)) x413000 x413001 x413002) else ((codewrightref04_Order.f k x413000 x413001 x413002).bind fun t424 => (if t424 = 0 then (none) else (if (x9.length : Int) > (wrap64 (Int.tdiv x3 t424)) then (some ([] : List (List Int))) else (codewrightref24_Span.l1 k x1 x2 x3 x9 x10 t420 ([] : List (List Int)) 0 x413000 x413001 x413002))))))) else (none)) else (some x9)
def codewrightref24_Span.l1 : Nat → Int → List (List Int) → Int → List (List Int) → Int → List Int → List (List Int) → Int → Int → Int → List Int → Option ((List (List Int)))
  | 0, _, _, _, _, _, _, _, _, _, _, _ => none
  | k + 1, x1, x2, x3, x9, x10, x11, x12, x13, x413000, x413001, x413002 => (codewrightref04_Order.f k x413000 x413001 x413002).bind fun t425 => (if x13 < t425 then (codewrightref24_Span.l2 k x1 x2 x3 x9 x10 x11 x12 x13 0 x413000 x413001 x413002) else (codewrightref24_Span.l0 k x1 x2 x3 x12 (wrap64 (x10 + 1)) x413000 x413001 x413002))
def codewrightref24_Span.l2 : Nat → Int → List (List Int) → Int → List (List Int) → Int → List Int → List (List Int) → Int → Int → Int → Int → List Int → Option ((List (List Int)))
  | 0, _, _, _, _, _, _, _, _, _, _, _, _ => none
  | k + 1, x1, x2, x3, x9, x10, x11, x12, x13, x14, x413000, x413001, x413002 => if x14 < (x9.length : Int) then (if 0 ≤ x1 then (if (x1 : Int).toNat ≤ 35184372088832 then (codewrightref24_Span.l3 k x1 x2 x3 x9 x10 x11 x12 x13 x14 (List.replicate (x1 : Int).toNat 0) 0 x413000 x413001 x413002) else (none)) else (none)) else (codewrightref24_Span.l1 k x1 x2 x3 x9 x10 x11 x12 (wrap64 (x13 + 1)) x413000 x413001 x413002)
def codewrightref24_Span.l3 : Nat → Int → List (List Int) → Int → List (List Int) → Int → List Int → List (List Int) → Int → Int → List Int → Int → Int → Int → List Int → Option ((List (List Int)))
  | 0, _, _, _, _, _, _, _, _, _, _, _, _, _, _ => none
  | k + 1, x1, x2, x3, x9, x10, x11, x12, x13, x14, x15, x16, x413000, x413001, x413002 => if x16 < x1 then (if 0 ≤ x14 then (if x14 < (x9.length : Int) then (if 0 ≤ x16 then (if x16 < ((rd_LI x9 x14).length : Int) then (if x16 < (x11.length : Int) then ((codewrightref04_Mul.f k x413000 x413001 x413002 x13 (rd x11 x16)).bind fun t435 => ((codewrightref04_Add.f k x413000 x413001 x413002 (rd (rd_LI x9 x14) x16) t435).bind fun t436 => (if x16 < (x15.length : Int) then (codewrightref24_Span.l3 k x1 x2 x3 x9 x10 x11 x12 x13 x14 (x15.set (x16 : Int).toNat t436) (wrap64 (x16 + 1)) x413000 x413001 x413002) else (none)))) else (none)) else (none)) else (none)) else (none)) else (none)) else (if x12.length < 5864062014805 then (codewrightref24_Span.l2 k x1 x2 x3 x9 x10 x11 (x12 ++ [x15]) x13 (wrap64 (x14 + 1)) x413000 x413001 x413002) else (none))
end
def codewrightref24_Span.f (k : Nat) (a0_0 : Int) (a0_1 : Int) (l0_2 : List Int) (a1 : Int) (l2 : List (List Int)) (a3 : Int) : Option ((List (List Int))) := if 0 ≤ a1 then (if (a1 : Int).toNat ≤ 35184372088832 then (codewrightref24_Span.l0 k a1 l2 a3 (([(List.replicate (a1 : Int).toNat 0)] : List (List Int))) 0 a0_0 a0_1 l0_2) else (none)) else (none)
mutual
def codewrightref24_Weights.l0 : Nat → Int → List (List Int) → List Int → List Int → Int → Option ((List (List Int)))
  | 0, _, _, _, _, _ => none
  | k + 1, x0, x1, x5, x6, x7 => if x7 < (x1.length : Int) then (if 0 ≤ x7 then ((codewrightref24_Distance.f k (rd_LI x1 x7) x6).bind fun t466 => (if 0 ≤ t466 then (if t466 < (x5.length : Int) then (codewrightref24_Weights.l0 k x0 x1 (x5.set (t466 : Int).toNat (wrap64 ((rd x5 t466) + 1))) x6 (wrap64 (x7 + 1))) else (none)) else (none))) else (none)) else (codewrightref24_Weights.l1 k x0 x5 ([] : List (List Int)) 0)
def codewrightref24_Weights.l1 : Nat → Int → List Int → List (List Int) → Int → Option ((List (List Int)))
  | 0, _, _, _, _ => none
  | k + 1, x0, x5, x8, x9 => if x9 ≤ x0 then (if 0 ≤ x9 then (if x9 < (x5.length : Int) then ((codewrightref01_Of.f k (IntKind.u64.wrap (rd x5 x9))).bind fun t470 => (if x8.length < 5864062014805 then (codewrightref24_Weights.l1 k x0 x5 (x8 ++ [t470]) (wrap64 (x9 + 1))) else (none))) else (none)) else (none)) else (some x8)
end
def codewrightref24_Weights.f (k : Nat) (a0 : Int) (l1 : List (List Int)) : Option ((List (List Int))) := if 0 ≤ (wrap64 (a0 + 1)) then (if (wrap64 (a0 + 1) : Int).toNat ≤ 35184372088832 then (if 0 ≤ a0 then (if (a0 : Int).toNat ≤ 35184372088832 then (codewrightref24_Weights.l0 k a0 l1 (List.replicate (wrap64 (a0 + 1) : Int).toNat 0) (List.replicate (a0 : Int).toNat 0) 0) else (none)) else (none)) else (none)) else (none)
mutual
def codewrightlaw36_DelsarteLinear.j0 : Nat → List (List Int) → Int → Bool → Int → Int → List Int → Option (Bool)
  | 0, _, _, _, _, _, _ => none
  | k + 1, x2, x7, x24, x587000, x587001, x587002 => if x24 = true then (some true) else ((codewrightref24_Span.f k x587000 x587001 x587002 x7 x2 128).bind fun t588 => (if (t588.length : Int) = 0 then (some true) else ((codewrightref04_Order.f k x587000 x587001 x587002).bind fun t591 => ((delsarte_Distances.f k t591 t588).bind fun bt592 => ((codewrightref24_Weights.f k x7 t588).bind fun t596 => (if bt592.2 = 0 then (codewrightlaw36_DelsarteLinear.j1 k bt592.1 t596 ((bt592.1.length : Int) != (t596.length : Int))) else (codewrightlaw36_DelsarteLinear.j1 k bt592.1 t596 true)))))))
def codewrightlaw36_DelsarteLinear.j1 : Nat → List (S46) → List (List Int) → Bool → Option (Bool)
  | 0, _, _, _ => none
  | k + 1, x9, x11, x50 => if x50 = true then (some false) else (codewrightlaw36_DelsarteLinear.l0 k x9 x11 0)
def codewrightlaw36_DelsarteLinear.l0 : Nat → List (S46) → List (List Int) → Int → Option (Bool)
  | 0, _, _, _ => none
  | k + 1, x9, x11, x12 => if x12 < (x11.length : Int) then (if 0 ≤ x12 then (if x12 < (x9.length : Int) then ((codewrightref02_Nat.f k (rd_L2 x11 x12)).bind fun bt601 => ((codewrightref02_Same.f k ((rd_T46 x9 x12).f0) ((rd_T46 x9 x12).f1) ((rd_T46 x9 x12).f2) bt601.1 bt601.2.1 bt601.2.2).bind fun t608 => (if t608 = true then (codewrightlaw36_DelsarteLinear.l0 k x9 x11 (wrap64 (x12 + 1))) else (some false)))) else (none)) else (none)) else (some true)
end
def codewrightlaw36_DelsarteLinear.f (k : Nat) (a0_0 : Int) (a0_1 : Int) (l0_2 : List Int) (a1 : Int) (l2 : List (List Int)) : Option (Bool) := (codewrightref04_Check.f k a0_0 a0_1 l0_2).bind fun t587 => (if t587 = 0 then (codewrightlaw36_DelsarteLinear.j0 k l2 (wrap64 ((Int.tmod (wrap64 (a1)) 10) + 1)) (decide ((l2.length : Int) > 8)) a0_0 a0_1 l0_2) else (codewrightlaw36_DelsarteLinear.j0 k l2 (wrap64 ((Int.tmod (wrap64 (a1)) 10) + 1)) true a0_0 a0_1 l0_2))
end Go.Proofs.Ythheakfgmombdaa.F
end
section
namespace Go.Proofs.Ythheakfgmombdaa.Num
set_option linter.unusedVariables false
open Go.RowKit Go.Proofs.YthheakfgmombdaaX.PrintWords Go.Proofs.YthheakfgmombdaaX.PrintMore Go.Proofs.Ythheakfgmombdaa.F
theorem trimmed_take {a : List Int} {n : Nat} (h : n < a.length) (h0 : a[n] ≠ 0) : Trimmed (a.take (n + 1)) := fun hne => by
  have e : a.take (n + 1) = a.take n ++ [a[n]] := List.take_succ_eq_append_getElem h
  have : (a.take (n + 1)).getLast hne = a[n] := by
    simp only [e]
    exact List.getLast_concat
  rw [this]
  exact h0
theorem V_take_zero {a : List Int} {n : Nat} (h : n < a.length) (h0 : a[n] = 0) : V (a.take (n + 1)) = V (a.take n) := by
  rw [V_take_succ a n h, h0]
  simp
theorem rTrim_at (a : List Int) (ha : Lim a) (hl : a.length < 17592186044416) : ∀ n : Nat, n ≤ a.length → Ev (fun k => codewrightref01_Trim.l0 k a (n : Int)) (L (V (a.take n))) := by
  intro n
  induction n with
  | zero =>
    intro _
    refine Ev.succ ⟨0, fun k _ => ?_⟩
    simp only [codewrightref01_Trim.l0]
    rw [if_neg (by omega)]
    simp only [Option.bind_some]
    rw [if_pos (by omega), if_pos (by omega), if_pos (by simp)]
    simp [V_nil, L_zero]
  | succ n ih =>
    intro hn
    have hw : wrap64 (((n + 1 : Nat) : Int) - 1) = (n : Int) := wpred (by omega)
    have hr : rd a (n : Int) = a[n] := rd_eq a n (by omega)
    by_cases h0 : a[n] = 0
    · rw [V_take_zero (by omega) h0]
      refine Ev.succ ((ih (by omega)).congr fun k => ?_)
      simp only [codewrightref01_Trim.l0]
      rw [hw, if_pos (by omega), if_pos (by omega), if_pos (by omega), hr, if_pos h0]
    · refine Ev.succ ⟨0, fun k _ => ?_⟩
      simp only [codewrightref01_Trim.l0]
      rw [hw, if_pos (by omega), if_pos (by omega), if_pos (by omega), hr, if_neg h0]
      simp only [Option.bind_some]
      rw [if_pos (by omega), if_pos (by omega), Int.toNat_natCast, if_pos (by simp only [List.length_nil, List.length_take]; omega), List.nil_append, L_of_trimmed (Lim_take ha _) (trimmed_take (by omega) h0)]
theorem rTrim {a : List Int} (ha : Lim a) (hl : a.length < 17592186044416) : Ev (fun k => codewrightref01_Trim.f k a) (L (V a)) := by
  have := rTrim_at a ha hl a.length (Nat.le_refl _)
  rw [List.take_length] at this
  exact this
theorem rTrim_ret {a : List Int} {n : Nat} (ha : Lim a) (hl : a.length < 17592186044416) (h : V a = n) : Ev (fun k => (codewrightref01_Trim.f k a).bind fun t => some t) (L n) := by
  subst h
  exact Ev.bind (rTrim ha hl) (Ev.const _)
theorem rZero {a : List Int} (ha : Lim a) (hl : a.length < 17592186044416) : Ev (fun k => codewrightref01_Zero.f k a) (V a == 0) := by
  refine Ev.bind (rTrim ha hl) ⟨0, fun k _ => ?_⟩
  show some _ = some _
  congr 1
  rw [Bool.eq_iff_iff, beq_iff_eq, beq_iff_eq]
  constructor
  · intro h
    exact L_eq_nil.1 (List.eq_nil_of_length_eq_zero (by omega))
  · intro h
    rw [h, L_zero]
    rfl
theorem rLimb {a : List Int} (ha : Lim a) (i : Nat) : codewrightref01_limb.f a (i : Int) = some (lb a i) := by
  have h0 := lb_nonneg ha i
  have h1 := lb_lt ha i
  unfold codewrightref01_limb.f
  by_cases h : i < a.length
  · rw [if_pos (by omega), if_pos (by omega), rd_lb, wu64 h0 (by omega)]
  · rw [if_neg (by omega), lb_of_ge (by omega)]
theorem rOf {x : Int} (h0 : 0 ≤ x) (h1 : x < 18446744073709551616) : Ev (fun k => codewrightref01_Of.f k x) (L x.toNat) := by
  have hm : Int.tmod x 4294967296 % 4294967296 = x % 4294967296 := by rw [tmodB h0]; omega
  have hd : IntKind.u64.wrap (Int.tdiv x 4294967296) % 4294967296 = x / 4294967296 := by
    rw [tdivB h0, wu64 (by omega) (by omega)]; omega
  refine (rTrim_ret (a := [x % 4294967296, x / 4294967296]) (Lim_cons (by omega) (by omega) (Lim_cons (by omega) (by omega) Lim_nil)) (by simp) ?_).congr fun k => ?_
  · rw [V_cons, V_cons, V_nil]; omega
  · unfold codewrightref01_Of.f
    rw [hm, hd]
theorem rAdd_step {a b o : List Int} {c : Int} {i k : Nat} (ha : Lim a) (hb : Lim b) (hi : i < 35184372088832) (ho : o.length = i) (h0 : 0 ≤ c) (h1 : c < 2) (h : i < a.length ∨ i < b.length ∨ 0 < c) :
    codewrightref01_Add.l0 (k + 2) a b o c i = codewrightref01_Add.l0 k a b (o ++ [(lb a i + lb b i + c) % 4294967296]) ((lb a i + lb b i + c) / 4294967296) ((i + 1 : Nat) : Int) := by
  have hj : codewrightref01_Add.l0 (k + 2) a b o c (i : Int) = codewrightref01_Add.j1 (k + 1) a b o c (i : Int) true := by
    simp only [codewrightref01_Add.l0]
    by_cases g1 : i < a.length
    · rw [if_pos (by omega)]
    · rw [if_neg (by omega)]
      by_cases g2 : i < b.length
      · rw [if_pos (by omega)]
      · rw [if_neg (by omega), decide_eq_true (by omega : c > 0)]
  have la := lb_nonneg ha i
  have lb1 := lb_nonneg hb i
  have la' := lb_lt ha i
  have lb' := lb_lt hb i
  rw [hj]
  simp only [codewrightref01_Add.j1]
  rw [if_pos trivial, rLimb ha, rLimb hb]
  simp only [Option.bind_some]
  rw [if_pos (by omega), wu64 (x := lb a i + lb b i) (by omega) (by omega), wu64 (x := lb a i + lb b i + c) (by omega) (by omega), tmodB (by omega), tdivB (by omega), wu64 (by omega) (by omega), Int.emod_emod, wsucc (by omega)]
theorem rAdd_last {a b o : List Int} {i k : Nat} (ha : a.length ≤ i) (hb : b.length ≤ i) : codewrightref01_Add.l0 (k + 2) a b o 0 i = (codewrightref01_Trim.f k o).bind fun t => some t := by
  simp only [codewrightref01_Add.l0]
  rw [if_neg (by omega), if_neg (by omega)]
  simp only [codewrightref01_Add.j1]
  rw [if_neg (by simp)]
theorem carry_step {va vb vo w x y c : Int} (hv : vo + w * c = va + vb) : vo + w * ((x + y + c) % 4294967296) + 4294967296 * w * ((x + y + c) / 4294967296) = (va + w * x) + (vb + w * y) := by
  have h : (x + y + c) % 4294967296 = x + y + c - 4294967296 * ((x + y + c) / 4294967296) := by omega
  rw [h]
  grind
theorem rAdd_at {a b : List Int} (ha : Lim a) (hb : Lim b) (hl : a.length < 17592186044415) (hm : b.length < 17592186044415) : ∀ (d i : Nat) (o : List Int) (c : Int), d + i = max a.length b.length + 1 → o.length = i → Lim o → 0 ≤ c → c < 2 →
    (max a.length b.length < i → c = 0) → (V o : Int) + W i * c = V (a.take i) + V (b.take i) → Ev (fun k => codewrightref01_Add.l0 k a b o c (i : Int)) (L (V a + V b)) := by
  intro d
  induction d with
  | zero =>
    intro i o c hd ho hlo h0 h1 hc hv
    obtain rfl := hc (by omega)
    rw [Vi_take_all (by omega), Vi_take_all (by omega)] at hv
    exact Ev.succ (Ev.succ ((rTrim_ret hlo (by omega) (by omega)).congr fun k => rAdd_last (by omega) (by omega)))
  | succ d ih =>
    intro i o c hd ho hlo h0 h1 hc hv
    by_cases hend : i < a.length ∨ i < b.length ∨ 0 < c
    · have la := lb_nonneg ha i
      have lb1 := lb_nonneg hb i
      have la' := lb_lt ha i
      have lb' := lb_lt hb i
      obtain ⟨b0, b1, b2, b3, _⟩ := carry_bounds (s := lb a i + lb b i + c) (by omega) 2 (by omega)
      refine Ev.succ (Ev.succ ((ih (i + 1) _ _ (by omega) (by simp [ho]) (Lim_append hlo (Lim_cons b0 b1 Lim_nil)) b2 b3 (fun hlt => ?_) ?_).congr fun k => rAdd_step ha hb (by omega) ho h0 h1 hend))
      · clear ih hv
        rw [lb_of_ge (by omega), lb_of_ge (by omega)]
        omega
      · rw [Vi_snoc _ b0, ho, Vi_take_succ ha, Vi_take_succ hb, W_succ]
        exact carry_step hv
    · obtain rfl : c = 0 := by omega
      rw [Vi_take_all (by omega), Vi_take_all (by omega)] at hv
      exact Ev.succ (Ev.succ ((rTrim_ret hlo (by omega) (by omega)).congr fun k => rAdd_last (by omega) (by omega)))
theorem rAdd {a b : List Int} (ha : Lim a) (hb : Lim b) (hl : a.length < 17592186044415) (hm : b.length < 17592186044415) : Ev (fun k => codewrightref01_Add.f k a b) (L (V a + V b)) :=
  rAdd_at ha hb hl hm (max a.length b.length + 1) 0 [] 0 (by omega) rfl Lim_nil (by omega) (by omega) (by omega) (by simp [V_nil])
theorem rSub_step {a b o : List Int} {c : Int} {i k : Nat} (ha : Lim a) (hb : Lim b) (hl : a.length < 17592186044416) (ho : o.length = i) (h0 : 0 ≤ c) (h1 : c < 2) (h : i < a.length) :
    codewrightref01_Sub.l0 (k + 1) a b o c i = codewrightref01_Sub.l0 k a b (o ++ [(lb a i + 4294967296 - lb b i - c) % 4294967296]) (1 - (lb a i + 4294967296 - lb b i - c) / 4294967296) ((i + 1 : Nat) : Int) := by
  have la := lb_nonneg ha i
  have lb1 := lb_nonneg hb i
  have la' := lb_lt ha i
  have lb' := lb_lt hb i
  simp only [codewrightref01_Sub.l0]
  rw [if_pos (by omega), rLimb ha, rLimb hb]
  simp only [Option.bind_some]
  rw [if_pos (by omega), wu64 (x := lb a i + 4294967296) (by omega) (by omega), wu64 (x := lb a i + 4294967296 - lb b i) (by omega) (by omega), wu64 (x := lb a i + 4294967296 - lb b i - c) (by omega) (by omega), tmodB (by omega), tdivB (by omega),
    wu64 (x := (lb a i + 4294967296 - lb b i - c) / 4294967296) (by omega) (by omega), wu64 (by omega) (by omega), Int.emod_emod, wsucc (by omega)]
theorem borrow_step {va vb vo w x y c : Int} (hv : vo + vb = va + w * c) : vo + w * ((x + 4294967296 - y - c) % 4294967296) + (vb + w * y) = va + w * x + 4294967296 * w * (1 - (x + 4294967296 - y - c) / 4294967296) := by
  have h : (x + 4294967296 - y - c) % 4294967296 = x + 4294967296 - y - c - 4294967296 * ((x + 4294967296 - y - c) / 4294967296) := by omega
  rw [h]
  grind
theorem rSub_at {a b : List Int} (ha : Lim a) (hb : Lim b) (hl : a.length < 17592186044415) (hge : V b ≤ V a) (hvb : (V (b.take a.length) : Int) = V b) : ∀ (d i : Nat) (o : List Int) (c : Int), d + i = a.length → o.length = i → Lim o → 0 ≤ c → c < 2 →
    (V o : Int) + V (b.take i) = V (a.take i) + W i * c → Ev (fun k => codewrightref01_Sub.l0 k a b o c (i : Int)) (L (V a - V b)) := by
  intro d
  induction d with
  | zero =>
    intro i o c hd ho hlo h0 h1 hv
    obtain rfl : i = a.length := by omega
    rw [List.take_length, hvb] at hv
    have hlt := Vi_lt hlo
    rw [ho] at hlt
    obtain rfl : c = 0 := by
      rcases (by omega : c = 0 ∨ c = 1) with h | h
      · exact h
      · subst h
        omega
    refine Ev.succ ((rTrim_ret hlo (by omega) (by omega)).congr fun k => ?_)
    simp only [codewrightref01_Sub.l0]
    rw [if_neg (by omega)]
  | succ d ih =>
    intro i o c hd ho hlo h0 h1 hv
    have la := lb_nonneg ha i
    have lb1 := lb_nonneg hb i
    have la' := lb_lt ha i
    have lb' := lb_lt hb i
    obtain ⟨b0, b1, b2, b3, _⟩ := carry_bounds (s := lb a i + 4294967296 - lb b i - c) (by omega) 2 (by omega)
    refine Ev.succ ((ih (i + 1) _ _ (by omega) (by simp [ho]) (Lim_append hlo (Lim_cons b0 b1 Lim_nil)) (by omega) (by omega) ?_).congr fun k => rSub_step ha hb (by omega) ho h0 h1 (by omega))
    rw [Vi_snoc _ b0, ho, Vi_take_succ ha, Vi_take_succ hb, W_succ]
    exact borrow_step hv
theorem V_take_of_lt {a b : List Int} (ha : Lim a) (hge : V b ≤ V a) : (V (b.take a.length) : Int) = V b := by
  by_cases h : b.length ≤ a.length
  · rw [List.take_of_length_le h]
  · have e := Vi_take_drop b a.length (by omega)
    have hlt := Vi_lt ha
    have hw := W_pos a.length
    have h0 : (V (b.drop a.length) : Int) = 0 := by
      rcases Int.lt_or_eq_of_le (Vi_nonneg (b.drop a.length)) with h | h
      · have : W a.length * 1 ≤ W a.length * (V (b.drop a.length) : Int) := Int.mul_le_mul_of_nonneg_left h (by omega)
        have := Vi_nonneg (b.take a.length)
        omega
      · exact h.symm
    rw [h0, Int.mul_zero] at e
    omega
theorem rSub {a b : List Int} (ha : Lim a) (hb : Lim b) (hl : a.length < 17592186044415) (hge : V b ≤ V a) : Ev (fun k => codewrightref01_Sub.f k a b) (L (V a - V b)) :=
  rSub_at ha hb hl hge (V_take_of_lt ha hge) a.length 0 [] 0 (by omega) rfl Lim_nil (by omega) (by omega) (by simp [V_nil])
def cmp (a b : Nat) : Int := if a < b then -1 else if b < a then 1 else 0
theorem rCmp_at {a b : List Int} (ha : Lim a) (hb : Lim b) (hl : a.length < 17592186044415) (hm : b.length < 17592186044415) : ∀ n : Nat, n ≤ max a.length b.length → (V (a.drop n) : Int) = V (b.drop n) → Ev (fun k => codewrightref01_Cmp.l0 k a b (wrap64 ((n : Int) - 1))) (cmp (V a) (V b)) := by
  intro n
  induction n with
  | zero =>
    intro _ hv
    rw [List.drop_zero, List.drop_zero] at hv
    have e : cmp (V a) (V b) = 0 := by unfold cmp; rw [if_neg (by omega), if_neg (by omega)]
    rw [e]
    refine Ev.succ ⟨0, fun k _ => ?_⟩
    simp only [codewrightref01_Cmp.l0]
    rw [if_neg (by rw [w64 (by omega) (by omega)]; omega)]
  | succ n ih =>
    intro hn hv
    rw [wpred (by omega)]
    have da := Vi_drop_succ ha n
    have db := Vi_drop_succ hb n
    have la := lb_nonneg ha n
    have lb1 := lb_nonneg hb n
    have la' := lb_lt ha n
    have lb' := lb_lt hb n
    have step : ∀ k, codewrightref01_Cmp.l0 (k + 1) a b (n : Int) = if lb a n < lb b n then some (-1) else if lb a n > lb b n then some 1 else codewrightref01_Cmp.l0 k a b (wrap64 ((n : Int) - 1)) := fun k => by
      simp only [codewrightref01_Cmp.l0]
      rw [if_pos (by omega), rLimb ha, rLimb hb]
      simp only [Option.bind_some]
    have key : ∀ {x y : List Int}, Lim x → Lim y → (V (x.drop n) : Int) < V (y.drop n) → V x < V y := fun {x y} hx hy h => by
      by_cases hnx : n ≤ x.length
      · by_cases hny : n ≤ y.length
        · have ex := Vi_take_drop x n hnx
          have ey := Vi_take_drop y n hny
          have hxl := Vi_lt (Lim_take hx n)
          rw [List.length_take, Nat.min_eq_left hnx] at hxl
          have hw := W_pos n
          have : W n * ((V (x.drop n) : Int) + 1) ≤ W n * (V (y.drop n) : Int) := Int.mul_le_mul_of_nonneg_left h (by omega)
          rw [Int.mul_add] at this
          have := Vi_nonneg (y.take n)
          omega
        · rw [List.drop_of_length_le (l := y) (by omega)] at h
          have := Vi_nonneg (x.drop n)
          rw [Vi_nil] at h
          omega
      · have hny : n ≤ y.length := by
          rcases Nat.le_total n y.length with h' | h'
          · exact h'
          · rw [List.drop_of_length_le (l := y) h', Vi_nil] at h
            have := Vi_nonneg (x.drop n)
            omega
        have ey := Vi_take_drop y n hny
        have hxl := Vi_lt hx
        have hw := W_pos n
        rw [List.drop_of_length_le (l := x) (by omega), Vi_nil] at h
        have : W n * 1 ≤ W n * (V (y.drop n) : Int) := Int.mul_le_mul_of_nonneg_left h (by omega)
        have := Vi_nonneg (y.take n)
        have hmono : W x.length ≤ W n := by
          obtain ⟨d, rfl⟩ : ∃ d, n = x.length + d := ⟨n - x.length, by omega⟩
          rw [W_add]
          have h1 := W_pos x.length
          have h2 := W_pos d
          have : W x.length * 1 ≤ W x.length * W d := Int.mul_le_mul_of_nonneg_left h2 (by omega)
          omega
        omega
    rcases Int.lt_trichotomy (lb a n) (lb b n) with h | h | h
    · have hlt := key ha hb (by omega)
      have e : cmp (V a) (V b) = -1 := by unfold cmp; rw [if_pos hlt]
      rw [e]
      exact Ev.succ (Ev.of fun k => by rw [step, if_pos h])
    · exact Ev.succ ((ih (by omega) (by omega)).congr fun k => by rw [step, if_neg (by omega), if_neg (by omega)])
    · have hlt := key hb ha (by omega)
      have e : cmp (V a) (V b) = 1 := by unfold cmp; rw [if_neg (by omega), if_pos hlt]
      rw [e]
      exact Ev.succ (Ev.of fun k => by rw [step, if_neg (by omega), if_pos h])
theorem rCmp {a b : List Int} (ha : Lim a) (hb : Lim b) (hl : a.length < 17592186044415) (hm : b.length < 17592186044415) : Ev (fun k => codewrightref01_Cmp.f k a b) (cmp (V a) (V b)) := by
  have e : mx (a.length : Int) (b.length : Int) = ((max a.length b.length : Nat) : Int) := by unfold mx; omega
  unfold codewrightref01_Cmp.f
  rw [e]
  refine rCmp_at ha hb hl hm _ (Nat.le_refl _) ?_
  rw [List.drop_of_length_le (by omega), List.drop_of_length_le (by omega)]
theorem cmp_nonneg {a b : Nat} : cmp a b ≥ 0 ↔ b ≤ a := by
  unfold cmp
  split
  · omega
  · split <;> omega
end Go.Proofs.Ythheakfgmombdaa.Num
end
section
namespace Go.Proofs.Ythheakfgmombdaa.Num
set_option linter.unusedVariables false
open Go.RowKit Go.Proofs.YthheakfgmombdaaX.PrintWords Go.Proofs.YthheakfgmombdaaX.PrintMore Go.Proofs.Ythheakfgmombdaa.F
theorem Vi_set {l : List Int} (h : Lim l) {m : Nat} (hm : m < l.length) {x : Int} (hx : 0 ≤ x) : (V (l.set m x) : Int) = V l + W m * (x - lb l m) := by
  have e := Vi_take_drop l m (by omega)
  have d := Vi_drop_succ h m
  have s : l.set m x = l.take m ++ x :: l.drop (m + 1) := List.set_eq_take_append_cons_drop .. |>.trans (if_pos hm)
  rw [s, Vi_append, Vi_cons _ hx, List.length_take, Nat.min_eq_left (by omega), e, d]
  grind
theorem lb_set {l : List Int} {m : Nat} (hm : m < l.length) (x : Int) (j : Nat) : lb (l.set m x) j = if m = j then x else lb l j := by
  unfold lb
  rw [List.getD_eq_getElem?_getD, List.getD_eq_getElem?_getD, List.getElem?_set]
  by_cases h : m = j
  · subst h
    rw [if_pos rfl, if_pos hm, if_pos rfl]
    rfl
  · rw [if_neg h, if_neg h]
theorem lb_replicate (n j : Nat) : lb (List.replicate n 0) j = 0 := by
  by_cases h : j < n
  · rw [lb_of_lt (by rw [List.length_replicate]; exact h), List.getElem_replicate]
  · rw [lb_of_ge (by rw [List.length_replicate]; omega)]
theorem Vi_replicate (n : Nat) : (V (List.replicate n 0) : Int) = 0 := by rw [V_replicate]; rfl
def bl (n : Nat) : Nat := if n = 0 then 0 else Nat.log2 n + 1
theorem bl_zero : bl 0 = 0 := rfl
theorem bl_eq_zero {n : Nat} : bl n = 0 ↔ n = 0 := by
  unfold bl
  split
  · simp [*]
  · simp [*]
theorem lt_bl (n : Nat) : n < 2 ^ bl n := by
  unfold bl
  split
  · subst n; decide
  · exact Nat.lt_log2_self
theorem bl_le {n : Nat} (h : n ≠ 0) : 2 ^ (bl n - 1) ≤ n := by
  unfold bl
  rw [if_neg h, Nat.add_sub_cancel]
  exact Nat.log2_self_le h
theorem bl_of {n m : Nat} (h0 : 2 ^ m ≤ n) (h1 : n < 2 ^ (m + 1)) : bl n = m + 1 := by
  have hn : n ≠ 0 := by
    have := Nat.two_pow_pos m
    omega
  have h2 := lt_bl n
  have h3 := bl_le hn
  have h4 : m < bl n := (Nat.pow_lt_pow_iff_right (by decide : 1 < 2)).1 (Nat.lt_of_le_of_lt h0 h2)
  have h5 : bl n - 1 < m + 1 := (Nat.pow_lt_pow_iff_right (by decide : 1 < 2)).1 (Nat.lt_of_le_of_lt h3 h1)
  omega
theorem bl_le_of_lt {n m : Nat} (h : n < 2 ^ m) : bl n ≤ m := by
  by_cases hn : n = 0
  · subst hn; rw [bl_zero]; exact Nat.zero_le _
  · have h3 := bl_le hn
    have := (Nat.pow_lt_pow_iff_right (by decide : 1 < 2)).1 (Nat.lt_of_le_of_lt h3 h)
    omega
theorem bl_half {n : Nat} (h : n ≠ 0) : bl n = bl (n / 2) + 1 := by
  by_cases h1 : n / 2 = 0
  · have : n = 1 := by omega
    subst this
    rfl
  · have h2 := bl_le h1
    have h3 := lt_bl (n / 2)
    have h4 : bl (n / 2) ≠ 0 := fun h => h1 (bl_eq_zero.1 h)
    obtain ⟨m, hm⟩ : ∃ m, bl (n / 2) = m + 1 := ⟨bl (n / 2) - 1, by omega⟩
    rw [hm] at h2 h3 ⊢
    rw [Nat.add_sub_cancel] at h2
    rw [bl_of (m := m + 1)]
    · rw [Nat.pow_succ]; omega
    · rw [Nat.pow_succ]; omega
theorem W_two (m : Nat) : W m = ((2 ^ (32 * m) : Nat) : Int) := by
  rw [W_eq, Nat.pow_mul]
theorem Wn_two (m : Nat) : 4294967296 ^ m = 2 ^ (32 * m) := by
  rw [Nat.pow_mul]
theorem bl_top {l : List Int} (hl : Lim l) {t : Nat} {n : Nat} (hn : l.length = n + 1) (ht : lb l n = (t : Int)) (h0 : t ≠ 0) : bl (V l) = 32 * n + bl t := by
  have e := Vi_take_succ hl n
  rw [List.take_of_length_le (by omega), ht] at e
  have hlt := V_lt (Lim_take hl n)
  rw [List.length_take, Nat.min_eq_left (by omega), Wn_two] at hlt
  rw [W_two, ← Int.natCast_mul, ← Int.natCast_add] at e
  have e := Int.ofNat.inj e
  have h2 := bl_le h0
  have h3 := lt_bl t
  have h4 : bl t ≠ 0 := fun h => h0 (bl_eq_zero.1 h)
  obtain ⟨m, hm⟩ : ∃ m, bl t = m + 1 := ⟨bl t - 1, by omega⟩
  rw [hm] at h2 h3 ⊢
  rw [Nat.add_sub_cancel] at h2
  rw [← Nat.add_assoc]
  refine bl_of ?_ ?_
  · rw [e, Nat.pow_add]
    have := Nat.mul_le_mul_left (2 ^ (32 * n)) h2
    generalize 2 ^ (32 * n) * 2 ^ m = z at this ⊢
    generalize 2 ^ (32 * n) * t = y at this ⊢
    omega
  · rw [e, Nat.add_assoc, Nat.pow_add]
    have := Nat.mul_le_mul_left (2 ^ (32 * n)) (Nat.succ_le_of_lt h3)
    rw [Nat.succ_eq_add_one, Nat.mul_add, Nat.mul_one] at this
    generalize 2 ^ (32 * n) * 2 ^ (m + 1) = z at this ⊢
    generalize 2 ^ (32 * n) * t = y at this ⊢
    omega
theorem rBits_at : ∀ (t : Nat) (n : Nat), t < 4294967296 → n + t < 4611686018427387904 → Ev (fun k => codewrightref01_Bits.l0 k (n : Int) (t : Int)) ((n + bl t : Nat) : Int) := by
  intro t
  induction t using Nat.strongRecOn with
  | ind t ih =>
    intro n ht hn
    by_cases h : t = 0
    · subst h
      rw [bl_zero]
      refine Ev.succ (Ev.of fun k => ?_)
      show codewrightref01_Bits.l0 (k + 1) (n : Int) ((0 : Nat) : Int) = some ((n + 0 : Nat) : Int)
      rw [codewrightref01_Bits.l0, if_neg (by omega)]
      rfl
    · have e : Int.tdiv (t : Int) 2 % 4294967296 = ((t / 2 : Nat) : Int) := by
        rw [Int.tdiv_eq_ediv_of_nonneg (by omega)]; omega
      have := ih (t / 2) (by omega) (n + 1) (by omega) (by omega)
      have e2 : n + 1 + bl (t / 2) = n + bl t := by rw [bl_half h]; omega
      rw [e2] at this
      refine Ev.succ (this.congr fun k => ?_)
      rw [codewrightref01_Bits.l0, if_pos (by omega), e, wsucc (by omega)]
theorem L_length_mono {m n : Nat} (h : m ≤ n) : (L m).length ≤ (L n).length := by
  refine L_length_le (Nat.lt_of_le_of_lt h ?_)
  have := V_lt (Lim_L n)
  rwa [V_L] at this
theorem L_length_V {a : List Int} (ha : Lim a) : (L (V a)).length ≤ a.length := L_length_le (V_lt ha)
theorem lb_top {n m : Nat} (h : (L n).length = m + 1) : lb (L n) m ≠ 0 := by
  have hne : L n ≠ [] := fun h0 => by rw [h0] at h; cases h
  have := trimmed_L n hne
  rw [List.getLast_eq_getElem] at this
  rw [lb_of_lt (by omega)]
  have e : (L n).length - 1 = m := by omega
  simp only [e] at this
  exact this
theorem rBits {a : List Int} (ha : Lim a) (hl : a.length < 17592186044416) : Ev (fun k => codewrightref01_Bits.f k a) ((bl (V a) : Nat) : Int) := by
  unfold codewrightref01_Bits.f
  refine Ev.bind (rTrim ha hl) ?_
  have hlen := L_length_V ha
  by_cases h : V a = 0
  · rw [h, L_zero]
    exact Ev.pos rfl (Ev.of fun k => rfl)
  · have h0 : (L (V a)).length ≠ 0 := fun h0 => h (L_eq_nil.1 (List.eq_nil_of_length_eq_zero h0))
    obtain ⟨m, hm⟩ : ∃ m, (L (V a)).length = m + 1 := ⟨(L (V a)).length - 1, by omega⟩
    have e : wrap64 (((L (V a)).length : Int) - 1) = (m : Int) := by rw [hm]; exact wpred (by omega)
    refine Ev.neg (by omega) ?_
    rw [e, hm]
    refine Ev.pos (by omega) (Ev.pos (by omega) ?_)
    have t0 := lb_nonneg (Lim_L (V a)) m
    have t1 := lb_lt (Lim_L (V a)) m
    have t2 := lb_top hm
    obtain ⟨t, ht⟩ : ∃ t : Nat, lb (L (V a)) m = (t : Int) := ⟨(lb (L (V a)) m).toNat, by omega⟩
    have hb := bl_top (Lim_L (V a)) hm ht (by omega)
    rw [V_L] at hb
    have e2 : wrap64 (32 * (m : Int)) = ((32 * m : Nat) : Int) := by rw [w64 (by omega) (by omega)]; rfl
    rw [rd_lb, ht, e2, hb]
    exact rBits_at t (32 * m) (by omega) (by omega)
theorem shl_bounds {x p c : Int} (x0 : 0 ≤ x) (x1 : x < 4294967296) (p0 : 0 < p) (p1 : p ≤ 2147483648) (c0 : 0 ≤ c) (c1 : c < p) :
    IntKind.u64.wrap (x * p) = x * p ∧ IntKind.u64.wrap (x * p + c) = x * p + c ∧ 0 ≤ x * p + c ∧ 0 ≤ (x * p + c) % 4294967296 ∧ (x * p + c) % 4294967296 < 4294967296 ∧
    0 ≤ (x * p + c) / 4294967296 ∧ (x * p + c) / 4294967296 < p ∧ (x * p + c) % 4294967296 = x * p + c - 4294967296 * ((x * p + c) / 4294967296) := by
  have h0 : 0 ≤ x * p := Int.mul_nonneg x0 (by omega)
  have h1 : x * p ≤ 4294967295 * p := Int.mul_le_mul_of_nonneg_right (by omega) (by omega)
  generalize x * p = z at h0 h1
  exact ⟨wu64 h0 (by omega), wu64 (by omega) (by omega), by omega, by omega, by omega, by omega, by omega, by omega⟩
theorem shl_pow {x : Int} {r : Nat} (hr : r < 32) : shl .u64 x (r : Int) = IntKind.u64.wrap (x * ((2 ^ r : Nat) : Int)) := by
  unfold shl
  rw [Int.toNat_natCast, Nat.min_eq_left (by show r ≤ 64; omega)]
  congr 2
theorem two_pow_le {r : Nat} (hr : r < 32) : 0 < ((2 ^ r : Nat) : Int) ∧ ((2 ^ r : Nat) : Int) ≤ 2147483648 := by
  have h1 : 2 ^ r ≤ 2 ^ 31 := Nat.pow_le_pow_right (by decide) (by omega)
  have h0 := Nat.two_pow_pos r
  have : (2 : Nat) ^ 31 = 2147483648 := by decide
  rw [this] at h1
  omega
theorem rShift_at {a : List Int} (ha : Lim a) {n : Nat} (hl : a.length + n / 32 < 8796093022208) (hn : n < 4611686018427387904) {v : Nat} (hfin : ((2 ^ (n % 32) : Nat) : Int) * W (n / 32) * V a = v) : ∀ (d i : Nat) (o : List Int) (c : Int), d + i = a.length → o.length = n / 32 + i → Lim o → 0 ≤ c → c < ((2 ^ (n % 32) : Nat) : Int) →
    (V o : Int) + W (n / 32 + i) * c = ((2 ^ (n % 32) : Nat) : Int) * W (n / 32) * V (a.take i) → Ev (fun k => codewrightref01_shift.l0 k a n o c i) (L v) := by
  have hp := two_pow_le (Nat.mod_lt n (by omega : 0 < 32))
  have ht : Int.tmod (n : Int) 32 = ((n % 32 : Nat) : Int) := by rw [Int.tmod_eq_emod_of_nonneg (by omega)]; rfl
  have hsh : ∀ x, shl .u64 x ((n % 32 : Nat) : Int) = IntKind.u64.wrap (x * ((2 ^ (n % 32) : Nat) : Int)) := fun x => shl_pow (Nat.mod_lt n (by omega))
  generalize ((2 ^ (n % 32) : Nat) : Int) = p at *
  intro d
  induction d with
  | zero =>
    intro i o c hd ho hlo h0 h1 hv
    obtain rfl : i = a.length := by omega
    rw [List.take_length, hfin] at hv
    refine Ev.succ ((rTrim_ret (a := o ++ [c]) (Lim_append hlo (Lim_cons h0 (by omega) Lim_nil)) (by simp only [List.length_append, List.length_singleton]; omega) ?_).congr fun k => ?_)
    · rw [← ho, ← Vi_snoc _ h0] at hv
      exact Int.ofNat.inj hv
    · rw [codewrightref01_shift.l0, if_neg (by omega), if_pos (by omega), Int.emod_eq_of_lt h0 (by omega)]
  | succ d ih =>
    intro i o c hd ho hlo h0 h1 hv
    have la := lb_nonneg ha i
    have la' := lb_lt ha i
    have ⟨m1, m2, m3, m4, m5, m6, m7, m8⟩ := shl_bounds la la' hp.1 hp.2 h0 h1
    have l1 : o.length < 35184372088832 := by clear m1 m2 m3 m4 m5 m6 m7 m8; omega
    have l2 : (o ++ [(lb a i * p + c) % 4294967296]).length = n / 32 + (i + 1) := by
      rw [List.length_append, List.length_singleton, ho, Nat.add_assoc]
    refine Ev.succ ((ih (i + 1) (o ++ [(lb a i * p + c) % 4294967296]) ((lb a i * p + c) / 4294967296) (by clear m1 m2 m3 m4 m5 m6 m7 m8; omega) l2 (Lim_append hlo (Lim_cons m4 m5 Lim_nil)) m6 m7 ?_).congr fun k => ?_)
    · rw [Vi_snoc _ m4, ho, Vi_take_succ ha, ← Nat.add_assoc, W_succ, m8, W_add] at *
      grind
    · have e1 : (i : Int) < (a.length : Int) := by clear m1 m2 m3 m4 m5 m6 m7 m8; omega
      rw [codewrightref01_shift.l0, if_pos e1, if_pos (Int.natCast_nonneg i), ht, if_pos (Int.natCast_nonneg _), if_pos l1, hsh, rd_lb, wu64 la (Int.lt_trans la' (by decide)), m1, m2, tmodB m3, tdivB m3, wu64 m6 (Int.lt_of_lt_of_le m7 (Int.le_trans hp.2 (by decide))), Int.emod_emod, wsucc (by clear m1 m2 m3 m4 m5 m6 m7 m8; omega)]
theorem rShift {a : List Int} (ha : Lim a) {n : Nat} (hl : a.length + n / 32 < 8796093022208) (hn : n < 4611686018427387904) : Ev (fun k => codewrightref01_shift.f k a n) (L (V a * 2 ^ n)) := by
  have hd : wrap64 (Int.tdiv (n : Int) 32) = ((n / 32 : Nat) : Int) := by
    rw [Int.tdiv_eq_ediv_of_nonneg (by omega), w64 (by omega) (by omega)]; rfl
  unfold codewrightref01_shift.f
  rw [hd, Int.toNat_natCast]
  refine Ev.pos (by omega) (Ev.pos (by omega) (rShift_at ha hl hn ?_ a.length 0 _ 0 (by omega) (by rw [List.length_replicate]; rfl) (Lim_replicate _) (by omega) (two_pow_le (Nat.mod_lt n (by omega))).1 ?_))
  · rw [W_two, ← Int.natCast_mul, ← Int.natCast_mul]
    congr 1
    rw [← Nat.pow_add, Nat.mul_comm, Nat.add_comm, Nat.div_add_mod]
  · rw [Vi_replicate, List.take_zero, Vi_nil]
    grind
theorem V_one : V [1] = 1 := rfl
theorem Lim_one : Lim [1] := Lim_cons (by omega) (by omega) Lim_nil
theorem rDivMod_at {b : List Int} (hb : Lim b) (hb0 : V b ≠ 0) {N : Nat} (hN : (L N).length < 4398046511104) (hbl : b.length < 4398046511104) : ∀ (n q r : Nat), n < 140737488355328 → (n ≠ 0 → V b * 2 ^ (n - 1) ≤ N) → r ≤ N → q + r / V b ≤ N → r < 2 ^ n * V b →
    Ev (fun k => codewrightref01_DivMod.l0 k b (L q) (L r) (wrap64 ((n : Int) - 1))) (L (q + r / V b), L (r % V b)) := by
  intro n
  induction n with
  | zero =>
    intro q r _ _ _ hq hlt
    have hlt : r < V b := by simpa using hlt
    rw [Nat.div_eq_of_lt hlt, Nat.mod_eq_of_lt hlt]
    rw [Nat.div_eq_of_lt hlt] at hq
    have hlq := L_length_mono hq
    have hret : Ev (fun k => (codewrightref01_Trim.f k (L q)).bind fun t => some (t, L r)) (L (q + 0), L r) := by
      have := rTrim (Lim_L q) (by simp only [Nat.add_zero] at hlq; omega)
      rw [V_L] at this
      exact Ev.bind this (Ev.const _)
    refine Ev.succ (hret.congr fun k => ?_)
    rw [codewrightref01_DivMod.l0, if_neg (by rw [w64 (by omega) (by omega)]; omega)]
  | succ n ih =>
    intro q r hn hbN hr hq hlt
    have hz : 2 ^ (n + 1) * V b = 2 * (V b * 2 ^ n) := by rw [Nat.pow_succ]; grind
    have hz2 : 2 ^ n * V b = V b * 2 ^ n := Nat.mul_comm _ _
    have hbN := hbN (by omega)
    rw [Nat.add_sub_cancel] at hbN
    have lt := L_length_mono hbN
    have lr := L_length_mono hr
    have hpow : 2 ^ n ≤ N := Nat.le_trans (by have := Nat.mul_le_mul_right (2 ^ n) (Nat.one_le_iff_ne_zero.2 hb0); rwa [Nat.one_mul] at this) hbN
    have lp := L_length_mono hpow
    have hnext : n ≠ 0 → V b * 2 ^ (n - 1) ≤ N := fun h => Nat.le_trans (Nat.mul_le_mul_left _ (Nat.pow_le_pow_right (by decide) (by omega))) hbN
    have hs := rShift (a := b) hb (n := n) (by omega) (by omega)
    have h1 := rShift (a := [1]) Lim_one (n := n) (by simp only [List.length_singleton]; omega) (by omega)
    rw [V_one, Nat.one_mul] at h1
    have hc := rCmp (Lim_L r) (Lim_L (V b * 2 ^ n)) (by omega) (by omega)
    rw [V_L, V_L] at hc
    have hw : wrap64 (((n + 1 : Nat) : Int) - 1) = (n : Int) := wpred (by omega)
    rw [hw]
    by_cases hge : V b * 2 ^ n ≤ r
    · have hsub := rSub (Lim_L r) (Lim_L (V b * 2 ^ n)) (by omega) (by rw [V_L, V_L]; exact hge)
      rw [V_L, V_L] at hsub
      have hdiv : (r - V b * 2 ^ n) / V b = r / V b - 2 ^ n := Nat.sub_mul_div_of_le _ _ _ hge
      have hmod : (r - V b * 2 ^ n) % V b = r % V b := Nat.sub_mul_mod hge
      have hle : 2 ^ n ≤ r / V b := (Nat.le_div_iff_mul_le (by omega)).2 (by rw [Nat.mul_comm]; exact hge)
      have hq' : q + 2 ^ n ≤ N := by omega
      have lq := L_length_mono hq'
      have hadd := rAdd (Lim_L q) (Lim_L (2 ^ n)) (by have := L_length_mono (Nat.le_trans (Nat.le_add_right q (2 ^ n)) hq'); omega) (by omega)
      rw [V_L, V_L] at hadd
      have := ih (q + 2 ^ n) (r - V b * 2 ^ n) (by omega) hnext (by omega) (by omega) (by omega)
      rw [hdiv, hmod, (by omega : q + 2 ^ n + (r / V b - 2 ^ n) = q + r / V b)] at this
      refine Ev.succ ?_
      conv => enter [1, k]; rw [codewrightref01_DivMod.l0, if_pos (by omega)]
      exact Ev.bind hs (Ev.bind hc (Ev.pos (cmp_nonneg.2 hge) (Ev.bind hsub (Ev.bind h1 (Ev.bind hadd this)))))
    · have := ih q r (by omega) hnext hr hq (by omega)
      refine Ev.succ ?_
      conv => enter [1, k]; rw [codewrightref01_DivMod.l0, if_pos (by omega)]
      exact Ev.bind hs (Ev.bind hc (Ev.neg (fun h => hge (cmp_nonneg.1 h)) this))
theorem rDivMod {a b : List Int} (ha : Lim a) (hb : Lim b) (hb0 : V b ≠ 0) (hla : a.length < 4294967296) (hlb : b.length < 4294967296) : Ev (fun k => codewrightref01_DivMod.f k a b) (L (V a / V b), L (V a % V b)) := by
  unfold codewrightref01_DivMod.f
  refine Ev.bind (rTrim ha (by omega)) (Ev.bind (rBits ha (by omega)) (Ev.bind (rBits hb (by omega)) ?_))
  have ba : bl (V a) ≤ 32 * a.length := bl_le_of_lt (by rw [← Wn_two]; exact V_lt ha)
  have bb : bl (V b) ≤ 32 * b.length := bl_le_of_lt (by rw [← Wn_two]; exact V_lt hb)
  have b0 : bl (V b) ≠ 0 := fun h => hb0 (bl_eq_zero.1 h)
  have hlt := lt_bl (V a)
  have hge := bl_le hb0
  by_cases hle : bl (V b) ≤ bl (V a) + 1
  · obtain ⟨n, hn⟩ : ∃ n, bl (V a) + 1 = bl (V b) + n := ⟨bl (V a) + 1 - bl (V b), by omega⟩
    have e : wrap64 (((bl (V a) : Nat) : Int) - ((bl (V b) : Nat) : Int)) = wrap64 ((n : Int) - 1) := by congr 1; omega
    rw [e]
    have hN : (L (2 * V a)).length ≤ a.length + 1 := L_length_le (by
      have := V_lt ha
      rw [Nat.pow_succ]
      omega)
    have key : V b * 2 ^ (n - 1) ≤ 2 * V a ∨ n = 0 := by
      by_cases hn0 : n = 0
      · exact Or.inr hn0
      · by_cases hva : V a = 0
        · rw [hva, bl_zero] at hn
          omega
        · refine Or.inl (Nat.le_trans (Nat.mul_le_mul_right _ (Nat.le_of_lt (lt_bl (V b)))) ?_)
          rw [← Nat.pow_add, (by omega : bl (V b) + (n - 1) = bl (V a) - 1 + 1), Nat.pow_succ]
          have := bl_le hva
          omega
    have := rDivMod_at hb hb0 (N := 2 * V a) (by omega) (by omega) n 0 (V a) (by omega) (fun h => key.resolve_right h) (by omega) (by have := Nat.div_le_self (V a) (V b); omega) (by
      refine Nat.lt_of_lt_of_le hlt ?_
      rw [(by omega : bl (V a) = n + (bl (V b) - 1)), Nat.pow_add]
      exact Nat.mul_le_mul_left _ hge)
    rw [L_zero, Nat.zero_add] at this
    exact this
  · have hab : V a < V b := Nat.lt_of_lt_of_le hlt (Nat.le_trans (Nat.pow_le_pow_right (by decide) (by omega)) hge)
    rw [Nat.div_eq_of_lt hab, Nat.mod_eq_of_lt hab, L_zero]
    have hret : Ev (fun k => (codewrightref01_Trim.f k []).bind fun t => some (t, L (V a))) ([], L (V a)) := by
      have := rTrim Lim_nil (by simp)
      rw [V_nil, L_zero] at this
      exact Ev.bind this (Ev.const _)
    refine Ev.succ (hret.congr fun k => ?_)
    rw [codewrightref01_DivMod.l0, if_neg (by rw [w64 (by omega) (by omega)]; omega)]
theorem rGcd_at : ∀ (n : Nat) (a b : List Int), V b = n → Lim a → Lim b → a.length < 4294967296 → b.length < 4294967296 → Ev (fun k => codewrightref01_Gcd.l0 k a b) (L (Nat.gcd (V a) (V b))) := by
  intro n
  induction n using Nat.strongRecOn with
  | ind n ih =>
    intro a b hn ha hb hla hlb
    by_cases h : V b = 0
    · have hz := rZero hb (by omega)
      rw [h] at hz
      have := rTrim ha (by omega)
      rw [h, Nat.gcd_zero_right]
      refine Ev.succ ?_
      conv => enter [1, k]; rw [codewrightref01_Gcd.l0]
      exact Ev.bind hz (Ev.pos rfl (Ev.bind this (Ev.const _)))
    · have hz := rZero hb (by omega)
      have hlt : V a % V b < V b := Nat.mod_lt _ (by omega)
      have hlen := L_length_mono (Nat.le_of_lt hlt)
      have hlb' := L_length_V hb
      have := ih (V a % V b) (by omega) b (L (V a % V b)) (V_L _) hb (Lim_L _) hlb (by omega)
      rw [V_L, Nat.gcd_comm (V b), ← Nat.gcd_rec, Nat.gcd_comm (V b)] at this
      refine Ev.succ ?_
      conv => enter [1, k]; rw [codewrightref01_Gcd.l0]
      exact Ev.bind hz (Ev.neg (by rw [beq_iff_eq]; exact h) (Ev.bind (rDivMod ha hb h hla hlb) this))
theorem rGcd {a b : List Int} (ha : Lim a) (hb : Lim b) (hla : a.length < 4294967296) (hlb : b.length < 4294967296) : Ev (fun k => codewrightref01_Gcd.f k a b) (L (Nat.gcd (V a) (V b))) := rGcd_at _ a b rfl ha hb hla hlb
end Go.Proofs.Ythheakfgmombdaa.Num
end
section
namespace Go.Proofs.Ythheakfgmombdaa.Num
set_option linter.unusedVariables false
open Go.RowKit Go.Proofs.YthheakfgmombdaaX.PrintWords Go.Proofs.YthheakfgmombdaaX.PrintMore Go.Proofs.Ythheakfgmombdaa.F
theorem pShort_at (a : List Int) (ha : Lim a) (hl : a.length < 17592186044416) : ∀ n : Nat, n ≤ a.length → Ev (fun k => nat_short.l0 k a (n : Int)) (L (V (a.take n))) := by
  intro n
  induction n with
  | zero =>
    intro _
    refine Ev.succ (Ev.of fun k => ?_)
    show nat_short.l0 (k + 1) a ((0 : Nat) : Int) = _
    rw [nat_short.l0, if_neg (by omega), if_pos (by omega), if_pos (by omega), List.take_zero, V_nil, L_zero, Int.toNat_natCast, List.take_zero]
  | succ n ih =>
    intro hn
    have hw : wrap64 (((n + 1 : Nat) : Int) - 1) = (n : Int) := wpred (by omega)
    have hr : rd a (n : Int) = a[n] := rd_eq a n (by omega)
    by_cases h0 : a[n] = 0
    · rw [V_take_zero (by omega) h0]
      refine Ev.succ ((ih (by omega)).congr fun k => ?_)
      rw [nat_short.l0, hw, if_pos (by omega), if_pos (by omega), if_pos (by omega), hr, if_pos h0]
    · refine Ev.succ (Ev.of fun k => ?_)
      rw [nat_short.l0, hw, if_pos (by omega), if_pos (by omega), if_pos (by omega), hr, if_neg h0, if_pos (by omega), if_pos (by omega), Int.toNat_natCast, L_of_trimmed (Lim_take ha _) (trimmed_take (by omega) h0)]
theorem pShort {a : List Int} (ha : Lim a) (hl : a.length < 17592186044416) : Ev (fun k => nat_short.f k a) (L (V a)) := by
  have := pShort_at a ha hl a.length (Nat.le_refl _)
  rw [List.take_length] at this
  exact this
theorem shorto_short (k : Nat) (a : List Int) (i : Int) : nat_shorto.l0 k a i = nat_short.l0 k a i := by
  induction k generalizing i with
  | zero => rfl
  | succ k ih => rw [nat_shorto.l0, nat_short.l0, ih]
theorem pShorto {a : List Int} (ha : Lim a) (hl : a.length < 17592186044416) : Ev (fun k => nat_shorto.f k a) (L (V a)) := (pShort ha hl).congr fun k => shorto_short k a _
theorem pShorto_of {a : List Int} {n : Nat} (ha : Lim a) (hl : a.length < 17592186044416) (h : V a = n) : Ev (fun k => nat_shorto.f k a) (L n) := by
  subst h
  exact pShorto ha hl
theorem pTrim {a : List Int} (ha : Lim a) (hl : a.length < 17592186044416) : Ev (fun k => nat_Trim.f k a) (L (V a)) := by
  unfold nat_Trim.f
  have := L_length_V ha
  refine Ev.bind (pShort ha hl) (Ev.pos (by rw [List.length_nil]; omega) (Ev.of fun k => by rw [List.nil_append]))
theorem pTrim_of {a : List Int} {n : Nat} (ha : Lim a) (hl : a.length < 17592186044416) (h : V a = n) : Ev (fun k => nat_Trim.f k a) (L n) := by
  subst h
  exact pTrim ha hl
theorem pOf {x : Int} (h0 : 0 ≤ x) (h1 : x < 18446744073709551616) : Ev (fun k => nat_Of.f k x) (L x.toNat) := by
  unfold nat_Of.f
  refine Ev.bind (pTrim_of (n := x.toNat) (Lim_cons (by omega) (by omega) (Lim_cons (by omega) (by omega) Lim_nil)) (by simp) ?_) (Ev.const _)
  rw [V_cons, V_cons, V_nil]
  omega
theorem len8 : ∀ n : Nat, n < 256 → bt (⟨#[0, 1, 2, 2, 3, 3, 3, 3, 4, 4, 4, 4, 4, 4, 4, 4, 5, 5, 5, 5, 5, 5, 5, 5, 5, 5, 5, 5, 5, 5, 5, 5, 6, 6, 6, 6, 6, 6, 6, 6, 6, 6, 6, 6, 6, 6, 6, 6, 6, 6, 6, 6, 6, 6, 6, 6, 6, 6, 6, 6, 6, 6, 6, 6, 7, 7, 7, 7, 7, 7, 7, 7, 7, 7, 7, 7, 7, 7, 7, 7, 7, 7, 7, 7, 7, 7, 7, 7, 7, 7, 7, 7, 7, 7, 7, 7, 7, 7, 7, 7, 7, 7, 7, 7, 7, 7, 7, 7, 7, 7, 7, 7, 7, 7, 7, 7, 7, 7, 7, 7, 7, 7, 7, 7, 7, 7, 7, 7, 8, 8, 8, 8, 8, 8, 8, 8, 8, 8, 8, 8, 8, 8, 8, 8, 8, 8, 8, 8, 8, 8, 8, 8, 8, 8, 8, 8, 8, 8, 8, 8, 8, 8, 8, 8, 8, 8, 8, 8, 8, 8, 8, 8, 8, 8, 8, 8, 8, 8, 8, 8, 8, 8, 8, 8, 8, 8, 8, 8, 8, 8, 8, 8, 8, 8, 8, 8, 8, 8, 8, 8, 8, 8, 8, 8, 8, 8, 8, 8, 8, 8, 8, 8, 8, 8, 8, 8, 8, 8, 8, 8, 8, 8, 8, 8, 8, 8, 8, 8, 8, 8, 8, 8, 8, 8, 8, 8, 8, 8, 8, 8, 8, 8, 8, 8, 8, 8, 8, 8, 8, 8, 8, 8, 8, 8, 8, 8]⟩ : ByteArray) (n : Int) = ((bl n : Nat) : Int) := by
  have h : (List.range 256).all (fun n => decide (bt (⟨#[0, 1, 2, 2, 3, 3, 3, 3, 4, 4, 4, 4, 4, 4, 4, 4, 5, 5, 5, 5, 5, 5, 5, 5, 5, 5, 5, 5, 5, 5, 5, 5, 6, 6, 6, 6, 6, 6, 6, 6, 6, 6, 6, 6, 6, 6, 6, 6, 6, 6, 6, 6, 6, 6, 6, 6, 6, 6, 6, 6, 6, 6, 6, 6, 7, 7, 7, 7, 7, 7, 7, 7, 7, 7, 7, 7, 7, 7, 7, 7, 7, 7, 7, 7, 7, 7, 7, 7, 7, 7, 7, 7, 7, 7, 7, 7, 7, 7, 7, 7, 7, 7, 7, 7, 7, 7, 7, 7, 7, 7, 7, 7, 7, 7, 7, 7, 7, 7, 7, 7, 7, 7, 7, 7, 7, 7, 7, 7, 8, 8, 8, 8, 8, 8, 8, 8, 8, 8, 8, 8, 8, 8, 8, 8, 8, 8, 8, 8, 8, 8, 8, 8, 8, 8, 8, 8, 8, 8, 8, 8, 8, 8, 8, 8, 8, 8, 8, 8, 8, 8, 8, 8, 8, 8, 8, 8, 8, 8, 8, 8, 8, 8, 8, 8, 8, 8, 8, 8, 8, 8, 8, 8, 8, 8, 8, 8, 8, 8, 8, 8, 8, 8, 8, 8, 8, 8, 8, 8, 8, 8, 8, 8, 8, 8, 8, 8, 8, 8, 8, 8, 8, 8, 8, 8, 8, 8, 8, 8, 8, 8, 8, 8, 8, 8, 8, 8, 8, 8, 8, 8, 8, 8, 8, 8, 8, 8, 8, 8, 8, 8, 8, 8, 8, 8, 8, 8]⟩ : ByteArray) (n : Int) = ((bl n : Nat) : Int))) = true := by kernel_rfl
  intro n hn
  have := List.all_eq_true.1 h n (List.mem_range.2 hn)
  exact of_decide_eq_true this
theorem bl_256 {n : Nat} (h : n / 256 ≠ 0) : bl n = bl (n / 256) + 8 := by
  have h2 := bl_le h
  have h3 := lt_bl (n / 256)
  have h4 : bl (n / 256) ≠ 0 := fun h' => h (bl_eq_zero.1 h')
  obtain ⟨m, hm⟩ : ∃ m, bl (n / 256) = m + 1 := ⟨bl (n / 256) - 1, by omega⟩
  rw [hm] at h2 h3 ⊢
  rw [Nat.add_sub_cancel] at h2
  rw [bl_of (m := m + 8)]
  · rw [Nat.pow_add]; generalize 2 ^ m = z at *; omega
  · have : m + 8 + 1 = (m + 1) + 8 := by omega
    rw [this, Nat.pow_add]; generalize 2 ^ (m + 1) = z at *; omega
theorem pLen32_j (n : Nat) (hn : n < 65536) (e : Int) (h0 : 0 ≤ e) (h1 : e ≤ 16) (k : Nat) : bits_Len32.j0 (k + 1) (n : Int) e = some (e + ((bl n : Nat) : Int)) := by
  have hb : bl n ≤ 16 := bl_le_of_lt (by omega)
  rw [bits_Len32.j0]
  by_cases h : n / 256 = 0
  · have e1 : (n : Int) % 256 = (n : Int) := by omega
    rw [if_neg (by omega), e1, if_pos (by omega), if_pos (by omega), len8 n (by omega), w64 (x := ((bl n : Nat) : Int)) (by omega) (by omega), w64 (by omega) (by omega)]
  · have e1 : (n : Int) / 256 % 256 = ((n / 256 : Nat) : Int) := by omega
    have e2 := bl_256 h
    rw [if_pos (by omega), e1, if_pos (by omega), if_pos (by omega), len8 (n / 256) (by omega), w64 (x := ((bl (n / 256) : Nat) : Int)) (by omega) (by omega), w64 (x := e + 8) (by omega) (by omega), w64 (by omega) (by omega), e2]
    congr 1
    omega
theorem bl_65536 {n : Nat} (h : n / 65536 ≠ 0) : bl n = bl (n / 65536) + 16 := by
  have h1 : n / 256 / 256 = n / 65536 := by omega
  rw [bl_256 (by omega), bl_256 (n := n / 256) (by omega), h1]
theorem pLen32 {n : Nat} (hn : n < 4294967296) : Ev (fun k => bits_Len32.f k (n : Int)) ((bl n : Nat) : Int) := by
  unfold bits_Len32.f
  refine Ev.ite (fun h => ?_) (fun h => ?_)
  · refine Ev.succ (Ev.of fun k => ?_)
    have e : (n : Int) / 65536 = ((n / 65536 : Nat) : Int) := by omega
    show bits_Len32.j0 (k + 1) _ _ = _
    rw [e, pLen32_j _ (by omega) _ (by omega) (by omega), bl_65536 (n := n) (by omega)]
    congr 1
    omega
  · refine Ev.succ (Ev.of fun k => ?_)
    show bits_Len32.j0 (k + 1) _ _ = _
    rw [pLen32_j _ (by omega) _ (by omega) (by omega)]
    congr 1
    omega
theorem pLead {n : Nat} (hn : n < 4294967296) : Ev (fun k => bits_LeadingZeros32.f k (n : Int)) ((32 - bl n : Nat) : Int) := by
  have hb : bl n ≤ 32 := bl_le_of_lt (by omega)
  unfold bits_LeadingZeros32.f
  refine Ev.bind (pLen32 hn) (Ev.of fun k => ?_)
  rw [w64 (by omega) (by omega)]
  congr 1
  omega
theorem pBits {a : List Int} (ha : Lim a) (hl : a.length < 17592186044416) : Ev (fun k => nat_Bits.f k a) ((bl (V a) : Nat) : Int) := by
  unfold nat_Bits.f
  refine Ev.bind (pShort ha hl) ?_
  have hlen := L_length_V ha
  by_cases h : V a = 0
  · rw [h, L_zero]
    exact Ev.pos rfl (Ev.of fun k => rfl)
  · have h0 : (L (V a)).length ≠ 0 := fun h0 => h (L_eq_nil.1 (List.eq_nil_of_length_eq_zero h0))
    obtain ⟨m, hm⟩ : ∃ m, (L (V a)).length = m + 1 := ⟨(L (V a)).length - 1, by omega⟩
    have e : wrap64 (((L (V a)).length : Int) - 1) = (m : Int) := by rw [hm]; exact wpred (by omega)
    refine Ev.neg (by omega) ?_
    rw [e, hm]
    refine Ev.pos (by omega) (Ev.pos (by omega) ?_)
    have t0 := lb_nonneg (Lim_L (V a)) m
    have t1 := lb_lt (Lim_L (V a)) m
    have t2 := lb_top hm
    obtain ⟨t, ht⟩ : ∃ t : Nat, lb (L (V a)) m = (t : Int) := ⟨(lb (L (V a)) m).toNat, by omega⟩
    have hb := bl_top (Lim_L (V a)) hm ht (by omega)
    rw [V_L] at hb
    have hbt : bl t ≤ 32 := bl_le_of_lt (by omega)
    have e2 : wrap64 (32 * (m : Int)) = ((32 * m : Nat) : Int) := by rw [w64 (by omega) (by omega)]; rfl
    rw [rd_lb, ht, e2, hb]
    refine Ev.bind (pLen32 (by omega)) (Ev.of fun k => ?_)
    rw [w64 (by omega) (by omega)]
    rfl
theorem V_lt_of_drop {x y : List Int} {n : Nat} (hx : Lim x) (hny : n ≤ y.length) (hnx : n ≤ x.length) (h : (V (x.drop n) : Int) < V (y.drop n)) : V x < V y := by
  have ex := Vi_take_drop x n hnx
  have ey := Vi_take_drop y n hny
  have hxl := Vi_lt (Lim_take hx n)
  rw [List.length_take, Nat.min_eq_left hnx] at hxl
  have hw := W_pos n
  have h1 : W n * ((V (x.drop n) : Int) + 1) ≤ W n * (V (y.drop n) : Int) := Int.mul_le_mul_of_nonneg_left h (by omega)
  rw [Int.mul_add] at h1
  have := Vi_nonneg (y.take n)
  generalize W n * (V (x.drop n) : Int) = z at *
  generalize W n * (V (y.drop n) : Int) = z' at *
  omega
theorem pCmp_at {a b : List Int} (ha : Lim a) (hb : Lim b) (hl : a.length < 17592186044415) (hm : b.length = a.length) : ∀ n : Nat, n ≤ a.length → (V (a.drop n) : Int) = V (b.drop n) → Ev (fun k => nat_Cmp.l0 k a b (wrap64 ((n : Int) - 1))) (cmp (V a) (V b)) := by
  intro n
  induction n with
  | zero =>
    intro _ hv
    rw [List.drop_zero, List.drop_zero] at hv
    have e : cmp (V a) (V b) = 0 := by unfold cmp; rw [if_neg (by omega), if_neg (by omega)]
    rw [e]
    refine Ev.succ (Ev.of fun k => ?_)
    show nat_Cmp.l0 (k + 1) a b _ = _
    rw [nat_Cmp.l0, if_neg (by rw [w64 (by omega) (by omega)]; omega)]
  | succ n ih =>
    intro hn hv
    rw [wpred (by omega)]
    have da := Vi_drop_succ ha n
    have db := Vi_drop_succ hb n
    have step : ∀ k, nat_Cmp.l0 (k + 1) a b (n : Int) = if lb a n < lb b n then some (-1) else if lb a n > lb b n then some 1 else nat_Cmp.l0 k a b (wrap64 ((n : Int) - 1)) := fun k => by
      rw [nat_Cmp.l0, if_pos (by omega), if_pos (by omega), if_pos (by omega), if_pos (by omega), rd_lb, rd_lb]
    rcases Int.lt_trichotomy (lb a n) (lb b n) with h | h | h
    · have hlt := V_lt_of_drop (n := n) ha (by omega) (by omega) (x := a) (y := b) (by omega)
      have e : cmp (V a) (V b) = -1 := by unfold cmp; rw [if_pos hlt]
      rw [e]
      exact Ev.succ (Ev.of fun k => by rw [step, if_pos h])
    · exact Ev.succ ((ih (by omega) (by omega)).congr fun k => by rw [step, if_neg (by omega), if_neg (by omega)])
    · have hlt := V_lt_of_drop (n := n) hb (by omega) (by omega) (x := b) (y := a) (by omega)
      have e : cmp (V a) (V b) = 1 := by unfold cmp; rw [if_neg (by omega), if_pos hlt]
      rw [e]
      exact Ev.succ (Ev.of fun k => by rw [step, if_neg (by omega), if_pos h])
theorem L_lt_of_length {m n : Nat} (h : (L m).length < (L n).length) : m < n := by
  rcases Nat.lt_or_ge m n with h' | h'
  · exact h'
  · have := L_length_mono h'
    omega
theorem pCmp {a b : List Int} (ha : Lim a) (hb : Lim b) (hl : a.length < 17592186044415) (hm : b.length < 17592186044415) : Ev (fun k => nat_Cmp.f k a b) (cmp (V a) (V b)) := by
  unfold nat_Cmp.f
  have la := L_length_V ha
  have lb' := L_length_V hb
  refine Ev.bind (pShort ha (by omega)) (Ev.bind (pShort hb (by omega)) (Ev.ite (fun h => ?_) (fun h => Ev.ite (fun h' => ?_) (fun h' => ?_))))
  · have := pCmp_at (Lim_L (V a)) (Lim_L (V b)) (by omega) (by omega) (L (V a)).length (Nat.le_refl _) (by rw [List.drop_of_length_le (Nat.le_refl _), List.drop_of_length_le (by omega)])
    rwa [V_L, V_L] at this
  · have hlt := L_lt_of_length (m := V a) (n := V b) (by omega)
    have e : cmp (V a) (V b) = -1 := by unfold cmp; rw [if_pos hlt]
    rw [e]
    exact Ev.const _
  · have hlt := L_lt_of_length (m := V b) (n := V a) (by omega)
    have e : cmp (V a) (V b) = 1 := by unfold cmp; rw [if_neg (by omega), if_pos hlt]
    rw [e]
    exact Ev.const _
end Go.Proofs.Ythheakfgmombdaa.Num
end
section
namespace Go.Proofs.Ythheakfgmombdaa.Num
set_option linter.unusedVariables false
open Go.RowKit Go.Proofs.YthheakfgmombdaaX.PrintWords Go.Proofs.YthheakfgmombdaaX.PrintMore Go.Proofs.Ythheakfgmombdaa.F
theorem or_add {x y : Int} {r : Nat} (x0 : 0 ≤ x) (y0 : 0 ≤ y) (y1 : y < ((2 ^ r : Nat) : Int)) (h : x * ((2 ^ r : Nat) : Int) + y < 18446744073709551616) : Go.bits .or .u64 (x * ((2 ^ r : Nat) : Int)) y = x * ((2 ^ r : Nat) : Int) + y := by
  obtain ⟨a, rfl⟩ : ∃ a : Nat, x = (a : Int) := ⟨x.toNat, by omega⟩
  obtain ⟨b, rfl⟩ : ∃ b : Nat, y = (b : Int) := ⟨y.toNat, by omega⟩
  rw [← Int.natCast_mul, ← Int.natCast_add] at *
  have h : a * 2 ^ r + b < 18446744073709551616 := Int.ofNat_lt.1 h
  rw [Go.bits_or_u64_nat _ _ (by omega) (by omega), Nat.mul_comm, Nat.two_pow_add_eq_or_of_lt (Int.ofNat_lt.1 y1)]
theorem orB {x y : Int} (x0 : 0 ≤ x) (x1 : x < 4294967296) (y0 : 0 ≤ y) (y1 : y < 4294967296) : Go.bits .or .u64 (IntKind.u64.wrap (x * 4294967296)) (IntKind.u64.wrap y) = x * 4294967296 + y := by
  rw [wu64 (x := x * 4294967296) (by omega) (by omega), wu64 y0 (by omega)]
  exact or_add (r := 32) x0 y0 (by show y < ((4294967296 : Nat) : Int); omega) (by show x * ((4294967296 : Nat) : Int) + y < _; omega)
theorem digit_bounds {r y b : Int} (r0 : 0 ≤ r) (r1 : r < b) (b1 : b < 4294967296) (y0 : 0 ≤ y) (y1 : y < 4294967296) :
    0 ≤ (r * 4294967296 + y) / b ∧ (r * 4294967296 + y) / b < 4294967296 ∧ 0 ≤ (r * 4294967296 + y) % b ∧ (r * 4294967296 + y) % b < b ∧ (r * 4294967296 + y) / b * b + (r * 4294967296 + y) % b = r * 4294967296 + y := by
  refine ⟨Int.ediv_nonneg (by omega) (by omega), Int.ediv_lt_of_lt_mul (by omega) ?_, Int.emod_nonneg _ (by omega), Int.emod_lt_of_pos _ (by omega), ?_⟩
  · omega
  · rw [Int.mul_comm]; exact Int.mul_ediv_add_emod _ _
theorem pDigit_at {a : List Int} (ha : Lim a) {b : Int} (b0 : 0 < b) (b1 : b < 4294967296) (hl : a.length < 17592186044415) : ∀ (n : Nat) (o : List Int) (r : Int), n ≤ a.length → Lim o → o.length = a.length → 0 ≤ r → r < b → (∀ j, j < n → lb o j = 0) →
    (V a : Int) = V o * b + r * W n + V (a.take n) → Ev (fun k => nat_digit.l0 k a b o r (wrap64 ((n : Int) - 1))) (L (V a / b.toNat), ((V a % b.toNat : Nat) : Int)) := by
  intro n
  induction n with
  | zero =>
    intro o r _ ho hlo r0 r1 _ hv
    rw [W_zero, List.take_zero, Vi_nil, Int.mul_one, Int.add_zero] at hv
    have hd : (V a : Int) / b = V o := by rw [hv, Int.add_comm, Int.add_mul_ediv_right _ _ (by omega), Int.ediv_eq_zero_of_lt r0 r1, Int.zero_add]
    have hm : (V a : Int) % b = r := by rw [hv, Int.add_comm, Int.add_mul_emod_self_right, Int.emod_eq_of_lt r0 r1]
    obtain ⟨c, rfl⟩ : ∃ c : Nat, b = (c : Int) := ⟨b.toNat, by omega⟩
    rw [Int.toNat_natCast]
    rw [← Int.natCast_ediv] at hd
    rw [← Int.natCast_emod] at hm
    have hs := pShorto_of ho (by omega) (Int.ofNat.inj hd).symm
    rw [hm]
    refine Ev.succ ?_
    conv => enter [1, k]; rw [nat_digit.l0, if_neg (by rw [w64 (by omega) (by omega)]; omega)]
    refine Ev.bind hs (Ev.of fun k => ?_)
    rw [Int.emod_eq_of_lt r0 (by omega)]
  | succ n ih =>
    intro o r hn ho hlo r0 r1 hz hv
    have y0 := lb_nonneg ha n
    have y1 := lb_lt ha n
    rw [wpred (by omega)]
    have e1 : (n : Int) < (a.length : Int) := by omega
    have e2 : (n : Int) < (o.length : Int) := by omega
    have e3 : (IntKind.u64.wrap b) = b := wu64 (by omega) (by omega)
    have hor := orB r0 (by omega) y0 y1
    have ⟨q0, q1, m0, m1, hqr⟩ := digit_bounds r0 r1 b1 y0 y1
    have hn0 : (0 : Int) ≤ r * 4294967296 + lb a n := by clear hqr hv; omega
    refine Ev.succ ((ih (o.set n ((r * 4294967296 + lb a n) / b)) ((r * 4294967296 + lb a n) % b) (Nat.le_of_succ_le hn) (Lim_set ho _ q0 q1) (by rw [List.length_set, hlo]) m0 m1 (fun j hj => ?_) ?_).congr fun k => ?_)
    · rw [lb_set (by clear hqr hv; omega), if_neg (by clear hqr hv; omega)]
      exact hz j (Nat.lt_succ_of_lt hj)
    · rw [Vi_set ho (by clear hqr hv; omega) q0, hz n (Nat.lt_succ_self n)]
      rw [hv, W_succ, Vi_take_succ ha]
      generalize (r * 4294967296 + lb a n) / b = q at hqr ⊢
      generalize (r * 4294967296 + lb a n) % b = m at hqr ⊢
      grind
    · rw [nat_digit.l0, if_pos (Int.natCast_nonneg n), if_pos (Int.natCast_nonneg n), if_pos e1, e3, if_neg (by clear hqr hv; omega), if_pos e2, rd_lb, hor, Int.toNat_natCast, Int.tdiv_eq_ediv_of_nonneg hn0, Int.tmod_eq_emod_of_nonneg hn0, wu64 q0 (Int.lt_trans q1 (by decide)), Int.emod_eq_of_lt q0 q1]
theorem pDigit {a : List Int} (ha : Lim a) {b : Int} (b0 : 0 < b) (b1 : b < 4294967296) (hl : a.length < 17592186044415) : Ev (fun k => nat_digit.f k a b) (L (V a / b.toNat), ((V a % b.toNat : Nat) : Int)) := by
  unfold nat_digit.f
  rw [Int.toNat_natCast]
  refine Ev.pos (by omega) (Ev.pos (by omega) (pDigit_at ha b0 b1 hl a.length _ 0 (Nat.le_refl _) (Lim_replicate _) (by rw [List.length_replicate]) (by omega) b0 (fun j _ => lb_replicate _ j) ?_))
  rw [Vi_replicate, List.take_length]
  grind
theorem pShift_at {a : List Int} (ha : Lim a) {r : Nat} (hr : r < 32) (hl : a.length < 17592186044415) : ∀ (d i : Nat) (o : List Int) (c : Int), d + i = a.length → Lim o → o.length = a.length + 1 → 0 ≤ c → c < ((2 ^ r : Nat) : Int) → (∀ j, i ≤ j → lb o j = 0) →
    (V o : Int) + W i * c = ((2 ^ r : Nat) : Int) * V (a.take i) → ∃ z, Ev (fun k => nat_shift.l0 k a r o c a a.length i) z ∧ Lim z ∧ z.length = a.length + 1 ∧ (V z : Int) = ((2 ^ r : Nat) : Int) * V a := by
  intro d
  have hp := two_pow_le hr
  induction d with
  | zero =>
    intro i o c hd ho hlo c0 c1 hz hv
    obtain rfl : i = a.length := by omega
    rw [List.take_length] at hv
    refine ⟨o.set a.length c, Ev.succ (Ev.of fun k => ?_), Lim_set ho _ c0 (by omega), by rw [List.length_set, hlo], ?_⟩
    · rw [nat_shift.l0, if_neg (by omega), if_pos (by omega), if_pos (by omega), Int.toNat_natCast, Int.emod_eq_of_lt c0 (by omega)]
    · rw [Vi_set ho (by omega) c0, hz _ (Nat.le_refl _), Int.sub_zero, hv]
  | succ d ih =>
    intro i o c hd ho hlo c0 c1 hz hv
    have y0 := lb_nonneg ha i
    have y1 := lb_lt ha i
    have e1 : (i : Int) < (a.length : Int) := by omega
    have e2 : (i : Int) < (o.length : Int) := by omega
    have e3 : i < o.length := by omega
    have ⟨m1, m2, m3, m4, m5, m6, m7, m8⟩ := shl_bounds y0 y1 hp.1 hp.2 c0 c1
    have m9 : lb a i * ((2 ^ r : Nat) : Int) + c < 18446744073709551616 := by
      have : lb a i * ((2 ^ r : Nat) : Int) ≤ 4294967295 * ((2 ^ r : Nat) : Int) := Int.mul_le_mul_of_nonneg_right (by clear m1 m2 m3 m4 m5 m6 m7 m8 hv; omega) (Int.le_of_lt hp.1)
      generalize lb a i * ((2 ^ r : Nat) : Int) = z at this ⊢
      clear m1 m2 m3 m4 m5 m6 m7 m8 hv
      omega
    have hor := or_add y0 c0 c1 m9
    obtain ⟨z, hz1, hz2⟩ := ih (i + 1) (o.set i ((lb a i * ((2 ^ r : Nat) : Int) + c) % 4294967296)) ((lb a i * ((2 ^ r : Nat) : Int) + c) / 4294967296) (by clear m1 m2 m3 m4 m5 m6 m7 m8 m9 hv hor; omega) (Lim_set ho _ m4 m5) (by rw [List.length_set, hlo]) m6 m7 (fun j hj => by
      rw [lb_set e3, if_neg (by clear m1 m2 m3 m4 m5 m6 m7 m8 m9 hv hor; omega)]
      exact hz j (Nat.le_of_succ_le hj)) (by
      rw [Vi_set ho e3 m4, hz i (Nat.le_refl _), Vi_take_succ ha, W_succ, m8]
      generalize (lb a i * ((2 ^ r : Nat) : Int) + c) / 4294967296 = q at *
      grind)
    refine ⟨z, Ev.succ (hz1.congr fun k => ?_), hz2⟩
    rw [nat_shift.l0, if_pos e1, if_pos (Int.natCast_nonneg i), if_pos e1, if_pos (Int.natCast_nonneg r), if_pos e2, rd_lb, wu64 y0 (Int.lt_trans y1 (by decide)), shl_pow hr, m1, hor, Int.toNat_natCast, wsucc (by clear m1 m2 m3 m4 m5 m6 m7 m8 m9 hv hor; omega)]
theorem pShift {a : List Int} (ha : Lim a) {r : Nat} (hr : r < 32) (hl : a.length < 17592186044415) : ∃ z, Ev (fun k => nat_shift.f k a r) z ∧ Lim z ∧ z.length = a.length + 1 ∧ V z = 2 ^ r * V a := by
  have e : wrap64 ((a.length : Int) + 1) = ((a.length + 1 : Nat) : Int) := wsucc (by omega)
  obtain ⟨z, h1, h2, h3, h4⟩ := pShift_at ha hr hl a.length 0 (List.replicate (a.length + 1) 0) 0 (by omega) (Lim_replicate _) (by rw [List.length_replicate]) (by omega) (two_pow_le hr).1 (fun j _ => lb_replicate _ j) (by
    rw [Vi_replicate, List.take_zero, Vi_nil]
    grind)
  refine ⟨z, ?_, h2, h3, ?_⟩
  · unfold nat_shift.f
    rw [e, Int.toNat_natCast]
    exact Ev.pos (by omega) (Ev.pos (by omega) h1)
  · rw [← Int.natCast_mul] at h4
    exact Int.ofNat.inj h4
theorem w12 : wrap64 (1 + 1) = 2 := w64 (by omega) (by omega)
end Go.Proofs.Ythheakfgmombdaa.Num
end
section
namespace Go.Proofs.Ythheakfgmombdaa.Num
set_option linter.unusedVariables false
open Go.RowKit Go.Proofs.YthheakfgmombdaaX.PrintWords Go.Proofs.YthheakfgmombdaaX.PrintMore Go.Proofs.Ythheakfgmombdaa.F
theorem guess_ge {q w v1 vl t ul vv uu : Int} (hw : 0 < w) (hq : 0 ≤ q) (hv : vv = vl + w * v1) (hvl : 0 ≤ vl) (hu : uu = ul + w * t) (hul : ul < w) (h : q * vv ≤ uu) : q * v1 ≤ t := by
  have h1 : 0 ≤ q * vl := Int.mul_nonneg hq hvl
  have h2 : w * (q * v1) < w * (t + 1) := by
    have e : q * vv = q * vl + w * (q * v1) := by rw [hv]; grind
    rw [Int.mul_add, Int.mul_one]
    generalize w * (q * v1) = x at *
    generalize w * t = y at *
    generalize q * vl = z at *
    omega
  have := Int.lt_of_mul_lt_mul_left h2 (Int.le_of_lt hw)
  omega
theorem guess_le {q w s vl t ul vv uu : Int} (hw : 0 < w) (hq : 0 ≤ q) (hv : vv = vl + w * s) (hvl : vl < w) (hu : uu = ul + w * t) (hul : 0 ≤ ul) (hs : q ≤ s + 1) (h : q * s ≤ t) (hv0 : 0 ≤ vv) (hu0 : 0 ≤ uu) : (q - 1) * vv ≤ uu := by
  by_cases h0 : q = 0
  · subst h0
    omega
  · have h1 : (q - 1) * vl ≤ (q - 1) * w := Int.mul_le_mul_of_nonneg_left (Int.le_of_lt hvl) (by omega)
    have h2 : w * (q * s) ≤ w * t := Int.mul_le_mul_of_nonneg_left h (Int.le_of_lt hw)
    have h3 : w * q ≤ w * (s + 1) := Int.mul_le_mul_of_nonneg_left hs (Int.le_of_lt hw)
    have e : (q - 1) * vv = (q - 1) * vl + w * (q * s) - w * s := by rw [hv]; grind
    have e2 : (q - 1) * w = w * q - w := by grind
    have e3 : w * (s + 1) = w * s + w := by grind
    rw [e, hu]
    rw [e2] at h1
    rw [e3] at h3
    generalize w * (q * s) = x at *
    generalize w * t = y at *
    generalize (q - 1) * vl = z at *
    generalize w * q = a at *
    generalize w * s = b at *
    omega
theorem pStep2_at {v : List Int} (hv : Lim v) {n : Nat} (hvn : v.length = n) (hn : n < 17592186044415) {q T : Int} : ∀ (d i : Nat) (u : List Int) (c : Int), d + i = n → Lim u → u.length = n + 1 → 0 ≤ c → c < 2 → (V u : Int) + W i * c = T + V (v.take i) →
    ∃ z ov, Ev (fun k => nat_step.l2 k u v n q c n i) (IntKind.u64.wrap (q - 1) % 4294967296, z) ∧ Lim z ∧ z.length = n + 1 ∧ (V z : Int) = T + V v - W (n + 1) * ov := by
  intro d
  induction d with
  | zero =>
    intro i u c hd hu hlu c0 c1 hT
    obtain rfl : i = n := by omega
    rw [Vi_take_all (by omega)] at hT
    have x0 := lb_nonneg hu i
    have x1 := lb_lt hu i
    have b0 : 0 ≤ (lb u i + c) % 4294967296 := by omega
    have b1 : (lb u i + c) % 4294967296 < 4294967296 := by omega
    refine ⟨u.set i ((lb u i + c) % 4294967296), (lb u i + c) / 4294967296, Ev.succ (Ev.of fun k => ?_), Lim_set hu _ b0 b1, by rw [List.length_set, hlu], ?_⟩
    · rw [nat_step.l2, if_neg (by omega), if_pos (by omega), if_pos (by omega), rd_lb, Int.toNat_natCast, Int.emod_eq_of_lt c0 (by omega)]
    · have e : (lb u i + c) % 4294967296 = lb u i + c - 4294967296 * ((lb u i + c) / 4294967296) := by omega
      rw [Vi_set hu (by omega) b0, W_succ, e]
      generalize (lb u i + c) / 4294967296 = ov
      grind
  | succ d ih =>
    intro i u c hd hu hlu c0 c1 hT
    have x0 := lb_nonneg hu i
    have x1 := lb_lt hu i
    have y0 := lb_nonneg hv i
    have y1 := lb_lt hv i
    obtain ⟨b0, b1, b2, b3, _⟩ := carry_bounds (s := lb u i + lb v i + c) (by omega) 2 (by omega)
    have hT' : (V (u.set i ((lb u i + lb v i + c) % 4294967296)) : Int) + W (i + 1) * ((lb u i + lb v i + c) / 4294967296) = T + V (v.take (i + 1)) := by
      have e : (lb u i + lb v i + c) % 4294967296 = lb u i + lb v i + c - 4294967296 * ((lb u i + lb v i + c) / 4294967296) := by omega
      rw [Vi_set hu (by omega) b0, Vi_take_succ hv, W_succ, e]
      generalize (lb u i + lb v i + c) / 4294967296 = ov
      grind
    obtain ⟨z, ov, hz, hz'⟩ := ih (i + 1) (u.set i ((lb u i + lb v i + c) % 4294967296)) ((lb u i + lb v i + c) / 4294967296) (by omega) (Lim_set hu _ b0 b1) (by rw [List.length_set, hlu]) b2 b3 hT'
    refine ⟨z, ov, Ev.succ (hz.congr fun k => ?_), hz'⟩
    rw [nat_step.l2, if_pos (by omega), if_pos (by omega), if_pos (by omega), if_pos (by omega), rd_lb, rd_lb, Int.toNat_natCast, wsucc (by omega), wu64 x0 (by omega), wu64 y0 (by omega), wu64 (x := lb u i + lb v i) (by omega) (by omega), wu64 (x := lb u i + lb v i + c) (by omega) (by omega)]
theorem msub_bounds {q y c : Int} (q0 : 0 ≤ q) (q1 : q < 4294967296) (y0 : 0 ≤ y) (y1 : y < 4294967296) (c0 : 0 ≤ c) (c1 : c < 4294967296) :
    IntKind.u64.wrap (q * y) = q * y ∧ IntKind.u64.wrap (q * y + c) = q * y + c ∧ 0 ≤ (q * y + c) % 4294967296 ∧ (q * y + c) % 4294967296 < 4294967296 ∧ 0 ≤ (q * y + c) / 4294967296 ∧ (q * y + c) / 4294967296 < 4294967296 ∧ (q * y + c) % 4294967296 = q * y + c - 4294967296 * ((q * y + c) / 4294967296) := by
  have h0 : 0 ≤ q * y := Int.mul_nonneg q0 y0
  have h1 : q * y ≤ 4294967295 * y := Int.mul_le_mul_of_nonneg_right (by omega) y0
  generalize q * y = z at h0 h1
  exact ⟨wu64 h0 (by omega), wu64 (by omega) (by omega), by omega, by omega, by omega, by omega, by omega⟩
theorem msub_wrap {x p b : Int} (x0 : 0 ≤ x) (x1 : x < 4294967296) (p0 : 0 ≤ p) (p1 : p < 4294967296) (b0 : 0 ≤ b) (b1 : b < 2) :
    IntKind.u64.wrap (IntKind.u64.wrap (IntKind.u64.wrap x - p) - b) % 4294967296 = (x - p - b) % 4294967296 ∧ IntKind.u64.wrap (IntKind.u64.wrap (IntKind.u64.wrap x - p) - b) / 9223372036854775808 = - ((x - p - b) / 4294967296) := by
  rw [wu64m, wu64m, wu64m]
  omega
theorem pStep1_at {v : List Int} (hv : Lim v) {n : Nat} (hvn : v.length = n) (hn : n < 17592186044415) {q T : Int} (q0 : 0 ≤ q) (q1 : q < 4294967296) {res : Int × List Int}
    (next : ∀ (u : List Int) (b : Int), Lim u → u.length = n + 1 → 0 ≤ b → b < 2 → (V u : Int) + q * V v = T + W (n + 1) * b → Ev (fun k => if b = 0 then some (q % 4294967296, u) else nat_step.l2 k u v n q 0 n 0) res) :
    ∀ (d i : Nat) (u : List Int) (b c : Int), d + i = n → Lim u → u.length = n + 1 → 0 ≤ b → b < 2 → 0 ≤ c → c < 4294967296 → (V u : Int) + q * V (v.take i) = T + W i * (c + b) → Ev (fun k => nat_step.l1 k u v n q b c n i) res := by
  intro d
  induction d with
  | zero =>
    intro i u b c hd hu hlu b0 b1 c0 c1 hT
    obtain rfl : i = n := by omega
    rw [Vi_take_all (by omega)] at hT
    have x0 := lb_nonneg hu i
    have x1 := lb_lt hu i
    have hw := msub_wrap x0 x1 c0 c1 b0 b1
    have d0 : 0 ≤ (lb u i - c - b) % 4294967296 := by omega
    have d1 : (lb u i - c - b) % 4294967296 < 4294967296 := by omega
    have hu' : (V (u.set i ((lb u i - c - b) % 4294967296)) : Int) + q * V v = T + W (i + 1) * (- ((lb u i - c - b) / 4294967296)) := by
      have e : (lb u i - c - b) % 4294967296 = lb u i - c - b - 4294967296 * ((lb u i - c - b) / 4294967296) := by omega
      rw [Vi_set hu (by omega) d0, W_succ, e]
      generalize (lb u i - c - b) / 4294967296 = ov
      grind
    have hnext := next _ (- ((lb u i - c - b) / 4294967296)) (Lim_set hu i d0 d1) (by rw [List.length_set, hlu]) (by omega) (by omega) hu'
    refine Ev.succ ?_
    conv => enter [1, k]; rw [nat_step.l1, if_neg (by omega), if_pos (by omega), if_pos (by omega), rd_lb, hw.1, hw.2, Int.toNat_natCast, Option.bind_some, hvn]
    exact hnext
  | succ d ih =>
    intro i u b c hd hu hlu b0 b1 c0 c1 hT
    have x0 := lb_nonneg hu i
    have x1 := lb_lt hu i
    have y0 := lb_nonneg hv i
    have y1 := lb_lt hv i
    have g0 : i < n := by omega
    have g1 : (i : Int) < (v.length : Int) := by omega
    have g2 : (i : Int) < (u.length : Int) := by omega
    have g3 : i < u.length := by omega
    have g4 : (i : Int) < (n : Int) := by omega
    have gd : d + (i + 1) = n := by omega
    have hs : wrap64 ((i : Int) + 1) = ((i + 1 : Nat) : Int) := wsucc (by omega)
    have ⟨m1, m2, m3, m4, m5, m6, m7⟩ := msub_bounds q0 q1 y0 y1 c0 c1
    have hw := msub_wrap x0 x1 m3 m4 b0 b1
    have d0 : 0 ≤ (lb u i - (q * lb v i + c) % 4294967296 - b) % 4294967296 := Int.emod_nonneg _ (by decide)
    have d1 : (lb u i - (q * lb v i + c) % 4294967296 - b) % 4294967296 < 4294967296 := Int.emod_lt_of_pos _ (by decide)
    have e0 : 0 ≤ - ((lb u i - (q * lb v i + c) % 4294967296 - b) / 4294967296) ∧ - ((lb u i - (q * lb v i + c) % 4294967296 - b) / 4294967296) < 2 ∧ (lb u i - (q * lb v i + c) % 4294967296 - b) % 4294967296 = lb u i - (q * lb v i + c) % 4294967296 - b - 4294967296 * ((lb u i - (q * lb v i + c) % 4294967296 - b) / 4294967296) := by
      clear hT m1 m2 m7 hw d0 d1
      generalize (q * lb v i + c) % 4294967296 = p at *
      omega
    have hT' : (V (u.set i ((lb u i - (q * lb v i + c) % 4294967296 - b) % 4294967296)) : Int) + q * V (v.take (i + 1)) = T + W (i + 1) * ((q * lb v i + c) / 4294967296 + - ((lb u i - (q * lb v i + c) % 4294967296 - b) / 4294967296)) := by
      rw [Vi_set hu g3 d0, Vi_take_succ hv, W_succ, e0.2.2]
      generalize (lb u i - (q * lb v i + c) % 4294967296 - b) / 4294967296 = ov
      rw [m7]
      generalize (q * lb v i + c) / 4294967296 = p
      grind
    refine Ev.succ ((ih (i + 1) _ _ _ gd (Lim_set hu i d0 d1) (by rw [List.length_set, hlu]) e0.1 e0.2.1 m5 m6 hT').congr fun k => ?_)
    rw [nat_step.l1, if_pos g4, if_pos (Int.natCast_nonneg i), if_pos g1, if_pos g2, rd_lb, rd_lb, wu64 y0 (Int.lt_trans y1 (by decide)), m1, m2, hw.1, hw.2, Int.toNat_natCast, hs]
theorem pGuess_at {u v : List Int} (hu : Lim u) (hv : Lim v) {m : Nat} (hvn : v.length = m + 2) (hun : u.length = m + 3) (hm : m < 17592186044415) {Q t : Int} {res : Int × List Int} (hv1 : 0 < lb v (m + 1)) (ht : t ≤ lb v (m + 1) * 4294967296 + 4294967295) (hQ : Q < 4294967296)
    (key : ∀ q : Int, 0 ≤ q → t * 4294967296 + lb u m < q * (lb v (m + 1) * 4294967296 + lb v m) → Q < q)
    (next : ∀ q : Int, 0 ≤ q → Q ≤ q → q < 4294967296 → q * (lb v (m + 1) * 4294967296 + lb v m) ≤ t * 4294967296 + lb u m → Ev (fun k => nat_step.l1 k u v ((m + 2 : Nat) : Int) q 0 0 ((m + 2 : Nat) : Int) 0) res) :
    ∀ (d : Nat) (q r : Int), q.toNat = d → 0 ≤ q → q < 18446744073709551616 → 0 ≤ r → q * lb v (m + 1) + r = t → Q ≤ q → Ev (fun k => nat_step.l0 k u v ((m + 2 : Nat) : Int) q r) res := by
  have a0 := lb_nonneg hu m
  have a1 := lb_lt hu m
  have y0 := lb_nonneg hv m
  have y1 := lb_lt hv m
  have z1 := lb_lt hv (m + 1)
  have e2 : wrap64 (((m + 2 : Nat) : Int) - 2) = (m : Int) := by rw [w64 (by omega) (by omega)]; omega
  have e1 : wrap64 (((m + 2 : Nat) : Int) - 1) = ((m + 1 : Nat) : Int) := wpred (by omega)
  have g1 : (m : Int) < (v.length : Int) := by omega
  have g2 : (m : Int) < (u.length : Int) := by omega
  have g3 : ((m + 1 : Nat) : Int) < (v.length : Int) := by omega
  have g4 : (v.length : Int) = ((m + 2 : Nat) : Int) := by omega
  have jf : ∀ k q r, nat_step.j1 (k + 1) u v ((m + 2 : Nat) : Int) q r false = nat_step.l1 k u v ((m + 2 : Nat) : Int) q 0 0 ((m + 2 : Nat) : Int) 0 := fun k q r => by
    rw [nat_step.j1, if_neg (by decide), g4]
  have jt : ∀ k q r, nat_step.j1 (k + 1) u v ((m + 2 : Nat) : Int) q r true = nat_step.l0 k u v ((m + 2 : Nat) : Int) (IntKind.u64.wrap (q - 1)) (IntKind.u64.wrap (r + lb v (m + 1))) := fun k q r => by
    rw [nat_step.j1, if_pos rfl, e1, if_pos (Int.natCast_nonneg _), if_pos g3, rd_lb, wu64 (x := lb v (m + 1)) (Int.le_of_lt hv1) (Int.lt_trans z1 (by decide))]
  intro d
  induction d with
  | zero =>
    intro q r hd q0 q1 r0 hqr hQq
    obtain rfl : q = 0 := by omega
    rw [Int.zero_mul, Int.zero_add] at hqr
    subst hqr
    have hn := next 0 (by omega) hQq (by omega) (by rw [Int.zero_mul]; omega)
    refine Ev.succ (Ev.succ (hn.congr fun k => ?_))
    show nat_step.l0 (k + 1 + 1) _ _ _ _ _ = _
    rw [nat_step.l0]
    by_cases h : r < 4294967296
    · have hf : decide (IntKind.u64.wrap (0 * IntKind.u64.wrap (lb v m)) > Go.bits .or .u64 (IntKind.u64.wrap (r * 4294967296)) (IntKind.u64.wrap (lb u m))) = false := by
        rw [orB r0 h a0 a1, Int.zero_mul, wu64 (x := 0) (by omega) (by omega)]
        exact decide_eq_false (by omega)
      rw [if_pos h, if_neg (by omega), e2, if_pos (Int.natCast_nonneg _), if_pos g1, if_pos g2, rd_lb, rd_lb, hf, jf]
    · rw [if_neg h, jf]
  | succ d ih =>
    intro q r hd q0 q1 r0 hqr hQq
    by_cases h : r < 4294967296
    · have down : Q ≤ q - 1 → Ev (fun k => nat_step.j1 (k + 1) u v ((m + 2 : Nat) : Int) q r true) res := fun hQ1 => by
        have hqr' : (q - 1) * lb v (m + 1) + (r + lb v (m + 1)) = t := by rw [← hqr]; grind
        refine (ih (q - 1) (r + lb v (m + 1)) (by clear hqr hqr'; omega) (by clear hqr hqr'; omega) (by clear hqr hqr'; omega) (by clear hqr hqr'; omega) hqr' hQ1).congr fun k => ?_
        rw [jt, wu64 (x := q - 1) (by clear hqr hqr'; omega) (by clear hqr hqr'; omega), wu64 (x := r + lb v (m + 1)) (by clear hqr hqr'; omega) (by clear hqr hqr'; omega)]
      by_cases hB : q ≥ 4294967296
      · refine Ev.succ (Ev.succ ((down (by clear hqr; omega)).congr fun k => ?_))
        rw [nat_step.l0, if_pos h, if_pos hB]
      · have qy0 : 0 ≤ q * lb v m := Int.mul_nonneg q0 y0
        have qy1 : q * lb v m ≤ 4294967295 * lb v m := Int.mul_le_mul_of_nonneg_right (by clear hqr qy0; omega) y0
        have hd : decide (IntKind.u64.wrap (q * IntKind.u64.wrap (lb v m)) > Go.bits .or .u64 (IntKind.u64.wrap (r * 4294967296)) (IntKind.u64.wrap (lb u m))) = decide (q * lb v m > r * 4294967296 + lb u m) := by
          rw [orB r0 h a0 a1, wu64 (x := lb v m) y0 (Int.lt_trans y1 (by decide)), wu64 (x := q * lb v m) qy0 (by clear hqr; generalize q * lb v m = z at *; omega)]
        have es : q * (lb v (m + 1) * 4294967296 + lb v m) = (t - r) * 4294967296 + q * lb v m := by rw [← hqr]; grind
        have step : ∀ k, nat_step.l0 (k + 1) u v ((m + 2 : Nat) : Int) q r = nat_step.j1 k u v ((m + 2 : Nat) : Int) q r (decide (q * lb v m > r * 4294967296 + lb u m)) := fun k => by
          rw [nat_step.l0, if_pos h, if_neg hB, e2, if_pos (Int.natCast_nonneg _), if_pos g1, if_pos g2, rd_lb, rd_lb, hd]
        by_cases hc : q * lb v m > r * 4294967296 + lb u m
        · have hQ1 : Q < q := key q q0 (by rw [es]; clear hqr es; generalize q * lb v m = z at *; omega)
          refine Ev.succ (Ev.succ ((down (by clear hqr es qy0 qy1 hc; omega)).congr fun k => ?_))
          rw [step, decide_eq_true hc]
        · refine Ev.succ (Ev.succ ((next q q0 hQq (by clear hqr es qy0 qy1 hc; omega) (by rw [es]; clear hqr es; generalize q * lb v m = z at *; omega)).congr fun k => ?_))
          rw [step, decide_eq_false hc, jf]
    · have hqB : q < 4294967296 := by
        by_cases h' : q < 4294967296
        · exact h'
        · have h' : 4294967296 ≤ q := Int.not_lt.1 h'
          have : 4294967296 * lb v (m + 1) ≤ q * lb v (m + 1) := Int.mul_le_mul_of_nonneg_right h' (Int.le_of_lt hv1)
          generalize q * lb v (m + 1) = z at *
          omega
      have es : q * (lb v (m + 1) * 4294967296 + lb v m) = (t - r) * 4294967296 + q * lb v m := by rw [← hqr]; grind
      have qy1 : q * lb v m ≤ 4294967295 * lb v m := Int.mul_le_mul_of_nonneg_right (by clear hqr es; omega) y0
      refine Ev.succ (Ev.succ ((next q q0 hQq hqB (by rw [es]; clear hqr es; generalize q * lb v m = z at *; omega)).congr fun k => ?_))
      rw [nat_step.l0, if_neg h, jf]
theorem V_inj : ∀ {a b : List Int}, Lim a → Lim b → a.length = b.length → V a = V b → a = b
  | [], [], _, _, _, _ => rfl
  | [], _ :: _, _, _, h, _ => by cases h
  | _ :: _, [], _, _, h, _ => by cases h
  | x :: a, y :: b, ha, hb, hl, hv => by
    have hx := Lim_head ha
    have hy := Lim_head hb
    rw [V_cons, V_cons] at hv
    have h1 : x = y := by omega
    have h2 : V a = V b := by omega
    rw [h1, V_inj (Lim_tail ha) (Lim_tail hb) (by simpa using hl) h2]
def Pad (n r : Nat) : List Int := L r ++ List.replicate (n - (L r).length) 0
theorem Lim_Pad (n r : Nat) : Lim (Pad n r) := Lim_append (Lim_L r) (Lim_replicate _)
theorem V_Pad (n r : Nat) : V (Pad n r) = r := by unfold Pad; rw [V_append, V_L, V_replicate, Nat.mul_zero, Nat.add_zero]
theorem Pad_length {n r : Nat} (h : (L r).length ≤ n) : (Pad n r).length = n := by unfold Pad; rw [List.length_append, List.length_replicate]; omega
theorem eq_Pad {z : List Int} {n r : Nat} (hz : Lim z) (hl : z.length = n) (hv : V z = r) : z = Pad n r := by
  refine V_inj hz (Lim_Pad n r) ?_ (by rw [V_Pad, hv])
  rw [hl, Pad_length]
  have := L_length_V hz
  rw [hv] at this
  omega
theorem pStep {u v : List Int} (hu : Lim u) (hv : Lim v) {m : Nat} (hvn : v.length = m + 2) (hun : u.length = m + 3) (hm : m < 17592186044413) (hv1 : 0 < lb v (m + 1)) (hlt : V u < 4294967296 * V v) : Ev (fun k => nat_step.f k u v) (((V u / V v : Nat) : Int), Pad (m + 3) (V u % V v)) := by
  have a0 := lb_nonneg hu m
  have a1 := lb_lt hu m
  have b0 := lb_nonneg hu (m + 1)
  have b1 := lb_lt hu (m + 1)
  have c0 := lb_nonneg hu (m + 2)
  have c1 := lb_lt hu (m + 2)
  have y0 := lb_nonneg hv m
  have y1 := lb_lt hv m
  have z1 := lb_lt hv (m + 1)
  have hw := W_pos m
  have w1 : W (m + 1) = 4294967296 * W m := W_succ m
  have w2 : W (m + 2) = 4294967296 * W (m + 1) := W_succ (m + 1)
  have w3 : W (m + 2 + 1) = 4294967296 * W (m + 2) := W_succ (m + 2)
  have ev : (V v : Int) = V (v.take m) + W m * (lb v (m + 1) * 4294967296 + lb v m) := by
    have h1 := Vi_take_succ hv m
    have h2 := Vi_take_succ hv (m + 1)
    rw [Vi_take_all (by omega)] at h2
    rw [h2, h1, w1]
    grind
  have eu : (V u : Int) = V (u.take m) + W m * ((lb u (m + 2) * 4294967296 + lb u (m + 1)) * 4294967296 + lb u m) := by
    have h1 := Vi_take_succ hu m
    have h2 := Vi_take_succ hu (m + 1)
    have h3 := Vi_take_succ hu (m + 2)
    rw [Vi_take_all (by omega)] at h3
    rw [h3, h2, h1, w2, w1]
    grind
  have vl := Vi_lt (Lim_take hv m)
  have ul := Vi_lt (Lim_take hu m)
  rw [List.length_take, Nat.min_eq_left (by omega)] at vl ul
  have vl' := vl
  have vl0 := Vi_nonneg (v.take m)
  have ul0 := Vi_nonneg (u.take m)
  have hlt' : (V u : Int) < 4294967296 * (V v : Int) := by omega
  have hvpos : 0 < V v := by omega
  have htop : lb u (m + 2) ≤ lb v (m + 1) := by
    have h1 : W m * ((lb u (m + 2) * 4294967296 + lb u (m + 1)) * 4294967296 + lb u m) < W m * (4294967296 * (lb v (m + 1) * 4294967296 + lb v m + 1)) := by
      rw [ev, eu] at hlt'
      generalize lb v (m + 1) * 4294967296 + lb v m = s at *
      generalize (lb u (m + 2) * 4294967296 + lb u (m + 1)) * 4294967296 + lb u m = s' at *
      have e : W m * (4294967296 * (s + 1)) = 4294967296 * (W m * s) + 4294967296 * W m := by grind
      rw [e]
      generalize W m * s = p at *
      generalize W m * s' = p' at *
      clear ev eu w1 w2 w3
      omega
    have := Int.lt_of_mul_lt_mul_left h1 (Int.le_of_lt hw)
    clear h1 ev eu hlt hlt' w1 w2 w3
    omega
  have hQnat : V u / V v < 4294967296 := (Nat.div_lt_iff_lt_mul hvpos).2 hlt
  have hQv : ((V u / V v : Nat) : Int) * V v ≤ V u := by
    rw [← Int.natCast_mul]
    exact Int.ofNat_le.2 (Nat.div_mul_le_self _ _)
  have hQmax : ∀ q : Int, 0 ≤ q → q * V v ≤ V u → q ≤ ((V u / V v : Nat) : Int) := fun q q0 h => by
    obtain ⟨n, rfl⟩ : ∃ n : Nat, q = (n : Int) := ⟨q.toNat, by omega⟩
    rw [← Int.natCast_mul] at h
    exact Int.ofNat_le.2 ((Nat.le_div_iff_mul_le hvpos).2 (Int.ofNat_le.1 h))
  have hs : ((V u / V v : Nat) : Int) * (lb v (m + 1) * 4294967296 + lb v m) ≤ (lb u (m + 2) * 4294967296 + lb u (m + 1)) * 4294967296 + lb u m := guess_ge hw (Int.natCast_nonneg _) ev vl0 eu ul hQv
  have hrem : (V u : Int) = ((V u / V v : Nat) : Int) * V v + ((V u % V v : Nat) : Int) := by
    rw [← Int.natCast_mul, ← Int.natCast_add, Nat.mul_comm, Nat.div_add_mod]
  have hremlt : V u % V v < V v := Nat.mod_lt _ hvpos
  have hvW : (V v : Int) < W (m + 2) := by have := Vi_lt hv; rwa [hvn] at this
  have hW2 : 0 < W (m + 2) := W_pos _
  generalize hQ : V u / V v = Q at *
  generalize hR : V u % V v = R at *
  have hres : ∀ z : List Int, Lim z → z.length = m + 3 → (V z : Int) = R → z = Pad (m + 3) R := fun z h1 h2 h3 => eq_Pad h1 h2 (Int.ofNat.inj h3)
  clear ul vl w1 w2 w3 c1 hlt hlt' hQ hR
  have hs0 : 4294967296 ≤ lb v (m + 1) * 4294967296 + lb v m := by clear ev eu hQv hs hrem hQmax; omega
  have key : ∀ q : Int, 0 ≤ q → (lb u (m + 2) * 4294967296 + lb u (m + 1)) * 4294967296 + lb u m < q * (lb v (m + 1) * 4294967296 + lb v m) → (Q : Int) < q := fun q q0 h => by
    by_cases hc : (Q : Int) < q
    · exact hc
    · have h' : q ≤ (Q : Int) := Int.not_lt.1 hc
      have := Int.mul_le_mul_of_nonneg_right h' (Int.le_trans (by decide) hs0)
      exact absurd (Int.lt_of_lt_of_le h (Int.le_trans this hs)) (Int.lt_irrefl _)
  have next : ∀ q : Int, 0 ≤ q → (Q : Int) ≤ q → q < 4294967296 → q * (lb v (m + 1) * 4294967296 + lb v m) ≤ (lb u (m + 2) * 4294967296 + lb u (m + 1)) * 4294967296 + lb u m →
      Ev (fun k => nat_step.l1 k u v ((m + 2 : Nat) : Int) q 0 0 ((m + 2 : Nat) : Int) 0) ((Q : Int), Pad (m + 3) R) := fun q q0 hQq qB hqs => by
    have hle : (q - 1) * V v ≤ V u := guess_le hw q0 ev vl' eu ul0 (Int.le_trans (Int.le_of_lt qB) (Int.le_trans hs0 (Int.le_add_one (Int.le_refl _)))) hqs (Int.natCast_nonneg _) (Int.natCast_nonneg _)
    have hq1 : q ≤ (Q : Int) + 1 := by
      by_cases h0 : q = 0
      · clear hle hqs key hQmax hrem hs hQv eu ev
        omega
      · have := hQmax (q - 1) (by clear hle hqs key hQmax hrem hs hQv eu ev; omega) hle
        clear hle hqs key hQmax hrem hs hQv eu ev
        omega
    clear hle hqs key hs eu ev hs0 vl' hw
    refine pStep1_at hv hvn (by omega) q0 qB (T := V u) (fun u' b hu' hlu' b0 b1 hT => ?_) (m + 2) 0 u 0 0 (by omega) hu (by omega) (by omega) (by omega) (by omega) (by omega) (by rw [List.take_zero, Vi_nil, Int.mul_zero, Int.add_zero, Int.add_zero, Int.mul_zero, Int.add_zero])
    have hu0 := Vi_nonneg u'
    have hu1 := Vi_lt hu'
    rw [hlu'] at hu1
    rcases (by clear hT hrem hQv; omega : b = 0 ∨ b = 1) with rfl | rfl
    · rw [Int.mul_zero, Int.add_zero] at hT
      have h1 : q * V v ≤ V u := by generalize q * (V v : Int) = z at *; clear hrem hQv; omega
      have h2 := hQmax q q0 h1
      obtain rfl : q = (Q : Int) := Int.le_antisymm h2 hQq
      refine Ev.pos rfl (Ev.of fun k => ?_)
      rw [hres u' hu' hlu' (by generalize (Q : Int) * (V v : Int) = z at *; omega), Int.emod_eq_of_lt q0 qB]
    · have h1 : q = (Q : Int) + 1 := by
        by_cases h : q = (Q : Int)
        · rw [h] at hT
          rw [hrem, Int.mul_one] at hT
          have h3 : W (m + 2) ≤ W (m + 2 + 1) := by have e := W_succ (m + 2); clear hT hrem hQv; omega
          generalize (Q : Int) * (V v : Int) = z at *
          clear hrem hQv
          omega
        · clear hT hrem hQv
          omega
      obtain ⟨z, ov, hz, hz1, hz2, hz3⟩ := pStep2_at hv hvn (by omega) (q := q) (T := V u') (m + 2) 0 u' 0 (by omega) hu' (by omega) (by omega) (by omega) (by rw [List.take_zero, Vi_nil, Int.mul_zero])
      have hzR : (V z : Int) = R + W (m + 2 + 1) * (1 - ov) := by
        rw [hz3]
        have : (V u' : Int) = V u + W (m + 2 + 1) - q * V v := by
          rw [Int.mul_one] at hT
          generalize q * (V v : Int) = z at *
          clear hrem hQv hz3
          omega
        rw [this, hrem, h1]
        grind
      have hz0 := Vi_nonneg z
      have hz4 := Vi_lt hz1
      rw [hz2] at hz4
      have hov : ov = 1 := by
        have hW3 : W (m + 2) ≤ W (m + 2 + 1) := by have e := W_succ (m + 2); clear hT hrem hQv hz3 hzR; omega
        have hW4 : W (m + 2 + 1) = W (m + 3) := rfl
        have hRlt : (R : Int) < W (m + 2) := by clear hT hrem hQv hz3 hzR; omega
        rcases Int.lt_trichotomy ov 1 with h | h | h
        · have : W (m + 2 + 1) * 1 ≤ W (m + 2 + 1) * (1 - ov) := Int.mul_le_mul_of_nonneg_left (by clear hT hrem hQv hz3 hzR; omega) (by clear hT hrem hQv hz3 hzR; omega)
          generalize W (m + 2 + 1) * (1 - ov) = e at *
          clear hT hrem hQv hz3
          omega
        · exact h
        · have : W (m + 2 + 1) * (1 - ov) ≤ W (m + 2 + 1) * (-1) := Int.mul_le_mul_of_nonneg_left (by clear hT hrem hQv hz3 hzR; omega) (by clear hT hrem hQv hz3 hzR; omega)
          generalize W (m + 2 + 1) * (1 - ov) = e at *
          clear hT hrem hQv hz3
          omega
      rw [hov, Int.sub_self, Int.mul_zero, Int.add_zero] at hzR
      refine Ev.neg (by decide) (hz.congr' ?_)
      rw [hres z hz1 (by omega) hzR, h1, wu64 (by clear hT hrem hQv hz3 hzR; omega) (by clear hT hrem hQv hz3 hzR; omega), Int.add_sub_cancel, Int.emod_eq_of_lt (Int.natCast_nonneg _) (by omega)]
  have ht0 : 0 ≤ lb u (m + 2) * 4294967296 + lb u (m + 1) := by clear ev eu hQv hs hrem hQmax; omega
  have hor := orB c0 (Int.lt_of_le_of_lt htop z1) b0 b1
  have q0 : 0 ≤ (lb u (m + 2) * 4294967296 + lb u (m + 1)) / lb v (m + 1) := Int.ediv_nonneg ht0 (Int.le_of_lt hv1)
  have q1 : (lb u (m + 2) * 4294967296 + lb u (m + 1)) / lb v (m + 1) < 18446744073709551616 := Int.lt_of_le_of_lt (Int.ediv_le_self _ ht0) (by clear ev eu hQv hs hrem hQmax; omega)
  have r0 : 0 ≤ (lb u (m + 2) * 4294967296 + lb u (m + 1)) % lb v (m + 1) := Int.emod_nonneg _ (Int.ne_of_gt hv1)
  have hQ0 : (Q : Int) ≤ (lb u (m + 2) * 4294967296 + lb u (m + 1)) / lb v (m + 1) := by
    refine (Int.le_ediv_iff_mul_le hv1).2 ?_
    have h1 : (Q : Int) * lb v m ≥ 0 := Int.mul_nonneg (Int.natCast_nonneg _) y0
    have e : (Q : Int) * (lb v (m + 1) * 4294967296 + lb v m) = (Q : Int) * lb v (m + 1) * 4294967296 + (Q : Int) * lb v m := by grind
    rw [e] at hs
    generalize (Q : Int) * lb v m = x at *
    generalize (Q : Int) * lb v (m + 1) = y at *
    clear ev eu hQv hrem hQmax
    omega
  have hloop := pGuess_at hu hv hvn hun (by omega) hv1 (by clear ev eu hQv hs hrem hQmax; omega) (by omega) key next _ _ _ rfl q0 q1 r0 (by rw [Int.mul_comm]; exact Int.mul_ediv_add_emod _ _) hQ0
  have e1 : wrap64 (((v.length : Nat) : Int) - 1) = ((m + 1 : Nat) : Int) := by rw [hvn]; exact wpred (by omega)
  refine hloop.congr fun k => ?_
  unfold nat_step.f
  rw [if_pos (by omega), if_pos (by omega), e1, if_pos (by omega), if_pos (by omega), if_pos (by omega), hvn, rd_lb, rd_lb, rd_lb, wu64 (x := lb v (m + 1)) (by omega) (by omega), if_neg (by omega), wu64 (x := lb u (m + 2)) (by omega) (by omega), hor, Int.tdiv_eq_ediv_of_nonneg ht0, Int.tmod_eq_emod_of_nonneg ht0, wu64 q0 q1]
end Go.Proofs.Ythheakfgmombdaa.Num
end
section
namespace Go.Proofs.Ythheakfgmombdaa.Num
set_option linter.unusedVariables false
open Go.RowKit Go.Proofs.YthheakfgmombdaaX.PrintWords Go.Proofs.YthheakfgmombdaaX.PrintMore Go.Proofs.Ythheakfgmombdaa.F
theorem L_length_eq {n m : Nat} (h0 : 4294967296 ^ m ≤ n) (h1 : n < 4294967296 ^ (m + 1)) : (L n).length = m + 1 := by
  have h2 := L_length_le h1
  have h3 := V_lt (Lim_L n)
  rw [V_L] at h3
  have h4 : m < (L n).length := (Nat.pow_lt_pow_iff_right (by decide : 1 < 4294967296)).1 (Nat.lt_of_le_of_lt h0 h3)
  omega
theorem Vi_take_take (u : List Int) (i n : Nat) : (u.drop i).take n = (u.take (i + n)).drop i := by rw [List.drop_take]; congr 1; omega
theorem long_round {u v : List Int} (hu : Lim u) (hv : Lim v) {m j : Nat} (hvn : v.length = m + 2) (hj : j + m + 3 ≤ u.length) (hm : m < 17592186044413) (hv1 : 0 < lb v (m + 1)) (hlt : V (u.drop (j + 1)) < V v) :
    ∃ q w, Ev (fun k => nat_stepm.f k u v (j : Int) ((j + m + 3 : Nat) : Int)) ((q : Int), w) ∧ 0 ≤ q ∧ q < 4294967296 ∧ Lim w ∧ w.length = u.length ∧ (V w : Int) + W j * q * V v = V u ∧ V (w.drop j) < V v := by
  have hd := Vi_drop_succ hu j
  have x1 := lb_lt hu j
  have hwin : (V (u.drop j) : Int) < 4294967296 * V v := by omega
  have hvW := V_lt hv
  rw [hvn] at hvW
  have hsplit := V_take_drop (u.drop j) (m + 3) (by rw [List.length_drop]; omega)
  have hrest : V ((u.drop j).drop (m + 3)) = 0 := by
    rcases Nat.eq_zero_or_pos (V ((u.drop j).drop (m + 3))) with h | h
    · exact h
    · have h1 : 4294967296 ^ (m + 3) * 1 ≤ 4294967296 ^ (m + 3) * V ((u.drop j).drop (m + 3)) := Nat.mul_le_mul_left _ h
      have h2 : 4294967296 ^ (m + 3) = 4294967296 ^ (m + 2) * 4294967296 := Nat.pow_succ ..
      generalize 4294967296 ^ (m + 3) * V ((u.drop j).drop (m + 3)) = z at *
      omega
  rw [hrest, Nat.mul_zero, Nat.add_zero] at hsplit
  have ewin : (u.drop j).take (m + 3) = (u.take (j + m + 3)).drop j := by rw [Vi_take_take, Nat.add_assoc]
  rw [ewin] at hsplit
  have hstep := pStep (u := (u.take (j + m + 3)).drop j) (v := v) (Lim_drop (Lim_take hu _) _) hv hvn (by rw [List.length_drop, List.length_take]; omega) hm hv1 (by omega)
  rw [← hsplit] at hstep
  have hV0 : 0 < V v := by omega
  have hlr : (L (V (u.drop j) % V v)).length ≤ m + 3 := by
    have := L_length_mono (Nat.le_of_lt (Nat.mod_lt (V (u.drop j)) hV0))
    have := L_length_V hv
    omega
  have hlz := Pad_length hlr
  have hQ : V (u.drop j) / V v < 4294967296 := (Nat.div_lt_iff_lt_mul hV0).2 (by omega)
  have hLz := Lim_Pad (m + 3) (V (u.drop j) % V v)
  have hVz := V_Pad (m + 3) (V (u.drop j) % V v)
  generalize Pad (m + 3) (V (u.drop j) % V v) = z at *
  refine ⟨((V (u.drop j) / V v : Nat) : Int), u.take j ++ z ++ u.drop (j + m + 3), ?_, Int.natCast_nonneg _, by omega, Lim_append (Lim_append (Lim_take hu _) hLz) (Lim_drop hu _), ?_, ?_, ?_⟩
  · unfold nat_stepm.f
    refine Ev.pos (by omega) (Ev.pos (by omega) (Ev.pos (by omega) ?_))
    rw [Int.toNat_natCast, Int.toNat_natCast]
    exact Ev.bind hstep (Ev.const _)
  · rw [List.length_append, List.length_append, List.length_take, List.length_drop, hlz]
    omega
  · have hr2 : V (u.drop (j + m + 3)) = 0 := by rw [← hrest, List.drop_drop]; congr 2
    have e1 := Vi_take_drop u j (by omega)
    rw [Vi_append, Vi_append, hr2, hVz, e1, List.length_take, Nat.min_eq_left (by omega)]
    have e2 : (V (u.drop j) : Int) = ((V (u.drop j) / V v : Nat) : Int) * V v + ((V (u.drop j) % V v : Nat) : Int) := by
      rw [← Int.natCast_mul, ← Int.natCast_add, Nat.mul_comm, Nat.div_add_mod]
    generalize ((V (u.drop j) / V v : Nat) : Int) = q at *
    generalize ((V (u.drop j) % V v : Nat) : Int) = r at *
    generalize (V (u.drop j) : Int) = x at *
    generalize W j = w at *
    grind
  · have hr2 : V (u.drop (j + m + 3)) = 0 := by rw [← hrest, List.drop_drop]; congr 2
    rw [List.append_assoc, List.drop_append, List.length_take, Nat.min_eq_left (by omega), List.drop_of_length_le (by rw [List.length_take]; omega), Nat.sub_self, List.drop_zero, List.nil_append, V_append, hr2, hVz, Nat.mul_zero, Nat.add_zero]
    exact Nat.mod_lt _ hV0
def Hid (p : Prop) : Prop := p
theorem quo_step {a w q v x u : Int} (h : x + w * q * v = u) : (a + w * q) * v + x = a * v + u := by
  rw [← h]
  grind
theorem quo_nat {A a v x u : Nat} {w q : Int} (h1 : (A : Int) = a + w * q) (h : (x : Int) + w * q * v = u) : A * v + x = a * v + u := by
  refine Int.ofNat.inj ?_
  show ((A * v + x : Nat) : Int) = ((a * v + u : Nat) : Int)
  rw [Int.natCast_add, Int.natCast_mul, Int.natCast_add, Int.natCast_mul, h1]
  exact quo_step h
theorem pLong0_at {v : List Int} (hv : Lim v) {m len r T : Nat} (hvn : v.length = m + 2) (hm : m < 17592186044413) (hv1 : 0 < lb v (m + 1)) (hlen : len < 17592186044415) {res : List Int × List Int}
    (next : ∀ (qs u : List Int), Lim qs → Lim u → qs.length + (m + 2) = len → u.length = len → V u < V v → Hid (V qs * V v + V u = T) → Ev (fun k => (some (List.replicate (m + 2) 0 : List Int)).bind fun y => nat_long.l1 k qs y r u (y.length : Int) 0) res) :
    ∀ (j : Nat) (qs u : List Int), j + m + 2 ≤ len → Lim qs → Lim u → qs.length + (m + 2) = len → u.length = len → (∀ i, i < j → lb qs i = 0) → V (u.drop j) < V v → Hid (V qs * V v + V u = T) → Ev (fun k => nat_long.l0 k qs r v u ((m + 2 : Nat) : Int) (wrap64 ((j : Int) - 1))) res := by
  intro j
  induction j with
  | zero =>
    intro qs u _ hqs hu hlq hlu _ hlt hT
    rw [List.drop_zero] at hlt
    refine Ev.succ ?_
    conv => enter [1, k]; rw [nat_long.l0, if_neg (by rw [w64 (by omega) (by omega)]; omega), if_pos (by omega), Int.toNat_natCast, if_pos (by omega)]
    exact next qs u hqs hu hlq hlu hlt hT
  | succ j ih =>
    intro qs u hj hqs hu hlq hlu hz hlt hT
    have e0 : wrap64 (((j + 1 : Nat) : Int) - 1) = (j : Int) := wpred (by omega)
    have g0 : (j : Int) ≥ 0 := Int.natCast_nonneg j
    obtain ⟨q, w, hstep, q0, q1, hw, hlw, hV, hlt'⟩ := long_round hu hv hvn (j := j) (by omega) hm hv1 hlt
    replace hV : Hid _ := hV
    have gj : (j : Int) < (qs.length : Int) := by omega
    have hT' : Hid (V (qs.set j q) * V v + V w = T) := by
      have hjq : j < qs.length := by omega
      have h1 := Vi_set hqs hjq q0
      rw [hz j (Nat.lt_succ_self j), Int.sub_zero] at h1
      exact (quo_nat h1 hV).trans hT
    have := ih (qs.set j q) w (by omega) (Lim_set hqs _ q0 q1) hw (by rw [List.length_set, hlq]) (by omega) (fun i hi => by rw [lb_set (by omega), if_neg (by omega)]; exact hz i (by omega)) hlt' hT'
    have e1 : wrap64 (wrap64 ((j : Int) + ((m + 2 : Nat) : Int)) + 1) = ((j + m + 3 : Nat) : Int) := by
      rw [w64 (x := (j : Int) + ((m + 2 : Nat) : Int)) (by omega) (by omega), w64 (by omega) (by omega)]
      omega
    refine Ev.succ ?_
    rw [e0]
    conv => enter [1, k]; rw [nat_long.l0, if_pos g0, e1]
    refine Ev.bind hstep (Ev.pos g0 (Ev.pos gj ?_))
    rw [Int.toNat_natCast]
    exact this
theorem shr_pow {x : Int} {r : Nat} (hr : r < 32) : shr .u64 x (r : Int) = x / ((2 ^ r : Nat) : Int) := by
  unfold shr
  rw [Int.toNat_natCast, Nat.min_eq_left (by show r ≤ 64; omega)]
  congr 1
theorem unshift_limb {u : List Int} (hu : Lim u) {r s i : Nat} (hr : r < 32) (hV : V u = 2 ^ r * s) : (lb u i + lb u (i + 1) * 4294967296) / ((2 ^ r : Nat) : Int) % 4294967296 = ((s / 4294967296 ^ i % 4294967296 : Nat) : Int) := by
  have h1 := Vi_drop_succ hu i
  have h2 := Vi_drop_succ hu (i + 1)
  have hd : V (u.drop i) = V u / 4294967296 ^ i := by
    by_cases hi : i ≤ u.length
    · have e := V_take_drop u i hi
      have hlt := V_lt (Lim_take hu i)
      rw [List.length_take, Nat.min_eq_left hi] at hlt
      rw [e, Nat.add_mul_div_left _ _ (Nat.pow_pos (by omega)), Nat.div_eq_of_lt hlt, Nat.zero_add]
    · have hlt := V_lt hu
      have : 4294967296 ^ u.length ≤ 4294967296 ^ i := Nat.pow_le_pow_right (by decide) (by omega)
      rw [List.drop_of_length_le (by omega), Nat.div_eq_of_lt (by omega), V_nil]
  have hp := Nat.two_pow_pos r
  have e2 : V (u.drop i) / 2 ^ r = s / 4294967296 ^ i := by
    rw [hd, hV, Nat.div_div_eq_div_mul, Nat.mul_comm (4294967296 ^ i), ← Nat.div_div_eq_div_mul, Nat.mul_div_cancel_left _ hp]
  have x0 := lb_nonneg hu i
  have x1 := lb_nonneg hu (i + 1)
  obtain ⟨a, ha⟩ : ∃ a : Nat, lb u i + lb u (i + 1) * 4294967296 = (a : Int) := ⟨(lb u i + lb u (i + 1) * 4294967296).toNat, by omega⟩
  have h3 : V (u.drop i) = a + 18446744073709551616 * V (u.drop (i + 1 + 1)) := by omega
  rw [ha, ← Int.natCast_ediv]
  have e3 : (18446744073709551616 : Nat) = 2 ^ r * (2 ^ (32 - r) * 4294967296) := by
    rw [← Nat.mul_assoc, ← Nat.pow_add, (by omega : r + (32 - r) = 32)]
  rw [← e2, h3, e3, Nat.mul_assoc, Nat.add_mul_div_left _ _ hp, Nat.mul_comm (2 ^ (32 - r)) 4294967296, Nat.mul_assoc, Nat.add_mul_mod_self_left]
  rfl
theorem orB2 {x y : Int} (x0 : 0 ≤ x) (x1 : x < 4294967296) (y0 : 0 ≤ y) (y1 : y < 4294967296) : Go.bits .or .u64 (IntKind.u64.wrap y) (IntKind.u64.wrap (IntKind.u64.wrap x * 4294967296)) = y + x * 4294967296 := by
  have h := orB x0 x1 y0 y1
  rw [wu64 x0 (by omega)]
  rw [wu64 (x := x * 4294967296) (by omega) (by omega), wu64 y0 (by omega)] at h ⊢
  obtain ⟨a, ha⟩ : ∃ a : Nat, y = (a : Int) := ⟨y.toNat, by omega⟩
  obtain ⟨b, hb⟩ : ∃ b : Nat, x * 4294967296 = (b : Int) := ⟨(x * 4294967296).toNat, by omega⟩
  rw [hb, ha] at h ⊢
  rw [Go.bits_or_u64_nat _ _ (by omega) (by omega)] at h ⊢
  rw [Nat.or_comm, h, Int.add_comm]
theorem pLong1_at {u : List Int} (hu : Lim u) {n r s : Nat} (hr : r < 32) (hV : V u = 2 ^ r * s) (hn : n < u.length) (hul : u.length < 17592186044416) (hs : s < 4294967296 ^ n) (qs : List Int) : ∀ (d i : Nat) (o : List Int), d + i = n → Lim o → o.length = n → (∀ j, i ≤ j → lb o j = 0) → V o = s % 4294967296 ^ i →
    ∃ z, Ev (fun k => nat_long.l1 k qs o r u (n : Int) i) (qs, z) ∧ Lim z ∧ z.length = n ∧ V z = s := by
  intro d
  induction d with
  | zero =>
    intro i o hd ho hlo _ hv
    obtain rfl : i = n := by omega
    rw [Nat.mod_eq_of_lt hs] at hv
    refine ⟨o, Ev.succ (Ev.of fun k => ?_), ho, hlo, hv⟩
    rw [nat_long.l1, if_neg (by omega)]
  | succ d ih =>
    intro i o hd ho hlo hz hv
    have x0 := lb_nonneg hu i
    have x1 := lb_lt hu i
    have y0 := lb_nonneg hu (i + 1)
    have y1 := lb_lt hu (i + 1)
    have g0 : (i : Int) < (n : Int) := by omega
    have g1 : (i : Int) < (u.length : Int) := by omega
    have g2 : ((i + 1 : Nat) : Int) < (u.length : Int) := by omega
    have g3 : (i : Int) < (o.length : Int) := by omega
    have g4 : i < o.length := by omega
    have gd : d + (i + 1) = n := by omega
    have e1 : wrap64 ((i : Int) + 1) = ((i + 1 : Nat) : Int) := wsucc (by omega)
    have m0 : 0 ≤ ((s / 4294967296 ^ i % 4294967296 : Nat) : Int) := Int.natCast_nonneg _
    have m1 : ((s / 4294967296 ^ i % 4294967296 : Nat) : Int) < 4294967296 := Int.ofNat_lt.2 (Nat.mod_lt _ (by decide))
    have hv' : V (o.set i ((s / 4294967296 ^ i % 4294967296 : Nat) : Int)) = s % 4294967296 ^ (i + 1) := by
      have h1 := Vi_set ho g4 m0
      rw [hz i (Nat.le_refl _), Int.sub_zero, W_eq, ← Int.natCast_mul, ← Int.natCast_add] at h1
      rw [Int.ofNat.inj h1, hv, Nat.mod_pow_succ]
    obtain ⟨z, h1, h2⟩ := ih (i + 1) _ gd (Lim_set ho i m0 m1) (by rw [List.length_set, hlo]) (fun j hj => by rw [lb_set g4, if_neg (Nat.ne_of_lt hj)]; exact hz j (Nat.le_of_succ_le hj)) hv'
    refine ⟨z, Ev.succ (h1.congr fun k => ?_), h2⟩
    rw [nat_long.l1, if_pos g0, if_pos (Int.natCast_nonneg i), if_pos g1, e1, if_pos (Int.natCast_nonneg _), if_pos g2, if_pos (Int.natCast_nonneg r), if_pos g3, rd_lb, rd_lb, Int.toNat_natCast, orB2 y0 y1 x0 x1, shr_pow hr, unshift_limb hu hr hV]
theorem long_len {b m n t : Nat} (hm : (L b).length = m + 2) (hb0 : b ≠ 0) (htop : bl b = 32 * (m + 1) + bl t) (hn : n + bl t = 32) : (L (2 ^ n * b)).length = m + 2 := by
  have hbW : 4294967296 ^ (m + 1) ≤ b := by have := L_length_pow hb0; rwa [hm] at this
  refine L_length_eq (Nat.le_trans hbW (Nat.le_mul_of_pos_left _ (Nat.two_pow_pos n))) ?_
  rw [Wn_two]
  have h1 : 2 ^ n * b < 2 ^ n * 2 ^ bl b := Nat.mul_lt_mul_of_pos_left (lt_bl b) (Nat.two_pow_pos n)
  rw [← Nat.pow_add] at h1
  exact Nat.lt_of_lt_of_le h1 (Nat.pow_le_pow_right (by decide) (by clear h1 hbW; omega))
theorem long_first {a b m n j : Nat} {sa : List Int} (hm : (L b).length = m + 2) (hb0 : b ≠ 0) (hj : (L a).length = j + (m + 1)) (hl : sa.length = (L a).length + 1) (hs : V sa = 2 ^ n * a) : V (sa.drop j) < 2 ^ n * b := by
  have hbW : 4294967296 ^ (m + 1) ≤ b := by have := L_length_pow hb0; rwa [hm] at this
  have hVa := V_lt (Lim_L a)
  rw [V_L, hj, Nat.pow_add] at hVa
  have e := V_take_drop sa j (by clear hVa hs hbW; omega)
  have h2 : 2 ^ n * a < 2 ^ n * (4294967296 ^ j * 4294967296 ^ (m + 1)) := Nat.mul_lt_mul_of_pos_left hVa (Nat.two_pow_pos n)
  have h3 : 4294967296 ^ j * V (sa.drop j) < 4294967296 ^ j * (2 ^ n * 4294967296 ^ (m + 1)) := by
    have e2 : 4294967296 ^ j * (2 ^ n * 4294967296 ^ (m + 1)) = 2 ^ n * (4294967296 ^ j * 4294967296 ^ (m + 1)) := Nat.mul_left_comm _ _ _
    rw [e2]
    refine Nat.lt_of_le_of_lt ?_ h2
    rw [← hs, e]
    exact Nat.le_add_left _ _
  exact Nat.lt_of_lt_of_le (Nat.lt_of_mul_lt_mul_left h3) (Nat.mul_le_mul_left _ hbW)
theorem pLong {a b : Nat} (hb : 1 < (L b).length) (hab : b ≤ a) (hla : (L a).length < 4294967296) : ∃ q r, Ev (fun k => nat_long.f k (L a) (L b)) (q, r) ∧ Lim q ∧ Lim r ∧ V q = a / b ∧ V r = a % b ∧ q.length ≤ (L a).length ∧ r.length ≤ (L a).length := by
  obtain ⟨m, hm⟩ : ∃ m, (L b).length = m + 2 := ⟨(L b).length - 2, by omega⟩
  have hba := L_length_mono hab
  have hb0 : b ≠ 0 := fun h => by rw [h, L_zero] at hb; simp at hb
  have t0 := lb_nonneg (Lim_L b) (m + 1)
  have t1 := lb_lt (Lim_L b) (m + 1)
  have t2 := lb_top hm
  obtain ⟨t, ht⟩ : ∃ t : Nat, lb (L b) (m + 1) = (t : Int) := ⟨(lb (L b) (m + 1)).toNat, by omega⟩
  have ht0 : t ≠ 0 := by omega
  have ht1 : t < 4294967296 := by omega
  have htop := bl_top (Lim_L b) hm ht ht0
  rw [V_L] at htop
  have hbt : bl t ≤ 32 := bl_le_of_lt ht1
  have hbt0 : bl t ≠ 0 := fun h => ht0 (bl_eq_zero.1 h)
  have hlead := pLead ht1
  obtain ⟨n, hn⟩ : ∃ n, n + bl t = 32 := ⟨32 - bl t, by omega⟩
  have hn1 : 32 - bl t = n := by omega
  have hn2 : n < 32 := by omega
  rw [hn1] at hlead
  obtain ⟨sb, sb1, sb2, sb3, sb4⟩ := pShift (Lim_L b) hn2 (by omega)
  obtain ⟨sa, sa1, sa2, sa3, sa4⟩ := pShift (Lim_L a) hn2 (by omega)
  rw [V_L] at sb4 sa4
  have hshort := pShorto sb2 (by omega)
  rw [sb4] at hshort
  have hvlen := long_len hm hb0 htop hn
  have hv1 : 0 < lb (L (2 ^ n * b)) (m + 1) := Int.lt_iff_le_and_ne.2 ⟨lb_nonneg (Lim_L _) _, Ne.symm (lb_top hvlen)⟩
  obtain ⟨j, hj⟩ : ∃ j, (L a).length = j + (m + 1) := ⟨(L a).length - (m + 1), by omega⟩
  have hfirst := long_first hm hb0 hj sa3 sa4
  have hV0 : 0 < b := by omega
  have hblt : b < 4294967296 ^ (m + 2) := by
    have := V_lt (Lim_L b)
    rwa [V_L, hm] at this
  have hmod : a % b < 4294967296 ^ (m + 2) := Nat.lt_trans (Nat.mod_lt _ hV0) hblt
  have hlen1 : (L (a % b)).length ≤ m + 2 := L_length_le hmod
  have hm' : m < 17592186044413 := by omega
  have hlen' : j + m + 2 < 17592186044415 := by omega
  have hsal : sa.length = j + m + 2 := by omega
  have gm : m + 2 < j + m + 2 + 1 := by omega
  have gj : j + (m + 2) = j + m + 2 := by omega
  have gl : j ≤ (L a).length ∧ m + 2 ≤ (L a).length := by omega
  have g0 : (0 : Int) ≤ ((j : Nat) : Int) := Int.natCast_nonneg j
  have g1 : j ≤ 70368744177664 := by omega
  have g2 : ((m + 1 : Nat) : Int) < ((L b).length : Int) := by omega
  have g3 : m + 2 ≤ 70368744177664 := by omega
  have g5 : j + m + 2 < 17592186044416 := by omega
  have g6 : j + (m + 2) = sa.length := by omega
  have g7 : m + 2 < j + m + 2 := by omega
  have w1 : wrap64 (((m + 2 : Nat) : Int) - 1) = ((m + 1 : Nat) : Int) := wpred (by omega)
  have w2 : wrap64 (((j + m + 2 : Nat) : Int) - ((m + 2 : Nat) : Int)) = (j : Int) := by rw [w64 (by omega) (by omega)]; omega
  have hqlen : (L (a / b)).length ≤ j := by
    refine L_length_le ?_
    refine (Nat.div_lt_iff_lt_mul hV0).2 ?_
    have hVa := V_lt (Lim_L a)
    rw [V_L, hj, Nat.pow_add] at hVa
    have hbW : 4294967296 ^ (m + 1) ≤ b := by have := L_length_pow hb0; rwa [hm] at this
    exact Nat.lt_of_lt_of_le hVa (Nat.mul_le_mul_left _ hbW)
  refine ⟨Pad j (a / b), Pad (m + 2) (a % b), ?_, Lim_Pad _ _, Lim_Pad _ _, V_Pad _ _, V_Pad _ _, ?_, ?_⟩
  · have hlong := pLong0_at (Lim_L (2 ^ n * b)) (m := m) (len := j + m + 2) (r := n) (T := 2 ^ n * a) (res := (Pad j (a / b), Pad (m + 2) (a % b))) hvlen hm' hv1 hlen' (fun qs u hqs hu hlq hlu hlt hT => ?_) j (List.replicate j 0) sa (Nat.le_refl _) (Lim_replicate _) sa2 (by rw [List.length_replicate, gj]) hsal (fun i _ => lb_replicate _ i) (by rw [V_L]; exact hfirst) (by show _ = _; rw [V_replicate, Nat.zero_mul, Nat.zero_add, sa4])
    · unfold nat_long.f
      rw [hm, w1]
      refine Ev.pos (Int.natCast_nonneg _) (Ev.pos (by rw [← hm]; exact g2) ?_)
      rw [rd_lb, ht]
      refine Ev.bind hlead (Ev.bind sb1 (Ev.bind hshort (Ev.bind sa1 ?_)))
      rw [hsal, hvlen, w2, Int.toNat_natCast]
      exact Ev.pos g0 (Ev.pos g1 hlong)
    · have hp := Nat.two_pow_pos n
      have hT : V qs * V (L (2 ^ n * b)) + V u = 2 ^ n * a := hT
      rw [V_L] at hT hlt
      have hpb : 0 < 2 ^ n * b := Nat.mul_pos hp hV0
      have hd : V qs = a / b := by
        rw [← Nat.mul_div_mul_left a b hp, ← hT, Nat.mul_comm (V qs), Nat.mul_add_div hpb, Nat.div_eq_of_lt hlt, Nat.add_zero]
      have hr : V u = 2 ^ n * (a % b) := by
        rw [← Nat.mul_mod_mul_left, ← hT, Nat.mul_comm (V qs), Nat.mul_add_mod, Nat.mod_eq_of_lt hlt]
      obtain ⟨z, hz1, hz2, hz3, hz4⟩ := pLong1_at hu hn2 hr (n := m + 2) (by rw [hlu]; exact g7) (by rw [hlu]; exact g5) hmod qs (m + 2) 0 (List.replicate (m + 2) 0) rfl (Lim_replicate _) (List.length_replicate ..) (fun i _ => lb_replicate _ i) (by rw [V_replicate, Nat.pow_zero, Nat.mod_one])
      rw [← eq_Pad hz2 hz3 hz4, ← eq_Pad hqs (Nat.add_right_cancel (hlq.trans gj.symm)) hd]
      refine Ev.bind (Ev.const _) ?_
      rw [List.length_replicate]
      exact hz1
  · rw [Pad_length hqlen]; exact gl.1
  · rw [Pad_length hlen1]; exact gl.2
end Go.Proofs.Ythheakfgmombdaa.Num
end
section
namespace Go.Proofs.Ythheakfgmombdaa.Num
set_option linter.unusedVariables false
open Go.RowKit Go.Proofs.YthheakfgmombdaaX.PrintWords Go.Proofs.YthheakfgmombdaaX.PrintMore Go.Proofs.Ythheakfgmombdaa.F
theorem cmp_neg {a b : Nat} : cmp a b < 0 ↔ a < b := by
  unfold cmp
  split
  · constructor <;> intro h <;> omega
  · split <;> constructor <;> intro h <;> omega
theorem L_one_digit {b : Nat} (h : (L b).length = 1) : lb (L b) 0 = (b : Int) ∧ b < 4294967296 := by
  have h1 := V_lt (Lim_L b)
  rw [V_L, h, Nat.pow_one] at h1
  have h0 : b ≠ 0 := fun e => by rw [e, L_zero] at h; simp at h
  refine ⟨?_, h1⟩
  rw [L_pos h0]
  show ((b % 4294967296 : Nat) : Int) = b
  rw [Nat.mod_eq_of_lt h1]
theorem pDivMod {a b : List Int} (ha : Lim a) (hb : Lim b) (hb0 : V b ≠ 0) (hla : a.length < 4294967296) (hlb : b.length < 4294967296) : Ev (fun k => nat_DivMod.f k a b) (L (V a / V b), L (V a % V b), 0) := by
  have la := L_length_V ha
  have lbb := L_length_V hb
  have ga : a.length < 17592186044416 := by omega
  have gb : b.length < 17592186044416 := by omega
  have gla : (L (V a)).length < 17592186044415 := by omega
  have glb : (L (V b)).length < 17592186044415 := by omega
  have hl0 : (L (V b)).length ≠ 0 := fun h => hb0 (L_eq_nil.1 (List.eq_nil_of_length_eq_zero h))
  have hc := pCmp (Lim_L (V a)) (Lim_L (V b)) gla glb
  rw [V_L, V_L] at hc
  unfold nat_DivMod.f
  refine Ev.bind (pShort ha ga) (Ev.bind (pShort hb gb) (Ev.neg (by omega) (Ev.bind hc (Ev.ite (fun h => ?_) fun h => Ev.ite (fun h1 => ?_) fun h1 => ?_))))
  · have hlt := cmp_neg.1 h
    have ht := pTrim (Lim_L (V a)) (Nat.lt_succ_of_lt gla)
    rw [V_L] at ht
    rw [Nat.div_eq_of_lt hlt, Nat.mod_eq_of_lt hlt, L_zero]
    exact Ev.bind ht (Ev.const _)
  · have h1' : (L (V b)).length = 1 := by omega
    obtain ⟨d0, d1⟩ := L_one_digit h1'
    have hd := pDigit (Lim_L (V a)) (b := lb (L (V b)) 0) (by rw [d0]; omega) (by rw [d0]; omega) gla
    rw [d0, Int.toNat_natCast, V_L] at hd
    have hm : V a % V b < V b := Nat.mod_lt _ (by omega)
    refine Ev.pos (by omega) ?_
    rw [show rd (L (V b)) 0 = lb (L (V b)) 0 from rd_lb _ 0, d0]
    refine Ev.bind hd ?_
    have w : IntKind.u64.wrap ((V a % V b : Nat) : Int) = ((V a % V b : Nat) : Int) := wu64 (Int.natCast_nonneg _) (by omega)
    have ho := pOf (x := ((V a % V b : Nat) : Int)) (Int.natCast_nonneg _) (by omega)
    rw [Int.toNat_natCast] at ho
    show Ev (fun k => (nat_Of.f k (IntKind.u64.wrap ((V a % V b : Nat) : Int))).bind fun t237 => some (L (V a / V b), t237, 0)) _
    rw [w]
    exact Ev.bind ho (Ev.const _)
  · have hge : V b ≤ V a := by
      have := mt cmp_neg.2 h
      omega
    obtain ⟨q, r, e, lq, lr, vq, vr, q1, r1⟩ := pLong (a := V a) (b := V b) (by omega) hge (by omega)
    have gq : q.length < 17592186044416 := by omega
    have gr : r.length < 17592186044416 := by omega
    exact Ev.bind e (Ev.bind (pTrim_of lq gq vq) (Ev.bind (pTrim_of lr gr vr) (Ev.const _)))
theorem pGcd_at : ∀ (n a b : Nat), b = n → (L a).length < 4294967296 → (L b).length < 4294967296 → Ev (fun k => nat_Gcd.l0 k (L a) (L b)) (L (Nat.gcd a b)) := by
  intro n
  induction n using Nat.strongRecOn with
  | ind n ih =>
    intro a b hb hla hlb
    refine Ev.succ ?_
    conv => enter [1, k]; rw [nat_Gcd.l0]
    refine Ev.ite (fun h => ?_) fun h => ?_
    · have hb0 : b ≠ 0 := fun e => by rw [e, L_zero] at h; simp at h
      have hd := pDivMod (Lim_L a) (Lim_L b) (by rw [V_L]; exact hb0) hla hlb
      rw [V_L, V_L] at hd
      have hm : a % b < b := Nat.mod_lt _ (by omega)
      refine Ev.bind hd ?_
      have := ih (a % b) (by omega) b (a % b) rfl hlb (Nat.lt_of_le_of_lt (L_length_mono (Nat.le_of_lt hm)) hlb)
      rw [Nat.gcd_comm, ← Nat.gcd_rec, Nat.gcd_comm] at this
      exact this
    · have hb0 : b = 0 := by
        have : (L b).length = 0 := by omega
        exact L_eq_nil.1 (List.eq_nil_of_length_eq_zero this)
      rw [hb0, Nat.gcd_zero_right]
      exact Ev.bind (pTrim_of (Lim_L a) (by omega) (V_L a)) (Ev.const _)
theorem pGcd {a b : List Int} (ha : Lim a) (hb : Lim b) (hla : a.length < 4294967296) (hlb : b.length < 4294967296) : Ev (fun k => nat_Gcd.f k a b) (L (Nat.gcd (V a) (V b))) := by
  have la := L_length_V ha
  have lbb := L_length_V hb
  unfold nat_Gcd.f
  exact Ev.bind (pShort ha (by omega)) (Ev.bind (pShort hb (by omega)) (pGcd_at _ _ _ rfl (by omega) (by omega)))
end Go.Proofs.Ythheakfgmombdaa.Num
end
section
namespace Go.Proofs.Ythheakfgmombdaa.Num
set_option linter.unusedVariables false
open Go.RowKit Go.Proofs.YthheakfgmombdaaX.PrintWords Go.Proofs.YthheakfgmombdaaX.PrintMore Go.Proofs.Ythheakfgmombdaa.F
def sg : Bool → Int
  | true => -1
  | false => 1
theorem sg_natAbs (s : Bool) (p : Nat) : (sg s * (p : Int)).natAbs = p := by cases s <;> simp [sg]
theorem mk_num (s : Bool) (p : Nat) {d : Nat} (hd : d ≠ 0) : (mkRat (sg s * (p : Int)) d).num = sg s * ((p / Nat.gcd p d : Nat) : Int) := by
  rw [Rat.num_mkRat, if_neg hd, sg_natAbs, Nat.gcd_comm, Int.natCast_ediv]
  cases s
  · simp [sg]
  · show (-1 * (p : Int)) / _ = -1 * _
    rw [Int.neg_one_mul, Int.neg_one_mul, Int.neg_ediv_of_dvd (Int.natCast_dvd_natCast.2 (Nat.gcd_dvd_left p d))]
theorem mk_den (s : Bool) (p : Nat) {d : Nat} (hd : d ≠ 0) : (mkRat (sg s * (p : Int)) d).den = d / Nat.gcd p d := by
  rw [Rat.den_mkRat, if_neg hd, sg_natAbs, Nat.gcd_comm]
theorem mk_sign (s : Bool) {p d : Nat} (hp : p ≠ 0) (hd : d ≠ 0) : decide ((mkRat (sg s * (p : Int)) d).num < 0) = s := by
  rw [mk_num s p hd]
  have h : 0 < p / Nat.gcd p d := Nat.div_pos (Nat.le_of_dvd (Nat.pos_of_ne_zero hp) (Nat.gcd_dvd_left p d)) (Nat.gcd_pos_of_pos_left d (Nat.pos_of_ne_zero hp))
  cases s <;> simp [sg] <;> omega
def Sz (q : Rat) (k : Nat) : Prop := q.num.natAbs < 2 ^ k ∧ q.den < 2 ^ k
theorem Sz.mono {q : Rat} {k l : Nat} (h : Sz q k) (hl : k ≤ l) : Sz q l := ⟨Nat.lt_of_lt_of_le h.1 (Nat.pow_le_pow_right (by decide) hl), Nat.lt_of_lt_of_le h.2 (Nat.pow_le_pow_right (by decide) hl)⟩
def T (q : Rat) : Bool × List Int × List Int := (decide (q.num < 0), L q.num.natAbs, L q.den)
def C (q : Rat) : S46 := ⟨decide (q.num < 0), L q.num.natAbs, L q.den⟩
def vq (s : Bool) (x y : List Int) : Rat := mkRat (sg s * (V x : Int)) (V y)
def val (a : S46) : Rat := vq a.f0 a.f1 a.f2
theorem L_one : L 1 = [1] := by
  rw [L_pos (by decide)]
  show _ :: L 0 = _
  rw [L_zero]; rfl
theorem T_zero : T 0 = (false, [], [1]) := by
  show (decide ((0 : Int) < 0), L 0, L 1) = _
  rw [L_one, L_zero]; rfl
theorem T_mk (s : Bool) {p d : Nat} (hp : p ≠ 0) (hd : d ≠ 0) : T (mkRat (sg s * (p : Int)) d) = (s, L (p / Nat.gcd p d), L (d / Nat.gcd p d)) := by
  unfold T
  rw [mk_sign s hp hd, mk_num s p hd, mk_den s p hd, sg_natAbs]
theorem vq_zero_num (s : Bool) {x : List Int} (y : List Int) (h : V x = 0) : vq s x y = 0 := by
  unfold vq; rw [h, Int.natCast_zero, Int.mul_zero, Rat.zero_mkRat]
theorem vq_zero_den (s : Bool) (x : List Int) {y : List Int} (h : V y = 0) : vq s x y = 0 := by
  unfold vq; rw [h, Rat.mkRat_zero]
theorem lenL {n k : Nat} (h : n < 2 ^ k) : (L n).length ≤ k := by
  refine L_length_le (Nat.lt_of_lt_of_le h ?_)
  rw [Wn_two]
  exact Nat.pow_le_pow_right (by decide) (by omega)
theorem gcd_len {x : List Int} (hx : Lim x) (h : V x ≠ 0) (d : Nat) : (L (Nat.gcd (V x) d)).length ≤ x.length := Nat.le_trans (L_length_mono (Nat.le_of_dvd (Nat.pos_of_ne_zero h) (Nat.gcd_dvd_left _ _))) (L_length_V hx)
theorem pCan {x y : List Int} (s : Bool) (hx : Lim x) (hy : Lim y) (lx : x.length < 4294967296) (ly : y.length < 4294967296) : Ev (fun k => rational_canonical.f k s x y) (T (vq s x y)) := by
  have gx : x.length < 17592186044416 := by omega
  have gy : y.length < 17592186044416 := by omega
  have jt : vq s x y = 0 → Ev (fun k => rational_canonical.j0 k s x y true) (T (vq s x y)) := fun h => by
    rw [h, T_zero]
    refine Ev.succ (Ev.of fun k => ?_)
    rw [rational_canonical.j0, if_pos rfl]; rfl
  unfold rational_canonical.f
  refine Ev.bind (pBits hx gx) (Ev.ite (fun h => ?_) fun h => Ev.bind (pBits hy gy) ?_)
  · exact jt (vq_zero_num s y (bl_eq_zero.1 (by omega)))
  · have hx0 : V x ≠ 0 := fun e => h (by rw [bl_eq_zero.2 e]; rfl)
    by_cases h2 : V y = 0
    · have e : ((((bl (V y) : Nat) : Int)) == 0) = true := by rw [bl_eq_zero.2 h2]; rfl
      rw [e]
      exact jt (vq_zero_den s x h2)
    · have e : ((((bl (V y) : Nat) : Int)) == 0) = false := by
        have := mt bl_eq_zero.1 h2
        exact beq_eq_false_iff_ne.2 (by omega)
      rw [e]
      refine Ev.succ ?_
      conv => enter [1, k]; rw [rational_canonical.j0, if_neg (by decide)]
      have hg : Nat.gcd (V x) (V y) ≠ 0 := fun e => hx0 (Nat.eq_zero_of_gcd_eq_zero_left e)
      have lg := gcd_len hx hx0 (V y)
      have gg : (L (Nat.gcd (V x) (V y))).length < 4294967296 := by omega
      have d1 := pDivMod hx (Lim_L (Nat.gcd (V x) (V y))) (by rw [V_L]; exact hg) lx gg
      have d2 := pDivMod hy (Lim_L (Nat.gcd (V x) (V y))) (by rw [V_L]; exact hg) ly gg
      rw [V_L] at d1 d2
      refine Ev.bind (pGcd hx hy lx ly) (Ev.bind d1 (Ev.bind d2 ?_))
      unfold vq
      rw [T_mk s hx0 h2]
      exact Ev.const _
theorem rMake {x y : List Int} (s : Bool) (hx : Lim x) (hy : Lim y) (lx : x.length < 4294967296) (ly : y.length < 4294967296) : Ev (fun k => codewrightref02_Make.f k s x y) (T (vq s x y)) := by
  have gx : x.length < 17592186044416 := by omega
  have gy : y.length < 17592186044416 := by omega
  have jt : vq s x y = 0 → Ev (fun k => codewrightref02_Make.j0 k s x y true) (T (vq s x y)) := fun h => by
    rw [h, T_zero]
    refine Ev.succ (Ev.of fun k => ?_)
    rw [codewrightref02_Make.j0, if_pos rfl]
  unfold codewrightref02_Make.f
  refine Ev.bind (rZero hx gx) (Ev.ite (fun h => ?_) fun h => Ev.bind (rZero hy gy) ?_)
  · exact jt (vq_zero_num s y (beq_iff_eq.1 h))
  · have hx0 : V x ≠ 0 := fun e => h (beq_iff_eq.2 e)
    by_cases h2 : V y = 0
    · rw [beq_iff_eq.2 h2]
      exact jt (vq_zero_den s x h2)
    · rw [beq_eq_false_iff_ne.2 h2]
      refine Ev.succ ?_
      conv => enter [1, k]; rw [codewrightref02_Make.j0, if_neg (by decide)]
      have hg : Nat.gcd (V x) (V y) ≠ 0 := fun e => hx0 (Nat.eq_zero_of_gcd_eq_zero_left e)
      have lg := gcd_len hx hx0 (V y)
      have gg : (L (Nat.gcd (V x) (V y))).length < 4294967296 := by omega
      have d1 := rDivMod hx (Lim_L (Nat.gcd (V x) (V y))) (by rw [V_L]; exact hg) lx gg
      have d2 := rDivMod hy (Lim_L (Nat.gcd (V x) (V y))) (by rw [V_L]; exact hg) ly gg
      rw [V_L] at d1 d2
      refine Ev.bind (rGcd hx hy lx ly) (Ev.bind d1 (Ev.bind d2 ?_))
      unfold vq
      rw [T_mk s hx0 h2]
      exact Ev.const _
theorem pCanL (s : Bool) {n d : Nat} (ln : (L n).length < 4294967296) (ld : (L d).length < 4294967296) : Ev (fun k => rational_canonical.f k s (L n) (L d)) (T (mkRat (sg s * (n : Int)) d)) := by
  have := pCan s (Lim_L n) (Lim_L d) ln ld
  unfold vq at this
  rwa [V_L, V_L] at this
theorem rMakeL (s : Bool) {n d : Nat} (ln : (L n).length < 4294967296) (ld : (L d).length < 4294967296) : Ev (fun k => codewrightref02_Make.f k s (L n) (L d)) (T (mkRat (sg s * (n : Int)) d)) := by
  have := rMake s (Lim_L n) (Lim_L d) ln ld
  unfold vq at this
  rwa [V_L, V_L] at this
def Ok (n : Nat) (s : Bool) (x y : List Int) : Prop := (Lim x ∧ Lim y) ∧ x.length ≤ n ∧ y.length ≤ n
theorem Ok.mono {n m : Nat} {s : Bool} {x y : List Int} (h : Ok n s x y) (hm : n ≤ m) : Ok m s x y := ⟨h.1, Nat.le_trans h.2.1 hm, Nat.le_trans h.2.2 hm⟩
end Go.Proofs.Ythheakfgmombdaa.Num
end
section
namespace Go.Proofs.Ythheakfgmombdaa.Num
set_option linter.unusedVariables false
open Go.RowKit Go.Proofs.YthheakfgmombdaaX.PrintWords Go.Proofs.YthheakfgmombdaaX.PrintMore Go.Proofs.Ythheakfgmombdaa.F
theorem pOfR {a b : Nat} (ha : a < 4611686018427387904) (hb : b < 4611686018427387904) (hb0 : b ≠ 0) : Ev (fun k => rational_Of.f k (a : Int) (b : Int)) ((T (mkRat (a : Int) b)).1, (T (mkRat (a : Int) b)).2.1, (T (mkRat (a : Int) b)).2.2, 0) := by
  have sz : ∀ c : Nat, c < 4611686018427387904 → Ev (fun k => rational_size.f k (c : Int)) (L c) := fun c hc => by
    unfold rational_size.f
    rw [wu64 (Int.natCast_nonneg c) (by omega)]
    have := pOf (x := (c : Int)) (Int.natCast_nonneg c) (by omega)
    rw [Int.toNat_natCast] at this
    exact Ev.neg (by omega) (Ev.bind this (Ev.const _))
  have lc : ∀ c : Nat, c < 4611686018427387904 → (L c).length < 4294967296 := fun c hc => by
    have := lenL (n := c) (k := 62) hc
    omega
  have hc := pCanL false (lc a ha) (lc b hb)
  have e : sg false * (a : Int) = a := Int.one_mul _
  rw [e] at hc
  unfold rational_Of.f
  refine Ev.neg (by omega) (Ev.bind (sz a ha) (Ev.bind (sz b hb) ?_))
  rw [decide_eq_false (show ¬ (a : Int) < 0 by omega), decide_eq_false (show ¬ (b : Int) < 0 by omega)]
  exact Ev.bind hc (Ev.const _)
theorem mkRat_one (a : Int) : mkRat a 1 = (a : Rat) := by
  rw [Rat.mkRat_eq_div]; grind
theorem Sz_nat {a k : Nat} (h : a < 2 ^ k) (hk : 1 ≤ k) : Sz (a : Rat) k := by
  refine ⟨?_, ?_⟩
  · rw [Rat.num_natCast, Int.natAbs_natCast]; exact h
  · rw [Rat.den_natCast]
    have : 2 ^ 1 ≤ 2 ^ k := Nat.pow_le_pow_right (by decide) hk
    omega
end Go.Proofs.Ythheakfgmombdaa.Num
end
section
namespace Go.Proofs.Ythheakfgmombdaa.Num
set_option linter.unusedVariables false
open Go.RowKit Go.Proofs.YthheakfgmombdaaX.PrintWords Go.Proofs.YthheakfgmombdaaX.PrintMore Go.Proofs.Ythheakfgmombdaa.F
theorem rd46 {l : List S46} {i : Nat} (h : i < l.length) : rd_T46 l (i : Int) = l[i] := by
  unfold rd_T46
  rw [Int.toNat_natCast, List.getD_eq_getElem?_getD, List.getElem?_eq_getElem h]
  rfl
theorem rSame_at (l : List Int) (hl : l.length < 4611686018427387904) : ∀ (d i : Nat), d + i = l.length → Ev (fun k => codewrightref01_Same.l0 k l l (i : Int)) true := by
  intro d
  induction d with
  | zero =>
    intro i hd
    refine Ev.succ (Ev.of fun k => ?_)
    rw [codewrightref01_Same.l0, if_neg (by omega)]
  | succ d ih =>
    intro i hd
    have e := ih (i + 1) (by omega)
    refine Ev.succ (e.congr fun k => ?_)
    rw [codewrightref01_Same.l0, if_pos (by omega), if_pos (Int.natCast_nonneg i), if_pos (by omega), if_pos rfl, wsucc (by omega)]
theorem rSame01 (l : List Int) (hl : l.length < 4611686018427387904) : Ev (fun k => codewrightref01_Same.f k l l) true := by
  unfold codewrightref01_Same.f
  exact Ev.pos rfl (rSame_at l hl l.length 0 (by omega))
theorem rSame02 (a : S46) (h1 : a.f1.length < 4611686018427387904) (h2 : a.f2.length < 4611686018427387904) : Ev (fun k => codewrightref02_Same.f k a.f0 a.f1 a.f2 a.f0 a.f1 a.f2) true := by
  unfold codewrightref02_Same.f
  refine Ev.pos (by simp) (Ev.bind (rSame01 _ h1) (Ev.pos rfl (Ev.bind (rSame01 _ h2) (Ev.const _))))
end Go.Proofs.Ythheakfgmombdaa.Num
end
section
namespace Go.Proofs.Ythheakfgmombdaa.Kraw
set_option linter.unusedVariables false
def S {α : Type} (l : List α) (f : α → Int) : Int := (l.map f).sum
theorem S_nil {α : Type} (f : α → Int) : S [] f = 0 := rfl
theorem S_cons {α : Type} (x : α) (l : List α) (f : α → Int) : S (x :: l) f = f x + S l f := by simp [S]
theorem S_congr {α : Type} {l : List α} {f g : α → Int} (h : ∀ x ∈ l, f x = g x) : S l f = S l g := by
  induction l with
  | nil => rfl
  | cons x l ih => rw [S_cons, S_cons, h x List.mem_cons_self, ih fun y hy => h y (List.mem_cons_of_mem _ hy)]
theorem S_zero {α : Type} (l : List α) : S l (fun _ => 0) = 0 := by
  induction l with
  | nil => rfl
  | cons x l ih => rw [S_cons, ih]; rfl
theorem S_add {α : Type} (l : List α) (f g : α → Int) : S l (fun x => f x + g x) = S l f + S l g := by
  induction l with
  | nil => rfl
  | cons x l ih => rw [S_cons, S_cons, S_cons, ih]; omega
theorem S_mul {α : Type} (l : List α) (c : Int) (f : α → Int) : S l (fun x => c * f x) = c * S l f := by
  induction l with
  | nil => simp [S_nil]
  | cons x l ih => rw [S_cons, S_cons, ih, Int.mul_add]
theorem S_swap {α β : Type} (l : List α) (m : List β) (f : α → β → Int) : S l (fun x => S m (fun y => f x y)) = S m (fun y => S l (fun x => f x y)) := by
  induction l with
  | nil => rw [S_nil]; exact (S_zero m).symm
  | cons x l ih => rw [S_cons, ih, ← S_add]; exact S_congr fun y _ => (S_cons x l fun x => f x y).symm
theorem S_map {α β : Type} (l : List α) (g : α → β) (f : β → Int) : S (l.map g) f = S l (fun x => f (g x)) := by
  unfold S; rw [List.map_map]; rfl
theorem S_append {α : Type} (l m : List α) (f : α → Int) : S (l ++ m) f = S l f + S m f := by
  unfold S; rw [List.map_append, List.sum_append]
theorem S_const {α : Type} (l : List α) (c : Int) : S l (fun _ => c) = l.length * c := by
  induction l with
  | nil => simp [S_nil]
  | cons x l ih => rw [S_cons, ih, List.length_cons]; grind
def one (p : Prop) [Decidable p] : Int := if p then 1 else 0
theorem one_pos {p : Prop} [Decidable p] (h : p) : one p = 1 := if_pos h
theorem one_neg {p : Prop} [Decidable p] (h : ¬ p) : one p = 0 := if_neg h
theorem S_one (q : Nat) {a : Int} (h0 : 0 ≤ a) (h1 : a < q) : S (List.range q) (fun i => one ((i : Int) = a)) = 1 := by
  induction q with
  | zero => omega
  | succ q ih =>
    rw [List.range_succ, S_append, S_cons, S_nil]
    by_cases h : a = q
    · subst h
      rw [one_pos rfl, S_congr (g := fun _ => 0), S_zero]
      · rfl
      · intro x hx
        have := List.mem_range.1 hx
        exact one_neg (by omega)
    · rw [ih (by omega), one_neg (by omega)]; rfl
def kr (q : Int) : Nat → Nat → Nat → Int
  | 0, 0, 0 => 1
  | 0, 0, _ + 1 => 0
  | 0, x + 1, 0 => 1
  | 0, x + 1, k + 1 => kr q 0 x (k + 1) - kr q 0 x k
  | m + 1, x, 0 => 1
  | m + 1, x, k + 1 => kr q m x (k + 1) + (q - 1) * kr q m x k
def hd : List Int → List Int → Nat
  | a :: u, b :: v => hd u v + (if a = b then 0 else 1)
  | _, _ => 0
theorem hd_le : ∀ (u v : List Int), hd u v ≤ u.length
  | [], _ => Nat.le_refl _
  | a :: u, [] => Nat.zero_le _
  | a :: u, b :: v => by
    have := hd_le u v
    rw [hd, List.length_cons]
    split <;> omega
def cs (f g : Nat → Int) (k : Nat) : Nat → Int
  | 0 => 0
  | n + 1 => cs f g k n + f n * g (k - n)
end Go.Proofs.Ythheakfgmombdaa.Kraw
end
section
namespace Go.Proofs.Ythheakfgmombdaa.Num
set_option linter.unusedVariables false
open Go.RowKit Go.Proofs.YthheakfgmombdaaX.PrintWords Go.Proofs.YthheakfgmombdaaX.PrintMore Go.Proofs.Ythheakfgmombdaa.F Go.Proofs.Ythheakfgmombdaa.Kraw
theorem rdLI {l : List (List Int)} {i : Nat} (h : i < l.length) : rd_LI l (i : Int) = l[i] := by
  unfold rd_LI
  rw [Int.toNat_natCast, List.getD_eq_getElem?_getD, List.getElem?_eq_getElem h]
  rfl
theorem rdI {l : List Int} {i : Nat} (h : i < l.length) : rd l (i : Int) = l[i] := rd_eq l i h
def sym (q : Int) (w : List Int) : Bool := w.all fun x => decide (0 ≤ x) && decide (x < q)
theorem sym_cons (q x : Int) (w : List Int) : sym q (x :: w) = ((decide (0 ≤ x) && decide (x < q)) && sym q w) := rfl
def scan (q : Int) (n : Nat) : List (List Int) → Int
  | [] => 0
  | w :: r => if w.length = n then (if sym q w = true then scan q n r else 2) else 3
def wchk (q : Int) (ws : List (List Int)) : Int := if 2 ≤ q ∧ q ≤ 256 then (match ws with | [] => 11 | w :: _ => if 1 ≤ w.length ∧ w.length ≤ 64 then scan q w.length ws else 4) else 6
theorem rdLI0 {w : List Int} {r : List (List Int)} : rd_LI (w :: r) 0 = w := rfl
section
variable {q : Int} {n : Nat} {ws : List (List Int)}
def bump (c : List Int) (d : Nat) : List Int := c.set d (lb c d + 1)
def Cnt (n m : Nat) (c : List Int) : Prop := c.length = n + 1 ∧ ∀ j, 0 ≤ lb c j ∧ lb c j ≤ m
theorem Cnt_bump {m d : Nat} {c : List Int} (h : Cnt n m c) (hd : d ≤ n) : Cnt n (m + 1) (bump c d) := by
  have hl : d < c.length := by rw [h.1]; omega
  refine ⟨by unfold bump; rw [List.length_set]; exact h.1, fun j => ?_⟩
  unfold bump
  rw [lb_set hl]
  have h1 := h.2 j
  have h2 := h.2 d
  split <;> omega
theorem Cnt_zero (n : Nat) : Cnt n 0 (List.replicate (n + 1) 0) := ⟨List.length_replicate .., fun j => by rw [lb_replicate]; omega⟩
def inner (u : List Int) (ws : List (List Int)) (c : List Int) : List Int := ws.foldl (fun c v => bump c (hd u v)) c
def outer (us ws : List (List Int)) (c : List Int) : List Int := us.foldl (fun c u => inner u ws c) c
theorem inner_cons (u v : List Int) (ws : List (List Int)) (c : List Int) : inner u (v :: ws) c = inner u ws (bump c (hd u v)) := rfl
theorem outer_cons (u : List Int) (us ws : List (List Int)) (c : List Int) : outer (u :: us) ws c = outer us ws (inner u ws c) := rfl
theorem Cnt_inner {u : List Int} (hu : u.length = n) : ∀ {ws : List (List Int)} {m : Nat} {c : List Int}, Cnt n m c → Cnt n (m + ws.length) (inner u ws c)
  | [], _, _, h => h
  | v :: ws, m, c, h => by
    rw [inner_cons, List.length_cons]
    have := Cnt_inner hu (ws := ws) (Cnt_bump h (d := hd u v) (by rw [← hu]; exact hd_le u v))
    rwa [show m + 1 + ws.length = m + (ws.length + 1) by omega] at this
theorem Cnt_outer {ws : List (List Int)} : ∀ {us : List (List Int)} (hu : ∀ u ∈ us, u.length = n) {m : Nat} {c : List Int}, Cnt n m c → Cnt n (m + us.length * ws.length) (outer us ws c)
  | [], _, _, _, h => by rw [List.length_nil, Nat.zero_mul]; exact h
  | u :: us, hu, m, c, h => by
    rw [outer_cons, List.length_cons]
    have := Cnt_outer (ws := ws) (us := us) (fun v hv => hu v (List.mem_cons_of_mem _ hv)) (Cnt_inner (hu u List.mem_cons_self) (ws := ws) h)
    rwa [show m + ws.length + us.length * ws.length = m + (us.length + 1) * ws.length by rw [Nat.add_mul]; omega] at this
theorem hd_drop {u v : List Int} (h : u.length = v.length) {i : Nat} (hi : i < u.length) : hd (u.drop i) (v.drop i) = hd (u.drop (i + 1)) (v.drop (i + 1)) + (if u[i] = v[i]'(by omega) then 0 else 1) := by
  rw [List.drop_eq_getElem_cons hi, List.drop_eq_getElem_cons (show i < v.length by omega), hd]
theorem rDist_at {u v : List Int} (h : u.length = v.length) (hn : u.length ≤ 1000) : ∀ (d i x : Nat), d + i = u.length → x ≤ i → Ev (fun k => codewrightref24_Distance.l0 k u v (x : Int) (i : Int)) ((x + hd (u.drop i) (v.drop i) : Nat) : Int) := by
  intro d
  induction d with
  | zero =>
    intro i x hd hx
    rw [List.drop_eq_nil_of_le (by omega), List.drop_eq_nil_of_le (by omega)]
    refine Ev.succ (Ev.of fun k => ?_)
    rw [codewrightref24_Distance.l0, if_neg (by omega)]; rfl
  | succ d ih =>
    intro i x hd hx
    have hi : i < u.length := by omega
    have hi2 : i < v.length := by omega
    refine Ev.succ ?_
    conv => enter [1, k]; rw [codewrightref24_Distance.l0, if_pos (show (i : Int) < (u.length : Int) by omega), if_pos (Int.natCast_nonneg i), if_pos (show (i : Int) < (v.length : Int) by omega), rdI hi, rdI hi2, wsucc (show i < 4611686018427387904 by omega), wsucc (show x < 4611686018427387904 by omega)]
    rw [hd_drop h hi]
    refine Ev.ite (fun g => ?_) fun g => ?_
    · rw [if_pos g]; exact ih (i + 1) x (by omega) (by omega)
    · rw [if_neg g]
      have := ih (i + 1) (x + 1) (by omega) (by omega)
      rwa [show x + 1 + Kraw.hd (u.drop (i + 1)) (v.drop (i + 1)) = x + (Kraw.hd (u.drop (i + 1)) (v.drop (i + 1)) + 1) by omega] at this
theorem rDist {u v : List Int} (h : u.length = v.length) (hn : u.length ≤ 1000) : Ev (fun k => codewrightref24_Distance.f k u v) ((hd u v : Nat) : Int) := by
  have := rDist_at h hn u.length 0 0 (by omega) (by omega)
  rw [List.drop_zero, List.drop_zero, Nat.zero_add] at this
  exact this
def fracs (m : Nat) (c : List Int) : List S46 := c.map fun x => C (mkRat x m)
theorem fracs_at {m : Nat} {c : List Int} {i : Nat} (hi : i < c.length) (x : List S46) : (x ++ [C (mkRat c[i] m)]) ++ fracs m (c.drop (i + 1)) = x ++ fracs m (c.drop i) := by
  unfold fracs
  rw [List.drop_eq_getElem_cons hi, List.map_cons, List.append_assoc]; rfl
theorem cnt_get {m : Nat} {c : List Int} (h : Cnt n m c) {i : Nat} (hi : i < c.length) : ∃ a : Nat, c[i] = (a : Int) ∧ a ≤ m := by
  have := h.2 i
  rw [lb_of_lt hi] at this
  exact ⟨c[i].toNat, by omega, by omega⟩
theorem set_bump {c : List Int} {d m : Nat} (hc : Cnt n m c) (hd : d ≤ n) (hm : m ≤ 1000000) : c.set (((d : Nat) : Int)).toNat (wrap64 (rd c (d : Int) + 1)) = bump c d := by
  have h := hc.2 d
  unfold bump
  rw [Int.toNat_natCast, rd_lb, w64 (by omega) (by omega)]
def dd (n : Nat) (ws : List (List Int)) : List S46 := fracs ws.length (outer ws ws (List.replicate (n + 1) 0))
end
end Go.Proofs.Ythheakfgmombdaa.Num
end
section
namespace Go.Proofs.Ythheakfgmombdaa.Num
set_option linter.unusedVariables false
open Go.RowKit Go.Proofs.YthheakfgmombdaaX.PrintWords Go.Proofs.YthheakfgmombdaaX.PrintMore Go.Proofs.Ythheakfgmombdaa.F Go.Proofs.Ythheakfgmombdaa.Kraw
section
variable {q : Int} {n : Nat} {ws : List (List Int)}
theorem pDists_l5 (hws : ws.length ≤ 1000) (h0 : 0 < ws.length) {m : Nat} {c : List Int} (hc : Cnt n m c) (hn : n ≤ 1000) (hm : m ≤ 1000000) : ∀ (d i : Nat) (x : List S46), d + i = c.length → x.length = i → Ev (fun k => delsarte_Distances.l5 k ws x c (c.length : Int) (i : Int)) (x ++ fracs ws.length (c.drop i), 0) := by
  have hcl := hc.1
  intro d
  induction d with
  | zero =>
    intro i x hd hx
    rw [List.drop_eq_nil_of_le (by omega)]
    refine Ev.succ (Ev.of fun k => ?_)
    rw [delsarte_Distances.l5, if_neg (by omega)]
    show _ = some (x ++ [], 0)
    rw [List.append_nil]
  | succ d ih =>
    intro i x hd hx
    have hi : i < c.length := by omega
    obtain ⟨a, ha, ham⟩ := cnt_get hc hi
    have e := ih (i + 1) (x ++ [C (mkRat c[i] ws.length)]) (by omega) (by rw [List.length_append, hx]; rfl)
    rw [fracs_at hi] at e
    refine Ev.succ ?_
    conv => enter [1, k]; rw [delsarte_Distances.l5, if_pos (show (i : Int) < (c.length : Int) by omega), if_pos (Int.natCast_nonneg i), if_pos (show (i : Int) < (c.length : Int) by omega), rdI hi, wsucc (by omega), ha]
    rw [ha] at e
    exact Ev.bind (pOfR (by omega) (by omega) (by omega)) (Ev.pos (by omega) e)
theorem pDists_l4 (hws : ws.length ≤ 1000) {i j : Nat} (hi : i < ws.length) (hj : j < ws.length) (hu : ws[i].length = n) (hv : ws[j].length = n) (hn : n ≤ 64) {m : Nat} {c : List Int} (hc : Cnt n m c) (hm : m ≤ 1000000) {res : List S46 × Int}
    (next : Ev (fun k => delsarte_Distances.l3 k ws (bump c (hd ws[i] ws[j])) ws[i] ws (ws.length : Int) (i : Int) ws (ws.length : Int) ((j + 1 : Nat) : Int)) res) :
    ∀ (d p x : Nat), d + p = n → x ≤ p → x + hd (ws[i].drop p) (ws[j].drop p) = hd ws[i] ws[j] → Ev (fun k => delsarte_Distances.l4 k ws c ws[i] ws[j] (x : Int) ws (ws.length : Int) (i : Int) ws (ws.length : Int) (j : Int) (ws[i].length : Int) (p : Int)) res := by
  have hdn : Kraw.hd ws[i] ws[j] ≤ n := by rw [← hu]; exact hd_le _ _
  have hcl := hc.1
  intro d
  induction d with
  | zero =>
    intro p x hd hx hv'
    rw [List.drop_eq_nil_of_le (by omega), List.drop_eq_nil_of_le (by omega)] at hv'
    have hx2 : x = Kraw.hd ws[i] ws[j] := hv'
    refine Ev.succ (next.congr fun k => ?_)
    rw [delsarte_Distances.l4, if_neg (by omega), if_pos (Int.natCast_nonneg x), if_pos (by omega), wsucc (by omega), hx2, set_bump hc hdn hm]
  | succ d ih =>
    intro p x hd hx hv'
    have hp : p < ws[i].length := by omega
    have hp2 : p < ws[j].length := by omega
    rw [hd_drop (by rw [hu, hv]) hp] at hv'
    refine Ev.succ ?_
    conv => enter [1, k]; rw [delsarte_Distances.l4, if_pos (show (p : Int) < (ws[i].length : Int) by omega), if_pos (Int.natCast_nonneg p), if_pos (show (p : Int) < (ws[i].length : Int) by omega), if_pos (show (p : Int) < (ws[j].length : Int) by omega), rdI hp, rdI hp2, wsucc (show p < 4611686018427387904 by omega), wsucc (show x < 4611686018427387904 by omega)]
    refine Ev.ite (fun g => ?_) fun g => ?_
    · rw [if_pos g] at hv'
      exact ih (p + 1) x (by omega) (by omega) (by omega)
    · rw [if_neg g] at hv'
      exact ih (p + 1) (x + 1) (by omega) (by omega) (by omega)
theorem pDists_l3 (hws : ws.length ≤ 1000) (hlen : ∀ u ∈ ws, u.length = n) (hn : n ≤ 64) {i : Nat} (hi : i < ws.length) {res : List S46 × Int} :
    ∀ (d j m : Nat) (c : List Int), d + j = ws.length → Cnt n m c → m + d ≤ 1000000 → Ev (fun k => delsarte_Distances.l2 k ws (inner ws[i] (ws.drop j) c) ws (ws.length : Int) ((i + 1 : Nat) : Int)) res → Ev (fun k => delsarte_Distances.l3 k ws c ws[i] ws (ws.length : Int) (i : Int) ws (ws.length : Int) (j : Int)) res := by
  intro d
  induction d with
  | zero =>
    intro j m c hd hc hm next
    rw [List.drop_eq_nil_of_le (by omega)] at next
    refine Ev.succ (next.congr fun k => ?_)
    rw [delsarte_Distances.l3, if_neg (by omega), wsucc (by omega)]; rfl
  | succ d ih =>
    intro j m c hd hc hm next
    have hj : j < ws.length := by omega
    have hu := hlen _ (List.getElem_mem hi)
    have hv := hlen _ (List.getElem_mem hj)
    have hdn : Kraw.hd ws[i] ws[j] ≤ n := by rw [← hu]; exact hd_le _ _
    rw [List.drop_eq_getElem_cons hj, inner_cons] at next
    have e := ih (j + 1) (m + 1) _ (by omega) (Cnt_bump hc hdn) (by omega) next
    refine Ev.succ ?_
    conv => enter [1, k]; rw [delsarte_Distances.l3, if_pos (show (j : Int) < (ws.length : Int) by omega), if_pos (Int.natCast_nonneg j), if_pos (show (j : Int) < (ws.length : Int) by omega), rdLI hj]
    exact pDists_l4 hws hi hj hu hv hn hc (by omega) e n 0 0 (by omega) (by omega) (by rw [List.drop_zero, List.drop_zero, Nat.zero_add])
theorem pDists_l2 (hws : ws.length ≤ 1000) (h0 : 0 < ws.length) (hlen : ∀ u ∈ ws, u.length = n) (hn : n ≤ 64) : ∀ (d i m : Nat) (c : List Int), d + i = ws.length → Cnt n m c → m + d * ws.length ≤ 1000000 → Ev (fun k => delsarte_Distances.l2 k ws c ws (ws.length : Int) (i : Int)) (fracs ws.length (outer (ws.drop i) ws c), 0) := by
  intro d
  induction d with
  | zero =>
    intro i m c hd hc hm
    rw [List.drop_eq_nil_of_le (by omega)]
    refine Ev.succ ?_
    conv => enter [1, k]; rw [delsarte_Distances.l2, if_neg (show ¬ (i : Int) < (ws.length : Int) by omega)]
    exact pDists_l5 hws h0 hc (by omega) (by omega) c.length 0 [] (by omega) rfl
  | succ d ih =>
    intro i m c hd hc hm
    have hi : i < ws.length := by omega
    rw [Nat.add_mul] at hm
    have hm1 : m + ws.length + d * ws.length ≤ 1000000 := by omega
    have hm2 : m + ws.length ≤ 1000000 := by omega
    have e := ih (i + 1) (m + ws.length) _ (by omega) (Cnt_inner (hlen _ (List.getElem_mem hi)) (ws := ws) hc) hm1
    refine Ev.succ ?_
    conv => enter [1, k]; rw [delsarte_Distances.l2, if_pos (show (i : Int) < (ws.length : Int) by omega), if_pos (Int.natCast_nonneg i), if_pos (show (i : Int) < (ws.length : Int) by omega), rdLI hi]
    rw [List.drop_eq_getElem_cons hi, outer_cons]
    exact pDists_l3 hws hlen hn hi ws.length 0 m c (by omega) hc hm2 e
def dres (n : Nat) (ws : List (List Int)) (e : Int) : List S46 × Int := if e = 0 then (dd n ws, 0) else ([], e)
theorem scan_cons {w : List Int} {r : List (List Int)} (h1 : w.length = n) (h2 : sym q w = true) : scan q n (w :: r) = scan q n r := by rw [scan, if_pos h1, if_pos h2]
theorem pDists_l1 (hws : ws.length ≤ 1000) {i : Nat} (hi : i < ws.length) (hi1 : ws[i].length = n) (hn : n ≤ 64) {res : List S46 × Int} (next : sym q ws[i] = true → Ev (fun k => delsarte_Distances.l0 k q ws (n : Int) ws (ws.length : Int) ((i + 1 : Nat) : Int)) res) :
    ∀ (d j : Nat), d + j = ws[i].length → (sym q ws[i] = sym q (ws[i].drop j)) → Ev (fun k => delsarte_Distances.l1 k q ws (n : Int) ws (ws.length : Int) (i : Int) ws[i] (ws[i].length : Int) (j : Int)) (if sym q ws[i] = true then res else ([], 2)) := by
  intro d
  induction d with
  | zero =>
    intro j hd hs
    rw [List.drop_eq_nil_of_le (by omega)] at hs
    have hs' : sym q ws[i] = true := hs
    rw [if_pos hs']
    refine Ev.succ ((next hs').congr fun k => ?_)
    rw [delsarte_Distances.l1, if_neg (by omega), wsucc (by omega)]
  | succ d ih =>
    intro j hd hs
    have hj : j < ws[i].length := by omega
    refine Ev.succ ?_
    conv => enter [1, k]; rw [delsarte_Distances.l1, if_pos (show (j : Int) < (ws[i].length : Int) by omega), if_pos (Int.natCast_nonneg j), if_pos (show (j : Int) < (ws[i].length : Int) by omega), rdI hj, wsucc (by omega)]
    rw [List.drop_eq_getElem_cons hj, sym_cons] at hs
    refine Ev.ite (fun h => ?_) fun h => Ev.ite (fun h2 => ?_) fun h2 => ?_
    · rw [decide_eq_false (show ¬ 0 ≤ ws[i][j] by omega), Bool.false_and, Bool.false_and] at hs
      rw [hs]; exact Ev.const _
    · rw [decide_eq_false (show ¬ ws[i][j] < q by omega), Bool.and_false, Bool.false_and] at hs
      rw [hs]; exact Ev.const _
    · rw [decide_eq_true (show 0 ≤ ws[i][j] by omega), decide_eq_true (show ws[i][j] < q by omega), Bool.true_and, Bool.true_and] at hs
      exact ih (j + 1) (by omega) hs
theorem pDists_l0 (hws : ws.length ≤ 200) (h0 : 0 < ws.length) (hn : n ≤ 64) : ∀ (d i : Nat), d + i = ws.length → (∀ j (h : j < i) (h' : j < ws.length), ws[j].length = n) → Ev (fun k => delsarte_Distances.l0 k q ws (n : Int) ws (ws.length : Int) (i : Int)) (dres n ws (scan q n (ws.drop i))) := by
  intro d
  induction d with
  | zero =>
    intro i hd hall
    rw [List.drop_eq_nil_of_le (by omega)]
    have w1 : wrap64 ((n : Int) + 1) = ((n + 1 : Nat) : Int) := wsucc (by omega)
    have hb : 0 + ws.length * ws.length ≤ 1000000 := by
      have := Nat.mul_le_mul hws hws
      omega
    have hlen : ∀ u ∈ ws, u.length = n := fun u hu => by
      obtain ⟨j, hj, rfl⟩ := List.getElem_of_mem hu
      exact hall j (by omega) hj
    refine Ev.succ ?_
    conv => enter [1, k]; rw [delsarte_Distances.l0, if_neg (show ¬ (i : Int) < (ws.length : Int) by omega), w1, if_pos (Int.natCast_nonneg _), Int.toNat_natCast, if_pos (by omega)]
    exact pDists_l2 (by omega) h0 hlen hn ws.length 0 0 _ (by omega) (Cnt_zero n) hb
  | succ d ih =>
    intro i hd hall
    have hi : i < ws.length := by omega
    refine Ev.succ ?_
    conv => enter [1, k]; rw [delsarte_Distances.l0, if_pos (show (i : Int) < (ws.length : Int) by omega), if_pos (Int.natCast_nonneg i), if_pos (show (i : Int) < (ws.length : Int) by omega), rdLI hi]
    rw [List.drop_eq_getElem_cons hi]
    refine Ev.ite (fun h => ?_) fun h => ?_
    · have h1 : ws[i].length = n := by omega
      have e := ih (i + 1) (by omega) (fun j hj hj' => by
        by_cases hji : j = i
        · subst hji; exact h1
        · exact hall j (by omega) hj')
      have := pDists_l1 (q := q) (n := n) (by omega) hi h1 hn (fun _ => e) ws[i].length 0 (by omega) (by rw [List.drop_zero])
      rw [scan, if_pos h1]
      by_cases hs : sym q ws[i] = true
      · rw [if_pos hs] at this ⊢; exact this
      · rw [if_neg hs] at this ⊢; exact this
    · rw [scan, if_neg (by omega)]; exact Ev.const _
def len0 (ws : List (List Int)) : Nat := (rd_LI ws 0).length
theorem pDists (q : Int) (ws : List (List Int)) (hws : ws.length ≤ 200) : Ev (fun k => delsarte_Distances.f k q ws) (dres (len0 ws) ws (wchk q ws)) := by
  have jt : Ev (fun k => delsarte_Distances.j0 k q ws true) (dres (len0 ws) ws 6) := by
    refine Ev.succ (Ev.of fun k => ?_)
    rw [delsarte_Distances.j0, if_pos rfl]; rfl
  unfold delsarte_Distances.f wchk
  refine Ev.ite (fun h => ?_) fun h => ?_
  · rw [if_neg (by omega)]; exact jt
  · by_cases h2 : q > 256
    · rw [if_neg (by omega), decide_eq_true h2]; exact jt
    · rw [if_pos (by omega), decide_eq_false h2]
      refine Ev.succ ?_
      conv => enter [1, k]; rw [delsarte_Distances.j0, if_neg (by decide)]
      cases ws with
      | nil => exact Ev.pos rfl (Ev.const _)
      | cons w r =>
        have l1 : ((w :: r).length : Int) ≠ 0 := by rw [List.length_cons]; omega
        have l2 : (0 : Int) < ((w :: r).length : Int) := by rw [List.length_cons]; omega
        refine Ev.neg l1 (Ev.pos l2 ?_)
        show Ev _ (dres w.length (w :: r) (if 1 ≤ w.length ∧ w.length ≤ 64 then scan q w.length (w :: r) else 4))
        rw [rdLI0]
        refine Ev.ite (fun g => ?_) fun g => Ev.ite (fun g2 => ?_) fun g2 => ?_
        · rw [if_neg (by omega)]; exact Ev.const _
        · rw [if_neg (by omega)]; exact Ev.const _
        · rw [if_pos (by omega)]
          have := pDists_l0 (q := q) (n := w.length) hws (by rw [List.length_cons]; omega) (by omega) (w :: r).length 0 (by omega) (fun j hj => by omega)
          rwa [List.drop_zero] at this
theorem Cnt_dd (hlen : ∀ u ∈ ws, u.length = n) : Cnt n (ws.length * ws.length) (outer ws ws (List.replicate (n + 1) 0)) := by
  have := Cnt_outer (ws := ws) hlen (Cnt_zero n)
  rwa [Nat.zero_add] at this
theorem dd_length (hlen : ∀ u ∈ ws, u.length = n) : (dd n ws).length = n + 1 := by
  unfold dd fracs
  rw [List.length_map]; exact (Cnt_dd hlen).1
end
end Go.Proofs.Ythheakfgmombdaa.Num
end
section
namespace Go.Proofs.Ythheakfgmombdaa.Num
set_option linter.unusedVariables false
open Go.RowKit Go.Proofs.YthheakfgmombdaaX.PrintWords Go.Proofs.YthheakfgmombdaaX.PrintMore Go.Proofs.Ythheakfgmombdaa.F
theorem Ev.unique {α : Type} {f : Nat → Option α} {a b : α} (h1 : Ev f a) (h2 : Ev f b) : a = b := by
  obtain ⟨K, h1⟩ := h1
  obtain ⟨L, h2⟩ := h2
  have e1 := h1 (max K L) (by omega)
  have e2 := h2 (max K L) (by omega)
  rw [e1] at e2
  exact Option.some.inj e2
def Ends {α : Type} (f : Nat → Option α) : Prop := ∃ a, Ev f a
theorem Ends.bind {α β : Type} {f : Nat → Option α} {g : Nat → α → Option β} (hf : Ends f) (hg : ∀ a, Ends (fun k => g k a)) : Ends (fun k => (f k).bind (g k)) := by
  obtain ⟨a, ha⟩ := hf
  obtain ⟨b, hb⟩ := hg a
  exact ⟨b, Ev.bind ha hb⟩
theorem Ends.bind' {α β : Type} {f : Nat → Option α} {g : Nat → α → Option β} {a : α} (hf : Ev f a) (hg : Ends (fun k => g k a)) : Ends (fun k => (f k).bind (g k)) := by
  obtain ⟨b, hb⟩ := hg
  exact ⟨b, Ev.bind hf hb⟩
theorem Ends.const {α : Type} (a : α) : Ends (fun _ => some a) := ⟨a, Ev.const a⟩
theorem Ends.succ {α : Type} {f : Nat → Option α} (h : Ends (fun k => f (k + 1))) : Ends f := by
  obtain ⟨a, ha⟩ := h
  exact ⟨a, Ev.succ ha⟩
theorem Ends.ite {α : Type} {c : Prop} [Decidable c] {f g : Nat → Option α} (h1 : c → Ends f) (h2 : ¬ c → Ends g) : Ends (fun k => if c then f k else g k) := by
  by_cases h : c
  · obtain ⟨a, ha⟩ := h1 h
    exact ⟨a, Ev.pos h ha⟩
  · obtain ⟨a, ha⟩ := h2 h
    exact ⟨a, Ev.neg h ha⟩
theorem Ends.pos {α : Type} {c : Prop} [Decidable c] {f g : Nat → Option α} (h : c) (h1 : Ends f) : Ends (fun k => if c then f k else g k) := Ends.ite (fun _ => h1) (fun h2 => absurd h h2)
theorem Ends.neg {α : Type} {c : Prop} [Decidable c] {f g : Nat → Option α} (h : ¬ c) (h1 : Ends g) : Ends (fun k => if c then f k else g k) := Ends.ite (fun h2 => absurd h2 h) (fun _ => h1)
section
variable {p m : Int} {md : List Int}
theorem rOrder_at {pn mn : Nat} (hp : 2 ≤ pn) (hpw : pn < 9223372036854775808) (hm : mn ≤ 8) : ∀ (d i : Nat), d + i = mn → pn ^ i ≤ 256 → ∃ q, Ev (fun k => codewrightref04_Order.l0 k ((pn ^ i : Nat) : Int) (i : Int) (pn : Int) (mn : Int) md) q ∧ (q ≠ 0 → q = ((pn ^ mn : Nat) : Int) ∧ pn ^ mn ≤ 256) := by
  intro d
  induction d with
  | zero =>
    intro i hd hi
    obtain rfl : i = mn := by omega
    refine ⟨_, Ev.succ (Ev.of fun k => ?_), fun _ => ⟨rfl, hi⟩⟩
    rw [codewrightref04_Order.l0, if_neg (by omega)]
  | succ d ih =>
    intro i hd hi
    have hdiv : wrap64 ((256 : Int) / (pn : Int)) = ((256 / pn : Nat) : Int) := by
      have : (256 : Int) / (pn : Int) = ((256 / pn : Nat) : Int) := rfl
      have h2 : 256 / pn ≤ 256 := Nat.div_le_self _ _
      rw [this]
      generalize 256 / pn = z at h2 ⊢
      rw [w64 (by omega) (by omega)]
    by_cases h : pn ^ i > 256 / pn
    · refine ⟨0, Ev.succ (Ev.of fun k => ?_), fun h0 => absurd rfl h0⟩
      rw [codewrightref04_Order.l0, if_pos (by omega), if_neg (by omega), hdiv, if_pos (by omega)]
    · have hle : pn ^ i * pn ≤ 256 := by
        have h1 : pn ^ i ≤ 256 / pn := by omega
        exact (Nat.le_div_iff_mul_le (by omega)).1 h1
      rw [← Nat.pow_succ] at hle
      obtain ⟨q, e, hq⟩ := ih (i + 1) (by omega) hle
      refine ⟨q, Ev.succ (e.congr fun k => ?_), hq⟩
      have hmul : wrap64 (((pn ^ i : Nat) : Int) * (pn : Int)) = ((pn ^ (i + 1) : Nat) : Int) := by
        rw [← Int.natCast_mul, ← Nat.pow_succ, w64 (by omega) (by omega)]
      rw [codewrightref04_Order.l0, if_pos (by omega), if_neg (by omega), hdiv, if_neg (by omega), hmul, wsucc (by omega)]
theorem rOrder (hp1 : p < 9223372036854775808) : ∃ q, Ev (fun k => codewrightref04_Order.f k p m md) q ∧ (q ≠ 0 → ∃ pn mn : Nat, p = pn ∧ m = mn ∧ 2 ≤ pn ∧ 1 ≤ mn ∧ mn ≤ 8 ∧ q = ((pn ^ mn : Nat) : Int) ∧ pn ^ mn ≤ 256) := by
  have jt : Ev (fun k => codewrightref04_Order.j0 k true p m md) 0 := by
    refine Ev.succ (Ev.of fun k => ?_)
    rw [codewrightref04_Order.j0, if_pos rfl]
  by_cases h1 : p < 2
  · refine ⟨0, ?_, fun h => absurd rfl h⟩
    unfold codewrightref04_Order.f
    exact Ev.pos h1 jt
  by_cases h2 : m < 1
  · refine ⟨0, ?_, fun h => absurd rfl h⟩
    unfold codewrightref04_Order.f
    exact Ev.neg h1 (Ev.pos h2 jt)
  by_cases h3 : m > 8
  · refine ⟨0, ?_, fun h => absurd rfl h⟩
    unfold codewrightref04_Order.f
    refine Ev.neg h1 (Ev.neg h2 ?_)
    rw [decide_eq_true h3]; exact jt
  obtain ⟨pn, rfl⟩ : ∃ pn : Nat, p = (pn : Int) := ⟨p.toNat, by omega⟩
  obtain ⟨mn, rfl⟩ : ∃ mn : Nat, m = (mn : Int) := ⟨m.toNat, by omega⟩
  obtain ⟨q, e, hq⟩ := rOrder_at (md := md) (pn := pn) (mn := mn) (by omega) (by omega) (by omega) mn 0 (by omega) (by rw [Nat.pow_zero]; omega)
  refine ⟨q, ?_, fun h => ⟨pn, mn, rfl, rfl, by omega, by omega, by omega, hq h⟩⟩
  unfold codewrightref04_Order.f
  refine Ev.neg h1 (Ev.neg h2 ?_)
  rw [decide_eq_false h3]
  refine Ev.succ ?_
  conv => enter [1, k]; rw [codewrightref04_Order.j0, if_neg (by decide)]
  exact e
end
theorem prime_ends {n : Nat} (hn : n ≤ 1000) : ∀ (d i : Nat), d + i = n → 2 ≤ i → Ends (fun k => codewrightref04_prime.l0 k (n : Int) (i : Int)) := by
  intro d
  induction d with
  | zero =>
    intro i hd hi
    refine Ends.succ ?_
    conv => arg 1; intro k; rw [codewrightref04_prime.l0, if_neg (show ¬ (i : Int) < (n : Int) by omega)]
    exact Ends.const _
  | succ d ih =>
    intro i hd hi
    refine Ends.succ ?_
    conv => arg 1; intro k; rw [codewrightref04_prime.l0, if_pos (show (i : Int) < (n : Int) by omega), if_neg (show ¬ (i : Int) = 0 by omega), wsucc (by omega)]
    exact Ends.ite (fun _ => Ends.const _) fun _ => ih (i + 1) (by omega) (by omega)
theorem prime_all {n : Nat} (hn : n ≤ 1000) (h2 : 2 ≤ n) : Ends (fun k => codewrightref04_prime.f k (n : Int)) := prime_ends hn (n - 2) 2 (by omega) (by omega)
theorem digits_len {b : Int} (hb : b ≠ 0) {l : Nat} (hl : l ≤ 1000) : ∀ (d i : Nat) (x : Int) (o : List Int), d + i = l → o.length = l → ∃ r, Ev (fun k => codewrightref04_digits.l0 k x b (l : Int) o (i : Int)) r ∧ r.length = l := by
  intro d
  induction d with
  | zero =>
    intro i x o hd ho
    refine ⟨o, Ev.succ (Ev.of fun k => ?_), ho⟩
    rw [codewrightref04_digits.l0, if_neg (by omega)]
  | succ d ih =>
    intro i x o hd ho
    obtain ⟨r, e, hr⟩ := ih (i + 1) (wrap64 (Int.tdiv x b)) (o.set i (Int.tmod x b)) (by omega) (by rw [List.length_set]; exact ho)
    refine ⟨r, Ev.succ (e.congr fun k => ?_), hr⟩
    rw [codewrightref04_digits.l0, if_pos (by omega), if_neg hb, if_pos (Int.natCast_nonneg i), if_pos (by omega), Int.toNat_natCast, wsucc (by omega)]
theorem digits_all {b : Int} (hb : b ≠ 0) {l : Nat} (hl : l ≤ 1000) (x : Int) : ∃ r, Ev (fun k => codewrightref04_digits.f k x b (l : Int)) r ∧ r.length = l := by
  obtain ⟨r, e, hr⟩ := digits_len hb hl l 0 x (List.replicate l 0) (by omega) (List.length_replicate ..)
  refine ⟨r, ?_, hr⟩
  unfold codewrightref04_digits.f
  rw [Int.toNat_natCast]
  exact Ev.pos (Int.natCast_nonneg _) (Ev.pos (by omega) e)
theorem div_l2 {r : List Int} (hr : r.length ≤ 1000) : ∀ (d i : Nat), d + i = r.length → Ends (fun k => codewrightref04_divides.l2 k r (i : Int)) := by
  intro d
  induction d with
  | zero =>
    intro i hd
    refine Ends.succ ?_
    conv => arg 1; intro k; rw [codewrightref04_divides.l2, if_neg (show ¬ (i : Int) < (r.length : Int) by omega)]
    exact Ends.const _
  | succ d ih =>
    intro i hd
    refine Ends.succ ?_
    conv => arg 1; intro k; rw [codewrightref04_divides.l2, if_pos (show (i : Int) < (r.length : Int) by omega), if_pos (Int.natCast_nonneg i), wsucc (by omega)]
    exact Ends.ite (fun _ => ih (i + 1) (by omega)) fun _ => Ends.const _
theorem div_l1 {low : List Int} {p : Int} (hp : p ≠ 0) {i n : Nat} (hn : n ≤ 1000) (hin : i < n) (hdi : low.length ≤ i) (next : ∀ r : List Int, r.length = n → Ends (fun k => codewrightref04_divides.l0 k low p (low.length : Int) r (wrap64 ((i : Int) - 1)))) : ∀ (d j : Nat) (r : List Int) (c : Int), d + j = low.length → r.length = n → Ends (fun k => codewrightref04_divides.l1 k low p (low.length : Int) r (i : Int) c (j : Int)) := by
  intro d
  induction d with
  | zero =>
    intro j r c hd hr
    refine Ends.succ ?_
    conv => arg 1; intro k; rw [codewrightref04_divides.l1, if_neg (show ¬ (j : Int) < (low.length : Int) by omega), if_pos (Int.natCast_nonneg i), if_pos (show (i : Int) < (r.length : Int) by omega)]
    exact next _ (by rw [List.length_set]; exact hr)
  | succ d ih =>
    intro j r c hd hr
    have w1 : wrap64 ((i : Int) - (low.length : Int)) = ((i - low.length : Nat) : Int) := by rw [w64 (by omega) (by omega)]; omega
    have w2 : wrap64 (((i - low.length : Nat) : Int) + (j : Int)) = ((i - low.length + j : Nat) : Int) := by rw [w64 (by omega) (by omega)]; omega
    refine Ends.succ ?_
    conv => arg 1; intro k; rw [codewrightref04_divides.l1, if_pos (show (j : Int) < (low.length : Int) by omega), w1, w2, if_pos (Int.natCast_nonneg _), if_pos (show ((i - low.length + j : Nat) : Int) < (r.length : Int) by omega), if_pos (Int.natCast_nonneg j), if_pos (show (j : Int) < (low.length : Int) by omega), if_neg hp, wsucc (show j < 4611686018427387904 by omega)]
    exact ih (j + 1) _ c (by omega) (by rw [List.length_set]; exact hr)
theorem div_l0 {low : List Int} {p : Int} (hp : p ≠ 0) {n : Nat} (hn : n ≤ 1000) : ∀ (i : Nat) (r : List Int), i ≤ n → r.length = n → Ends (fun k => codewrightref04_divides.l0 k low p (low.length : Int) r (wrap64 ((i : Int) - 1))) := by
  intro i
  induction i with
  | zero =>
    intro r hi hr
    by_cases h0 : low.length = 0 ∧ False
    · exact absurd h0.2 (by simp)
    · refine Ends.succ ?_
      rw [w64 (by omega) (by omega)]
      conv => arg 1; intro k; rw [codewrightref04_divides.l0, if_neg (show ¬ (((0 : Nat) : Int) - 1) ≥ (low.length : Int) by omega)]
      exact div_l2 (by omega) r.length 0 (by omega)
  | succ i ih =>
    intro r hi hr
    rw [wpred (by omega)]
    refine Ends.succ ?_
    by_cases h : low.length ≤ i
    · conv => arg 1; intro k; rw [codewrightref04_divides.l0, if_pos (show (i : Int) ≥ (low.length : Int) by omega), if_pos (Int.natCast_nonneg i), if_pos (show (i : Int) < (r.length : Int) by omega)]
      exact div_l1 hp hn (by omega) h (fun r' hr' => ih r' (by omega) hr') low.length 0 r _ (by omega) hr
    · conv => arg 1; intro k; rw [codewrightref04_divides.l0, if_neg (show ¬ (i : Int) ≥ (low.length : Int) by omega)]
      exact div_l2 (by omega) r.length 0 (by omega)
theorem divides_all {low md : List Int} {p : Int} (hp : p ≠ 0) (hm : md.length ≤ 900) : Ends (fun k => codewrightref04_divides.f k low md p) := by
  have := div_l0 (low := low) hp (n := md.length + 1) (by omega) (md.length + 1) (md ++ [1]) (Nat.le_refl _) (by rw [List.length_append]; rfl)
  unfold codewrightref04_divides.f
  refine Ends.bind' (Ev.const _) (Ends.pos (by simp; omega) (Ends.bind' (Ev.const _) (Ends.pos (by simp; omega) (Ends.bind' (Ev.const _) ?_))))
  have e : (([] ++ md ++ [1] : List Int)).length = md.length + 1 := by simp
  rw [e]
  exact this
theorem irr_l1 {md : List Int} {p : Int} (hp : p ≠ 0) (hm : md.length ≤ 900) {q dd : Nat} (hq : q ≤ 256) (hdd : dd ≤ 1000) (next : Ends (fun k => codewrightref04_irreducible.l0 k md p (q : Int) ((dd + 1 : Nat) : Int))) : ∀ (d n : Nat), d + n = q → Ends (fun k => codewrightref04_irreducible.l1 k md p (q : Int) (dd : Int) (n : Int)) := by
  intro d
  induction d with
  | zero =>
    intro n hd
    refine Ends.succ ?_
    conv => arg 1; intro k; rw [codewrightref04_irreducible.l1, if_neg (show ¬ (n : Int) < (q : Int) by omega), wsucc (by omega)]
    exact next
  | succ d ih =>
    intro n hd
    obtain ⟨low, hlow, _⟩ := digits_all hp (l := dd) hdd (n : Int)
    refine Ends.succ ?_
    conv => arg 1; intro k; rw [codewrightref04_irreducible.l1, if_pos (show (n : Int) < (q : Int) by omega), wsucc (show n < 4611686018427387904 by omega)]
    exact Ends.bind' hlow (Ends.bind (divides_all hp hm) fun t => Ends.ite (fun _ => Ends.const _) fun _ => ih (n + 1) (by omega))
theorem irr_l0 {md : List Int} {pn : Nat} (hp : 2 ≤ pn) (hm : md.length ≤ 8) (hpm : pn ^ md.length ≤ 256) : ∀ (d dd : Nat), d + dd = md.length + 1 → 1 ≤ dd → Ends (fun k => codewrightref04_irreducible.l0 k md (pn : Int) ((pn ^ (dd - 1) : Nat) : Int) (dd : Int)) := by
  intro d
  induction d with
  | zero =>
    intro dd hd h1
    have w1 : wrap64 (2 * (dd : Int)) = ((2 * dd : Nat) : Int) := by rw [w64 (by omega) (by omega)]; omega
    refine Ends.succ ?_
    conv => arg 1; intro k; rw [codewrightref04_irreducible.l0, w1, if_neg (show ¬ ((2 * dd : Nat) : Int) ≤ (md.length : Int) by omega)]
    exact Ends.const _
  | succ d ih =>
    intro dd hd h1
    have w1 : wrap64 (2 * (dd : Int)) = ((2 * dd : Nat) : Int) := by rw [w64 (by omega) (by omega)]; omega
    have hle : pn ^ dd ≤ 256 := Nat.le_trans (Nat.pow_le_pow_right (by omega) (by omega)) hpm
    have e : pn ^ (dd - 1) * pn = pn ^ dd := by
      rw [← Nat.pow_succ]; congr 1; omega
    have w2 : wrap64 (((pn ^ (dd - 1) : Nat) : Int) * (pn : Int)) = ((pn ^ dd : Nat) : Int) := by
      rw [← Int.natCast_mul, e, w64 (by omega) (by omega)]
    have nx := ih (dd + 1) (by omega) (by omega)
    rw [Nat.add_sub_cancel] at nx
    refine Ends.succ ?_
    conv => arg 1; intro k; rw [codewrightref04_irreducible.l0, w1, w2]
    exact Ends.ite (fun _ => irr_l1 (by omega) (by omega) hle (by omega) nx (pn ^ dd) 0 (by omega)) fun _ => Ends.const _
theorem irr_all {md : List Int} {pn : Nat} (hp : 2 ≤ pn) (hm : md.length ≤ 8) (hpm : pn ^ md.length ≤ 256) : Ends (fun k => codewrightref04_irreducible.f k md (pn : Int)) := irr_l0 hp hm hpm md.length 1 (by omega) (Nat.le_refl _)
structure Fld (pn mn : Nat) (md : List Int) : Prop where
  p2 : 2 ≤ pn
  m1 : 1 ≤ mn
  m8 : mn ≤ 8
  q256 : pn ^ mn ≤ 256
  sym : mn ≠ 1 → md.length = mn ∧ ∀ x ∈ md, 0 ≤ x ∧ x < (pn : Int)
  one : mn = 1 → md = []
theorem chk_l0 {pn mn : Nat} {md : List Int} (hp : 2 ≤ pn) (hm : mn ≤ 8) (hl : md.length = mn) (hpm : pn ^ mn ≤ 256) : ∀ (d i : Nat), d + i = mn → (∀ j (h : j < md.length), j < i → 0 ≤ md[j] ∧ md[j] < (pn : Int)) → ∃ e, Ev (fun k => codewrightref04_Check.l0 k (i : Int) (pn : Int) (mn : Int) md) e ∧ (e = 0 → ∀ x ∈ md, 0 ≤ x ∧ x < (pn : Int)) := by
  intro d
  induction d with
  | zero =>
    intro i hd hall
    have all : ∀ x ∈ md, 0 ≤ x ∧ x < (pn : Int) := fun x hx => by
      obtain ⟨j, hj, rfl⟩ := List.getElem_of_mem hx
      exact hall j hj (by omega)
    obtain ⟨b, hb⟩ := irr_all (md := md) hp (by omega) (by rw [hl]; exact hpm)
    refine ⟨if b = true then 0 else 1, Ev.succ ?_, fun _ => all⟩
    conv => enter [1, k]; rw [codewrightref04_Check.l0, if_neg (show ¬ (i : Int) < (mn : Int) by omega)]
    refine Ev.bind hb ?_
    cases b
    · exact Ev.neg (by decide) (Ev.const _)
    · exact Ev.pos rfl (Ev.const _)
  | succ d ih =>
    intro i hd hall
    have hi : i < md.length := by omega
    have st : ∀ k, codewrightref04_Check.l0 (k + 1) (i : Int) (pn : Int) (mn : Int) md = if md[i] < 0 then some 1 else if md[i] ≥ (pn : Int) then some 1 else codewrightref04_Check.l0 k ((i + 1 : Nat) : Int) (pn : Int) (mn : Int) md := fun k => by
      rw [codewrightref04_Check.l0, if_pos (by omega), if_pos (Int.natCast_nonneg i), if_pos (by omega), rd_eq md i hi, wsucc (by omega)]
    by_cases h1 : md[i] < 0
    · refine ⟨1, Ev.succ (Ev.of fun k => ?_), fun h => by omega⟩
      rw [st, if_pos h1]
    · by_cases h2 : md[i] ≥ (pn : Int)
      · refine ⟨1, Ev.succ (Ev.of fun k => ?_), fun h => by omega⟩
        rw [st, if_neg h1, if_pos h2]
      · obtain ⟨e, he, hs⟩ := ih (i + 1) (by omega) fun j hj hji => by
          by_cases hji' : j = i
          · subst hji'; omega
          · exact hall j hj (by omega)
        refine ⟨e, Ev.succ (he.congr fun k => ?_), hs⟩
        rw [st, if_neg h1, if_neg h2]
theorem rFieldCheck {p m : Int} {md : List Int} (hp : p < 9223372036854775808) : ∃ e, Ev (fun k => codewrightref04_Check.f k p m md) e ∧ (e = 0 → ∃ pn mn : Nat, p = pn ∧ m = mn ∧ Fld pn mn md) := by
  have jt : Ev (fun k => codewrightref04_Check.j0 k true p m md) 1 := by
    refine Ev.succ (Ev.of fun k => ?_)
    rw [codewrightref04_Check.j0, if_pos rfl]
  obtain ⟨q, hq, hq2⟩ := rOrder (p := p) (m := m) (md := md) hp
  by_cases h0 : q = 0
  · refine ⟨1, ?_, fun h => by omega⟩
    unfold codewrightref04_Check.f
    exact Ev.bind hq (Ev.pos h0 jt)
  obtain ⟨pn, mn, rfl, rfl, p2, m1, m8, _, hpm⟩ := hq2 h0
  have hp256 : pn ≤ 256 := by
    have : pn ^ 1 ≤ pn ^ mn := Nat.pow_le_pow_right (by omega) m1
    rw [Nat.pow_one] at this; omega
  obtain ⟨b, hb⟩ := prime_all (n := pn) (by omega) p2
  cases hbb : b with
  | false =>
    refine ⟨1, ?_, fun h => by omega⟩
    unfold codewrightref04_Check.f
    refine Ev.bind hq (Ev.neg h0 (Ev.bind hb ?_))
    rw [hbb]; exact jt
  | true =>
    have red : ∀ {e : Int}, Ev (fun k => if (mn : Int) = 1 then (if (md.length : Int) = 0 then some 0 else some 1) else if (md.length : Int) = (mn : Int) then codewrightref04_Check.l0 k 0 (pn : Int) (mn : Int) md else some 1) e → Ev (fun k => codewrightref04_Check.f k (pn : Int) (mn : Int) md) e := fun he => by
      unfold codewrightref04_Check.f
      refine Ev.bind hq (Ev.neg h0 (Ev.bind hb ?_))
      rw [hbb]
      refine Ev.succ ?_
      conv => enter [1, k]; rw [codewrightref04_Check.j0, if_neg (by decide)]
      exact he
    by_cases h1 : mn = 1
    · by_cases h2 : md.length = 0
      · exact ⟨0, red (Ev.pos (by omega) (Ev.pos (by omega) (Ev.const _))), fun _ => ⟨pn, mn, rfl, rfl, p2, m1, m8, hpm, fun h => absurd h1 h, fun _ => List.eq_nil_of_length_eq_zero h2⟩⟩
      · exact ⟨1, red (Ev.pos (by omega) (Ev.neg (by omega) (Ev.const _))), fun h => by omega⟩
    · by_cases h2 : md.length = mn
      · obtain ⟨e, he, hs⟩ := chk_l0 (md := md) p2 m8 h2 hpm mn 0 (by omega) (fun j _ h => by omega)
        exact ⟨e, red (Ev.neg (by omega) (Ev.pos (by omega) he)), fun h => ⟨pn, mn, rfl, rfl, p2, m1, m8, hpm, fun _ => ⟨h2, hs h⟩, fun h => absurd h h1⟩⟩
      · exact ⟨1, red (Ev.neg (by omega) (Ev.neg (by omega) (Ev.const _))), fun h => by omega⟩
end Go.Proofs.Ythheakfgmombdaa.Num
end
section
namespace Go.Proofs.Ythheakfgmombdaa.Num
set_option linter.unusedVariables false
open Go.RowKit Go.Proofs.YthheakfgmombdaaX.PrintWords Go.Proofs.YthheakfgmombdaaX.PrintMore Go.Proofs.Ythheakfgmombdaa.F
def addN (p : Nat) : Nat → Nat → Nat → Nat
  | 0, _, _ => 0
  | m + 1, a, b => (a % p + b % p) % p + p * addN p m (a / p) (b / p)
section
variable {p : Nat}
theorem addN_lt (hp : 0 < p) : ∀ (m a b : Nat), addN p m a b < p ^ m
  | 0, _, _ => by rw [addN, Nat.pow_zero]; omega
  | m + 1, a, b => by
    have h1 := addN_lt hp m (a / p) (b / p)
    have h2 : (a % p + b % p) % p < p := Nat.mod_lt _ hp
    rw [addN, Nat.pow_succ]
    have h3 : p * (addN p m (a / p) (b / p) + 1) ≤ p * p ^ m := Nat.mul_le_mul_left _ h1
    rw [Nat.mul_add, Nat.mul_one] at h3
    rw [Nat.mul_comm (p ^ m) p]; omega
theorem addN_mod (hp : 0 < p) (m a b : Nat) : addN p (m + 1) a b % p = (a % p + b % p) % p := by
  rw [addN, Nat.add_mul_mod_self_left, Nat.mod_mod]
theorem addN_div (hp : 0 < p) (m a b : Nat) : addN p (m + 1) a b / p = addN p m (a / p) (b / p) := by
  rw [addN, Nat.add_mul_div_left _ _ hp, Nat.div_eq_of_lt (Nat.mod_lt _ hp), Nat.zero_add]
theorem addN_comm : ∀ (m a b : Nat), addN p m a b = addN p m b a
  | 0, _, _ => rfl
  | m + 1, a, b => by rw [addN, addN, addN_comm m, Nat.add_comm (a % p)]
theorem addN_assoc (hp : 0 < p) : ∀ (m a b c : Nat), addN p m (addN p m a b) c = addN p m a (addN p m b c)
  | 0, _, _, _ => rfl
  | m + 1, a, b, c => by
    rw [addN, addN_mod hp, addN_div hp, addN_assoc hp m]
    rw [addN.eq_def p (m + 1) a (addN p (m + 1) b c)]
    show _ = (a % p + addN p (m + 1) b c % p) % p + p * addN p m (a / p) (addN p (m + 1) b c / p)
    rw [addN_mod hp, addN_div hp]
    congr 1
    simp only [Nat.mod_add_mod, Nat.add_mod_mod]
    rw [Nat.add_assoc]
theorem addN_zero (hp : 0 < p) : ∀ (m b : Nat), b < p ^ m → addN p m 0 b = b
  | 0, b, h => by rw [Nat.pow_zero] at h; rw [addN]; omega
  | m + 1, b, h => by
    rw [addN, Nat.zero_div, addN_zero hp m (b / p) (by rw [Nat.pow_succ] at h; exact Nat.div_lt_of_lt_mul (by rw [Nat.mul_comm]; exact h)), Nat.zero_mod, Nat.zero_add, Nat.mod_mod]
    exact Nat.mod_add_div b p
def negN (p : Nat) : Nat → Nat → Nat
  | 0, _ => 0
  | m + 1, a => (p - a % p) % p + p * negN p m (a / p)
theorem addN_negN (hp : 0 < p) : ∀ (m a : Nat), addN p m (negN p m a) a = 0
  | 0, _ => rfl
  | m + 1, a => by
    have h2 : (p - a % p) % p < p := Nat.mod_lt _ hp
    have e1 : negN p (m + 1) a % p = (p - a % p) % p := by rw [negN, Nat.add_mul_mod_self_left, Nat.mod_mod]
    have e2 : negN p (m + 1) a / p = negN p m (a / p) := by rw [negN, Nat.add_mul_div_left _ _ hp, Nat.div_eq_of_lt h2, Nat.zero_add]
    rw [addN, e1, e2, addN_negN hp m]
    have h3 : a % p < p := Nat.mod_lt _ hp
    rw [Nat.mod_add_mod, show p - a % p + a % p = p by omega, Nat.mod_self, Nat.mul_zero]
theorem addN_cancel (hp : 0 < p) {m a x : Nat} (hx : x < p ^ m) (ha : a < p ^ m) (h : addN p m a x = a) : x = 0 := by
  have h1 : addN p m (negN p m a) (addN p m a x) = addN p m (negN p m a) a := by rw [h]
  rw [← addN_assoc hp, addN_negN hp, addN_zero hp m x hx] at h1
  exact h1
theorem addN_right (hp : 0 < p) {m a : Nat} (ha : a < p ^ m) : addN p m a 0 = a := by rw [addN_comm, addN_zero hp m a ha]
def dl (p : Nat) : Nat → Nat → List Int
  | 0, _ => []
  | m + 1, x => ((x % p : Nat) : Int) :: dl p m (x / p)
theorem dl_length : ∀ (m x : Nat), (dl p m x).length = m
  | 0, _ => rfl
  | m + 1, x => by rw [dl, List.length_cons, dl_length m]
def Dg (p : Nat) (l : List Int) : Prop := ∀ x ∈ l, 0 ≤ x ∧ x < (p : Int)
theorem Dg_dl (hp : 0 < p) : ∀ (m x : Nat), Dg p (dl p m x)
  | 0, _ => fun _ h => by cases h
  | m + 1, x => fun y hy => by
    rcases List.mem_cons.1 hy with rfl | hy
    · have := Nat.mod_lt x hp
      omega
    · exact Dg_dl hp m _ y hy
def vl (p : Nat) : List Int → Nat
  | [] => 0
  | x :: l => x.toNat + p * vl p l
theorem vl_lt : ∀ {l : List Int}, Dg p l → vl p l < p ^ l.length
  | [], _ => by rw [vl, List.length_nil, Nat.pow_zero]; omega
  | x :: l, h => by
    have h1 := vl_lt (l := l) fun y hy => h y (List.mem_cons_of_mem _ hy)
    have h2 := h x List.mem_cons_self
    have h3 : p * (vl p l + 1) ≤ p * p ^ l.length := Nat.mul_le_mul_left _ h1
    rw [Nat.mul_add, Nat.mul_one] at h3
    rw [vl, List.length_cons, Nat.pow_succ, Nat.mul_comm _ p]; omega
theorem lb_cons0 (x : Int) (l : List Int) : lb (x :: l) 0 = x := rfl
theorem lb_cons1 (x : Int) (l : List Int) (j : Nat) : lb (x :: l) (j + 1) = lb l j := rfl
theorem lb_nil (j : Nat) : lb [] j = 0 := rfl
theorem lb_dg {l : List Int} (hp : 0 < p) (h : Dg p l) (j : Nat) : 0 ≤ lb l j ∧ lb l j < (p : Int) := by
  by_cases hj : j < l.length
  · rw [lb_of_lt hj]; exact h _ (List.getElem_mem hj)
  · rw [lb_of_ge (by omega)]; omega
theorem dl_addN (hp : 0 < p) : ∀ (m a b j : Nat), lb (dl p m (addN p m a b)) j = (lb (dl p m a) j + lb (dl p m b) j) % (p : Int)
  | 0, _, _, j => by rw [dl, dl, dl, lb_nil]; rfl
  | m + 1, a, b, 0 => by
    rw [dl, dl, dl, lb_cons0, lb_cons0, lb_cons0, addN_mod hp]; rfl
  | m + 1, a, b, j + 1 => by
    rw [dl, dl, dl, lb_cons1, lb_cons1, lb_cons1, addN_div hp]
    exact dl_addN hp m _ _ j
theorem vl_dl (hp : 0 < p) : ∀ (m x : Nat), x < p ^ m → vl p (dl p m x) = x
  | 0, x, h => by rw [Nat.pow_zero] at h; rw [dl, vl]; omega
  | m + 1, x, h => by
    rw [dl, vl, vl_dl hp m (x / p) (by rw [Nat.pow_succ] at h; exact Nat.div_lt_of_lt_mul (by rw [Nat.mul_comm]; exact h)), Int.toNat_natCast]
    exact Nat.mod_add_div x p
theorem vl_add (hp : 0 < p) : ∀ {a b c : List Int}, Dg p a → Dg p b → a.length = c.length → b.length = c.length → (∀ j, lb c j = (lb a j + lb b j) % (p : Int)) → vl p c = addN p c.length (vl p a) (vl p b)
  | [], [], [], _, _, _, _, _ => rfl
  | [], _ :: _, [], _, _, _, h, _ => by simp at h
  | [], _ :: _, _ :: _, _, _, h, _, _ => by simp at h
  | _ :: _, [], [], _, _, h, _, _ => by simp at h
  | _ :: _, [], _ :: _, _, _, _, h, _ => by simp at h
  | [], [], _ :: _, _, _, h, _, _ => by simp at h
  | _ :: _, _ :: _, [], _, _, h, _, _ => by simp at h
  | x :: a, y :: b, z :: c, ha, hb, hl, hl2, h => by
    have hx := ha x List.mem_cons_self
    have hy := hb y List.mem_cons_self
    have h0 : z = (x + y) % (p : Int) := h 0
    have ih := vl_add hp (a := a) (b := b) (c := c) (fun u hu => ha u (List.mem_cons_of_mem _ hu)) (fun u hu => hb u (List.mem_cons_of_mem _ hu)) (by simpa using hl) (by simpa using hl2) (fun j => h (j + 1))
    obtain ⟨xn, rfl⟩ : ∃ n : Nat, x = (n : Int) := ⟨x.toNat, by omega⟩
    obtain ⟨yn, rfl⟩ : ∃ n : Nat, y = (n : Int) := ⟨y.toNat, by omega⟩
    have hz : z = (((xn + yn) % p : Nat) : Int) := by rw [h0]; rfl
    have m1 : (xn + p * vl p a) % p = xn := by rw [Nat.add_mul_mod_self_left, Nat.mod_eq_of_lt (by omega)]
    have m2 : (yn + p * vl p b) % p = yn := by rw [Nat.add_mul_mod_self_left, Nat.mod_eq_of_lt (by omega)]
    have d1 : (xn + p * vl p a) / p = vl p a := by rw [Nat.add_mul_div_left _ _ hp, Nat.div_eq_of_lt (by omega), Nat.zero_add]
    have d2 : (yn + p * vl p b) / p = vl p b := by rw [Nat.add_mul_div_left _ _ hp, Nat.div_eq_of_lt (by omega), Nat.zero_add]
    rw [vl, vl, vl, List.length_cons, addN, ih, hz, Int.toNat_natCast, Int.toNat_natCast, Int.toNat_natCast, m1, m2, d1, d2]
end
section
variable {pn mn : Nat} {md : List Int}
theorem Fld.p256 (F : Fld pn mn md) : pn ≤ 256 := by
  have h1 : pn ^ 1 ≤ pn ^ mn := Nat.pow_le_pow_right (by have := F.p2; omega) F.m1
  have h2 := F.q256
  rw [Nat.pow_one] at h1
  omega
theorem Fld.q2 (F : Fld pn mn md) : 2 ≤ pn ^ mn := by
  have h1 : pn ^ 1 ≤ pn ^ mn := Nat.pow_le_pow_right (by have := F.p2; omega) F.m1
  have h2 := F.p2
  rw [Nat.pow_one] at h1
  omega
theorem rOrderF_at (F : Fld pn mn md) : ∀ (d i : Nat), d + i = mn → Ev (fun k => codewrightref04_Order.l0 k ((pn ^ i : Nat) : Int) (i : Int) (pn : Int) (mn : Int) md) ((pn ^ mn : Nat) : Int) := by
  have hp := F.p2
  have hm := F.m8
  have hq := F.q256
  intro d
  induction d with
  | zero =>
    intro i hd
    obtain rfl : i = mn := by omega
    refine Ev.succ (Ev.of fun k => ?_)
    rw [codewrightref04_Order.l0, if_neg (by omega)]
  | succ d ih =>
    intro i hd
    have hle : pn ^ (i + 1) ≤ 256 := Nat.le_trans (Nat.pow_le_pow_right (by omega) (by omega)) hq
    have h1 : pn ^ i ≤ 256 / pn := (Nat.le_div_iff_mul_le (by omega)).2 (by rw [← Nat.pow_succ]; exact hle)
    have hdiv : wrap64 ((256 : Int) / (pn : Int)) = ((256 / pn : Nat) : Int) := by
      have : (256 : Int) / (pn : Int) = ((256 / pn : Nat) : Int) := rfl
      have h2 : 256 / pn ≤ 256 := Nat.div_le_self _ _
      rw [this]
      clear h1
      generalize 256 / pn = z at h2 ⊢
      rw [w64 (by omega) (by omega)]
    have hmul : wrap64 (((pn ^ i : Nat) : Int) * (pn : Int)) = ((pn ^ (i + 1) : Nat) : Int) := by
      rw [← Int.natCast_mul, ← Nat.pow_succ]
      clear hdiv h1
      show wrap64 ((pn ^ (i + 1) : Nat) : Int) = _
      generalize pn ^ (i + 1) = z at hle ⊢
      rw [w64 (by omega) (by omega)]
    have hng : ¬ ((pn ^ i : Nat) : Int) > ((256 / pn : Nat) : Int) := by
      have := Int.ofNat_le.2 h1
      omega
    refine Ev.succ ((ih (i + 1) (by omega)).congr fun k => ?_)
    rw [codewrightref04_Order.l0, if_pos (by clear hng hdiv hmul h1; omega), if_neg (by clear hng hdiv hmul h1; omega), hdiv, if_neg hng, hmul, wsucc (by clear hng hdiv hmul h1; omega)]
theorem rOrderF (F : Fld pn mn md) : Ev (fun k => codewrightref04_Order.f k (pn : Int) (mn : Int) md) ((pn ^ mn : Nat) : Int) := by
  have hp := F.p2
  have hm1 := F.m1
  have hm := F.m8
  unfold codewrightref04_Order.f
  refine Ev.neg (by omega) (Ev.neg (by omega) ?_)
  rw [decide_eq_false (by omega)]
  refine Ev.succ ?_
  conv => enter [1, k]; rw [codewrightref04_Order.j0, if_neg (by decide)]
  exact rOrderF_at F mn 0 (by omega)
def inn (q : Nat) (x : Int) : Nat := if 0 ≤ x ∧ x < (q : Int) then x.toNat else 0
theorem inn_lt {q : Nat} (hq : 0 < q) (x : Int) : inn q x < q := by unfold inn; split <;> omega
theorem inn_nat {q a : Nat} (h : a < q) : inn q (a : Int) = a := by unfold inn; rw [if_pos (by omega), Int.toNat_natCast]
theorem rInF (F : Fld pn mn md) (x : Int) : Ev (fun k => codewrightref04_In.f k (pn : Int) (mn : Int) md x) ((inn (pn ^ mn) x : Nat) : Int) := by
  have is : Ev (fun k => codewrightref04_Is.f k (pn : Int) (mn : Int) md x) (decide (0 ≤ x ∧ x < ((pn ^ mn : Nat) : Int))) := by
    unfold codewrightref04_Is.f
    refine Ev.ite (fun h => ?_) fun h => ?_
    · have e : decide (0 ≤ x ∧ x < ((pn ^ mn : Nat) : Int)) = decide (x < ((pn ^ mn : Nat) : Int)) := by
        congr 1; exact propext ⟨fun a => a.2, fun a => ⟨h, a⟩⟩
      rw [e]
      exact Ev.bind (rOrderF F) (Ev.const _)
    · rw [decide_eq_false (fun a => h a.1)]; exact Ev.const _
  unfold codewrightref04_In.f
  refine Ev.bind is (Ev.ite (fun h => ?_) fun h => ?_)
  · have h' := of_decide_eq_true h
    have e : ((inn (pn ^ mn) x : Nat) : Int) = x := by unfold inn; rw [if_pos h']; omega
    rw [e]; exact Ev.const _
  · have h' : ¬ (0 ≤ x ∧ x < ((pn ^ mn : Nat) : Int)) := fun a => h (decide_eq_true a)
    have e : ((inn (pn ^ mn) x : Nat) : Int) = 0 := by unfold inn; rw [if_neg h']; rfl
    rw [e]; exact Ev.const _
theorem set_snoc (pre : List Int) (d : Nat) (v : Int) : (pre ++ List.replicate (d + 1) 0).set pre.length v = (pre ++ [v]) ++ List.replicate d 0 := by
  rw [List.set_append_right _ _ (Nat.le_refl _), Nat.sub_self, List.replicate_succ, List.set_cons_zero, List.append_assoc]; rfl
theorem rdigits_at (hp : 2 ≤ pn) (hm : mn ≤ 8) : ∀ (d i x : Nat) (pre : List Int), d + i = mn → pre.length = i → x < 4611686018427387904 → Ev (fun k => codewrightref04_digits.l0 k (x : Int) (pn : Int) (mn : Int) (pre ++ List.replicate d 0) (i : Int)) (pre ++ dl pn d x) := by
  intro d
  induction d with
  | zero =>
    intro i x pre hd hpre hx
    refine Ev.succ (Ev.of fun k => ?_)
    rw [codewrightref04_digits.l0, if_neg (by omega)]; rfl
  | succ d ih =>
    intro i x pre hd hpre hx
    have hdx : x / pn ≤ x := Nat.div_le_self _ _
    have e := ih (i + 1) (x / pn) (pre ++ [((x % pn : Nat) : Int)]) (by omega) (by rw [List.length_append, hpre]; rfl) (by omega)
    have hq : wrap64 (Int.tdiv (x : Int) (pn : Int)) = ((x / pn : Nat) : Int) := by
      rw [Int.tdiv_eq_ediv_of_nonneg (Int.natCast_nonneg x), ← Int.natCast_ediv]
      generalize x / pn = z at hdx ⊢
      rw [w64 (by omega) (by omega)]
    have hmo : Int.tmod (x : Int) (pn : Int) = ((x % pn : Nat) : Int) := by rw [Int.tmod_eq_emod_of_nonneg (Int.natCast_nonneg x)]; rfl
    have hl : (i : Int) < ((pre ++ List.replicate (d + 1) 0).length : Int) := by rw [List.length_append, List.length_replicate]; omega
    rw [List.append_assoc pre _ (dl pn d (x / pn))] at e
    refine Ev.succ (Ev.congr' (e.congr fun k => ?_) rfl)
    rw [codewrightref04_digits.l0, if_pos (by omega), if_neg (by omega), if_pos (Int.natCast_nonneg i), if_pos hl, hq, hmo, Int.toNat_natCast, wsucc (by omega)]
    have hs := set_snoc pre d ((x % pn : Nat) : Int)
    rw [hpre] at hs
    rw [hs]
theorem rDigitsF (F : Fld pn mn md) {a : Nat} (ha : a < pn ^ mn) : Ev (fun k => codewrightref04_Digits.f k (pn : Int) (mn : Int) md (a : Int)) (dl pn mn a) := by
  have h := rInF F (a : Int)
  rw [inn_nat ha] at h
  have hq := F.q256
  have hm := F.m8
  unfold codewrightref04_Digits.f
  refine Ev.bind h (Ev.bind ?_ (Ev.const _))
  unfold codewrightref04_digits.f
  rw [Int.toNat_natCast]
  exact Ev.pos (Int.natCast_nonneg _) (Ev.pos (by omega) (rdigits_at F.p2 hm mn 0 a [] (by omega) rfl (by omega)))
theorem rValue_at (F : Fld pn mn md) {l : List Int} (hl : l.length = mn) (hd : Dg pn l) : ∀ n, n ≤ mn → Ev (fun k => codewrightref04_Value.l0 k l ((vl pn (l.drop n) : Nat) : Int) (wrap64 ((n : Int) - 1)) (pn : Int) (mn : Int) md) ((vl pn l : Nat) : Int) := by
  have hm := F.m8
  intro n
  induction n with
  | zero =>
    intro _
    rw [List.drop_zero, w64 (by omega) (by omega)]
    refine Ev.succ (Ev.of fun k => ?_)
    rw [codewrightref04_Value.l0, if_neg (by omega)]
  | succ n ih =>
    intro hn
    have hi : n < l.length := by omega
    have e := ih (by omega)
    have hx := hd l[n] (List.getElem_mem hi)
    have hdr : l.drop n = l[n] :: l.drop (n + 1) := List.drop_eq_getElem_cons hi
    have hv : vl pn (l.drop n) = l[n].toNat + pn * vl pn (l.drop (n + 1)) := by rw [hdr, vl]
    have hlt : vl pn (l.drop n) < pn ^ mn := Nat.lt_of_lt_of_le (vl_lt fun x h => hd x (List.mem_of_mem_drop h)) (Nat.pow_le_pow_right (by have := F.p2; omega) (by rw [List.length_drop]; omega))
    have hq := F.q256
    have hb : pn * vl pn (l.drop (n + 1)) ≤ vl pn (l.drop n) := by rw [hv]; exact Nat.le_add_left _ _
    have w1 : wrap64 (((vl pn (l.drop (n + 1)) : Nat) : Int) * (pn : Int)) = ((pn * vl pn (l.drop (n + 1)) : Nat) : Int) := by
      rw [← Int.natCast_mul, Nat.mul_comm]
      generalize pn * vl pn (l.drop (n + 1)) = z at hb ⊢
      rw [w64 (by omega) (by omega)]
    have w2 : wrap64 (((pn * vl pn (l.drop (n + 1)) : Nat) : Int) + l[n]) = ((vl pn (l.drop n) : Nat) : Int) := by
      have : ((pn * vl pn (l.drop (n + 1)) : Nat) : Int) + l[n] = ((vl pn (l.drop n) : Nat) : Int) := by
        rw [hv]
        generalize pn * vl pn (l.drop (n + 1)) = z
        omega
      rw [this]
      clear hb w1 hv this
      generalize vl pn (l.drop n) = z at hlt ⊢
      rw [w64 (by omega) (by omega)]
    rw [wpred (by omega)]
    refine Ev.succ (e.congr fun k => ?_)
    rw [codewrightref04_Value.l0, if_pos (by omega), if_pos (Int.natCast_nonneg n), if_pos (by omega), rd_eq l n hi, w1, w2]
theorem rValueF (F : Fld pn mn md) {l : List Int} (hl : l.length = mn) (hd : Dg pn l) : Ev (fun k => codewrightref04_Value.f k (pn : Int) (mn : Int) md l) ((vl pn l : Nat) : Int) := by
  have := rValue_at F hl hd mn (Nat.le_refl _)
  rw [List.drop_eq_nil_of_le (by omega)] at this
  unfold codewrightref04_Value.f
  rw [hl]
  exact this
theorem Dg_set {p : Nat} {l : List Int} (h : Dg p l) {i : Nat} {v : Int} (h0 : 0 ≤ v) (h1 : v < (p : Int)) : Dg p (l.set i v) := fun x hx => by
  rcases List.mem_or_eq_of_mem_set hx with h' | rfl
  · exact h x h'
  · exact ⟨h0, h1⟩
theorem rAddF (F : Fld pn mn md) {a b : Nat} (ha : a < pn ^ mn) (hb : b < pn ^ mn) : Ev (fun k => codewrightref04_Add.f k (pn : Int) (mn : Int) md (a : Int) (b : Int)) ((addN pn mn a b : Nat) : Int) := by
  have hp := F.p2
  have hm := F.m8
  have h256 := F.p256
  have dA := Dg_dl (p := pn) (by omega) mn a
  have dB := Dg_dl (p := pn) (by omega) mn b
  have lA := dl_length (p := pn) mn a
  have lB := dl_length (p := pn) mn b
  have loop : ∀ (d i : Nat) (z : List Int), d + i = mn → z.length = mn → Dg pn z → (∀ j, lb z j = if j < i then (lb (dl pn mn a) j + lb (dl pn mn b) j) % (pn : Int) else lb (dl pn mn a) j) → Ev (fun k => codewrightref04_Add.l0 k z (dl pn mn b) (i : Int) (pn : Int) (mn : Int) md) ((addN pn mn a b : Nat) : Int) := by
    intro d
    induction d with
    | zero =>
      intro i z hd hz hdz hj
      refine Ev.succ ?_
      conv => enter [1, k]; rw [codewrightref04_Add.l0, if_neg (show ¬ (i : Int) < (z.length : Int) by omega)]
      have hv := vl_add (p := pn) (by omega) dA dB (by rw [lA, hz]) (by rw [lB, hz]) (c := z) fun j => by
        rw [hj]
        by_cases h : j < i
        · rw [if_pos h]
        · rw [if_neg h, lb_of_ge (a := dl pn mn a) (by omega), lb_of_ge (a := dl pn mn b) (by omega)]; simp
      have e := rValueF F hz hdz
      rw [hv, hz, vl_dl (by omega) mn a ha, vl_dl (by omega) mn b hb] at e
      exact Ev.bind e (Ev.const _)
    | succ d ih =>
      intro i z hd hz hdz hj
      have ba := lb_dg (by omega) dA i
      have bb := lb_dg (by omega) dB i
      have hzi : lb z i = lb (dl pn mn a) i := by rw [hj, if_neg (by omega)]
      have hw : Int.tmod (wrap64 (lb (dl pn mn a) i + lb (dl pn mn b) i)) (pn : Int) = (lb (dl pn mn a) i + lb (dl pn mn b) i) % (pn : Int) := by
        rw [w64 (by omega) (by omega), Int.tmod_eq_emod_of_nonneg (by omega)]
      have r0 := Int.emod_nonneg (lb (dl pn mn a) i + lb (dl pn mn b) i) (show (pn : Int) ≠ 0 by omega)
      have r1 := Int.emod_lt_of_pos (lb (dl pn mn a) i + lb (dl pn mn b) i) (show (0 : Int) < (pn : Int) by omega)
      have e := ih (i + 1) (z.set i ((lb (dl pn mn a) i + lb (dl pn mn b) i) % (pn : Int))) (by omega) (by rw [List.length_set]; exact hz) (Dg_set hdz r0 r1) fun j => by
        rw [lb_set (by omega)]
        by_cases h : i = j
        · subst h; rw [if_pos rfl, if_pos (by omega)]
        · rw [if_neg h, hj]
          by_cases h2 : j < i
          · rw [if_pos h2, if_pos (by omega)]
          · rw [if_neg h2, if_neg (by omega)]
      refine Ev.succ (e.congr fun k => ?_)
      rw [codewrightref04_Add.l0, if_pos (by clear hw r0 r1; omega), if_pos (Int.natCast_nonneg i), if_pos (by clear hw r0 r1; omega), if_neg (by clear hw r0 r1; omega), rd_lb, rd_lb, hzi, hw, Int.toNat_natCast, wsucc (by clear hw r0 r1; omega)]
  unfold codewrightref04_Add.f
  exact Ev.bind (rDigitsF F ha) (Ev.bind (rDigitsF F hb) (loop mn 0 _ (by omega) lA dA fun j => by rw [if_neg (by omega)]))
end
end Go.Proofs.Ythheakfgmombdaa.Num
end
section
namespace Go.Proofs.Ythheakfgmombdaa.Num
set_option linter.unusedVariables false
open Go.RowKit Go.Proofs.YthheakfgmombdaaX.PrintWords Go.Proofs.YthheakfgmombdaaX.PrintMore Go.Proofs.Ythheakfgmombdaa.F
theorem emod_of {a b P w : Int} (h : a = b + P * w) : a % P = b % P := by rw [h, Int.add_mul_emod_self_left]
theorem lin_step {P z1 z2 x1 x2 y : Int} : ((z1 + z2) % P + (x1 + x2) % P * y) % P = ((z1 + x1 * y) % P + (z2 + x2 * y) % P) % P := by
  rw [← Int.add_emod]
  have e1 := Int.mul_ediv_add_emod (z1 + z2) P
  have e2 := Int.mul_ediv_add_emod (x1 + x2) P
  refine emod_of (w := -((z1 + z2) / P) - ((x1 + x2) / P) * y) ?_
  generalize (z1 + z2) % P = r1 at *
  generalize (x1 + x2) % P = r2 at *
  generalize (z1 + z2) / P = q1 at *
  generalize (x1 + x2) / P = q2 at *
  grind
theorem lin_step2 {P z1 z2 x1 x2 y : Int} : ((z1 + z2) % P + (P - (x1 + x2) % P) * y) % P = ((z1 + (P - x1) * y) % P + (z2 + (P - x2) * y) % P) % P := by
  rw [← Int.add_emod]
  have e1 := Int.mul_ediv_add_emod (z1 + z2) P
  have e2 := Int.mul_ediv_add_emod (x1 + x2) P
  refine emod_of (w := -((z1 + z2) / P) + ((x1 + x2) / P) * y - y) ?_
  generalize (z1 + z2) % P = r1 at *
  generalize (x1 + x2) % P = r2 at *
  generalize (z1 + z2) / P = q1 at *
  generalize (x1 + x2) / P = q2 at *
  grind
structure Rel (p n : Nat) (z1 z2 z3 : List Int) : Prop where
  l1 : z1.length = n
  l2 : z2.length = n
  l3 : z3.length = n
  d1 : Dg p z1
  d2 : Dg p z2
  d3 : Dg p z3
  s : ∀ j, lb z3 j = (lb z1 j + lb z2 j) % (p : Int)
theorem Rel.set {p n : Nat} {z1 z2 z3 : List Int} (h : Rel p n z1 z2 z3) {i : Nat} (hi : i < n) {v1 v2 v3 : Int} (a1 : 0 ≤ v1 ∧ v1 < (p : Int)) (a2 : 0 ≤ v2 ∧ v2 < (p : Int)) (a3 : 0 ≤ v3 ∧ v3 < (p : Int)) (hv : v3 = (v1 + v2) % (p : Int)) : Rel p n (z1.set i v1) (z2.set i v2) (z3.set i v3) where
  l1 := by rw [List.length_set]; exact h.l1
  l2 := by rw [List.length_set]; exact h.l2
  l3 := by rw [List.length_set]; exact h.l3
  d1 := Dg_set h.d1 a1.1 a1.2
  d2 := Dg_set h.d2 a2.1 a2.2
  d3 := Dg_set h.d3 a3.1 a3.2
  s := fun j => by
    have h1 := h.l1
    have h2 := h.l2
    have h3 := h.l3
    rw [lb_set (by omega), lb_set (by omega), lb_set (by omega)]
    by_cases e : i = j
    · rw [if_pos e, if_pos e, if_pos e]; exact hv
    · rw [if_neg e, if_neg e, if_neg e]; exact h.s j
def Three (p m : Nat) (f1 f2 f3 : Nat → Option Int) : Prop := ∃ v1 v2 : Nat, (v1 < p ^ m ∧ v2 < p ^ m) ∧ Ev f1 (v1 : Int) ∧ Ev f2 (v2 : Int) ∧ Ev f3 ((addN p m v1 v2 : Nat) : Int)
theorem Three.step {p m : Nat} {f1 f2 f3 g1 g2 g3 : Nat → Option Int} (h : Three p m g1 g2 g3) (e1 : ∀ k, f1 (k + 1) = g1 k) (e2 : ∀ k, f2 (k + 1) = g2 k) (e3 : ∀ k, f3 (k + 1) = g3 k) : Three p m f1 f2 f3 := by
  obtain ⟨v1, v2, hv, a1, a2, a3⟩ := h
  exact ⟨v1, v2, hv, Ev.succ (a1.congr e1), Ev.succ (a2.congr e2), Ev.succ (a3.congr e3)⟩
section
variable {pn mn : Nat} {md : List Int}
theorem mbound {x y z : Int} {p : Int} (x0 : 0 ≤ x) (x1 : x < p) (y0 : 0 ≤ y) (y1 : y < p) (z0 : 0 ≤ z) (z1 : z < p) (hp : p ≤ 256) : 0 ≤ x * y ∧ x * y ≤ 65536 ∧ 0 ≤ z + x * y ∧ z + x * y ≤ 70000 := by
  have h1 := Int.mul_nonneg x0 y0
  have h2 : x * y ≤ 256 * 256 := Int.mul_le_mul (by omega) (by omega) y0 (by omega)
  omega
theorem tm {x p : Int} (h : 0 ≤ x) (hb : x < 9223372036854775808) : Int.tmod (wrap64 x) p = x % p := by rw [w64 (by omega) hb, Int.tmod_eq_emod_of_nonneg h]
theorem mul_l2 (F : Fld pn mn md) (hmd : mn ≠ 1) : ∀ (n : Nat) (z1 z2 z3 : List Int), n ≤ 2 * mn - 1 → mn ≤ n → Rel pn (2 * mn - 1) z1 z2 z3 → Three pn mn (fun k => codewrightref04_Mul.l2 k z1 (wrap64 ((n : Int) - 1)) (pn : Int) (mn : Int) md) (fun k => codewrightref04_Mul.l2 k z2 (wrap64 ((n : Int) - 1)) (pn : Int) (mn : Int) md) (fun k => codewrightref04_Mul.l2 k z3 (wrap64 ((n : Int) - 1)) (pn : Int) (mn : Int) md) := by
  have hp := F.p2
  have h256 := F.p256
  have hm := F.m8
  have hm1 := F.m1
  obtain ⟨lmd, dmd⟩ := F.sym hmd
  have last : ∀ (z1 z2 z3 : List Int), Rel pn (2 * mn - 1) z1 z2 z3 → Three pn mn (fun k => codewrightref04_Mul.l2 k z1 (wrap64 ((mn : Int) - 1)) (pn : Int) (mn : Int) md) (fun k => codewrightref04_Mul.l2 k z2 (wrap64 ((mn : Int) - 1)) (pn : Int) (mn : Int) md) (fun k => codewrightref04_Mul.l2 k z3 (wrap64 ((mn : Int) - 1)) (pn : Int) (mn : Int) md) := fun z1 z2 z3 h => by
    have one : ∀ {z : List Int}, z.length = 2 * mn - 1 → Dg pn z → Ev (fun k => codewrightref04_Mul.l2 k z (wrap64 ((mn : Int) - 1)) (pn : Int) (mn : Int) md) ((vl pn (z.take mn) : Nat) : Int) := fun {z} hl hd => by
      have e := rValueF F (l := z.take mn) (by rw [List.length_take]; omega) (fun x hx => hd x (List.mem_of_mem_take hx))
      refine Ev.succ ?_
      rw [w64 (by omega) (by omega)]
      conv => enter [1, k]; rw [codewrightref04_Mul.l2, if_neg (show ¬ ((mn : Int) - 1) ≥ (mn : Int) by omega), if_pos (Int.natCast_nonneg mn), if_pos (show (mn : Int) ≤ (z.length : Int) by omega), Int.toNat_natCast]
      exact Ev.bind e (Ev.const _)
    have lbt : ∀ (z : List Int) (j : Nat), lb (z.take mn) j = if j < mn then lb z j else 0 := fun z j => by
      unfold lb
      rw [List.getD_eq_getElem?_getD, List.getD_eq_getElem?_getD, List.getElem?_take]
      by_cases h : j < mn
      · rw [if_pos h, if_pos h]
      · rw [if_neg h, if_neg h]; rfl
    have t1 : (z1.take mn).length = mn := by rw [List.length_take, h.l1]; omega
    have t2 : (z2.take mn).length = mn := by rw [List.length_take, h.l2]; omega
    have t3 : (z3.take mn).length = mn := by rw [List.length_take, h.l3]; omega
    have g1 : Dg pn (z1.take mn) := fun x hx => h.d1 x (List.mem_of_mem_take hx)
    have g2 : Dg pn (z2.take mn) := fun x hx => h.d2 x (List.mem_of_mem_take hx)
    have hv := vl_add (p := pn) (by omega) g1 g2 (c := z3.take mn) (by rw [t1, t3]) (by rw [t2, t3]) fun j => by
      rw [lbt, lbt, lbt]
      by_cases hj : j < mn
      · rw [if_pos hj, if_pos hj, if_pos hj]; exact h.s j
      · rw [if_neg hj, if_neg hj, if_neg hj]; simp
    rw [t3] at hv
    refine ⟨vl pn (z1.take mn), vl pn (z2.take mn), ⟨by have := vl_lt g1; rwa [t1] at this, by have := vl_lt g2; rwa [t2] at this⟩, one h.l1 h.d1, one h.l2 h.d2, ?_⟩
    rw [← hv]; exact one h.l3 h.d3
  have inner : ∀ (t : Nat), mn ≤ t → t < 2 * mn - 1 → (∀ z1 z2 z3, Rel pn (2 * mn - 1) z1 z2 z3 → Three pn mn (fun k => codewrightref04_Mul.l2 k z1 (wrap64 ((t : Int) - 1)) (pn : Int) (mn : Int) md) (fun k => codewrightref04_Mul.l2 k z2 (wrap64 ((t : Int) - 1)) (pn : Int) (mn : Int) md) (fun k => codewrightref04_Mul.l2 k z3 (wrap64 ((t : Int) - 1)) (pn : Int) (mn : Int) md)) →
      ∀ (d j : Nat) (z1 z2 z3 : List Int), d + j = mn → Rel pn (2 * mn - 1) z1 z2 z3 → Three pn mn (fun k => codewrightref04_Mul.l3 k z1 (t : Int) (j : Int) (pn : Int) (mn : Int) md) (fun k => codewrightref04_Mul.l3 k z2 (t : Int) (j : Int) (pn : Int) (mn : Int) md) (fun k => codewrightref04_Mul.l3 k z3 (t : Int) (j : Int) (pn : Int) (mn : Int) md) := by
    intro t ht1 ht2 next d
    induction d with
    | zero =>
      intro j z1 z2 z3 hd h
      have st : ∀ (z : List Int) (k : Nat), codewrightref04_Mul.l3 (k + 1) z (t : Int) (j : Int) (pn : Int) (mn : Int) md = codewrightref04_Mul.l2 k z (wrap64 ((t : Int) - 1)) (pn : Int) (mn : Int) md := fun z k => by
        rw [codewrightref04_Mul.l3, if_neg (by omega)]
      exact (next z1 z2 z3 h).step (st z1) (st z2) (st z3)
    | succ d ih =>
      intro j z1 z2 z3 hd h
      have hj : j < mn := by omega
      have hmj : 0 ≤ lb md j ∧ lb md j < (pn : Int) := lb_dg (by omega) dmd j
      have bnd : ∀ {z : List Int}, Dg pn z → (0 ≤ (pn : Int) - lb z t ∧ (pn : Int) - lb z t ≤ 256) := fun {z} hz => by
        have := lb_dg (by omega) hz t
        omega
      have bd : ∀ {z : List Int}, Dg pn z → 0 ≤ ((pn : Int) - lb z t) * lb md j ∧ ((pn : Int) - lb z t) * lb md j ≤ 65536 ∧ 0 ≤ lb z (t - mn + j) + ((pn : Int) - lb z t) * lb md j ∧ lb z (t - mn + j) + ((pn : Int) - lb z t) * lb md j ≤ 70000 := fun {z} hz => by
        have b1 := bnd hz
        have b2 := lb_dg (by omega) hz (t - mn + j)
        have h1 := Int.mul_nonneg b1.1 hmj.1
        have h2 : ((pn : Int) - lb z t) * lb md j ≤ 256 * 256 := Int.mul_le_mul b1.2 (by omega) hmj.1 (by omega)
        omega
      have st : ∀ {z : List Int}, z.length = 2 * mn - 1 → Dg pn z → ∀ k, codewrightref04_Mul.l3 (k + 1) z (t : Int) (j : Int) (pn : Int) (mn : Int) md = codewrightref04_Mul.l3 k (z.set (t - mn + j) ((lb z (t - mn + j) + ((pn : Int) - lb z t) * lb md j) % (pn : Int))) (t : Int) ((j + 1 : Nat) : Int) (pn : Int) (mn : Int) md := fun {z} hl hz k => by
        have b := bd hz
        have b1 := bnd hz
        have w1 : wrap64 ((t : Int) - (mn : Int)) = ((t - mn : Nat) : Int) := by rw [w64 (by clear b; omega) (by clear b; omega)]; clear b; omega
        have w2 : wrap64 (((t - mn : Nat) : Int) + (j : Int)) = ((t - mn + j : Nat) : Int) := by rw [w64 (by clear b w1; omega) (by clear b w1; omega)]; clear b w1; omega
        have w3 : wrap64 ((pn : Int) - lb z t) = (pn : Int) - lb z t := w64 (by clear b w1 w2; omega) (by clear b w1 w2; omega)
        have g1 : (j : Int) < (mn : Int) := by clear b w1 w2 w3; omega
        have g2 : ((t - mn + j : Nat) : Int) < (z.length : Int) := by clear b w1 w2 w3; omega
        have g3 : (t : Int) < (z.length : Int) := by clear b w1 w2 w3; omega
        have g4 : (j : Int) < (md.length : Int) := by clear b w1 w2 w3; omega
        have g5 : ¬ (pn : Int) = 0 := by clear b w1 w2 w3; omega
        have g6 : j < 4611686018427387904 := by clear b w1 w2 w3; omega
        generalize hP : ((pn : Int) - lb z t) * lb md j = P at b
        have w4 : wrap64 P = P := w64 (by clear w1 w2 w3; omega) (by clear w1 w2 w3; omega)
        have w5 : Int.tmod (wrap64 (lb z (t - mn + j) + P)) (pn : Int) = (lb z (t - mn + j) + P) % (pn : Int) := tm b.2.2.1 (by clear w1 w2 w3 w4; omega)
        rw [codewrightref04_Mul.l3, if_pos g1, w1, w2, if_pos (Int.natCast_nonneg _), if_pos g2, if_pos (Int.natCast_nonneg t), if_pos g3, if_pos (Int.natCast_nonneg j), if_pos g4, if_neg g5, rd_lb, rd_lb, rd_lb, w3, hP, w4, w5, Int.toNat_natCast, wsucc g6]
      have rng : ∀ x : Int, 0 ≤ x % (pn : Int) ∧ x % (pn : Int) < (pn : Int) := fun x => ⟨Int.emod_nonneg x (by omega), Int.emod_lt_of_pos x (by omega)⟩
      refine (ih (j + 1) _ _ _ (by omega) (h.set (i := t - mn + j) (by omega) (rng _) (rng _) (rng _) ?_)).step (st h.l1 h.d1) (st h.l2 h.d2) (st h.l3 h.d3)
      rw [h.s (t - mn + j), h.s t]
      exact lin_step2
  intro n
  induction n with
  | zero => intro z1 z2 z3 h1 h2 h; omega
  | succ n ih =>
    intro z1 z2 z3 h1 h2 h
    by_cases hn : mn = n + 1
    · rw [← hn]; exact last z1 z2 z3 h
    · have st : ∀ (z : List Int) (k : Nat), codewrightref04_Mul.l2 (k + 1) z (wrap64 (((n + 1 : Nat) : Int) - 1)) (pn : Int) (mn : Int) md = codewrightref04_Mul.l3 k z (n : Int) 0 (pn : Int) (mn : Int) md := fun z k => by
        rw [wpred (by omega), codewrightref04_Mul.l2, if_pos (by omega)]
      exact (inner n (by omega) (by omega) (fun z1 z2 z3 h => ih z1 z2 z3 (by omega) (by omega) h) mn 0 z1 z2 z3 (by omega) h).step (st z1) (st z2) (st z3)
theorem mul_red (F : Fld pn mn md) {z1 z2 z3 : List Int} (h : Rel pn (2 * mn - 1) z1 z2 z3) : Three pn mn (fun k => codewrightref04_Mul.l2 k z1 (wrap64 (((2 * mn - 1 : Nat) : Int) - 1)) (pn : Int) (mn : Int) md) (fun k => codewrightref04_Mul.l2 k z2 (wrap64 (((2 * mn - 1 : Nat) : Int) - 1)) (pn : Int) (mn : Int) md) (fun k => codewrightref04_Mul.l2 k z3 (wrap64 (((2 * mn - 1 : Nat) : Int) - 1)) (pn : Int) (mn : Int) md) := by
  have hm1 := F.m1
  have hp := F.p2
  by_cases hmd : mn = 1
  · subst hmd
    have one : ∀ {z : List Int}, z.length = 1 → Dg pn z → Ev (fun k => codewrightref04_Mul.l2 k z (wrap64 (((2 * 1 - 1 : Nat) : Int) - 1)) (pn : Int) ((1 : Nat) : Int) md) ((vl pn z : Nat) : Int) := fun {z} hl hd => by
      have e := rValueF F (l := z) hl hd
      have ht : z.take 1 = z := List.take_of_length_le (by omega)
      refine Ev.succ ?_
      rw [w64 (by decide) (by decide)]
      conv => enter [1, k]; rw [codewrightref04_Mul.l2, if_neg (by decide), if_pos (by decide), if_pos (show ((1 : Nat) : Int) ≤ (z.length : Int) by omega), Int.toNat_natCast, ht]
      exact Ev.bind e (Ev.const _)
    have l1 := h.l1
    have l2 := h.l2
    have l3 := h.l3
    have hv := vl_add (p := pn) (by omega) h.d1 h.d2 (c := z3) (by omega) (by omega) h.s
    have e3 : z3.length = 1 := by omega
    rw [e3] at hv
    refine ⟨vl pn z1, vl pn z2, ⟨by have := vl_lt h.d1; rwa [show z1.length = 1 by omega] at this, by have := vl_lt h.d2; rwa [show z2.length = 1 by omega] at this⟩, one (by omega) h.d1, one (by omega) h.d2, ?_⟩
    rw [← hv]; exact one e3 h.d3
  · exact mul_l2 F hmd (2 * mn - 1) z1 z2 z3 (Nat.le_refl _) (by omega) h
theorem Rel_zero {p n : Nat} (hp : 0 < p) : Rel p n (List.replicate n 0) (List.replicate n 0) (List.replicate n 0) where
  l1 := List.length_replicate ..
  l2 := List.length_replicate ..
  l3 := List.length_replicate ..
  d1 := fun x hx => by rw [(List.mem_replicate.1 hx).2]; omega
  d2 := fun x hx => by rw [(List.mem_replicate.1 hx).2]; omega
  d3 := fun x hx => by rw [(List.mem_replicate.1 hx).2]; omega
  s := fun j => by rw [lb_replicate]; simp
theorem mul_three (F : Fld pn mn md) {a b r : Nat} (ha : a < pn ^ mn) (hb : b < pn ^ mn) (hr : r < pn ^ mn) : Three pn mn (fun k => codewrightref04_Mul.f k (pn : Int) (mn : Int) md (a : Int) (r : Int)) (fun k => codewrightref04_Mul.f k (pn : Int) (mn : Int) md (b : Int) (r : Int)) (fun k => codewrightref04_Mul.f k (pn : Int) (mn : Int) md ((addN pn mn a b : Nat) : Int) (r : Int)) := by
  have hp := F.p2
  have h256 := F.p256
  have hm := F.m8
  have hm1 := F.m1
  have hc := addN_lt (p := pn) (by omega) mn a b
  have dR := Dg_dl (p := pn) (by omega) mn r
  have lR := dl_length (p := pn) mn r
  have rng : ∀ x : Int, 0 ≤ x % (pn : Int) ∧ x % (pn : Int) < (pn : Int) := fun x => ⟨Int.emod_nonneg x (by omega), Int.emod_lt_of_pos x (by omega)⟩
  have sx := dl_addN (p := pn) (by omega) mn a b
  have l1 : ∀ (i : Nat), i < mn → (∀ z1 z2 z3, Rel pn (2 * mn - 1) z1 z2 z3 → Three pn mn (fun k => codewrightref04_Mul.l0 k (dl pn mn a) (dl pn mn r) z1 ((i + 1 : Nat) : Int) (pn : Int) (mn : Int) md) (fun k => codewrightref04_Mul.l0 k (dl pn mn b) (dl pn mn r) z2 ((i + 1 : Nat) : Int) (pn : Int) (mn : Int) md) (fun k => codewrightref04_Mul.l0 k (dl pn mn (addN pn mn a b)) (dl pn mn r) z3 ((i + 1 : Nat) : Int) (pn : Int) (mn : Int) md)) →
      ∀ (d j : Nat) (z1 z2 z3 : List Int), d + j = mn → Rel pn (2 * mn - 1) z1 z2 z3 → Three pn mn (fun k => codewrightref04_Mul.l1 k (dl pn mn a) (dl pn mn r) z1 (i : Int) (j : Int) (pn : Int) (mn : Int) md) (fun k => codewrightref04_Mul.l1 k (dl pn mn b) (dl pn mn r) z2 (i : Int) (j : Int) (pn : Int) (mn : Int) md) (fun k => codewrightref04_Mul.l1 k (dl pn mn (addN pn mn a b)) (dl pn mn r) z3 (i : Int) (j : Int) (pn : Int) (mn : Int) md) := by
    intro i hi next d
    induction d with
    | zero =>
      intro j z1 z2 z3 hd h
      have st : ∀ (x z : List Int) (k : Nat), codewrightref04_Mul.l1 (k + 1) x (dl pn mn r) z (i : Int) (j : Int) (pn : Int) (mn : Int) md = codewrightref04_Mul.l0 k x (dl pn mn r) z ((i + 1 : Nat) : Int) (pn : Int) (mn : Int) md := fun x z k => by
        rw [codewrightref04_Mul.l1, if_neg (by omega), wsucc (by omega)]
      exact (next z1 z2 z3 h).step (st _ z1) (st _ z2) (st _ z3)
    | succ d ih =>
      intro j z1 z2 z3 hd h
      have hj : j < mn := by omega
      have hy := lb_dg (p := pn) (by omega) dR j
      have st : ∀ {x z : List Int}, x.length = mn → Dg pn x → z.length = 2 * mn - 1 → Dg pn z → ∀ k, codewrightref04_Mul.l1 (k + 1) x (dl pn mn r) z (i : Int) (j : Int) (pn : Int) (mn : Int) md = codewrightref04_Mul.l1 k x (dl pn mn r) (z.set (i + j) ((lb z (i + j) + lb x i * lb (dl pn mn r) j) % (pn : Int))) (i : Int) ((j + 1 : Nat) : Int) (pn : Int) (mn : Int) md := fun {x z} hlx hx hl hz k => by
        have bx := lb_dg (by omega) hx i
        have bz := lb_dg (by omega) hz (i + j)
        have b := mbound bx.1 bx.2 hy.1 hy.2 bz.1 bz.2 (by omega)
        have w2 : wrap64 ((i : Int) + (j : Int)) = ((i + j : Nat) : Int) := by rw [w64 (by clear b; omega) (by clear b; omega)]; rfl
        have g1 : (j : Int) < (mn : Int) := by clear b w2; omega
        have g2 : ((i + j : Nat) : Int) < (z.length : Int) := by clear b w2; omega
        have g3 : (i : Int) < (x.length : Int) := by clear b w2; omega
        have g4 : (j : Int) < ((dl pn mn r).length : Int) := by clear b w2; omega
        have g5 : ¬ (pn : Int) = 0 := by clear b w2; omega
        have g6 : j < 4611686018427387904 := by clear b w2; omega
        generalize hP : lb x i * lb (dl pn mn r) j = P at b
        have w4 : wrap64 P = P := w64 (by clear w2; omega) (by clear w2; omega)
        have w5 : Int.tmod (wrap64 (lb z (i + j) + P)) (pn : Int) = (lb z (i + j) + P) % (pn : Int) := tm b.2.2.1 (by clear w2 w4; omega)
        rw [codewrightref04_Mul.l1, if_pos g1, w2, if_pos (Int.natCast_nonneg _), if_pos g2, if_pos (Int.natCast_nonneg i), if_pos g3, if_pos (Int.natCast_nonneg j), if_pos g4, if_neg g5, rd_lb, rd_lb, rd_lb, hP, w4, w5, Int.toNat_natCast, wsucc g6]
      refine (ih (j + 1) _ _ _ (by omega) (h.set (i := i + j) (by omega) (rng _) (rng _) (rng _) ?_)).step (st (dl_length ..) (Dg_dl (by omega) _ _) h.l1 h.d1) (st (dl_length ..) (Dg_dl (by omega) _ _) h.l2 h.d2) (st (dl_length ..) (Dg_dl (by omega) _ _) h.l3 h.d3)
      rw [h.s (i + j), sx i]
      exact lin_step
  have l0 : ∀ (d i : Nat) (z1 z2 z3 : List Int), d + i = mn → Rel pn (2 * mn - 1) z1 z2 z3 → Three pn mn (fun k => codewrightref04_Mul.l0 k (dl pn mn a) (dl pn mn r) z1 (i : Int) (pn : Int) (mn : Int) md) (fun k => codewrightref04_Mul.l0 k (dl pn mn b) (dl pn mn r) z2 (i : Int) (pn : Int) (mn : Int) md) (fun k => codewrightref04_Mul.l0 k (dl pn mn (addN pn mn a b)) (dl pn mn r) z3 (i : Int) (pn : Int) (mn : Int) md) := by
    intro d
    induction d with
    | zero =>
      intro i z1 z2 z3 hd h
      have w1 : wrap64 (2 * (mn : Int)) = ((2 * mn : Nat) : Int) := by rw [w64 (by omega) (by omega)]; omega
      have w2 : wrap64 (((2 * mn : Nat) : Int) - 2) = wrap64 (((2 * mn - 1 : Nat) : Int) - 1) := by congr 1; omega
      have st : ∀ (x z : List Int) (k : Nat), codewrightref04_Mul.l0 (k + 1) x (dl pn mn r) z (i : Int) (pn : Int) (mn : Int) md = codewrightref04_Mul.l2 k z (wrap64 (((2 * mn - 1 : Nat) : Int) - 1)) (pn : Int) (mn : Int) md := fun x z k => by
        rw [codewrightref04_Mul.l0, if_neg (by clear w1 w2; omega), w1, w2]
      exact (mul_red F h).step (st _ z1) (st _ z2) (st _ z3)
    | succ d ih =>
      intro i z1 z2 z3 hd h
      have st : ∀ (x z : List Int) (k : Nat), codewrightref04_Mul.l0 (k + 1) x (dl pn mn r) z (i : Int) (pn : Int) (mn : Int) md = codewrightref04_Mul.l1 k x (dl pn mn r) z (i : Int) ((0 : Nat) : Int) (pn : Int) (mn : Int) md := fun x z k => by
        rw [codewrightref04_Mul.l0, if_pos (by omega)]; rfl
      exact (l1 i (by omega) (fun z1 z2 z3 h => ih (i + 1) z1 z2 z3 (by omega) h) mn 0 z1 z2 z3 (by omega) h).step (st _ z1) (st _ z2) (st _ z3)
  obtain ⟨v1, v2, hv, e1, e2, e3⟩ := l0 mn 0 _ _ _ (by omega) (Rel_zero (by omega))
  have w1 : wrap64 (2 * (mn : Int)) = ((2 * mn : Nat) : Int) := by rw [w64 (by omega) (by omega)]; omega
  have w2 : wrap64 (((2 * mn : Nat) : Int) - 1) = ((2 * mn - 1 : Nat) : Int) := by rw [w64 (by omega) (by omega)]; omega
  have fin : ∀ {x v : Nat}, x < pn ^ mn → Ev (fun k => codewrightref04_Mul.l0 k (dl pn mn x) (dl pn mn r) (List.replicate (2 * mn - 1) 0) ((0 : Nat) : Int) (pn : Int) (mn : Int) md) (v : Int) → Ev (fun k => codewrightref04_Mul.f k (pn : Int) (mn : Int) md (x : Int) (r : Int)) (v : Int) := fun {x v} hx e => by
    unfold codewrightref04_Mul.f
    refine Ev.bind (rDigitsF F hx) (Ev.bind (rDigitsF F hr) ?_)
    rw [w1, w2, Int.toNat_natCast]
    exact Ev.pos (Int.natCast_nonneg _) (Ev.pos (by clear w1 w2; omega) e)
  exact ⟨v1, v2, hv, fin ha e1, fin hb e2, fin hc e3⟩
theorem mul_fun (F : Fld pn mn md) : ∃ mul : Nat → Nat → Nat, (∀ a r, a < pn ^ mn → r < pn ^ mn → mul a r < pn ^ mn ∧ Ev (fun k => codewrightref04_Mul.f k (pn : Int) (mn : Int) md (a : Int) (r : Int)) ((mul a r : Nat) : Int)) ∧ ∀ a b r, a < pn ^ mn → b < pn ^ mn → r < pn ^ mn → mul (addN pn mn a b) r = addN pn mn (mul a r) (mul b r) := by
  have hp := F.p2
  have ex : ∀ a r, ∃ v : Nat, a < pn ^ mn → r < pn ^ mn → v < pn ^ mn ∧ Ev (fun k => codewrightref04_Mul.f k (pn : Int) (mn : Int) md (a : Int) (r : Int)) (v : Int) := fun a r => by
    by_cases h : a < pn ^ mn ∧ r < pn ^ mn
    · obtain ⟨v1, v2, hv, e1, _⟩ := mul_three F h.1 h.1 h.2
      exact ⟨v1, fun _ _ => ⟨hv.1, e1⟩⟩
    · exact ⟨0, fun h1 h2 => absurd ⟨h1, h2⟩ h⟩
  refine ⟨fun a r => Classical.choose (ex a r), fun a r ha hr => Classical.choose_spec (ex a r) ha hr, fun a b r ha hb hr => ?_⟩
  obtain ⟨v1, v2, hv, e1, e2, e3⟩ := mul_three F ha hb hr
  have s1 := (Classical.choose_spec (ex a r) ha hr).2
  have s2 := (Classical.choose_spec (ex b r) hb hr).2
  have s3 := (Classical.choose_spec (ex (addN pn mn a b) r) (addN_lt (by omega) mn a b) hr).2
  have u1 := Int.ofNat.inj (Ev.unique s1 e1)
  have u2 := Int.ofNat.inj (Ev.unique s2 e2)
  have u3 := Int.ofNat.inj (Ev.unique s3 e3)
  show Classical.choose (ex (addN pn mn a b) r) = addN pn mn (Classical.choose (ex a r)) (Classical.choose (ex b r))
  rw [u1, u2, u3]
end
end Go.Proofs.Ythheakfgmombdaa.Num
end
section
namespace Go.Proofs.Ythheakfgmombdaa.Num
set_option linter.unusedVariables false
open Go.RowKit Go.Proofs.YthheakfgmombdaaX.PrintWords Go.Proofs.YthheakfgmombdaaX.PrintMore Go.Proofs.Ythheakfgmombdaa.F Go.Proofs.Ythheakfgmombdaa.Kraw
end Go.Proofs.Ythheakfgmombdaa.Num
end
section
namespace Go.Proofs.Ythheakfgmombdaa.Lp
set_option linter.unusedVariables false
def sm (f : Nat → Rat) : Nat → Rat
  | 0 => 0
  | n + 1 => sm f n + f n
theorem sm_succ (f : Nat → Rat) (n : Nat) : sm f (n + 1) = sm f n + f n := rfl
theorem sm_congr {f g : Nat → Rat} {n : Nat} (h : ∀ i, i < n → f i = g i) : sm f n = sm g n := by
  induction n with
  | zero => rfl
  | succ n ih => rw [sm_succ, sm_succ, ih fun i hi => h i (by omega), h n (by omega)]
theorem sm_add (f g : Nat → Rat) (n : Nat) : sm (fun i => f i + g i) n = sm f n + sm g n := by
  induction n with
  | zero => show (0 : Rat) = 0 + 0; grind
  | succ n ih => rw [sm_succ, sm_succ, sm_succ, ih]; grind
theorem sm_sub (f g : Nat → Rat) (n : Nat) : sm (fun i => f i - g i) n = sm f n - sm g n := by
  induction n with
  | zero => show (0 : Rat) = 0 - 0; grind
  | succ n ih => rw [sm_succ, sm_succ, sm_succ, ih]; grind
theorem sm_mul (c : Rat) (f : Nat → Rat) (n : Nat) : sm (fun i => c * f i) n = c * sm f n := by
  induction n with
  | zero => show (0 : Rat) = c * 0; grind
  | succ n ih => rw [sm_succ, sm_succ, ih]; grind
theorem sm_zero {f : Nat → Rat} {n : Nat} (h : ∀ i, i < n → f i = 0) : sm f n = 0 := by
  induction n with
  | zero => rfl
  | succ n ih => rw [sm_succ, ih fun i hi => h i (by omega), h n (by omega)]; grind
theorem sm_swap (f : Nat → Nat → Rat) (m n : Nat) : sm (fun i => sm (fun j => f i j) n) m = sm (fun j => sm (fun i => f i j) m) n := by
  induction m with
  | zero => exact (sm_zero fun i _ => rfl).symm
  | succ m ih => rw [sm_succ, ih, ← sm_add]; exact sm_congr fun j _ => rfl
section
variable {m n : Nat} {A : Nat → Nat → Rat} {b c x y : Nat → Rat}
theorem gap (m n : Nat) (A : Nat → Nat → Rat) (b c x y : Nat → Rat) : sm (fun i => y i * (b i - sm (fun j => A i j * x j) n)) m + sm (fun j => x j * (sm (fun i => y i * A i j) m - c j)) n = sm (fun i => b i * y i) m - sm (fun j => c j * x j) n := by
  have e1 : sm (fun i => y i * (b i - sm (fun j => A i j * x j) n)) m = sm (fun i => b i * y i) m - sm (fun i => sm (fun j => y i * A i j * x j) n) m := by
    rw [← sm_sub]
    refine sm_congr fun i _ => ?_
    have : sm (fun j => y i * A i j * x j) n = y i * sm (fun j => A i j * x j) n := by
      rw [← sm_mul]; exact sm_congr fun j _ => by grind
    rw [this]; grind
  have e2 : sm (fun j => x j * (sm (fun i => y i * A i j) m - c j)) n = sm (fun j => sm (fun i => y i * A i j * x j) m) n - sm (fun j => c j * x j) n := by
    rw [← sm_sub]
    refine sm_congr fun j _ => ?_
    have : sm (fun i => y i * A i j * x j) m = x j * sm (fun i => y i * A i j) m := by
      rw [← sm_mul]; exact sm_congr fun i _ => by grind
    rw [this]; grind
  rw [e1, e2, sm_swap]; grind
end
end Go.Proofs.Ythheakfgmombdaa.Lp
end
section
namespace Go.Proofs.Ythheakfgmombdaa.Num
set_option linter.unusedVariables false
open Go.RowKit Go.Proofs.YthheakfgmombdaaX.PrintWords Go.Proofs.YthheakfgmombdaaX.PrintMore Go.Proofs.Ythheakfgmombdaa.F Go.Proofs.Ythheakfgmombdaa.Kraw Go.Proofs.Ythheakfgmombdaa.Lp
theorem rNat {n k : Nat} (h : n < 2 ^ k) (hk : k < 1000000) : Ev (fun k => codewrightref02_Nat.f k (L n)) (T (n : Rat)) := by
  have h1 := lenL h
  have := rMakeL false (n := n) (d := 1) (by omega) (by rw [L_one]; decide)
  rw [L_one, mkRat_one] at this
  have e : ((sg false * (n : Int) : Int) : Rat) = (n : Rat) := by
    show ((1 * (n : Int) : Int) : Rat) = _
    rw [Int.one_mul, Rat.intCast_natCast]
  rw [e] at this
  exact Ev.bind this (Ev.const _)
def tr (q : Nat) (l : List S46) (j : Nat) (m : Nat) : Rat := sm (fun i => val (l.getD i z46) * ((kr (q : Int) (l.length - 1 - i) i j : Int) : Rat)) m
def trans (q : Nat) (l : List S46) : List S46 := (List.range l.length).map fun j => C (tr q l j l.length)
def im (f : Nat → Int) : Nat → Int
  | 0 => 0
  | n + 1 => im f n + f n
theorem im_bump {c : List Int} {d : Nat} (hd : d < c.length) (f : Nat → Int) : ∀ n, im (fun i => lb (bump c d) i * f i) n = im (fun i => lb c i * f i) n + (if d < n then f d else 0)
  | 0 => by rw [if_neg (by omega)]; rfl
  | n + 1 => by
    show im (fun i => lb (bump c d) i * f i) n + lb (bump c d) n * f n = im (fun i => lb c i * f i) n + lb c n * f n + _
    rw [im_bump hd f n]
    have e : lb (bump c d) n = if d = n then lb c d + 1 else lb c n := lb_set hd _ n
    by_cases h : d = n
    · subst h
      rw [e, if_pos rfl, if_neg (by omega), if_pos (by omega)]; grind
    · rw [e, if_neg h]
      by_cases h2 : d < n
      · rw [if_pos h2, if_pos (by omega)]; omega
      · rw [if_neg h2, if_neg (by omega)]; omega
theorem im_inner {n : Nat} {u : List Int} (hu : u.length = n) (f : Nat → Int) : ∀ {ws : List (List Int)} {m : Nat} {c : List Int}, Cnt n m c → im (fun i => lb (inner u ws c) i * f i) (n + 1) = im (fun i => lb c i * f i) (n + 1) + S ws fun v => f (hd u v)
  | [], _, _, _ => by rw [S_nil, Int.add_zero]; rfl
  | v :: ws, m, c, h => by
    have hdn : hd u v ≤ n := by rw [← hu]; exact hd_le u v
    rw [inner_cons, im_inner hu f (ws := ws) (Cnt_bump h hdn), im_bump (by rw [h.1]; omega), if_pos (by omega), S_cons]; omega
theorem im_outer {n : Nat} (f : Nat → Int) {ws : List (List Int)} : ∀ {us : List (List Int)} (hu : ∀ u ∈ us, u.length = n) {m : Nat} {c : List Int}, Cnt n m c → im (fun i => lb (outer us ws c) i * f i) (n + 1) = im (fun i => lb c i * f i) (n + 1) + S us fun u => S ws fun v => f (hd u v)
  | [], _, _, _, _ => by rw [S_nil, Int.add_zero]; rfl
  | u :: us, hu, m, c, h => by
    rw [outer_cons, im_outer f (us := us) (fun v hv => hu v (List.mem_cons_of_mem _ hv)) (Cnt_inner (hu u List.mem_cons_self) (ws := ws) h), im_inner (hu u List.mem_cons_self) f h, S_cons]; omega
theorem im_zero {f : Nat → Int} {n : Nat} (h : ∀ i, i < n → f i = 0) : im f n = 0 := by
  induction n with
  | zero => rfl
  | succ n ih => rw [im, ih fun i hi => h i (by omega), h n (by omega)]; rfl
section
variable {n : Nat} {ws : List (List Int)}
def cnts (n : Nat) (ws : List (List Int)) : List Int := outer ws ws (List.replicate (n + 1) 0)
theorem im_cnts (hlen : ∀ u ∈ ws, u.length = n) (f : Nat → Int) : im (fun i => lb (cnts n ws) i * f i) (n + 1) = S ws fun u => S ws fun v => f (hd u v) := by
  unfold cnts
  rw [im_outer f hlen (Cnt_zero n), im_zero (f := fun i => lb (List.replicate (n + 1) 0) i * f i) fun i _ => by rw [lb_replicate, Int.zero_mul], Int.zero_add]
end
end Go.Proofs.Ythheakfgmombdaa.Num
end
section
namespace Go.Proofs.Ythheakfgmombdaa.F
open Go.RowKit Go.Proofs.YthheakfgmombdaaX.PrintWords Go.Proofs.YthheakfgmombdaaX.PrintLast Go.Proofs.YthheakfgmombdaaX.PrintMore
set_option linter.unusedVariables false
end Go.Proofs.Ythheakfgmombdaa.F
end
section
namespace Go.Proofs.Ythheakfgmombdaa.Num
set_option linter.unusedVariables false
open Go.RowKit Go.Proofs.YthheakfgmombdaaX.PrintWords Go.Proofs.YthheakfgmombdaaX.PrintMore Go.Proofs.Ythheakfgmombdaa.F Go.Proofs.Ythheakfgmombdaa.Kraw Go.Proofs.Ythheakfgmombdaa.Lp
theorem im_pick {f : Nat → Int} {i : Nat} : ∀ {n : Nat}, i < n → im (fun j => f j * one (j = i)) n = f i
  | n + 1, h => by
    show im (fun j => f j * one (j = i)) n + f n * one (n = i) = f i
    by_cases e : n = i
    · subst e
      rw [im_zero fun j hj => by rw [one_neg (by omega), Int.mul_zero], one_pos rfl]; omega
    · rw [im_pick (by omega), one_neg e]; omega
theorem lb_cnts {n : Nat} {ws : List (List Int)} (hlen : ∀ u ∈ ws, u.length = n) {i : Nat} (hi : i < n + 1) : lb (cnts n ws) i = S ws fun u => S ws fun v => one (hd u v = i) := by
  rw [← im_cnts hlen (fun j => one (j = i)), im_pick (f := fun j => lb (cnts n ws) j) hi]
def ps (l : List S46) (m : Nat) : Rat := sm (fun i => val (l.getD i z46)) m
theorem Same_T (q : Rat) {k : Nat} (h : Sz q k) (hk : k < 1000000000) : Ev (fun k => codewrightref02_Same.f k (T q).1 (T q).2.1 (T q).2.2 (T q).1 (T q).2.1 (T q).2.2) true := by
  have h1 := lenL h.1
  have h2 := lenL h.2
  exact rSame02 (C q) (by show (L q.num.natAbs).length < _; omega) (by show (L q.den).length < _; omega)
theorem mem_wchk {q : Int} {n : Nat} {ws : List (List Int)} (h1 : 2 ≤ q) (h2 : q ≤ 256) (h3 : 0 < ws.length) (h4 : 1 ≤ n) (h5 : n ≤ 64) (h6 : ∀ u ∈ ws, u.length = n ∧ sym q u = true) : wchk q ws = 0 ∧ len0 ws = n := by
  cases ws with
  | nil => simp at h3
  | cons w r =>
    have hw := h6 w List.mem_cons_self
    have sc : ∀ l : List (List Int), (∀ u ∈ l, u.length = n ∧ sym q u = true) → scan q n l = 0 := by
      intro l
      induction l with
      | nil => intro _; rfl
      | cons u l ih =>
        intro h
        have hu := h u List.mem_cons_self
        rw [scan_cons hu.1 hu.2]
        exact ih fun v hv => h v (List.mem_cons_of_mem _ hv)
    refine ⟨?_, hw.1⟩
    unfold wchk
    rw [if_pos ⟨h1, h2⟩]
    show (if 1 ≤ w.length ∧ w.length ≤ 64 then scan q w.length (w :: r) else 4) = 0
    rw [hw.1, if_pos ⟨h4, h5⟩]
    exact sc _ h6
end Go.Proofs.Ythheakfgmombdaa.Num
end
section
namespace Go.Proofs.Ythheakfgmombdaa.Num
set_option linter.unusedVariables false
open Go.RowKit Go.Proofs.YthheakfgmombdaaX.PrintWords Go.Proofs.YthheakfgmombdaaX.PrintMore Go.Proofs.Ythheakfgmombdaa.F Go.Proofs.Ythheakfgmombdaa.Kraw
def Wd (q n : Nat) (w : List Int) : Prop := w.length = n ∧ ∀ x ∈ w, 0 ≤ x ∧ x < (q : Int)
def addI (p m : Nat) (x y : Int) : Int := ((addN p m x.toNat y.toNat : Nat) : Int)
def wadd (p m : Nat) (u v : List Int) : List Int := List.zipWith (addI p m) u v
def wmul (mul : Nat → Nat → Nat) (a : Nat) (r : List Int) : List Int := r.map fun x => ((mul a x.toNat : Nat) : Int)
theorem wadd_get {p m : Nat} {u v : List Int} {i : Nat} (h : i < (wadd p m u v).length) : (wadd p m u v)[i] = addI p m (u[i]'(by unfold wadd at h; rw [List.length_zipWith] at h; omega)) (v[i]'(by unfold wadd at h; rw [List.length_zipWith] at h; omega)) := List.getElem_zipWith
theorem wmul_get {mul : Nat → Nat → Nat} {a : Nat} {r : List Int} {i : Nat} (h : i < (wmul mul a r).length) : (wmul mul a r)[i] = ((mul a (r[i]'(by unfold wmul at h; rw [List.length_map] at h; exact h)).toNat : Nat) : Int) := List.getElem_map ..
theorem Wd_get {q n : Nat} {w : List Int} (h : Wd q n w) {i : Nat} (hi : i < w.length) : ∃ a : Nat, w[i] = (a : Int) ∧ a < q := by
  have := h.2 w[i] (List.getElem_mem hi)
  exact ⟨w[i].toNat, by omega, by omega⟩
theorem Wd_wadd {p m n : Nat} (hp : 0 < p) {u v : List Int} (hu : Wd (p ^ m) n u) (hv : Wd (p ^ m) n v) : Wd (p ^ m) n (wadd p m u v) := by
  refine ⟨by unfold wadd; rw [List.length_zipWith, hu.1, hv.1, Nat.min_self], fun x hx => ?_⟩
  obtain ⟨i, hi, rfl⟩ := List.getElem_of_mem hx
  unfold wadd at hi ⊢
  rw [List.getElem_zipWith]
  unfold addI
  have := addN_lt hp m (u[i]'(by rw [List.length_zipWith] at hi; omega)).toNat (v[i]'(by rw [List.length_zipWith] at hi; omega)).toNat
  omega
theorem S_flatMap {α β : Type} (l : List α) (g : α → List β) (f : β → Int) : S (l.flatMap g) f = S l fun a => S (g a) f := by
  induction l with
  | nil => rfl
  | cons x l ih => rw [List.flatMap_cons, S_append, S_cons, ih]
theorem S_pick {q b : Nat} (G : Nat → Int) (hb : b < q) : S (List.range q) (fun c => G c * one ((c : Int) = (b : Int))) = G b := by
  have e : ∀ c ∈ List.range q, G c * one ((c : Int) = (b : Int)) = G b * one ((c : Int) = (b : Int)) := fun c _ => by
    by_cases h : (c : Int) = (b : Int)
    · have : c = b := by omega
      rw [this]
    · rw [one_neg h, Int.mul_zero, Int.mul_zero]
  rw [S_congr e, S_mul, S_one q (by omega) (by omega), Int.mul_one]
section
variable {p m n : Nat}
theorem S_shift (hp : 0 < p) {a0 : Nat} (ha : a0 < p ^ m) (G : Nat → Int) : S (List.range (p ^ m)) (fun a => G (addN p m a0 a)) = S (List.range (p ^ m)) G := by
  rw [S_congr (g := fun a => S (List.range (p ^ m)) fun c => G c * one ((c : Int) = ((addN p m a0 a : Nat) : Int))) fun a _ => (S_pick G (addN_lt hp m a0 a)).symm, S_swap]
  refine S_congr fun c hc => ?_
  have hc' := List.mem_range.1 hc
  rw [S_mul]
  have e : ∀ a ∈ List.range (p ^ m), one ((c : Int) = ((addN p m a0 a : Nat) : Int)) = one ((a : Int) = ((addN p m (negN p m a0) c : Nat) : Int)) := fun a ha' => by
    have ha2 := List.mem_range.1 ha'
    have iff : ((c : Int) = ((addN p m a0 a : Nat) : Int)) ↔ ((a : Int) = ((addN p m (negN p m a0) c : Nat) : Int)) := by
      constructor
      · intro h
        have h' : c = addN p m a0 a := by omega
        rw [h', ← addN_assoc hp, addN_negN hp, addN_zero hp m a ha2]
      · intro h
        have h' : a = addN p m (negN p m a0) c := by omega
        rw [h', ← addN_assoc hp, addN_comm m a0, addN_negN hp, addN_zero hp m c hc']
    unfold one
    by_cases h : (c : Int) = ((addN p m a0 a : Nat) : Int)
    · rw [if_pos h, if_pos (iff.1 h)]
    · rw [if_neg h, if_neg fun h2 => h (iff.2 h2)]
  have hlt := addN_lt hp m (negN p m a0) c
  rw [S_congr e, S_one (p ^ m) (by omega) (by omega), Int.mul_one]
def Tr (p m : Nat) (code : List (List Int)) : Prop := ∀ u ∈ code, ∀ f : List Int → Int, S code (fun v => f (wadd p m u v)) = S code f
def Good (p m n : Nat) (code : List (List Int)) : Prop := (∀ w ∈ code, Wd (p ^ m) n w) ∧ 1 ≤ code.length ∧ code.length ≤ 128 ∧ Tr p m code
theorem four (hp : 0 < p) (x s y t : Nat) : addN p m (addN p m x s) (addN p m y t) = addN p m (addN p m x y) (addN p m s t) := by
  rw [addN_assoc hp, addN_assoc hp, ← addN_assoc hp m s y t, addN_comm m s y, addN_assoc hp m y s t]
variable {mul : Nat → Nat → Nat}
def MulOk (p m : Nat) (mul : Nat → Nat → Nat) : Prop := (∀ a r, a < p ^ m → r < p ^ m → mul a r < p ^ m) ∧ ∀ a b r, a < p ^ m → b < p ^ m → r < p ^ m → mul (addN p m a b) r = addN p m (mul a r) (mul b r)
theorem Wd_wmul (hm : MulOk p m mul) {a : Nat} (ha : a < p ^ m) {r : List Int} (hr : Wd (p ^ m) n r) : Wd (p ^ m) n (wmul mul a r) := by
  refine ⟨by unfold wmul; rw [List.length_map]; exact hr.1, fun x hx => ?_⟩
  obtain ⟨y, hy, rfl⟩ := List.mem_map.1 hx
  have h1 := hr.2 y hy
  have h2 := hm.1 a y.toNat ha (by omega)
  omega
theorem wadd_four (hp : 0 < p) (hm : MulOk p m mul) {a b : Nat} (ha : a < p ^ m) (hb : b < p ^ m) {u v r : List Int} (hu : Wd (p ^ m) n u) (hv : Wd (p ^ m) n v) (hr : Wd (p ^ m) n r) :
    wadd p m (wadd p m u (wmul mul a r)) (wadd p m v (wmul mul b r)) = wadd p m (wadd p m u v) (wmul mul (addN p m a b) r) := by
  have lu := hu.1
  have lv := hv.1
  have lr := hr.1
  refine List.ext_getElem (by unfold wadd wmul; simp only [List.length_zipWith, List.length_map]; omega) fun i h1 h2 => ?_
  have hi : i < n := by unfold wadd wmul at h1; simp only [List.length_zipWith, List.length_map] at h1; omega
  have br := hr.2 (r[i]'(by omega)) (List.getElem_mem _)
  rw [wadd_get, wadd_get, wadd_get, wadd_get, wadd_get, wmul_get, wmul_get, wmul_get]
  unfold addI
  simp only [Int.toNat_natCast]
  rw [hm.2 a b (r[i]'(by omega)).toNat ha hb (by omega), four hp]
def next (p m : Nat) (mul : Nat → Nat → Nat) (r : List Int) (code : List (List Int)) (k : Nat) : List (List Int) := (List.range k).flatMap fun a => code.map fun u => wadd p m u (wmul mul a r)
theorem next_length (r : List Int) (code : List (List Int)) : ∀ k, (next p m mul r code k).length = k * code.length
  | 0 => by unfold next; rw [Nat.zero_mul]; rfl
  | k + 1 => by
    have := next_length r code k
    unfold next at this ⊢
    rw [List.range_succ, List.flatMap_append, List.length_append, this, List.flatMap_cons, List.flatMap_nil, List.append_nil, List.length_map, Nat.add_mul, Nat.one_mul]
theorem Good_next (hp : 2 ≤ p) (hm : MulOk p m mul) {r : List Int} (hr : Wd (p ^ m) n r) {code : List (List Int)} (h : Good p m n code) (hl : p ^ m * code.length ≤ 128) : Good p m n (next p m mul r code (p ^ m)) := by
  have hq : 0 < p ^ m := Nat.pow_pos (by omega)
  obtain ⟨h1, h2, h3, h4⟩ := h
  refine ⟨fun w hw => ?_, ?_, ?_, fun u hu f => ?_⟩
  · obtain ⟨a, ha, hw⟩ := List.mem_flatMap.1 hw
    obtain ⟨u, hu, rfl⟩ := List.mem_map.1 hw
    exact Wd_wadd (by omega) (h1 u hu) (Wd_wmul hm (List.mem_range.1 ha) hr)
  · rw [next_length]; exact Nat.mul_pos hq h2
  · rw [next_length]; exact hl
  · obtain ⟨a0, ha0, hu⟩ := List.mem_flatMap.1 hu
    obtain ⟨u0, hu0, rfl⟩ := List.mem_map.1 hu
    have ha := List.mem_range.1 ha0
    have sn : ∀ g : List Int → Int, S (next p m mul r code (p ^ m)) g = S (List.range (p ^ m)) fun a => S code fun v => g (wadd p m v (wmul mul a r)) := fun g => by
      unfold next
      rw [S_flatMap]
      exact S_congr fun a _ => S_map code _ g
    rw [sn, sn]
    rw [S_congr (g := fun a => S code fun v => f (wadd p m v (wmul mul (addN p m a0 a) r)))]
    · exact S_shift (by omega) ha fun b => S code fun v => f (wadd p m v (wmul mul b r))
    · intro a hx
      have hx' := List.mem_range.1 hx
      have e : S code (fun v => f (wadd p m (wadd p m u0 (wmul mul a0 r)) (wadd p m v (wmul mul a r)))) = S code (fun v => f (wadd p m (wadd p m u0 v) (wmul mul (addN p m a0 a) r))) := S_congr fun v hv => by rw [wadd_four (by omega) hm ha hx' (h1 u0 hu0) (h1 v hv) hr]
      rw [e]
      exact h4 u0 hu0 fun w => f (wadd p m w (wmul mul (addN p m a0 a) r))
theorem Good_first (hp : 2 ≤ p) : Good p m n [List.replicate n 0] := by
  have hq : 0 < p ^ m := Nat.pow_pos (by omega)
  refine ⟨fun w hw => ?_, Nat.le_refl _, by simp, fun u hu f => ?_⟩
  · rw [List.mem_singleton.1 hw]
    exact ⟨List.length_replicate .., fun x hx => by rw [(List.mem_replicate.1 hx).2]; omega⟩
  · rw [List.mem_singleton.1 hu, S_cons, S_cons, S_nil]
    congr 2
    refine List.ext_getElem (by unfold wadd; simp) fun i h1 h2 => ?_
    rw [wadd_get]
    simp only [List.getElem_replicate]
    unfold addI
    rw [show (0 : Int).toNat = 0 from rfl, addN_zero (by omega) m 0 hq]; rfl
theorem hd_wadd (hp : 0 < p) : ∀ {u v : List Int}, u.length = v.length → (∀ x ∈ u, 0 ≤ x ∧ x < ((p ^ m : Nat) : Int)) → (∀ x ∈ v, 0 ≤ x ∧ x < ((p ^ m : Nat) : Int)) → hd u (wadd p m u v) = hd (List.replicate u.length 0) v
  | [], [], _, _, _ => rfl
  | [], _ :: _, h, _, _ => by simp at h
  | _ :: _, [], h, _, _ => by simp at h
  | a :: u, b :: v, h, hu, hv => by
    have ih := hd_wadd hp (u := u) (v := v) (by simpa using h) (fun x hx => hu x (List.mem_cons_of_mem _ hx)) (fun x hx => hv x (List.mem_cons_of_mem _ hx))
    have ba := hu a List.mem_cons_self
    have bb := hv b List.mem_cons_self
    show hd (a :: u) (addI p m a b :: wadd p m u v) = hd (List.replicate (u.length + 1) 0) (b :: v)
    rw [List.replicate_succ, hd, hd, ih]
    have iff : (a = addI p m a b) ↔ ((0 : Int) = b) := by
      unfold addI
      constructor
      · intro e
        have := addN_cancel hp (m := m) (a := a.toNat) (x := b.toNat) (by omega) (by omega) (by omega)
        omega
      · intro e
        rw [← e, show (0 : Int).toNat = 0 from rfl, addN_right hp (by omega)]; omega
    by_cases e : a = addI p m a b
    · rw [if_pos e, if_pos (iff.1 e)]
    · rw [if_neg e, if_neg fun x => e (iff.2 x)]
theorem hd_comm : ∀ (u v : List Int), hd u v = hd v u
  | [], [] => rfl
  | [], _ :: _ => rfl
  | _ :: _, [] => rfl
  | a :: u, b :: v => by
    rw [hd, hd, hd_comm u v]
    by_cases h : a = b
    · rw [if_pos h, if_pos h.symm]
    · rw [if_neg h, if_neg fun e => h e.symm]
def wc (n : Nat) (code : List (List Int)) : List Int := inner (List.replicate n 0) code (List.replicate (n + 1) 0)
theorem Cnt_wc (n : Nat) (code : List (List Int)) : Cnt n code.length (wc n code) := by
  have := Cnt_inner (n := n) (u := List.replicate n 0) (List.length_replicate ..) (ws := code) (Cnt_zero n)
  rwa [Nat.zero_add] at this
theorem lb_wc {code : List (List Int)} {i : Nat} (hi : i < n + 1) : lb (wc n code) i = S code fun v => one (hd (List.replicate n 0) v = i) := by
  have h := im_inner (n := n) (u := List.replicate n 0) (List.length_replicate ..) (fun j => one (j = i)) (ws := code) (Cnt_zero n)
  rw [im_zero (f := fun j => lb (List.replicate (n + 1) 0) j * one (j = i)) fun j _ => by rw [lb_replicate, Int.zero_mul], Int.zero_add] at h
  rw [← h]
  exact (im_pick (f := fun j => lb (wc n code) j) hi).symm
theorem cnts_wc (hp : 2 ≤ p) {code : List (List Int)} (h : Good p m n code) {i : Nat} (hi : i < n + 1) : lb (cnts n code) i = (code.length : Int) * lb (wc n code) i := by
  obtain ⟨h1, h2, h3, h4⟩ := h
  rw [lb_cnts (fun u hu => (h1 u hu).1) hi, lb_wc hi]
  have e : ∀ u ∈ code, (S code fun v => one (hd u v = i)) = S code fun v => one (hd (List.replicate n 0) v = i) := fun u hu => by
    rw [← h4 u hu fun v => one (hd u v = i)]
    refine S_congr fun v hv => ?_
    rw [hd_wadd (by omega) (by rw [(h1 u hu).1, (h1 v hv).1]) (h1 u hu).2 (h1 v hv).2, (h1 u hu).1]
  rw [S_congr e, S_const]
end
end Go.Proofs.Ythheakfgmombdaa.Num
end
