import Derived.Test.YthheakfgmombdaaCDelsarteSumsE
/- Part F of the proof: FRef34Words, FRef01Same, FRef02Same, FRef02SameList, FRef01Trim, FRef01Zero, FRef01zlimb, FRef01Add, FRef01Cmp, FRef01Sub, FRef01Bits, FRef01zshift, FRef01DivMod, FRef01Gcd, FRef02Make, FRef01Of, FRef02zabs, FRef02Of, FRef02Int, FRef02Trim, FRef02Sign, FRef01Mul. -/
section
namespace Go.Proofs.Ythheakfgmombdaa.F
open Go.RowKit Go.Proofs.YthheakfgmombdaaX.PrintWords Go.Proofs.YthheakfgmombdaaX.PrintLast Go.Proofs.YthheakfgmombdaaX.PrintMore
attribute [local go_sem] max2_int min2_int max_two min_two max_three min_three max_four min_four   -- for this text's walks alone
set_option linter.unusedVariables false
set_option linter.unusedSimpArgs false
set_option maxHeartbeats 8000000 in
set_option maxRecDepth 100000 in
theorem codewrightref34_Words.calls (k : Nat) (a0 : Int) (A1 : Option Addr) (c1 : Nat) (l1 : List (List Int)) (r : Int) (w : World) (hr1 : Kd.C (Kd.slice 3 (Kd.int .i64)) w A1 l1.length l1) (hc1 : l1.length ≤ c1) (h : codewrightref34_Words.f k a0 l1 = some r) :
  Calls Try.prog 26 #[.int .i64 a0, .slice A1 l1.length c1] w fun e w' => e = .returned (.int .i64 r) ∧ Drawn0 w w' := by
 have HR1 := Aside0.mk hr1
 have HC1 := Aside0.mk hc1
 clear hr1 hc1
 have H : (if a0 < 2 then (codewrightref34_Words.j0 k a0 l1 true) else (codewrightref34_Words.j0 k a0 l1 (decide (a0 > 256)))) = some r := h
 clear h
 have HC3 := Aside0.mk H
 clear H
 go_enter Try.func26, Try.ntmps26
 go_upto_region 1 with (fail)
 repeat (go_quiet (fail); go_upto_region 1 with (fail))
 go_cut [12] (fun v12 wc => ∃ (kq : Nat) (x12_2 : Bool), v12 = .bool x12_2 ∧ Aside0 (codewrightref34_Words.j0 kq a0 l1 x12_2 = some r) ∧ Aside0 (kq ≤ k) ∧ Drawn0 w wc)
 case first =>
  have H := HC3.out
  clear HC3
  by_cases c4 : a0 < 2
  ·rw [if_pos c4] at H
   have c4b0 : decide (a0 < 2) = true := decide_eq_true c4
   clear c4
   (skip)
   have H' := Aside0.mk H
   clear H
   go_wp2
   repeat (go_quiet (fail); try go_wp2)
   go_meet
   case rel => exact ⟨_, (true), (by rfl), H', ⟨by omega⟩, by repeat (exact Drawn0.refl _)⟩
  ·rw [if_neg c4] at H
   have c4b0 : decide (a0 < 2) = false := decide_eq_false c4
   clear c4
   (skip)
   have H' := Aside0.mk H
   clear H
   go_wp2
   repeat (go_quiet (fail); try go_wp2)
   go_meet
   case rel => exact ⟨_, (decide (a0 > 256)), (by rfl), H', ⟨by omega⟩, by repeat (exact Drawn0.refl _)⟩
 case rest =>
  clear HC3
  obtain ⟨kq, x12_2, rfl, HA, HJ2, ⟨mc2, rfl⟩⟩ := hcut
  cases kq with
  | zero => exact absurd HA.out (by simp [codewrightref34_Words.j0])
  | succ kj2 =>
   have H := HA.out
   clear HA
   simp only [codewrightref34_Words.j0] at H
   by_cases c5 : x12_2 = true
   ·subst c5
    have H1 : (some 6) = some r := by rw [if_pos rfl] at H; exact H
    clear H
    have H := H1
    clear H1
    obtain rfl := Option.some.inj H
    go_wp2
    repeat (go_quiet (fail); try go_wp2)
    go_ret
    exact ⟨by rfl, by repeat (first | exact Drawn0.refl _ | apply Drawn0.step)⟩
   ·replace c5 := Bool.eq_false_iff.mpr c5
    subst c5
    have H1 : (if (l1.length : Int) = 0 then (some 11) else (if 0 < (l1.length : Int) then (if ((rd_LI l1 0).length : Int) < 1 then (codewrightref34_Words.j1 kj2 a0 l1 true) else (codewrightref34_Words.j1 kj2 a0 l1 (decide (((rd_LI l1 0).length : Int) > 64)))) else (none))) = some r := by rw [if_neg (show ¬ (false = true) by decide)] at H; exact H
    clear H
    have H := H1
    clear H1
    by_cases c6 : (l1.length : Int) = 0
    ·rw [if_pos c6] at H
     have c6b0 : ((l1.length : Int) == 0) = true := beq_iff_eq.mpr c6
     have c6b1 : ((l1.length : Int) != 0) = false := bne_eq_false_iff_eq.mpr c6
     clear c6
     obtain rfl := Option.some.inj H
     go_wp2
     repeat (go_quiet (fail); try go_wp2)
     go_ret
     exact ⟨by rfl, by repeat (first | exact Drawn0.refl _ | apply Drawn0.step)⟩
    ·rw [if_neg c6] at H
     have c6b0 : ((l1.length : Int) == 0) = false := beq_eq_false_iff_ne.mpr c6
     have c6b1 : ((l1.length : Int) != 0) = true := bne_iff_ne.mpr c6
     have c6b2 : ¬ (l1 = []) := fun h_ => c6 (by rw [h_]; rfl)
     have HC7 := Aside0.mk H
     clear H
     go_upto_region 5 with (fail)
     repeat (go_quiet (fail); go_upto_region 5 with (fail))
     go_cut [27] (fun v27 wc => ∃ (kq : Nat) (x27_6 : Bool), v27 = .bool x27_6 ∧ Aside0 (codewrightref34_Words.j1 kq a0 l1 x27_6 = some r) ∧ Aside0 (kq ≤ kj2) ∧ Drawn0 w wc)
     case first =>
      have H := HC7.out
      clear HC7
      by_cases c8 : 0 < (l1.length : Int)
      ·rw [if_pos c8] at H
       have c8b0 : decide (0 < (l1.length : Int)) = true := decide_eq_true c8
       have c8b1 : decide (0 < l1.length) = true := decide_eq_true (by omega)
       clear c8
       (skip)
       by_cases c9 : ((rd_LI l1 0).length : Int) < 1
       ·rw [if_pos c9] at H
        have c9b0 : decide (((rd_LI l1 0).length : Int) < 1) = true := decide_eq_true c9
        have c9b1 : decide ((rd_LI l1 0).length < 1) = true := decide_eq_true (by omega)
        clear c9
        have H' := Aside0.mk H
        clear H
        have p320 : 0 ≤ (0 : Int) := (by omega)
        have q320 : 0 < (l1.length : Int) := of_decide_eq_true (by (with_reducible assumption))
        obtain ⟨ad320, A320_0, c320_0, e320, hx320_0, hl320_0, hi320_0⟩ := at_LI HR1.out 0 p320 q320
        cases e320
        have qi320 : (0 < l1.length) = True := eq_true (by omega)
        (try rw [show ((0 : Int)).toNat = 0 from rfl] at hx320_0)
        (try rw [Addr.add_zero'] at hx320_0)
        have HR320_0 := Aside0.mk hi320_0
        have HC320_0 := Aside0.mk hl320_0
        clear hi320_0 hl320_0
        replace p320 := eq_true p320
        replace q320 := eq_true q320
        go_wp2
        repeat (go_quiet (fail); try go_wp2)
        go_meet
        case rel => exact ⟨_, (true), (by rfl), H', ⟨by have := HJ2.out; omega⟩, by repeat (first | exact Drawn0.refl _ | apply Drawn0.step)⟩
       ·rw [if_neg c9] at H
        have c9b0 : decide (((rd_LI l1 0).length : Int) < 1) = false := decide_eq_false c9
        have c9b1 : decide ((rd_LI l1 0).length < 1) = false := decide_eq_false (by omega)
        clear c9
        have H' := Aside0.mk H
        clear H
        have p320 : 0 ≤ (0 : Int) := (by omega)
        have q320 : 0 < (l1.length : Int) := of_decide_eq_true (by (with_reducible assumption))
        obtain ⟨ad320, A320_0, c320_0, e320, hx320_0, hl320_0, hi320_0⟩ := at_LI HR1.out 0 p320 q320
        cases e320
        have qi320 : (0 < l1.length) = True := eq_true (by omega)
        (try rw [show ((0 : Int)).toNat = 0 from rfl] at hx320_0)
        (try rw [Addr.add_zero'] at hx320_0)
        have HR320_0 := Aside0.mk hi320_0
        have HC320_0 := Aside0.mk hl320_0
        clear hi320_0 hl320_0
        replace p320 := eq_true p320
        replace q320 := eq_true q320
        have p321 : 0 ≤ (0 : Int) := (by omega)
        have q321 : 0 < (l1.length : Int) := of_decide_eq_true (by (with_reducible assumption))
        obtain ⟨ad321, A321_0, c321_0, e321, hx321_0, hl321_0, hi321_0⟩ := at_LI HR1.out 0 p321 q321
        obtain rfl : ad320 = ad321 := (by injection e321)
        have qi321 : (0 < l1.length) = True := eq_true (by omega)
        (try rw [show ((0 : Int)).toNat = 0 from rfl] at hx321_0)
        (try rw [Addr.add_zero'] at hx321_0)
        have HR321_0 := Aside0.mk hi321_0
        have HC321_0 := Aside0.mk hl321_0
        clear hi321_0 hl321_0
        replace p321 := eq_true p321
        replace q321 := eq_true q321
        have ea_ := Option.some.inj (hx320_0.symm.trans hx321_0)
        injection ea_ with ea_ en_ ec_
        subst ea_
        subst ec_
        clear en_
        go_wp2
        repeat (go_quiet (fail); try go_wp2)
        go_meet
        case rel => exact ⟨_, (decide (((rd_LI l1 0).length : Int) > 64)), (by rfl), H', ⟨by have := HJ2.out; omega⟩, by repeat (first | exact Drawn0.refl _ | apply Drawn0.step)⟩
      ·rw [if_neg c8] at H
       exact absurd H (by simp)
     case rest =>
      clear HC7
      try clear c6
      try clear c6b0
      try clear c6b1
      try clear c6b2
      obtain ⟨kq, x27_6, rfl, HA, HJ6, ⟨mc6, rfl⟩⟩ := hcut
      cases kq with
      | zero => exact absurd HA.out (by simp [codewrightref34_Words.j1])
      | succ kj6 =>
       have H := HA.out
       clear HA
       simp only [codewrightref34_Words.j1] at H
       by_cases c10 : x27_6 = true
       ·subst c10
        have H1 : (some 4) = some r := by rw [if_pos rfl] at H; exact H
        clear H
        have H := H1
        clear H1
        obtain rfl := Option.some.inj H
        go_wp2
        repeat (go_quiet (fail); try go_wp2)
        go_ret
        exact ⟨by rfl, by repeat (first | exact Drawn0.refl _ | apply Drawn0.step)⟩
       ·replace c10 := Bool.eq_false_iff.mpr c10
        subst c10
        have H1 : (codewrightref34_Words.l0 kj6 a0 l1 0) = some r := by rw [if_neg (show ¬ (false = true) by decide)] at H; exact H
        clear H
        have H := H1
        clear H1
        have H' := Aside0.mk H
        clear H
        go_wp2
        repeat (go_quiet (fail); try go_wp2)
        go_loopg [5] kj6 (fun kq v5 w' => ∃ (x5_3 : Int), v5 = .int .i64 x5_3 ∧ Aside0 (codewrightref34_Words.l0 kq a0 l1 x5_3 = some r) ∧ Aside0 (kq ≤ kj6) ∧ Drawn0 w w')
        case atStart => exact ⟨(0), (by rfl), H', ⟨Nat.le_refl _⟩, by repeat (first | exact Drawn0.refl _ | apply Drawn0.step)⟩
        case round =>
         clear H'
         obtain ⟨x5_3, rfl, HA, HK3, ⟨m3, rfl⟩⟩ := hrel
         cases gk with
         | zero => exact absurd HA.out (by simp [codewrightref34_Words.l0])
         | succ k3 =>
          have H := HA.out
          clear HA
          simp only [codewrightref34_Words.l0] at H
          by_cases c11 : x5_3 < (l1.length : Int)
          ·rw [if_pos c11] at H
           have c11b0 : decide (x5_3 < (l1.length : Int)) = true := decide_eq_true c11
           clear c11
           by_cases c12 : 0 ≤ x5_3
           ·rw [if_pos c12] at H
            have c12b0 : decide (0 ≤ x5_3) = true := decide_eq_true c12
            clear c12
            by_cases c13 : 0 < (l1.length : Int)
            ·rw [if_pos c13] at H
             have c13b0 : decide (0 < (l1.length : Int)) = true := decide_eq_true c13
             have c13b1 : decide (0 < l1.length) = true := decide_eq_true (by omega)
             clear c13
             by_cases c14 : ((rd_LI l1 x5_3).length : Int) = ((rd_LI l1 0).length : Int)
             ·rw [if_pos c14] at H
              have c14b0 : (((rd_LI l1 x5_3).length : Int) == ((rd_LI l1 0).length : Int)) = true := beq_iff_eq.mpr c14
              have c14b1 : (((rd_LI l1 x5_3).length : Int) != ((rd_LI l1 0).length : Int)) = false := bne_eq_false_iff_eq.mpr c14
              have c14b2 : ((rd_LI l1 x5_3).length == (rd_LI l1 0).length) = true := by (simp at c14 ⊢; omega)
              clear c14
              have H' := Aside0.mk H
              clear H
              have p322 : 0 ≤ (x5_3 : Int) := of_decide_eq_true (by (with_reducible assumption))
              have q322 : x5_3 < (l1.length : Int) := of_decide_eq_true (by (with_reducible assumption))
              obtain ⟨ad322, A322_0, c322_0, e322, hx322_0, hl322_0, hi322_0⟩ := at_LI HR1.out x5_3 p322 q322
              cases e322
              have HR322_0 := Aside0.mk hi322_0
              have HC322_0 := Aside0.mk hl322_0
              clear hi322_0 hl322_0
              replace p322 := eq_true p322
              replace q322 := eq_true q322
              have p323 : 0 ≤ (0 : Int) := (by omega)
              have q323 : 0 < (l1.length : Int) := of_decide_eq_true (by (with_reducible assumption))
              obtain ⟨ad323, A323_0, c323_0, e323, hx323_0, hl323_0, hi323_0⟩ := at_LI HR1.out 0 p323 q323
              obtain rfl : ad322 = ad323 := (by injection e323)
              have qi323 : (0 < l1.length) = True := eq_true (by omega)
              (try rw [show ((0 : Int)).toNat = 0 from rfl] at hx323_0)
              (try rw [Addr.add_zero'] at hx323_0)
              have HR323_0 := Aside0.mk hi323_0
              have HC323_0 := Aside0.mk hl323_0
              clear hi323_0 hl323_0
              replace p323 := eq_true p323
              replace q323 := eq_true q323
              go_wp2
              repeat (go_quiet (fail); try go_wp2)
              go_loopg [6] k3 (fun kq v6 w' => ∃ (x6_4 : Int), v6 = .int .i64 x6_4 ∧ Aside0 (codewrightref34_Words.l1 kq a0 l1 x5_3 x6_4 = some r) ∧ Aside0 (kq ≤ k3) ∧ Drawn0 w w')
              case atStart => exact ⟨(0), (by rfl), H', ⟨Nat.le_refl _⟩, by repeat (first | exact Drawn0.refl _ | apply Drawn0.step)⟩
              case round =>
               clear H'
               try clear c11b0
               try clear c12b0
               try clear c13b0
               try clear c13b1
               try clear c14b0
               try clear c14b1
               try clear c14b2
               try clear hx322_0
               try clear hx323_0
               try clear p322
               try clear p323
               try clear q322
               try clear q323
               obtain ⟨x6_4, rfl, HA, HK4, ⟨m4, rfl⟩⟩ := hrel
               cases gk with
               | zero => exact absurd HA.out (by simp [codewrightref34_Words.l1])
               | succ k4 =>
                have H := HA.out
                clear HA
                simp only [codewrightref34_Words.l1] at H
                by_cases c15 : 0 ≤ x5_3
                ·rw [if_pos c15] at H
                 have c15b0 : decide (0 ≤ x5_3) = true := decide_eq_true c15
                 clear c15
                 by_cases c16 : x5_3 < (l1.length : Int)
                 ·rw [if_pos c16] at H
                  have c16b0 : decide (x5_3 < (l1.length : Int)) = true := decide_eq_true c16
                  clear c16
                  by_cases c17 : x6_4 < ((rd_LI l1 x5_3).length : Int)
                  ·rw [if_pos c17] at H
                   have c17b0 : decide (x6_4 < ((rd_LI l1 x5_3).length : Int)) = true := decide_eq_true c17
                   clear c17
                   by_cases c18 : 0 ≤ x6_4
                   ·rw [if_pos c18] at H
                    have c18b0 : decide (0 ≤ x6_4) = true := decide_eq_true c18
                    clear c18
                    by_cases c19 : (rd (rd_LI l1 x5_3) x6_4) < 0
                    ·rw [if_pos c19] at H
                     have c19b0 : decide ((rd (rd_LI l1 x5_3) x6_4) < 0) = true := decide_eq_true c19
                     clear c19
                     obtain rfl := Option.some.inj H
                     have p324 : 0 ≤ (x5_3 : Int) := of_decide_eq_true (by (with_reducible assumption))
                     have q324 : x5_3 < (l1.length : Int) := of_decide_eq_true (by (with_reducible assumption))
                     obtain ⟨ad324, A324_0, c324_0, e324, hx324_0, hl324_0, hi324_0⟩ := at_LI HR1.out x5_3 p324 q324
                     obtain rfl : ad322 = ad324 := (by injection e324)
                     have HR324_0 := Aside0.mk hi324_0
                     have HC324_0 := Aside0.mk hl324_0
                     clear hi324_0 hl324_0
                     replace p324 := eq_true p324
                     replace q324 := eq_true q324
                     have p325 : 0 ≤ (x5_3 : Int) := of_decide_eq_true (by (with_reducible assumption))
                     have q325 : x5_3 < (l1.length : Int) := of_decide_eq_true (by (with_reducible assumption))
                     obtain ⟨ad325, A325_0, c325_0, e325, hx325_0, hl325_0, hi325_0⟩ := at_LI HR1.out x5_3 p325 q325
                     obtain rfl : ad322 = ad325 := (by injection e325)
                     have HR325_0 := Aside0.mk hi325_0
                     have HC325_0 := Aside0.mk hl325_0
                     clear hi325_0 hl325_0
                     replace p325 := eq_true p325
                     replace q325 := eq_true q325
                     have ea_ := Option.some.inj (hx324_0.symm.trans hx325_0)
                     injection ea_ with ea_ en_ ec_
                     subst ea_
                     subst ec_
                     clear en_
                     have p326 : 0 ≤ (x6_4 : Int) := of_decide_eq_true (by (with_reducible assumption))
                     have q326 : x6_4 < ((rd_LI l1 x5_3).length : Int) := of_decide_eq_true (by (with_reducible assumption))
                     obtain ⟨ad326, e326, hx326_0⟩ := Kd.at_int HR325_0.out x6_4 p326 q326
                     cases e326
                     replace p326 := eq_true p326
                     replace q326 := eq_true q326
                     go_wp2
                     repeat (go_quiet (fail); try go_wp2)
                     go_ret
                     exact ⟨by rfl, by repeat (first | exact Drawn0.refl _ | apply Drawn0.step)⟩
                    ·rw [if_neg c19] at H
                     have c19b0 : decide ((rd (rd_LI l1 x5_3) x6_4) < 0) = false := decide_eq_false c19
                     clear c19
                     by_cases c20 : (rd (rd_LI l1 x5_3) x6_4) ≥ a0
                     ·rw [if_pos c20] at H
                      have c20b0 : decide (a0 ≤ (rd (rd_LI l1 x5_3) x6_4)) = true := decide_eq_true c20
                      clear c20
                      obtain rfl := Option.some.inj H
                      have p324 : 0 ≤ (x5_3 : Int) := of_decide_eq_true (by (with_reducible assumption))
                      have q324 : x5_3 < (l1.length : Int) := of_decide_eq_true (by (with_reducible assumption))
                      obtain ⟨ad324, A324_0, c324_0, e324, hx324_0, hl324_0, hi324_0⟩ := at_LI HR1.out x5_3 p324 q324
                      obtain rfl : ad322 = ad324 := (by injection e324)
                      have HR324_0 := Aside0.mk hi324_0
                      have HC324_0 := Aside0.mk hl324_0
                      clear hi324_0 hl324_0
                      replace p324 := eq_true p324
                      replace q324 := eq_true q324
                      have p325 : 0 ≤ (x5_3 : Int) := of_decide_eq_true (by (with_reducible assumption))
                      have q325 : x5_3 < (l1.length : Int) := of_decide_eq_true (by (with_reducible assumption))
                      obtain ⟨ad325, A325_0, c325_0, e325, hx325_0, hl325_0, hi325_0⟩ := at_LI HR1.out x5_3 p325 q325
                      obtain rfl : ad322 = ad325 := (by injection e325)
                      have HR325_0 := Aside0.mk hi325_0
                      have HC325_0 := Aside0.mk hl325_0
                      clear hi325_0 hl325_0
                      replace p325 := eq_true p325
                      replace q325 := eq_true q325
                      have ea_ := Option.some.inj (hx324_0.symm.trans hx325_0)
                      injection ea_ with ea_ en_ ec_
                      subst ea_
                      subst ec_
                      clear en_
                      have p326 : 0 ≤ (x6_4 : Int) := of_decide_eq_true (by (with_reducible assumption))
                      have q326 : x6_4 < ((rd_LI l1 x5_3).length : Int) := of_decide_eq_true (by (with_reducible assumption))
                      obtain ⟨ad326, e326, hx326_0⟩ := Kd.at_int HR325_0.out x6_4 p326 q326
                      cases e326
                      replace p326 := eq_true p326
                      replace q326 := eq_true q326
                      have p327 : 0 ≤ (x5_3 : Int) := of_decide_eq_true (by (with_reducible assumption))
                      have q327 : x5_3 < (l1.length : Int) := of_decide_eq_true (by (with_reducible assumption))
                      obtain ⟨ad327, A327_0, c327_0, e327, hx327_0, hl327_0, hi327_0⟩ := at_LI HR1.out x5_3 p327 q327
                      obtain rfl : ad322 = ad327 := (by injection e327)
                      have HR327_0 := Aside0.mk hi327_0
                      have HC327_0 := Aside0.mk hl327_0
                      clear hi327_0 hl327_0
                      replace p327 := eq_true p327
                      replace q327 := eq_true q327
                      have ea_ := Option.some.inj (hx324_0.symm.trans hx327_0)
                      injection ea_ with ea_ en_ ec_
                      subst ea_
                      subst ec_
                      clear en_
                      have p328 : 0 ≤ (x6_4 : Int) := of_decide_eq_true (by (with_reducible assumption))
                      have q328 : x6_4 < ((rd_LI l1 x5_3).length : Int) := of_decide_eq_true (by (with_reducible assumption))
                      obtain ⟨ad328, e328, hx328_0⟩ := Kd.at_int HR327_0.out x6_4 p328 q328
                      cases e328
                      replace p328 := eq_true p328
                      replace q328 := eq_true q328
                      go_wp2
                      repeat (go_quiet (fail); try go_wp2)
                      go_ret
                      exact ⟨by rfl, by repeat (first | exact Drawn0.refl _ | apply Drawn0.step)⟩
                     ·rw [if_neg c20] at H
                      have c20b0 : decide (a0 ≤ (rd (rd_LI l1 x5_3) x6_4)) = false := decide_eq_false c20
                      clear c20
                      have H' := Aside0.mk H
                      clear H
                      have p324 : 0 ≤ (x5_3 : Int) := of_decide_eq_true (by (with_reducible assumption))
                      have q324 : x5_3 < (l1.length : Int) := of_decide_eq_true (by (with_reducible assumption))
                      obtain ⟨ad324, A324_0, c324_0, e324, hx324_0, hl324_0, hi324_0⟩ := at_LI HR1.out x5_3 p324 q324
                      obtain rfl : ad322 = ad324 := (by injection e324)
                      have HR324_0 := Aside0.mk hi324_0
                      have HC324_0 := Aside0.mk hl324_0
                      clear hi324_0 hl324_0
                      replace p324 := eq_true p324
                      replace q324 := eq_true q324
                      have p325 : 0 ≤ (x5_3 : Int) := of_decide_eq_true (by (with_reducible assumption))
                      have q325 : x5_3 < (l1.length : Int) := of_decide_eq_true (by (with_reducible assumption))
                      obtain ⟨ad325, A325_0, c325_0, e325, hx325_0, hl325_0, hi325_0⟩ := at_LI HR1.out x5_3 p325 q325
                      obtain rfl : ad322 = ad325 := (by injection e325)
                      have HR325_0 := Aside0.mk hi325_0
                      have HC325_0 := Aside0.mk hl325_0
                      clear hi325_0 hl325_0
                      replace p325 := eq_true p325
                      replace q325 := eq_true q325
                      have ea_ := Option.some.inj (hx324_0.symm.trans hx325_0)
                      injection ea_ with ea_ en_ ec_
                      subst ea_
                      subst ec_
                      clear en_
                      have p326 : 0 ≤ (x6_4 : Int) := of_decide_eq_true (by (with_reducible assumption))
                      have q326 : x6_4 < ((rd_LI l1 x5_3).length : Int) := of_decide_eq_true (by (with_reducible assumption))
                      obtain ⟨ad326, e326, hx326_0⟩ := Kd.at_int HR325_0.out x6_4 p326 q326
                      cases e326
                      replace p326 := eq_true p326
                      replace q326 := eq_true q326
                      have p327 : 0 ≤ (x5_3 : Int) := of_decide_eq_true (by (with_reducible assumption))
                      have q327 : x5_3 < (l1.length : Int) := of_decide_eq_true (by (with_reducible assumption))
                      obtain ⟨ad327, A327_0, c327_0, e327, hx327_0, hl327_0, hi327_0⟩ := at_LI HR1.out x5_3 p327 q327
                      obtain rfl : ad322 = ad327 := (by injection e327)
                      have HR327_0 := Aside0.mk hi327_0
                      have HC327_0 := Aside0.mk hl327_0
                      clear hi327_0 hl327_0
                      replace p327 := eq_true p327
                      replace q327 := eq_true q327
                      have ea_ := Option.some.inj (hx324_0.symm.trans hx327_0)
                      injection ea_ with ea_ en_ ec_
                      subst ea_
                      subst ec_
                      clear en_
                      have p328 : 0 ≤ (x6_4 : Int) := of_decide_eq_true (by (with_reducible assumption))
                      have q328 : x6_4 < ((rd_LI l1 x5_3).length : Int) := of_decide_eq_true (by (with_reducible assumption))
                      obtain ⟨ad328, e328, hx328_0⟩ := Kd.at_int HR327_0.out x6_4 p328 q328
                      cases e328
                      replace p328 := eq_true p328
                      replace q328 := eq_true q328
                      go_wp2
                      repeat (go_quiet (fail); try go_wp2)
                      go_roundg k4
                      case measure => have := HJ2.out; have := HJ6.out; have := HK3.out; have := HK4.out; omega
                      case rel => exact ⟨(wrap64 (x6_4 + 1)), (by rfl), H', ⟨by have := HJ2.out; have := HJ6.out; have := HK3.out; have := HK4.out; omega⟩, by repeat (first | exact Drawn0.refl _ | apply Drawn0.step)⟩
                   ·rw [if_neg c18] at H
                    exact absurd H (by simp)
                  ·rw [if_neg c17] at H
                   have c17b0 : decide (x6_4 < ((rd_LI l1 x5_3).length : Int)) = false := decide_eq_false c17
                   clear c17
                   have H' := Aside0.mk H
                   clear H
                   have p324 : 0 ≤ (x5_3 : Int) := of_decide_eq_true (by (with_reducible assumption))
                   have q324 : x5_3 < (l1.length : Int) := of_decide_eq_true (by (with_reducible assumption))
                   obtain ⟨ad324, A324_0, c324_0, e324, hx324_0, hl324_0, hi324_0⟩ := at_LI HR1.out x5_3 p324 q324
                   obtain rfl : ad322 = ad324 := (by injection e324)
                   have HR324_0 := Aside0.mk hi324_0
                   have HC324_0 := Aside0.mk hl324_0
                   clear hi324_0 hl324_0
                   replace p324 := eq_true p324
                   replace q324 := eq_true q324
                   go_wp2
                   repeat (go_quiet (fail); try go_wp2)
                   go_roundg k4
                   case measure => have := HJ2.out; have := HJ6.out; have := HK3.out; have := HK4.out; omega
                   case rel => exact ⟨(wrap64 (x5_3 + 1)), (by rfl), H', ⟨by have := HJ2.out; have := HJ6.out; have := HK3.out; have := HK4.out; omega⟩, by repeat (first | exact Drawn0.refl _ | apply Drawn0.step)⟩
                 ·rw [if_neg c16] at H
                  exact absurd H (by simp)
                ·rw [if_neg c15] at H
                 exact absurd H (by simp)
             ·rw [if_neg c14] at H
              have c14b0 : (((rd_LI l1 x5_3).length : Int) == ((rd_LI l1 0).length : Int)) = false := beq_eq_false_iff_ne.mpr c14
              have c14b1 : (((rd_LI l1 x5_3).length : Int) != ((rd_LI l1 0).length : Int)) = true := bne_iff_ne.mpr c14
              have c14b2 : ((rd_LI l1 x5_3).length == (rd_LI l1 0).length) = false := by (simp at c14 ⊢; omega)
              obtain rfl := Option.some.inj H
              have p322 : 0 ≤ (x5_3 : Int) := of_decide_eq_true (by (with_reducible assumption))
              have q322 : x5_3 < (l1.length : Int) := of_decide_eq_true (by (with_reducible assumption))
              obtain ⟨ad322, A322_0, c322_0, e322, hx322_0, hl322_0, hi322_0⟩ := at_LI HR1.out x5_3 p322 q322
              cases e322
              have HR322_0 := Aside0.mk hi322_0
              have HC322_0 := Aside0.mk hl322_0
              clear hi322_0 hl322_0
              replace p322 := eq_true p322
              replace q322 := eq_true q322
              have p323 : 0 ≤ (0 : Int) := (by omega)
              have q323 : 0 < (l1.length : Int) := of_decide_eq_true (by (with_reducible assumption))
              obtain ⟨ad323, A323_0, c323_0, e323, hx323_0, hl323_0, hi323_0⟩ := at_LI HR1.out 0 p323 q323
              obtain rfl : ad322 = ad323 := (by injection e323)
              have qi323 : (0 < l1.length) = True := eq_true (by omega)
              (try rw [show ((0 : Int)).toNat = 0 from rfl] at hx323_0)
              (try rw [Addr.add_zero'] at hx323_0)
              have HR323_0 := Aside0.mk hi323_0
              have HC323_0 := Aside0.mk hl323_0
              clear hi323_0 hl323_0
              replace p323 := eq_true p323
              replace q323 := eq_true q323
              go_wp2
              repeat (go_quiet (fail); try go_wp2)
              go_ret
              exact ⟨by rfl, by repeat (first | exact Drawn0.refl _ | apply Drawn0.step)⟩
            ·rw [if_neg c13] at H
             exact absurd H (by simp)
           ·rw [if_neg c12] at H
            exact absurd H (by simp)
          ·rw [if_neg c11] at H
           have c11b0 : decide (x5_3 < (l1.length : Int)) = false := decide_eq_false c11
           clear c11
           obtain rfl := Option.some.inj H
           go_wp2
           repeat (go_quiet (fail); try go_wp2)
           go_ret
           exact ⟨by rfl, by repeat (first | exact Drawn0.refl _ | apply Drawn0.step)⟩
end Go.Proofs.Ythheakfgmombdaa.F
end
section
namespace Go.Proofs.Ythheakfgmombdaa.F
open Go.RowKit Go.Proofs.YthheakfgmombdaaX.PrintWords Go.Proofs.YthheakfgmombdaaX.PrintLast Go.Proofs.YthheakfgmombdaaX.PrintMore
attribute [local go_sem] max2_int min2_int max_two min_two max_three min_three max_four min_four   -- for this text's walks alone
set_option linter.unusedVariables false
set_option linter.unusedSimpArgs false
set_option maxHeartbeats 8000000 in
set_option maxRecDepth 100000 in
theorem codewrightref01_Same.calls (k : Nat) (A0 : Option Addr) (c0 : Nat) (l0 : List Int) (A1 : Option Addr) (c1 : Nat) (l1 : List Int) (r : Bool) (w : World) (hr0 : Kd.C (Kd.int .u32) w A0 l0.length l0) (hc0 : l0.length ≤ c0) (hr1 : Kd.C (Kd.int .u32) w A1 l1.length l1) (hc1 : l1.length ≤ c1) (h : codewrightref01_Same.f k l0 l1 = some r) :
  Calls Try.prog 73 #[.slice A0 l0.length c0, .slice A1 l1.length c1] w fun e w' => e = .returned (.bool r) ∧ Drawn0 w w' := by
 have HR0 := Aside0.mk hr0
 have HC0 := Aside0.mk hc0
 clear hr0 hc0
 have HR1 := Aside0.mk hr1
 have HC1 := Aside0.mk hc1
 clear hr1 hc1
 have H : (if (l0.length : Int) = (l1.length : Int) then (codewrightref01_Same.l0 k l0 l1 0) else (some false)) = some r := h
 clear h
 by_cases c3 : (l0.length : Int) = (l1.length : Int)
 ·rw [if_pos c3] at H
  have c3b0 : ((l0.length : Int) == (l1.length : Int)) = true := beq_iff_eq.mpr c3
  have c3b1 : ((l0.length : Int) != (l1.length : Int)) = false := bne_eq_false_iff_eq.mpr c3
  have c3b2 : (l0.length == l1.length) = true := by (simp at c3 ⊢; omega)
  clear c3
  have H' := Aside0.mk H
  clear H
  go_enter Try.func73, Try.ntmps73
  go_wp2
  repeat (go_quiet (fail); try go_wp2)
  go_loopg [5] k (fun kq v5 w' => ∃ (x5_1 : Int), v5 = .int .i64 x5_1 ∧ Aside0 (codewrightref01_Same.l0 kq l0 l1 x5_1 = some r) ∧ Aside0 (kq ≤ k) ∧ Drawn0 w w')
  case atStart => exact ⟨(0), (by rfl), H', ⟨Nat.le_refl _⟩, by repeat (exact Drawn0.refl _)⟩
  case round =>
   clear H'
   try clear c3b0
   try clear c3b1
   try clear c3b2
   obtain ⟨x5_1, rfl, HA, HK1, ⟨m1, rfl⟩⟩ := hrel
   cases gk with
   | zero => exact absurd HA.out (by simp [codewrightref01_Same.l0])
   | succ k1 =>
    have H := HA.out
    clear HA
    simp only [codewrightref01_Same.l0] at H
    by_cases c4 : x5_1 < (l0.length : Int)
    ·rw [if_pos c4] at H
     have c4b0 : decide (x5_1 < (l0.length : Int)) = true := decide_eq_true c4
     clear c4
     by_cases c5 : 0 ≤ x5_1
     ·rw [if_pos c5] at H
      have c5b0 : decide (0 ≤ x5_1) = true := decide_eq_true c5
      clear c5
      by_cases c6 : x5_1 < (l1.length : Int)
      ·rw [if_pos c6] at H
       have c6b0 : decide (x5_1 < (l1.length : Int)) = true := decide_eq_true c6
       clear c6
       by_cases c7 : (rd l0 x5_1) = (rd l1 x5_1)
       ·rw [if_pos c7] at H
        have c7b0 : ((rd l0 x5_1) == (rd l1 x5_1)) = true := beq_iff_eq.mpr c7
        have c7b1 : ((rd l0 x5_1) != (rd l1 x5_1)) = false := bne_eq_false_iff_eq.mpr c7
        clear c7
        have H' := Aside0.mk H
        clear H
        have p339 : 0 ≤ (x5_1 : Int) := of_decide_eq_true (by (with_reducible assumption))
        have q339 : x5_1 < (l0.length : Int) := of_decide_eq_true (by (with_reducible assumption))
        obtain ⟨ad339, e339, hx339_0⟩ := Kd.at_int HR0.out x5_1 p339 q339
        cases e339
        replace p339 := eq_true p339
        replace q339 := eq_true q339
        have p340 : 0 ≤ (x5_1 : Int) := of_decide_eq_true (by (with_reducible assumption))
        have q340 : x5_1 < (l1.length : Int) := of_decide_eq_true (by (with_reducible assumption))
        obtain ⟨ad340, e340, hx340_0⟩ := Kd.at_int HR1.out x5_1 p340 q340
        cases e340
        replace p340 := eq_true p340
        replace q340 := eq_true q340
        go_wp2
        repeat (go_quiet (fail); try go_wp2)
        go_roundg k1
        case measure => have := HK1.out; omega
        case rel => exact ⟨(wrap64 (x5_1 + 1)), (by rfl), H', ⟨by have := HK1.out; omega⟩, by repeat (first | exact Drawn0.refl _ | apply Drawn0.step)⟩
       ·rw [if_neg c7] at H
        have c7b0 : ((rd l0 x5_1) == (rd l1 x5_1)) = false := beq_eq_false_iff_ne.mpr c7
        have c7b1 : ((rd l0 x5_1) != (rd l1 x5_1)) = true := bne_iff_ne.mpr c7
        obtain rfl := Option.some.inj H
        have p339 : 0 ≤ (x5_1 : Int) := of_decide_eq_true (by (with_reducible assumption))
        have q339 : x5_1 < (l0.length : Int) := of_decide_eq_true (by (with_reducible assumption))
        obtain ⟨ad339, e339, hx339_0⟩ := Kd.at_int HR0.out x5_1 p339 q339
        cases e339
        replace p339 := eq_true p339
        replace q339 := eq_true q339
        have p340 : 0 ≤ (x5_1 : Int) := of_decide_eq_true (by (with_reducible assumption))
        have q340 : x5_1 < (l1.length : Int) := of_decide_eq_true (by (with_reducible assumption))
        obtain ⟨ad340, e340, hx340_0⟩ := Kd.at_int HR1.out x5_1 p340 q340
        cases e340
        replace p340 := eq_true p340
        replace q340 := eq_true q340
        go_wp2
        repeat (go_quiet (fail); try go_wp2)
        go_ret
        exact ⟨by rfl, by repeat (first | exact Drawn0.refl _ | apply Drawn0.step)⟩
      ·rw [if_neg c6] at H
       exact absurd H (by simp)
     ·rw [if_neg c5] at H
      exact absurd H (by simp)
    ·rw [if_neg c4] at H
     have c4b0 : decide (x5_1 < (l0.length : Int)) = false := decide_eq_false c4
     clear c4
     obtain rfl := Option.some.inj H
     go_wp2
     repeat (go_quiet (fail); try go_wp2)
     go_ret
     exact ⟨by rfl, by repeat (first | exact Drawn0.refl _ | apply Drawn0.step)⟩
 ·rw [if_neg c3] at H
  have c3b0 : ((l0.length : Int) == (l1.length : Int)) = false := beq_eq_false_iff_ne.mpr c3
  have c3b1 : ((l0.length : Int) != (l1.length : Int)) = true := bne_iff_ne.mpr c3
  have c3b2 : (l0.length == l1.length) = false := by (simp at c3 ⊢; omega)
  obtain rfl := Option.some.inj H
  go_enter Try.func73, Try.ntmps73
  go_wp2
  repeat (go_quiet (fail); try go_wp2)
  go_ret
  exact ⟨by rfl, by repeat (exact Drawn0.refl _)⟩
end Go.Proofs.Ythheakfgmombdaa.F
end
section
namespace Go.Proofs.Ythheakfgmombdaa.F
open Go.RowKit Go.Proofs.YthheakfgmombdaaX.PrintWords Go.Proofs.YthheakfgmombdaaX.PrintLast Go.Proofs.YthheakfgmombdaaX.PrintMore
attribute [local go_sem] max2_int min2_int max_two min_two max_three min_three max_four min_four   -- for this text's walks alone
set_option linter.unusedVariables false
set_option linter.unusedSimpArgs false
set_option maxHeartbeats 8000000 in
set_option maxRecDepth 100000 in
theorem codewrightref02_Same.calls (k : Nat) (a0_0 : Bool) (A0_1 : Option Addr) (c0_1 : Nat) (l0_1 : List Int) (A0_2 : Option Addr) (c0_2 : Nat) (l0_2 : List Int) (a1_0 : Bool) (A1_1 : Option Addr) (c1_1 : Nat) (l1_1 : List Int) (A1_2 : Option Addr) (c1_2 : Nat) (l1_2 : List Int) (r : Bool) (w : World) (hr0_1 : Kd.C (Kd.int .u32) w A0_1 l0_1.length l0_1) (hc0_1 : l0_1.length ≤ c0_1) (hr0_2 : Kd.C (Kd.int .u32) w A0_2 l0_2.length l0_2) (hc0_2 : l0_2.length ≤ c0_2) (hr1_1 : Kd.C (Kd.int .u32) w A1_1 l1_1.length l1_1) (hc1_1 : l1_1.length ≤ c1_1) (hr1_2 : Kd.C (Kd.int .u32) w A1_2 l1_2.length l1_2) (hc1_2 : l1_2.length ≤ c1_2) (h : codewrightref02_Same.f k a0_0 l0_1 l0_2 a1_0 l1_1 l1_2 = some r) :
  Calls Try.prog 34 #[.agg #[.bool a0_0, .slice A0_1 l0_1.length c0_1, .slice A0_2 l0_2.length c0_2], .agg #[.bool a1_0, .slice A1_1 l1_1.length c1_1, .slice A1_2 l1_2.length c1_2]] w fun e w' => e = .returned (.bool r) ∧ Below w.heap.size w w' := by
 have hu46 := Try.underlying46
 have HR0_1 := Aside0.mk hr0_1
 have HC0_1 := Aside0.mk hc0_1
 clear hr0_1 hc0_1
 have HR0_2 := Aside0.mk hr0_2
 have HC0_2 := Aside0.mk hc0_2
 clear hr0_2 hc0_2
 have HR1_1 := Aside0.mk hr1_1
 have HC1_1 := Aside0.mk hc1_1
 clear hr1_1 hc1_1
 have HR1_2 := Aside0.mk hr1_2
 have HC1_2 := Aside0.mk hc1_2
 clear hr1_2 hc1_2
 have HB := Aside0.mk (Below.refl w.heap.size w)
 have H : (if (a0_0 == a1_0) = true then ((codewrightref01_Same.f k l0_1 l1_1).bind fun t343 => (if t343 = true then ((codewrightref01_Same.f k l0_2 l1_2).bind fun t344 => (some t344)) else (some false))) else (some false)) = some r := h
 clear h
 by_cases c3 : (a0_0 == a1_0) = true
 ·rw [if_pos c3] at H
  have c3b0 : (a0_0 == a1_0) = true := c3
  (try (have c3b1 : decide (a0_0 = a1_0) = true := by simpa using c3))
  (try (have c3b2 : (a0_0 == a1_0) = true := by simpa using c3))
  clear c3
  replace H := Option.bind_eq_some_iff.mp H
  obtain ⟨t343, A40, H⟩ := H
  replace H : (if t343 = true then ((codewrightref01_Same.f k l0_2 l1_2).bind fun t344 => (some t344)) else (some false)) = some r := H
  have A4 := Aside0.mk A40
  clear A40
  by_cases c5 : t343 = true
  ·subst c5
   have H1 : ((codewrightref01_Same.f k l0_2 l1_2).bind fun t344 => (some t344)) = some r := by rw [if_pos rfl] at H; exact H
   clear H
   have H := H1
   clear H1
   replace H := Option.bind_eq_some_iff.mp H
   obtain ⟨t344, A60, H⟩ := H
   replace H : (some t344) = some r := H
   have A6 := Aside0.mk A60
   clear A60
   obtain rfl := Option.some.inj H
   go_enter Try.func34, Try.ntmps34
   go_wp2_with (first | ((with_reducible refine gate_dst (N := 2) rfl ?_); refine box_event ?hg (N := 2) ?hd (cs := #[.bool a0_0, .slice A0_1 l0_1.length c0_1, .slice A0_2 l0_2.length c0_2]) (t := 46) ?hr ?_; (case hd => rfl); (case hg => rfl); (case hr => (go_simp; done)); intro gb341 hg w7 hbox hb; have n0_ := Aside0.mk (below_step (by repeat ((with_reducible exact HB.out))) hb); have n1_ := Aside0.mk (hbox); have n2_ := Aside0.mk ((by rw [hg]; exact (below_size (by repeat ((with_reducible exact HB.out)))) : w.heap.size ≤ gb341)); have n3_ := Aside0.mk ((by rw [hg]; exact (below_size (by repeat ((with_reducible exact HB.out)))) : w.heap.size ≤ gb341)); clear HB; have HB := n0_; have BK341 := n1_; have GW341 := n2_; have GE341 := n3_; clear n0_ n1_ n2_ n3_; clear hb hbox hg) | ((with_reducible refine gate_dst (N := 3) rfl ?_); refine box_event ?hg (N := 3) ?hd (cs := #[.bool a1_0, .slice A1_1 l1_1.length c1_1, .slice A1_2 l1_2.length c1_2]) (t := 46) ?hr ?_; (case hd => rfl); (case hg => rfl); (case hr => (go_simp; done)); intro gb342 hg w8 hbox hb; have n0_ := Aside0.mk (blk_below (g := gb341) (o := .cells #[.bool a0_0, .slice A0_1 l0_1.length c0_1, .slice A0_2 l0_2.length c0_2] 46 (0, 0)) (by (with_reducible repeat (fail)); exact BK341.out) hb); have n1_ := Aside0.mk (below_step (by repeat ((with_reducible exact HB.out))) hb); have n2_ := Aside0.mk (hbox); have n3_ := Aside0.mk ((by rw [hg]; exact (below_size (by repeat ((with_reducible exact HB.out)))) : w.heap.size ≤ gb342)); have n4_ := Aside0.mk ((by rw [hg]; exact (below_size (by repeat ((with_reducible exact HB.out)))) : w.heap.size ≤ gb342)); have n5_ := Aside0.mk ((by rw [hg]; exact Nat.ne_of_lt (blk_lt (g := gb341) (o := .cells #[.bool a0_0, .slice A0_1 l0_1.length c0_1, .slice A0_2 l0_2.length c0_2] 46 (0, 0)) (by (with_reducible repeat (fail)); exact BK341.out)) : gb341 ≠ gb342)); have n6_ := Aside0.mk ((by rw [hg]; exact Nat.ne_of_gt (blk_lt (g := gb341) (o := .cells #[.bool a0_0, .slice A0_1 l0_1.length c0_1, .slice A0_2 l0_2.length c0_2] 46 (0, 0)) (by (with_reducible repeat (fail)); exact BK341.out)) : gb342 ≠ gb341)); clear BK341; clear HB; have BK341 := n0_; have HB := n1_; have BK342 := n2_; have GW342 := n3_; have GE342 := n4_; have NB341_342 := n5_; have NB342_341 := n6_; clear n0_ n1_ n2_ n3_ n4_ n5_ n6_; clear hb hbox hg; have hnb9 := NB341_342.out; have hnc9 := NB342_341.out; have hcz10_0 : w8.cell? ⟨gb341, 0, none⟩ = some (.bool a0_0) := (blk_cell BK341.out 0).trans rfl; have hcz10_1 : w8.cell? ⟨gb341, 1, none⟩ = some (.slice A0_1 l0_1.length c0_1) := (blk_cell BK341.out 1).trans rfl; have hcz10_2 : w8.cell? ⟨gb341, 2, none⟩ = some (.slice A0_2 l0_2.length c0_2) := (blk_cell BK341.out 2).trans rfl; have hfz10_0 := blk_frozen BK341.out 0; have hfz10_1 := blk_frozen BK341.out 1; have hfz10_2 := blk_frozen BK341.out 2; have hcz11_0 : w8.cell? ⟨gb342, 0, none⟩ = some (.bool a1_0) := (blk_cell BK342.out 0).trans rfl; have hcz11_1 : w8.cell? ⟨gb342, 1, none⟩ = some (.slice A1_1 l1_1.length c1_1) := (blk_cell BK342.out 1).trans rfl; have hcz11_2 : w8.cell? ⟨gb342, 2, none⟩ = some (.slice A1_2 l1_2.length c1_2) := (blk_cell BK342.out 2).trans rfl; have hfz11_0 := blk_frozen BK342.out 0; have hfz11_1 := blk_frozen BK342.out 1; have hfz11_2 := blk_frozen BK342.out 2) | (go_at_call 73; (with_reducible refine (codewrightref01_Same.calls k _ _ l0_1 _ _ l1_1 true _ ?side1 ?side2 ?side3 ?side4 A4.out).mono ?_); (case side1 => repeat (exact (Kd.C_below HR0_1.out HB.out))); (case side2 => exact HC0_1.out); (case side3 => repeat (exact (Kd.C_below HR1_1.out HB.out))); (case side4 => exact HC1_1.out); rintro e w' ⟨rfl, ⟨nd, rfl⟩⟩) | (go_at_call 73; (with_reducible refine (codewrightref01_Same.calls k _ _ l0_2 _ _ l1_2 t344 _ ?side1 ?side2 ?side3 ?side4 A6.out).mono ?_); (case side1 => repeat (exact (Kd.C_below HR0_2.out (by repeat ((with_reducible first | exact HB.out | apply pw_below_drewN)))))); (case side2 => exact HC0_2.out); (case side3 => repeat (exact (Kd.C_below HR1_2.out (by repeat ((with_reducible first | exact HB.out | apply pw_below_drewN)))))); (case side4 => exact HC1_2.out); rintro e w' ⟨rfl, ⟨nd, rfl⟩⟩))
   go_ret
   exact ⟨by rfl, by repeat ((with_reducible first | exact HB.out | apply pw_below_drewN))⟩
  ·replace c5 := Bool.eq_false_iff.mpr c5
   subst c5
   have H1 : (some false) = some r := by rw [if_neg (show ¬ (false = true) by decide)] at H; exact H
   clear H
   have H := H1
   clear H1
   obtain rfl := Option.some.inj H
   go_enter Try.func34, Try.ntmps34
   go_wp2_with (first | ((with_reducible refine gate_dst (N := 2) rfl ?_); refine box_event ?hg (N := 2) ?hd (cs := #[.bool a0_0, .slice A0_1 l0_1.length c0_1, .slice A0_2 l0_2.length c0_2]) (t := 46) ?hr ?_; (case hd => rfl); (case hg => rfl); (case hr => (go_simp; done)); intro gb341 hg w12 hbox hb; have n0_ := Aside0.mk (below_step (by repeat ((with_reducible exact HB.out))) hb); have n1_ := Aside0.mk (hbox); have n2_ := Aside0.mk ((by rw [hg]; exact (below_size (by repeat ((with_reducible exact HB.out)))) : w.heap.size ≤ gb341)); have n3_ := Aside0.mk ((by rw [hg]; exact (below_size (by repeat ((with_reducible exact HB.out)))) : w.heap.size ≤ gb341)); clear HB; have HB := n0_; have BK341 := n1_; have GW341 := n2_; have GE341 := n3_; clear n0_ n1_ n2_ n3_; clear hb hbox hg) | ((with_reducible refine gate_dst (N := 3) rfl ?_); refine box_event ?hg (N := 3) ?hd (cs := #[.bool a1_0, .slice A1_1 l1_1.length c1_1, .slice A1_2 l1_2.length c1_2]) (t := 46) ?hr ?_; (case hd => rfl); (case hg => rfl); (case hr => (go_simp; done)); intro gb342 hg w13 hbox hb; have n0_ := Aside0.mk (blk_below (g := gb341) (o := .cells #[.bool a0_0, .slice A0_1 l0_1.length c0_1, .slice A0_2 l0_2.length c0_2] 46 (0, 0)) (by (with_reducible repeat (fail)); exact BK341.out) hb); have n1_ := Aside0.mk (below_step (by repeat ((with_reducible exact HB.out))) hb); have n2_ := Aside0.mk (hbox); have n3_ := Aside0.mk ((by rw [hg]; exact (below_size (by repeat ((with_reducible exact HB.out)))) : w.heap.size ≤ gb342)); have n4_ := Aside0.mk ((by rw [hg]; exact (below_size (by repeat ((with_reducible exact HB.out)))) : w.heap.size ≤ gb342)); have n5_ := Aside0.mk ((by rw [hg]; exact Nat.ne_of_lt (blk_lt (g := gb341) (o := .cells #[.bool a0_0, .slice A0_1 l0_1.length c0_1, .slice A0_2 l0_2.length c0_2] 46 (0, 0)) (by (with_reducible repeat (fail)); exact BK341.out)) : gb341 ≠ gb342)); have n6_ := Aside0.mk ((by rw [hg]; exact Nat.ne_of_gt (blk_lt (g := gb341) (o := .cells #[.bool a0_0, .slice A0_1 l0_1.length c0_1, .slice A0_2 l0_2.length c0_2] 46 (0, 0)) (by (with_reducible repeat (fail)); exact BK341.out)) : gb342 ≠ gb341)); clear BK341; clear HB; have BK341 := n0_; have HB := n1_; have BK342 := n2_; have GW342 := n3_; have GE342 := n4_; have NB341_342 := n5_; have NB342_341 := n6_; clear n0_ n1_ n2_ n3_ n4_ n5_ n6_; clear hb hbox hg; have hnb14 := NB341_342.out; have hnc14 := NB342_341.out; have hcz15_0 : w13.cell? ⟨gb341, 0, none⟩ = some (.bool a0_0) := (blk_cell BK341.out 0).trans rfl; have hcz15_1 : w13.cell? ⟨gb341, 1, none⟩ = some (.slice A0_1 l0_1.length c0_1) := (blk_cell BK341.out 1).trans rfl; have hcz15_2 : w13.cell? ⟨gb341, 2, none⟩ = some (.slice A0_2 l0_2.length c0_2) := (blk_cell BK341.out 2).trans rfl; have hfz15_0 := blk_frozen BK341.out 0; have hfz15_1 := blk_frozen BK341.out 1; have hfz15_2 := blk_frozen BK341.out 2; have hcz16_0 : w13.cell? ⟨gb342, 0, none⟩ = some (.bool a1_0) := (blk_cell BK342.out 0).trans rfl; have hcz16_1 : w13.cell? ⟨gb342, 1, none⟩ = some (.slice A1_1 l1_1.length c1_1) := (blk_cell BK342.out 1).trans rfl; have hcz16_2 : w13.cell? ⟨gb342, 2, none⟩ = some (.slice A1_2 l1_2.length c1_2) := (blk_cell BK342.out 2).trans rfl; have hfz16_0 := blk_frozen BK342.out 0; have hfz16_1 := blk_frozen BK342.out 1; have hfz16_2 := blk_frozen BK342.out 2) | (go_at_call 73; (with_reducible refine (codewrightref01_Same.calls k _ _ l0_1 _ _ l1_1 false _ ?side1 ?side2 ?side3 ?side4 A4.out).mono ?_); (case side1 => repeat (exact (Kd.C_below HR0_1.out HB.out))); (case side2 => exact HC0_1.out); (case side3 => repeat (exact (Kd.C_below HR1_1.out HB.out))); (case side4 => exact HC1_1.out); rintro e w' ⟨rfl, ⟨nd, rfl⟩⟩))
   go_ret
   exact ⟨by rfl, by repeat ((with_reducible first | exact HB.out | apply pw_below_drewN))⟩
 ·rw [if_neg c3] at H
  have c3b0 : (a0_0 == a1_0) = false := by simpa using c3
  (try (have c3b1 : decide (a0_0 = a1_0) = false := by simpa using c3))
  (try (have c3b2 : (a0_0 == a1_0) = false := by simpa using c3))
  (try (have c3b3 : ¬ (a0_0 = a1_0) := by simpa using c3))
  clear c3
  obtain rfl := Option.some.inj H
  go_enter Try.func34, Try.ntmps34
  go_wp2_with (first | ((with_reducible refine gate_dst (N := 2) rfl ?_); refine box_event ?hg (N := 2) ?hd (cs := #[.bool a0_0, .slice A0_1 l0_1.length c0_1, .slice A0_2 l0_2.length c0_2]) (t := 46) ?hr ?_; (case hd => rfl); (case hg => rfl); (case hr => (go_simp; done)); intro gb341 hg w17 hbox hb; have n0_ := Aside0.mk (below_step (by repeat ((with_reducible exact HB.out))) hb); have n1_ := Aside0.mk (hbox); have n2_ := Aside0.mk ((by rw [hg]; exact (below_size (by repeat ((with_reducible exact HB.out)))) : w.heap.size ≤ gb341)); have n3_ := Aside0.mk ((by rw [hg]; exact (below_size (by repeat ((with_reducible exact HB.out)))) : w.heap.size ≤ gb341)); clear HB; have HB := n0_; have BK341 := n1_; have GW341 := n2_; have GE341 := n3_; clear n0_ n1_ n2_ n3_; clear hb hbox hg) | ((with_reducible refine gate_dst (N := 3) rfl ?_); refine box_event ?hg (N := 3) ?hd (cs := #[.bool a1_0, .slice A1_1 l1_1.length c1_1, .slice A1_2 l1_2.length c1_2]) (t := 46) ?hr ?_; (case hd => rfl); (case hg => rfl); (case hr => (go_simp; done)); intro gb342 hg w18 hbox hb; have n0_ := Aside0.mk (blk_below (g := gb341) (o := .cells #[.bool a0_0, .slice A0_1 l0_1.length c0_1, .slice A0_2 l0_2.length c0_2] 46 (0, 0)) (by (with_reducible repeat (fail)); exact BK341.out) hb); have n1_ := Aside0.mk (below_step (by repeat ((with_reducible exact HB.out))) hb); have n2_ := Aside0.mk (hbox); have n3_ := Aside0.mk ((by rw [hg]; exact (below_size (by repeat ((with_reducible exact HB.out)))) : w.heap.size ≤ gb342)); have n4_ := Aside0.mk ((by rw [hg]; exact (below_size (by repeat ((with_reducible exact HB.out)))) : w.heap.size ≤ gb342)); have n5_ := Aside0.mk ((by rw [hg]; exact Nat.ne_of_lt (blk_lt (g := gb341) (o := .cells #[.bool a0_0, .slice A0_1 l0_1.length c0_1, .slice A0_2 l0_2.length c0_2] 46 (0, 0)) (by (with_reducible repeat (fail)); exact BK341.out)) : gb341 ≠ gb342)); have n6_ := Aside0.mk ((by rw [hg]; exact Nat.ne_of_gt (blk_lt (g := gb341) (o := .cells #[.bool a0_0, .slice A0_1 l0_1.length c0_1, .slice A0_2 l0_2.length c0_2] 46 (0, 0)) (by (with_reducible repeat (fail)); exact BK341.out)) : gb342 ≠ gb341)); clear BK341; clear HB; have BK341 := n0_; have HB := n1_; have BK342 := n2_; have GW342 := n3_; have GE342 := n4_; have NB341_342 := n5_; have NB342_341 := n6_; clear n0_ n1_ n2_ n3_ n4_ n5_ n6_; clear hb hbox hg; have hnb19 := NB341_342.out; have hnc19 := NB342_341.out; have hcz20_0 : w18.cell? ⟨gb341, 0, none⟩ = some (.bool a0_0) := (blk_cell BK341.out 0).trans rfl; have hcz20_1 : w18.cell? ⟨gb341, 1, none⟩ = some (.slice A0_1 l0_1.length c0_1) := (blk_cell BK341.out 1).trans rfl; have hcz20_2 : w18.cell? ⟨gb341, 2, none⟩ = some (.slice A0_2 l0_2.length c0_2) := (blk_cell BK341.out 2).trans rfl; have hfz20_0 := blk_frozen BK341.out 0; have hfz20_1 := blk_frozen BK341.out 1; have hfz20_2 := blk_frozen BK341.out 2; have hcz21_0 : w18.cell? ⟨gb342, 0, none⟩ = some (.bool a1_0) := (blk_cell BK342.out 0).trans rfl; have hcz21_1 : w18.cell? ⟨gb342, 1, none⟩ = some (.slice A1_1 l1_1.length c1_1) := (blk_cell BK342.out 1).trans rfl; have hcz21_2 : w18.cell? ⟨gb342, 2, none⟩ = some (.slice A1_2 l1_2.length c1_2) := (blk_cell BK342.out 2).trans rfl; have hfz21_0 := blk_frozen BK342.out 0; have hfz21_1 := blk_frozen BK342.out 1; have hfz21_2 := blk_frozen BK342.out 2))
  go_ret
  exact ⟨by rfl, by repeat ((with_reducible exact HB.out))⟩
end Go.Proofs.Ythheakfgmombdaa.F
end
section
namespace Go.Proofs.Ythheakfgmombdaa.F
open Go.RowKit Go.Proofs.YthheakfgmombdaaX.PrintWords Go.Proofs.YthheakfgmombdaaX.PrintLast Go.Proofs.YthheakfgmombdaaX.PrintMore
attribute [local go_sem] max2_int min2_int max_two min_two max_three min_three max_four min_four   -- for this text's walks alone
set_option linter.unusedVariables false
set_option linter.unusedSimpArgs false
def codewrightref02_SameList.T6 : Bool × List (List Nat × List Nat) := (true, [([], []), ([], []), ([0, 1], [0, 1]), ([2], [2]), ([], []), ([], []), ([4, 5], [4, 5]), ([6], [6]), ([3, 7], [3, 7]), ([8], [8])])
def codewrightref02_SameList.B6 : List Nat := [0, 0, 3, 7, 0, 0, 48, 112, 255, 511]
theorem codewrightref02_SameList.tab6 : rtab .any (opsOf Try.f27 6) = codewrightref02_SameList.T6 := by kernel_rfl
theorem codewrightref02_SameList.bits6 : waitsOk codewrightref02_SameList.T6.2 codewrightref02_SameList.B6 = true := by kernel_rfl
set_option maxHeartbeats 8000000 in
set_option maxRecDepth 100000 in
theorem codewrightref02_SameList.calls (k : Nat) (A0 : Option Addr) (c0 : Nat) (l0 : List (S46)) (A1 : Option Addr) (c1 : Nat) (l1 : List (S46)) (r : Bool) (w : World) (hr0 : Kd.C k46 w A0 l0.length l0) (hc0 : l0.length ≤ c0) (hr1 : Kd.C k46 w A1 l1.length l1) (hc1 : l1.length ≤ c1) (h : codewrightref02_SameList.f k l0 l1 = some r) :
  Calls Try.prog 27 #[.slice A0 l0.length c0, .slice A1 l1.length c1] w fun e w' => e = .returned (.bool r) ∧ Below w.heap.size w w' := by
 have hu46 := Try.underlying46
 have HR0 := Aside0.mk hr0
 have HC0 := Aside0.mk hc0
 clear hr0 hc0
 have HR1 := Aside0.mk hr1
 have HC1 := Aside0.mk hc1
 clear hr1 hc1
 have HB := Aside0.mk (Below.refl w.heap.size w)
 have H : (if (l0.length : Int) = (l1.length : Int) then (codewrightref02_SameList.l0 k l0 l1 0) else (some false)) = some r := h
 clear h
 by_cases c3 : (l0.length : Int) = (l1.length : Int)
 ·rw [if_pos c3] at H
  have c3b0 : ((l0.length : Int) == (l1.length : Int)) = true := beq_iff_eq.mpr c3
  have c3b1 : ((l0.length : Int) != (l1.length : Int)) = false := bne_eq_false_iff_eq.mpr c3
  have c3b2 : (l0.length == l1.length) = true := by (simp at c3 ⊢; omega)
  clear c3
  have H' := Aside0.mk H
  clear H
  go_enter Try.func27, Try.ntmps27
  go_wp2
  go_loopg [5] k (fun kq v5 w' => ∃ (x5_1 : Int), v5 = .int .i64 x5_1 ∧ Aside0 (codewrightref02_SameList.l0 kq l0 l1 x5_1 = some r) ∧ Aside0 (kq ≤ k) ∧ Aside0 (Below w.heap.size w w'))
  case atStart => exact ⟨(0), (by rfl), H', ⟨Nat.le_refl _⟩, ⟨by repeat ((with_reducible exact HB.out))⟩⟩
  case round =>
   clear H'
   try clear c3b0
   try clear c3b1
   try clear c3b2
   obtain ⟨x5_1, rfl, HA, HK1, HB⟩ := hrel
   cases gk with
   | zero => exact absurd HA.out (by simp [codewrightref02_SameList.l0])
   | succ k1 =>
    have H := HA.out
    clear HA
    simp only [codewrightref02_SameList.l0] at H
    by_cases c4 : x5_1 < (l0.length : Int)
    ·rw [if_pos c4] at H
     have c4b0 : decide (x5_1 < (l0.length : Int)) = true := decide_eq_true c4
     clear c4
     by_cases c5 : 0 ≤ x5_1
     ·rw [if_pos c5] at H
      have c5b0 : decide (0 ≤ x5_1) = true := decide_eq_true c5
      clear c5
      by_cases c6 : x5_1 < (l1.length : Int)
      ·rw [if_pos c6] at H
       have c6b0 : decide (x5_1 < (l1.length : Int)) = true := decide_eq_true c6
       clear c6
       replace H := Option.bind_eq_some_iff.mp H
       obtain ⟨t347, A70, H⟩ := H
       replace H : (if t347 = true then (codewrightref02_SameList.l0 k1 l0 l1 (wrap64 (x5_1 + 1))) else (some false)) = some r := H
       have A7 := Aside0.mk A70
       clear A70
       by_cases c8 : t347 = true
       ·subst c8
        have H1 : (codewrightref02_SameList.l0 k1 l0 l1 (wrap64 (x5_1 + 1))) = some r := by rw [if_pos rfl] at H; exact H
        clear H
        have H := H1
        clear H1
        have H' := Aside0.mk H
        clear H
        try go_wp2
        have n0_ := Aside0.mk (below_drew1 HB.out)
        clear HB
        have HB := n0_
        clear n0_
        have p345 : 0 ≤ (x5_1 : Int) := of_decide_eq_true (by (with_reducible assumption))
        have q345 : x5_1 < (l0.length : Int) := of_decide_eq_true (by (with_reducible assumption))
        obtain ⟨ad345, A345_1, c345_1, A345_2, c345_2, e345, hx345_0, hx345_1, hx345_2, hl345_1, hi345_1, hl345_2, hi345_2⟩ := at_T46 HR0.out x5_1 p345 q345
        have hw345_2 := hx345_2
        have hw345_1 := hx345_1
        have hw345_0 := hx345_0
        cases e345
        replace hx345_0 := (HB.out.cell (World.block_lt_of_cell? w _ hx345_0)).trans hx345_0
        replace hx345_1 := (HB.out.cell (World.block_lt_of_cell? w _ hx345_1)).trans hx345_1
        replace hx345_2 := (HB.out.cell (World.block_lt_of_cell? w _ hx345_2)).trans hx345_2
        have HR345_1 := Aside0.mk hi345_1
        have HC345_1 := Aside0.mk hl345_1
        clear hi345_1 hl345_1
        have HR345_2 := Aside0.mk hi345_2
        have HC345_2 := Aside0.mk hl345_2
        clear hi345_2 hl345_2
        replace p345 := eq_true p345
        replace q345 := eq_true q345
        have p346 : 0 ≤ (x5_1 : Int) := of_decide_eq_true (by (with_reducible assumption))
        have q346 : x5_1 < (l1.length : Int) := of_decide_eq_true (by (with_reducible assumption))
        obtain ⟨ad346, A346_1, c346_1, A346_2, c346_2, e346, hx346_0, hx346_1, hx346_2, hl346_1, hi346_1, hl346_2, hi346_2⟩ := at_T46 HR1.out x5_1 p346 q346
        have hw346_2 := hx346_2
        have hw346_1 := hx346_1
        have hw346_0 := hx346_0
        cases e346
        replace hx346_0 := (HB.out.cell (World.block_lt_of_cell? w _ hx346_0)).trans hx346_0
        replace hx346_1 := (HB.out.cell (World.block_lt_of_cell? w _ hx346_1)).trans hx346_1
        replace hx346_2 := (HB.out.cell (World.block_lt_of_cell? w _ hx346_2)).trans hx346_2
        have HR346_1 := Aside0.mk hi346_1
        have HC346_1 := Aside0.mk hl346_1
        clear hi346_1 hl346_1
        have HR346_2 := Aside0.mk hi346_2
        have HC346_2 := Aside0.mk hl346_2
        clear hi346_2 hl346_2
        replace p346 := eq_true p346
        replace q346 := eq_true q346
        refine start_ (n := 10) (S := fun w' => w'.cell? (ad345.add ((x5_1).toNat * 3)) = some (.bool ((rd_T46 l0 x5_1).f0)) ∧ w'.cell? ⟨(ad345.add ((x5_1).toNat * 3)).block, (ad345.add ((x5_1).toNat * 3)).off + 1, none⟩ = some (.slice A345_1 ((rd_T46 l0 x5_1).f1).length c345_1) ∧ w'.cell? ⟨(ad345.add ((x5_1).toNat * 3)).block, (ad345.add ((x5_1).toNat * 3)).off + 2, none⟩ = some (.slice A345_2 ((rd_T46 l0 x5_1).f2).length c345_2) ∧ w'.cell? (ad346.add ((x5_1).toNat * 3)) = some (.bool ((rd_T46 l1 x5_1).f0)) ∧ w'.cell? ⟨(ad346.add ((x5_1).toNat * 3)).block, (ad346.add ((x5_1).toNat * 3)).off + 1, none⟩ = some (.slice A346_1 ((rd_T46 l1 x5_1).f1).length c346_1) ∧ w'.cell? ⟨(ad346.add ((x5_1).toNat * 3)).block, (ad346.add ((x5_1).toNat * 3)).off + 2, none⟩ = some (.slice A346_2 ((rd_T46 l1 x5_1).f2).length c346_2)) (ds := []) #[false, false, false, false, false, false, false, false, false, false] (by kernel_rfl) rfl rfl ⟨((HB.out.cell (World.block_lt_of_cell? w _ hw345_0)).trans hw345_0), ((HB.out.cell (World.block_lt_of_cell? w _ hw345_1)).trans hw345_1), ((HB.out.cell (World.block_lt_of_cell? w _ hw345_2)).trans hw345_2), ((HB.out.cell (World.block_lt_of_cell? w _ hw346_0)).trans hw346_0), ((HB.out.cell (World.block_lt_of_cell? w _ hw346_1)).trans hw346_1), ((HB.out.cell (World.block_lt_of_cell? w _ hw346_2)).trans hw346_2)⟩ (fun hHeld => ?_); refine with_tabW codewrightref02_SameList.tab6 codewrightref02_SameList.bits6 (fun HT_ HW_ => ?_)
        generalize wr.drew = w9 at HB HR345_1 HR345_2 HR346_1 HR346_2 hx345_0 hx345_1 hx345_2 hx346_0 hx346_1 hx346_2 hHeld ⊢
        refine pure_ (i := 0) (N := some 17) (v := ?_) (a' := ?_) #[true, false, false, false, false, false, false, false, false, false] rfl rfl (any_of HT_.out (by kernel_rfl)) (fun _ _ _ h => h) (Or.inl ⟨by rfl, ?_⟩) ?_ ?_
        rotate_left
        ·intro w'
         go_simp
         with_reducible rfl
        rotate_left
        ·simp only [Act.put, List.setIfInBounds_toArray, List.set_cons_zero, List.set_cons_succ, i64_w, i32_w]
         rfl
        refine pure_ (i := 1) (N := some 18) (v := ?_) (a' := ?_) #[true, true, false, false, false, false, false, false, false, false] rfl rfl (any_of HT_.out (by kernel_rfl)) (fun _ _ _ h => h) (Or.inl ⟨by rfl, ?_⟩) ?_ ?_
        rotate_left
        ·intro w'
         go_simp
         with_reducible rfl
        rotate_left
        ·simp only [Act.put, List.setIfInBounds_toArray, List.set_cons_zero, List.set_cons_succ, i64_w, i32_w]
         rfl
        refine pure_ (i := 2) (N := some 19) (v := ?_) (a' := ?_) #[true, true, true, false, false, false, false, false, false, false] rfl rfl (any_of HT_.out (by kernel_rfl)) (fun _ _ _ h => h) (Or.inl ⟨by rfl, ?_⟩) ?_ ?_
        rotate_left
        ·intro w'
         go_simp
         with_reducible rfl
        rotate_left
        ·simp only [Act.put, List.setIfInBounds_toArray, List.set_cons_zero, List.set_cons_succ, i64_w, i32_w]
         rfl
        refine pure_ (i := 4) (N := some 21) (v := ?_) (a' := ?_) #[true, true, true, false, true, false, false, false, false, false] rfl rfl (any_of HT_.out (by kernel_rfl)) (fun _ _ _ h => h) (Or.inl ⟨by rfl, ?_⟩) ?_ ?_
        rotate_left
        ·intro w'
         go_simp
         with_reducible rfl
        rotate_left
        ·simp only [Act.put, List.setIfInBounds_toArray, List.set_cons_zero, List.set_cons_succ, i64_w, i32_w]
         rfl
        refine pure_ (i := 5) (N := some 22) (v := ?_) (a' := ?_) #[true, true, true, false, true, true, false, false, false, false] rfl rfl (any_of HT_.out (by kernel_rfl)) (fun _ _ _ h => h) (Or.inl ⟨by rfl, ?_⟩) ?_ ?_
        rotate_left
        ·intro w'
         go_simp
         with_reducible rfl
        rotate_left
        ·simp only [Act.put, List.setIfInBounds_toArray, List.set_cons_zero, List.set_cons_succ, i64_w, i32_w]
         rfl
        refine pure_ (i := 6) (N := some 23) (v := ?_) (a' := ?_) #[true, true, true, false, true, true, true, false, false, false] rfl rfl (any_of HT_.out (by kernel_rfl)) (fun _ _ _ h => h) (Or.inl ⟨by rfl, ?_⟩) ?_ ?_
        rotate_left
        ·intro w'
         go_simp
         with_reducible rfl
        rotate_left
        ·simp only [Act.put, List.setIfInBounds_toArray, List.set_cons_zero, List.set_cons_succ, i64_w, i32_w]
         rfl
        refine take_ (i := 3) (N := some 20) (v := ?_) (a' := ?_) #[true, true, true, true, true, true, true, false, false, false] rfl rfl (take_ofW HT_.out HW_.out (by kernel_rfl)) (fun _ _ _ h => h) (Or.inl ⟨by rfl, ?_⟩) hHeld ?_ ?_
        rotate_left
        ·rintro w' ⟨s0, s1, s2, s3, s4, s5⟩
         go_simp
         with_reducible rfl
        rotate_left
        ·simp only [Act.put, List.setIfInBounds_toArray, List.set_cons_zero, List.set_cons_succ, i64_w, i32_w]
         rfl
        refine take_ (i := 7) (N := some 24) (v := ?_) (a' := ?_) #[true, true, true, true, true, true, true, true, false, false] rfl rfl (take_ofW HT_.out HW_.out (by kernel_rfl)) (fun _ _ _ h => h) (Or.inl ⟨by rfl, ?_⟩) hHeld ?_ ?_
        rotate_left
        ·rintro w' ⟨s0, s1, s2, s3, s4, s5⟩
         go_simp
         with_reducible rfl
        rotate_left
        ·simp only [Act.put, List.setIfInBounds_toArray, List.set_cons_zero, List.set_cons_succ, i64_w, i32_w]
         rfl
        refine one_ (i := 8) (N := some 25) #[true, true, true, true, true, true, true, true, true, false] rfl rfl (one_of HT_.out (by kernel_rfl)) (by decide) (fun K hK => ?_)
        refine goes_ Try.func34 (by kernel_rfl) rfl #[.agg #[.bool ((rd_T46 l0 x5_1).f0), .slice A345_1 ((rd_T46 l0 x5_1).f1).length c345_1, .slice A345_2 ((rd_T46 l0 x5_1).f2).length c345_2], .agg #[.bool ((rd_T46 l1 x5_1).f0), .slice A346_1 ((rd_T46 l1 x5_1).f1).length c346_1, .slice A346_2 ((rd_T46 l1 x5_1).f2).length c346_2]] (by rfl) rfl rfl (by (try simp only [List.map_toArray, List.map_cons, List.map_nil]); rfl) ?_
        with_reducible refine (codewrightref02_Same.calls k1 ((rd_T46 l0 x5_1).f0) _ _ ((rd_T46 l0 x5_1).f1) _ _ ((rd_T46 l0 x5_1).f2) ((rd_T46 l1 x5_1).f0) _ _ ((rd_T46 l1 x5_1).f1) _ _ ((rd_T46 l1 x5_1).f2) true _ ?side1 ?side2 ?side3 ?side4 ?side5 ?side6 ?side7 ?side8 A7.out).mono ?_
        (case side1 => repeat (exact (Kd.C_below HR345_1.out HB.out)))
        (case side2 => exact HC345_1.out)
        (case side3 => repeat (exact (Kd.C_below HR345_2.out HB.out)))
        (case side4 => exact HC345_2.out)
        (case side5 => repeat (exact (Kd.C_below HR346_1.out HB.out)))
        (case side6 => exact HC346_1.out)
        (case side7 => repeat (exact (Kd.C_below HR346_2.out HB.out)))
        (case side8 => exact HC346_2.out)
        rintro e w10 ⟨rfl, hb⟩
        refine ⟨_, rfl, ?_⟩
        have n0_ := Aside0.mk (below_step (by repeat ((with_reducible exact HB.out))) hb)
        clear HB
        have HB := n0_
        clear n0_
        (try clear hb)
        refine hK.out _ _ ⟨((HB.out.cell (World.block_lt_of_cell? w _ hw345_0)).trans hw345_0), ((HB.out.cell (World.block_lt_of_cell? w _ hw345_1)).trans hw345_1), ((HB.out.cell (World.block_lt_of_cell? w _ hw345_2)).trans hw345_2), ((HB.out.cell (World.block_lt_of_cell? w _ hw346_0)).trans hw346_0), ((HB.out.cell (World.block_lt_of_cell? w _ hw346_1)).trans hw346_1), ((HB.out.cell (World.block_lt_of_cell? w _ hw346_2)).trans hw346_2)⟩ (fun hHeld => ?_)
        clear hK K
        refine norm_ (a' := ?_) ?_ ?_
        rotate_left
        ·show Act.put _ (some 25) _ = _
         simp only [Act.put, List.setIfInBounds_toArray, List.set_cons_zero, List.set_cons_succ, i64_w, i32_w]
         rfl
        refine pure_ (i := 9) (N := some 26) (v := ?_) (a' := ?_) #[true, true, true, true, true, true, true, true, true, true] rfl rfl (any_of HT_.out (by kernel_rfl)) (fun _ _ _ h => h) (Or.inl ⟨by rfl, ?_⟩) ?_ ?_
        rotate_left
        ·intro w'
         go_simp
         with_reducible rfl
        rotate_left
        ·simp only [Act.put, List.setIfInBounds_toArray, List.set_cons_zero, List.set_cons_succ, i64_w, i32_w]
         rfl
        refine done_ (done_of HT_.out (by kernel_rfl)) ?_
        try go_wp2
        go_roundg k1
        case measure => have := HK1.out; omega
        case rel => exact ⟨(wrap64 (x5_1 + 1)), (by rfl), H', ⟨by have := HK1.out; omega⟩, ⟨by repeat ((with_reducible exact HB.out))⟩⟩
       ·replace c8 := Bool.eq_false_iff.mpr c8
        subst c8
        have H1 : (some false) = some r := by rw [if_neg (show ¬ (false = true) by decide)] at H; exact H
        clear H
        have H := H1
        clear H1
        obtain rfl := Option.some.inj H
        try go_wp2
        have n0_ := Aside0.mk (below_drew1 HB.out)
        clear HB
        have HB := n0_
        clear n0_
        have p345 : 0 ≤ (x5_1 : Int) := of_decide_eq_true (by (with_reducible assumption))
        have q345 : x5_1 < (l0.length : Int) := of_decide_eq_true (by (with_reducible assumption))
        obtain ⟨ad345, A345_1, c345_1, A345_2, c345_2, e345, hx345_0, hx345_1, hx345_2, hl345_1, hi345_1, hl345_2, hi345_2⟩ := at_T46 HR0.out x5_1 p345 q345
        have hw345_2 := hx345_2
        have hw345_1 := hx345_1
        have hw345_0 := hx345_0
        cases e345
        replace hx345_0 := (HB.out.cell (World.block_lt_of_cell? w _ hx345_0)).trans hx345_0
        replace hx345_1 := (HB.out.cell (World.block_lt_of_cell? w _ hx345_1)).trans hx345_1
        replace hx345_2 := (HB.out.cell (World.block_lt_of_cell? w _ hx345_2)).trans hx345_2
        have HR345_1 := Aside0.mk hi345_1
        have HC345_1 := Aside0.mk hl345_1
        clear hi345_1 hl345_1
        have HR345_2 := Aside0.mk hi345_2
        have HC345_2 := Aside0.mk hl345_2
        clear hi345_2 hl345_2
        replace p345 := eq_true p345
        replace q345 := eq_true q345
        have p346 : 0 ≤ (x5_1 : Int) := of_decide_eq_true (by (with_reducible assumption))
        have q346 : x5_1 < (l1.length : Int) := of_decide_eq_true (by (with_reducible assumption))
        obtain ⟨ad346, A346_1, c346_1, A346_2, c346_2, e346, hx346_0, hx346_1, hx346_2, hl346_1, hi346_1, hl346_2, hi346_2⟩ := at_T46 HR1.out x5_1 p346 q346
        have hw346_2 := hx346_2
        have hw346_1 := hx346_1
        have hw346_0 := hx346_0
        cases e346
        replace hx346_0 := (HB.out.cell (World.block_lt_of_cell? w _ hx346_0)).trans hx346_0
        replace hx346_1 := (HB.out.cell (World.block_lt_of_cell? w _ hx346_1)).trans hx346_1
        replace hx346_2 := (HB.out.cell (World.block_lt_of_cell? w _ hx346_2)).trans hx346_2
        have HR346_1 := Aside0.mk hi346_1
        have HC346_1 := Aside0.mk hl346_1
        clear hi346_1 hl346_1
        have HR346_2 := Aside0.mk hi346_2
        have HC346_2 := Aside0.mk hl346_2
        clear hi346_2 hl346_2
        replace p346 := eq_true p346
        replace q346 := eq_true q346
        refine start_ (n := 10) (S := fun w' => w'.cell? (ad345.add ((x5_1).toNat * 3)) = some (.bool ((rd_T46 l0 x5_1).f0)) ∧ w'.cell? ⟨(ad345.add ((x5_1).toNat * 3)).block, (ad345.add ((x5_1).toNat * 3)).off + 1, none⟩ = some (.slice A345_1 ((rd_T46 l0 x5_1).f1).length c345_1) ∧ w'.cell? ⟨(ad345.add ((x5_1).toNat * 3)).block, (ad345.add ((x5_1).toNat * 3)).off + 2, none⟩ = some (.slice A345_2 ((rd_T46 l0 x5_1).f2).length c345_2) ∧ w'.cell? (ad346.add ((x5_1).toNat * 3)) = some (.bool ((rd_T46 l1 x5_1).f0)) ∧ w'.cell? ⟨(ad346.add ((x5_1).toNat * 3)).block, (ad346.add ((x5_1).toNat * 3)).off + 1, none⟩ = some (.slice A346_1 ((rd_T46 l1 x5_1).f1).length c346_1) ∧ w'.cell? ⟨(ad346.add ((x5_1).toNat * 3)).block, (ad346.add ((x5_1).toNat * 3)).off + 2, none⟩ = some (.slice A346_2 ((rd_T46 l1 x5_1).f2).length c346_2)) (ds := []) #[false, false, false, false, false, false, false, false, false, false] (by kernel_rfl) rfl rfl ⟨((HB.out.cell (World.block_lt_of_cell? w _ hw345_0)).trans hw345_0), ((HB.out.cell (World.block_lt_of_cell? w _ hw345_1)).trans hw345_1), ((HB.out.cell (World.block_lt_of_cell? w _ hw345_2)).trans hw345_2), ((HB.out.cell (World.block_lt_of_cell? w _ hw346_0)).trans hw346_0), ((HB.out.cell (World.block_lt_of_cell? w _ hw346_1)).trans hw346_1), ((HB.out.cell (World.block_lt_of_cell? w _ hw346_2)).trans hw346_2)⟩ (fun hHeld => ?_); refine with_tabW codewrightref02_SameList.tab6 codewrightref02_SameList.bits6 (fun HT_ HW_ => ?_)
        generalize wr.drew = w11 at HB HR345_1 HR345_2 HR346_1 HR346_2 hx345_0 hx345_1 hx345_2 hx346_0 hx346_1 hx346_2 hHeld ⊢
        refine pure_ (i := 0) (N := some 17) (v := ?_) (a' := ?_) #[true, false, false, false, false, false, false, false, false, false] rfl rfl (any_of HT_.out (by kernel_rfl)) (fun _ _ _ h => h) (Or.inl ⟨by rfl, ?_⟩) ?_ ?_
        rotate_left
        ·intro w'
         go_simp
         with_reducible rfl
        rotate_left
        ·simp only [Act.put, List.setIfInBounds_toArray, List.set_cons_zero, List.set_cons_succ, i64_w, i32_w]
         rfl
        refine pure_ (i := 1) (N := some 18) (v := ?_) (a' := ?_) #[true, true, false, false, false, false, false, false, false, false] rfl rfl (any_of HT_.out (by kernel_rfl)) (fun _ _ _ h => h) (Or.inl ⟨by rfl, ?_⟩) ?_ ?_
        rotate_left
        ·intro w'
         go_simp
         with_reducible rfl
        rotate_left
        ·simp only [Act.put, List.setIfInBounds_toArray, List.set_cons_zero, List.set_cons_succ, i64_w, i32_w]
         rfl
        refine pure_ (i := 2) (N := some 19) (v := ?_) (a' := ?_) #[true, true, true, false, false, false, false, false, false, false] rfl rfl (any_of HT_.out (by kernel_rfl)) (fun _ _ _ h => h) (Or.inl ⟨by rfl, ?_⟩) ?_ ?_
        rotate_left
        ·intro w'
         go_simp
         with_reducible rfl
        rotate_left
        ·simp only [Act.put, List.setIfInBounds_toArray, List.set_cons_zero, List.set_cons_succ, i64_w, i32_w]
         rfl
        refine pure_ (i := 4) (N := some 21) (v := ?_) (a' := ?_) #[true, true, true, false, true, false, false, false, false, false] rfl rfl (any_of HT_.out (by kernel_rfl)) (fun _ _ _ h => h) (Or.inl ⟨by rfl, ?_⟩) ?_ ?_
        rotate_left
        ·intro w'
         go_simp
         with_reducible rfl
        rotate_left
        ·simp only [Act.put, List.setIfInBounds_toArray, List.set_cons_zero, List.set_cons_succ, i64_w, i32_w]
         rfl
        refine pure_ (i := 5) (N := some 22) (v := ?_) (a' := ?_) #[true, true, true, false, true, true, false, false, false, false] rfl rfl (any_of HT_.out (by kernel_rfl)) (fun _ _ _ h => h) (Or.inl ⟨by rfl, ?_⟩) ?_ ?_
        rotate_left
        ·intro w'
         go_simp
         with_reducible rfl
        rotate_left
        ·simp only [Act.put, List.setIfInBounds_toArray, List.set_cons_zero, List.set_cons_succ, i64_w, i32_w]
         rfl
        refine pure_ (i := 6) (N := some 23) (v := ?_) (a' := ?_) #[true, true, true, false, true, true, true, false, false, false] rfl rfl (any_of HT_.out (by kernel_rfl)) (fun _ _ _ h => h) (Or.inl ⟨by rfl, ?_⟩) ?_ ?_
        rotate_left
        ·intro w'
         go_simp
         with_reducible rfl
        rotate_left
        ·simp only [Act.put, List.setIfInBounds_toArray, List.set_cons_zero, List.set_cons_succ, i64_w, i32_w]
         rfl
        refine take_ (i := 3) (N := some 20) (v := ?_) (a' := ?_) #[true, true, true, true, true, true, true, false, false, false] rfl rfl (take_ofW HT_.out HW_.out (by kernel_rfl)) (fun _ _ _ h => h) (Or.inl ⟨by rfl, ?_⟩) hHeld ?_ ?_
        rotate_left
        ·rintro w' ⟨s0, s1, s2, s3, s4, s5⟩
         go_simp
         with_reducible rfl
        rotate_left
        ·simp only [Act.put, List.setIfInBounds_toArray, List.set_cons_zero, List.set_cons_succ, i64_w, i32_w]
         rfl
        refine take_ (i := 7) (N := some 24) (v := ?_) (a' := ?_) #[true, true, true, true, true, true, true, true, false, false] rfl rfl (take_ofW HT_.out HW_.out (by kernel_rfl)) (fun _ _ _ h => h) (Or.inl ⟨by rfl, ?_⟩) hHeld ?_ ?_
        rotate_left
        ·rintro w' ⟨s0, s1, s2, s3, s4, s5⟩
         go_simp
         with_reducible rfl
        rotate_left
        ·simp only [Act.put, List.setIfInBounds_toArray, List.set_cons_zero, List.set_cons_succ, i64_w, i32_w]
         rfl
        refine one_ (i := 8) (N := some 25) #[true, true, true, true, true, true, true, true, true, false] rfl rfl (one_of HT_.out (by kernel_rfl)) (by decide) (fun K hK => ?_)
        refine goes_ Try.func34 (by kernel_rfl) rfl #[.agg #[.bool ((rd_T46 l0 x5_1).f0), .slice A345_1 ((rd_T46 l0 x5_1).f1).length c345_1, .slice A345_2 ((rd_T46 l0 x5_1).f2).length c345_2], .agg #[.bool ((rd_T46 l1 x5_1).f0), .slice A346_1 ((rd_T46 l1 x5_1).f1).length c346_1, .slice A346_2 ((rd_T46 l1 x5_1).f2).length c346_2]] (by rfl) rfl rfl (by (try simp only [List.map_toArray, List.map_cons, List.map_nil]); rfl) ?_
        with_reducible refine (codewrightref02_Same.calls k1 ((rd_T46 l0 x5_1).f0) _ _ ((rd_T46 l0 x5_1).f1) _ _ ((rd_T46 l0 x5_1).f2) ((rd_T46 l1 x5_1).f0) _ _ ((rd_T46 l1 x5_1).f1) _ _ ((rd_T46 l1 x5_1).f2) false _ ?side1 ?side2 ?side3 ?side4 ?side5 ?side6 ?side7 ?side8 A7.out).mono ?_
        (case side1 => repeat (exact (Kd.C_below HR345_1.out HB.out)))
        (case side2 => exact HC345_1.out)
        (case side3 => repeat (exact (Kd.C_below HR345_2.out HB.out)))
        (case side4 => exact HC345_2.out)
        (case side5 => repeat (exact (Kd.C_below HR346_1.out HB.out)))
        (case side6 => exact HC346_1.out)
        (case side7 => repeat (exact (Kd.C_below HR346_2.out HB.out)))
        (case side8 => exact HC346_2.out)
        rintro e w12 ⟨rfl, hb⟩
        refine ⟨_, rfl, ?_⟩
        have n0_ := Aside0.mk (below_step (by repeat ((with_reducible exact HB.out))) hb)
        clear HB
        have HB := n0_
        clear n0_
        (try clear hb)
        refine hK.out _ _ ⟨((HB.out.cell (World.block_lt_of_cell? w _ hw345_0)).trans hw345_0), ((HB.out.cell (World.block_lt_of_cell? w _ hw345_1)).trans hw345_1), ((HB.out.cell (World.block_lt_of_cell? w _ hw345_2)).trans hw345_2), ((HB.out.cell (World.block_lt_of_cell? w _ hw346_0)).trans hw346_0), ((HB.out.cell (World.block_lt_of_cell? w _ hw346_1)).trans hw346_1), ((HB.out.cell (World.block_lt_of_cell? w _ hw346_2)).trans hw346_2)⟩ (fun hHeld => ?_)
        clear hK K
        refine norm_ (a' := ?_) ?_ ?_
        rotate_left
        ·show Act.put _ (some 25) _ = _
         simp only [Act.put, List.setIfInBounds_toArray, List.set_cons_zero, List.set_cons_succ, i64_w, i32_w]
         rfl
        refine pure_ (i := 9) (N := some 26) (v := ?_) (a' := ?_) #[true, true, true, true, true, true, true, true, true, true] rfl rfl (any_of HT_.out (by kernel_rfl)) (fun _ _ _ h => h) (Or.inl ⟨by rfl, ?_⟩) ?_ ?_
        rotate_left
        ·intro w'
         go_simp
         with_reducible rfl
        rotate_left
        ·simp only [Act.put, List.setIfInBounds_toArray, List.set_cons_zero, List.set_cons_succ, i64_w, i32_w]
         rfl
        refine done_ (done_of HT_.out (by kernel_rfl)) ?_
        try go_wp2
        go_ret
        exact ⟨by rfl, by repeat ((with_reducible exact HB.out))⟩
      ·rw [if_neg c6] at H
       exact absurd H (by simp)
     ·rw [if_neg c5] at H
      exact absurd H (by simp)
    ·rw [if_neg c4] at H
     have c4b0 : decide (x5_1 < (l0.length : Int)) = false := decide_eq_false c4
     clear c4
     obtain rfl := Option.some.inj H
     go_wp2
     go_ret
     exact ⟨by rfl, by repeat ((with_reducible exact HB.out))⟩
 ·rw [if_neg c3] at H
  have c3b0 : ((l0.length : Int) == (l1.length : Int)) = false := beq_eq_false_iff_ne.mpr c3
  have c3b1 : ((l0.length : Int) != (l1.length : Int)) = true := bne_iff_ne.mpr c3
  have c3b2 : (l0.length == l1.length) = false := by (simp at c3 ⊢; omega)
  obtain rfl := Option.some.inj H
  go_enter Try.func27, Try.ntmps27
  go_wp2
  go_ret
  exact ⟨by rfl, by repeat ((with_reducible exact HB.out))⟩
end Go.Proofs.Ythheakfgmombdaa.F
end
section
namespace Go.Proofs.Ythheakfgmombdaa.F
open Go.RowKit Go.Proofs.YthheakfgmombdaaX.PrintWords Go.Proofs.YthheakfgmombdaaX.PrintLast Go.Proofs.YthheakfgmombdaaX.PrintMore
attribute [local go_sem] max2_int min2_int max_two min_two max_three min_three max_four min_four   -- for this text's walks alone
set_option linter.unusedVariables false
set_option linter.unusedSimpArgs false
set_option maxHeartbeats 8000000 in
set_option maxRecDepth 100000 in
theorem codewrightref01_Trim.calls (k : Nat) (A0 : Option Addr) (c0 : Nat) (l0 : List Int) (r : List Int) (w : World) (hr0 : Kd.C (Kd.int .u32) w A0 l0.length l0) (hc0 : l0.length ≤ c0) (h : codewrightref01_Trim.f k l0 = some r) :
  Calls Try.prog 97 #[.slice A0 l0.length c0] w fun e w' => ∃ v0_ : Value, e = .returned (v0_) ∧ Kd.R (Kd.int .u32) 100 w' w.heap.size (fun _ => True) v0_ r ∧ Below w.heap.size w w' := by
 have HR0 := Aside0.mk hr0
 have HC0 := Aside0.mk hc0
 clear hr0 hc0
 have HB := Aside0.mk (Below.refl w.heap.size w)
 have H : (codewrightref01_Trim.l0 k l0 (l0.length : Int)) = some r := h
 clear h
 have H' := Aside0.mk H
 clear H
 go_enter Try.func97, Try.ntmps97
 go_wp2
 go_loopg [3] k (fun kq v3 w' => ∃ (x3_1 : Int), v3 = .int .i64 x3_1 ∧ Aside0 (codewrightref01_Trim.l0 kq l0 x3_1 = some r) ∧ Aside0 (kq ≤ k) ∧ Aside0 (Below w.heap.size w w'))
 case atStart => exact ⟨((l0.length : Int)), rfl, H', ⟨Nat.le_refl _⟩, ⟨HB.out⟩⟩
 case round =>
  clear H'
  obtain ⟨x3_1, rfl, HA, HK1, HB⟩ := hrel
  cases gk with
  | zero => exact absurd HA.out (by simp [codewrightref01_Trim.l0])
  | succ k1 =>
   have H := HA.out
   clear HA
   simp only [codewrightref01_Trim.l0] at H
   by_cases c2 : x3_1 > 0
   ·rw [if_pos c2] at H
    have c2b0 : decide (0 < x3_1) = true := decide_eq_true c2
    clear c2
    obtain ⟨ji3, hji3⟩ : ∃ j_ : Int, (wrap64 (x3_1 - 1)) = j_ := ⟨_, rfl⟩
    rw [hji3] at H
    have hji3w : (IntKind.i64.wrap (x3_1 - 1)) = ji3 := (i64_w _).trans hji3
    by_cases c4 : 0 ≤ (ji3)
    ·rw [if_pos c4] at H
     have c4b0 : decide (0 ≤ (ji3)) = true := decide_eq_true c4
     clear c4
     by_cases c5 : (ji3) < (l0.length : Int)
     ·rw [if_pos c5] at H
      have c5b0 : decide ((ji3) < (l0.length : Int)) = true := decide_eq_true c5
      clear c5
      by_cases c6 : (rd l0 (ji3)) = 0
      ·rw [if_pos c6] at H
       have c6b1 : ((rd l0 (ji3)) != 0) = false := bne_eq_false_iff_eq.mpr c6
       clear c6
       have H' := Aside0.mk H
       clear H
       have p337 : 0 ≤ ((ji3) : Int) := of_decide_eq_true (by assumption)
       have q337 : (ji3) < (l0.length : Int) := of_decide_eq_true (by assumption)
       obtain ⟨ad337, e337, hx337_0⟩ := Kd.at_int HR0.out (ji3) p337 q337
       cases e337
       replace hx337_0 := (HB.out.cell (World.block_lt_of_cell? w _ hx337_0)).trans hx337_0
       replace q337 := eq_true q337
       go_wp2
       go_roundg k1
       case measure => have := HK1.out; omega
       case rel => exact ⟨(ji3), rfl, H', ⟨by have := HK1.out; omega⟩, ⟨HB.out⟩⟩
      ·rw [if_neg c6] at H
       obtain ⟨y338, hy338⟩ : ∃ y_ : List Int, y_ = (([] : List Int)) := ⟨_, rfl⟩
       (try replace H := (Option.bind_some _ _).symm.trans H); rw [← hy338] at H
       have Ny338 := Aside0.mk hy338
       clear hy338
       by_cases c7 : 0 ≤ x3_1
       ·rw [if_pos c7] at H
        have c7b1 : decide (0 ≤ x3_1) = true := decide_eq_true c7
        clear c7
        by_cases c8 : x3_1 ≤ (l0.length : Int)
        ·rw [if_pos c8] at H
         have c8b0 := eq_true c8
         have c8b1 : decide (x3_1 ≤ (l0.length : Int)) = true := decide_eq_true c8
         clear c8
         by_cases c9 : y338.length + (l0.take (x3_1 : Int).toNat).length < 35184372088832
         ·rw [if_pos c9] at H
          have LMc9 := Aside0.mk c9
          clear c9
          obtain ⟨y342, hy342⟩ : ∃ y_ : List Int, y_ = (y338 ++ (l0.take (x3_1 : Int).toNat)) := ⟨_, rfl⟩
          (try replace H := (Option.bind_some _ _).symm.trans H); rw [← hy342] at H
          have Ny342 := Aside0.mk hy342
          clear hy342
          obtain rfl := Option.some.inj H
          have p337 : 0 ≤ ((ji3) : Int) := of_decide_eq_true (by assumption)
          have q337 : (ji3) < (l0.length : Int) := of_decide_eq_true (by assumption)
          obtain ⟨ad337, e337, hx337_0⟩ := Kd.at_int HR0.out (ji3) p337 q337
          cases e337
          replace hx337_0 := (HB.out.cell (World.block_lt_of_cell? w _ hx337_0)).trans hx337_0
          replace q337 := eq_true q337
          go_wp2_with (first | (refine Kd.R_lit (Kd.int .u32) _ 100 ?hg (N := 18) ?hd (xs := ([] : List Int)) (inner := []) (ok := fun _ => True) (okp := fun _ => True) ?hr ?hp (fun _ hk => hk) trivial (Below.refl _ _) (Nat.le_refl _) (by simp) ?_; (case hd => rfl); (case hg => rfl); (case hr => go_simp; done); (case hp => exact (Reps.none _ _)); intro v339 w10 ho11 hb hg_ hnew_; clear hg_ hnew_; (rw [← Ny338.out] at ho11); have HO340 := Aside0.mk (Kd.R_lower ho11 (below_size (HB.out))); replace HB := Aside0.mk (below_step (HB.out) hb); clear hb ho11; obtain ⟨i012, hi012, _, hsz12, _⟩ := info_parts info100; obtain ⟨hcut12, hA12, hC12⟩ := print_take_of (P := Try.prog) (Value.int .u32) 0 44 100 .i64 Try.underlying44 hi012 hsz12 (some ad337) c0 l0 x3_1 (of_decide_eq_true (by assumption)) (of_decide_eq_true (by assumption)) HC0.out; have HR341 := Aside0.mk (Kd.C_of_reads (h1 := fun _ => rfl) (hA12 _ (Kd.reads_of_C HR0.out))); have HC341 := Aside0.mk hC12; clear hA12 hC12 hi012 hsz12) | ((with_reducible refine gate_builtin (b := .append) (xs := #[.tmp 18, .tmp 21]) rfl ?_); at_builtin; refine Kd.R_append_rows (Kd.int .u32) (w0 := w) w.heap.size rfl (.tmp 18) (.tmp 21) 44 100 (.int .u32 0) 4 rfl Try.underlying44 info100 rfl (by decide) (by omega) v339 y338 (l0.take (x3_1 : Int).toNat) _ _ _ (fun _ => True) (fun _ => False) rfl rfl ?aO ?aR (fun _ _ h => h) (fun _ h => h.elim) ?aF ?aB ?aS ?aL ?_; (case aR => (refine Kd.C_len_ (show (l0.take (x3_1 : Int).toNat).length = x3_1.toNat from (by rw [List.length_take]; have h_ : (x3_1 : Int) ≤ (l0.length : Int) := of_decide_eq_true (by assumption); omega)).symm ?_; repeat (exact (Kd.C_below HR341.out HB.out)))); (case aB => exact (HB.out)); (case aF => exact (fun _ _ => trivial)); (case aO => exact (HO340.out)); (case aS => exact (below_size (HB.out))); (case aL => have := LMc9.out; have hlx_ := (show (l0.take (x3_1 : Int).toNat).length = x3_1.toNat from (by rw [List.length_take]; have h_ : (x3_1 : Int) ≤ (l0.length : Int) := of_decide_eq_true (by assumption); omega)); omega); intro v343 w13 ho hb hg hat; rw [← Ny342.out] at ho; replace HB := Aside0.mk (hb); have HO344 := Aside0.mk (ho); clear HO340; clear ho hb hg hat))
          go_ret
          exact ⟨_, rfl, HO344.out, HB.out⟩
         ·rw [if_neg c9] at H
          exact absurd H (by simp)
        ·rw [if_neg c8] at H
         exact absurd H (by simp)
       ·rw [if_neg c7] at H
        exact absurd H (by simp)
     ·rw [if_neg c5] at H
      exact absurd H (by simp)
    ·rw [if_neg c4] at H
     exact absurd H (by simp)
   ·rw [if_neg c2] at H
    have c2b0 : decide (0 < x3_1) = false := decide_eq_false c2
    clear c2
    obtain ⟨y345, hy345⟩ : ∃ y_ : List Int, y_ = (([] : List Int)) := ⟨_, rfl⟩
    (try replace H := (Option.bind_some _ _).symm.trans H); rw [← hy345] at H
    have Ny345 := Aside0.mk hy345
    clear hy345
    by_cases c14 : 0 ≤ x3_1
    ·rw [if_pos c14] at H
     have c14b1 : decide (0 ≤ x3_1) = true := decide_eq_true c14
     clear c14
     by_cases c15 : x3_1 ≤ (l0.length : Int)
     ·rw [if_pos c15] at H
      have c15b0 := eq_true c15
      have c15b1 : decide (x3_1 ≤ (l0.length : Int)) = true := decide_eq_true c15
      clear c15
      by_cases c16 : y345.length + (l0.take (x3_1 : Int).toNat).length < 35184372088832
      ·rw [if_pos c16] at H
       have LMc16 := Aside0.mk c16
       clear c16
       obtain ⟨y349, hy349⟩ : ∃ y_ : List Int, y_ = (y345 ++ (l0.take (x3_1 : Int).toNat)) := ⟨_, rfl⟩
       (try replace H := (Option.bind_some _ _).symm.trans H); rw [← hy349] at H
       have Ny349 := Aside0.mk hy349
       clear hy349
       obtain rfl := Option.some.inj H
       go_wp2_with (first | (refine Kd.R_lit (Kd.int .u32) _ 100 ?hg (N := 18) ?hd (xs := ([] : List Int)) (inner := []) (ok := fun _ => True) (okp := fun _ => True) ?hr ?hp (fun _ hk => hk) trivial (Below.refl _ _) (Nat.le_refl _) (by simp) ?_; (case hd => rfl); (case hg => rfl); (case hr => go_simp; done); (case hp => exact (Reps.none _ _)); intro v346 w17 ho18 hb hg_ hnew_; clear hg_ hnew_; (rw [← Ny345.out] at ho18); have HO347 := Aside0.mk (Kd.R_lower ho18 (below_size (HB.out))); replace HB := Aside0.mk (below_step (HB.out) hb); clear hb ho18; obtain ⟨i019, hi019, _, hsz19, _⟩ := info_parts info100; obtain ⟨hcut19, hA19, hC19⟩ := print_take_of (P := Try.prog) (Value.int .u32) 0 44 100 .i64 Try.underlying44 hi019 hsz19 A0 c0 l0 x3_1 (of_decide_eq_true (by assumption)) (of_decide_eq_true (by assumption)) HC0.out; have HR348 := Aside0.mk (Kd.C_of_reads (h1 := fun _ => rfl) (hA19 _ (Kd.reads_of_C HR0.out))); have HC348 := Aside0.mk hC19; clear hA19 hC19 hi019 hsz19) | ((with_reducible refine gate_builtin (b := .append) (xs := #[.tmp 18, .tmp 21]) rfl ?_); at_builtin; refine Kd.R_append_rows (Kd.int .u32) (w0 := w) w.heap.size rfl (.tmp 18) (.tmp 21) 44 100 (.int .u32 0) 4 rfl Try.underlying44 info100 rfl (by decide) (by omega) v346 y345 (l0.take (x3_1 : Int).toNat) _ _ _ (fun _ => True) (fun _ => False) rfl rfl ?aO ?aR (fun _ _ h => h) (fun _ h => h.elim) ?aF ?aB ?aS ?aL ?_; (case aR => (refine Kd.C_len_ (show (l0.take (x3_1 : Int).toNat).length = x3_1.toNat from (by rw [List.length_take]; have h_ : (x3_1 : Int) ≤ (l0.length : Int) := of_decide_eq_true (by assumption); omega)).symm ?_; repeat (exact (Kd.C_below HR348.out HB.out)))); (case aB => exact (HB.out)); (case aF => exact (fun _ _ => trivial)); (case aO => exact (HO347.out)); (case aS => exact (below_size (HB.out))); (case aL => have := LMc16.out; have hlx_ := (show (l0.take (x3_1 : Int).toNat).length = x3_1.toNat from (by rw [List.length_take]; have h_ : (x3_1 : Int) ≤ (l0.length : Int) := of_decide_eq_true (by assumption); omega)); omega); intro v350 w20 ho hb hg hat; rw [← Ny349.out] at ho; replace HB := Aside0.mk (hb); have HO351 := Aside0.mk (ho); clear HO347; clear ho hb hg hat))
       go_ret
       exact ⟨_, rfl, HO351.out, HB.out⟩
      ·rw [if_neg c16] at H
       exact absurd H (by simp)
     ·rw [if_neg c15] at H
      exact absurd H (by simp)
    ·rw [if_neg c14] at H
     exact absurd H (by simp)
end Go.Proofs.Ythheakfgmombdaa.F
end
section
namespace Go.Proofs.Ythheakfgmombdaa.F
open Go.RowKit Go.Proofs.YthheakfgmombdaaX.PrintWords Go.Proofs.YthheakfgmombdaaX.PrintLast Go.Proofs.YthheakfgmombdaaX.PrintMore
attribute [local go_sem] max2_int min2_int max_two min_two max_three min_three max_four min_four   -- for this text's walks alone
set_option linter.unusedVariables false
set_option linter.unusedSimpArgs false
set_option maxHeartbeats 8000000 in
set_option maxRecDepth 100000 in
theorem codewrightref01_Zero.calls (k : Nat) (A0 : Option Addr) (c0 : Nat) (l0 : List Int) (r : Bool) (w : World) (hr0 : Kd.C (Kd.int .u32) w A0 l0.length l0) (hc0 : l0.length ≤ c0) (h : codewrightref01_Zero.f k l0 = some r) :
  Calls Try.prog 98 #[.slice A0 l0.length c0] w fun e w' => e = .returned (.bool r) ∧ Below w.heap.size w w' := by
 have HR0 := Aside0.mk hr0
 have HC0 := Aside0.mk hc0
 clear hr0 hc0
 have HB := Aside0.mk (Below.refl w.heap.size w)
 have H : ((codewrightref01_Trim.f k l0).bind fun t352 => (some ((t352.length : Int) == 0))) = some r := h
 clear h
 obtain ⟨t352, A2, H⟩ := bindA H
 obtain rfl := Option.some.inj H
 go_enter Try.func98, Try.ntmps98
 go_wp2_with ((refine goesL_ (some 4) rfl rfl Try.func97 (by kernel_rfl) rfl #[.slice A0 l0.length c0] rfl (by simp only [List.map_toArray, List.map_cons, List.map_nil]; rfl) ?_; (with_reducible refine (codewrightref01_Trim.calls k _ _ l0 t352 _ HR0.out HC0.out A2.out).mono ?_); rintro e w3 ⟨v353, rfl, ho0, hb⟩; refine ⟨_, rfl, ?_⟩; have HO354 := Aside0.mk (Kd.R_lower ho0 (below_size (HB.out))); replace HB := Aside0.mk (below_step (HB.out) hb); (try clear hb); (try clear ho0); obtain ⟨Ao4, co4, eo4⟩ := Kd.R_slice HO354.out; subst eo4))
 go_ret
 exact ⟨rfl, HB.out⟩
end Go.Proofs.Ythheakfgmombdaa.F
end
section
namespace Go.Proofs.Ythheakfgmombdaa.F
open Go.RowKit Go.Proofs.YthheakfgmombdaaX.PrintWords Go.Proofs.YthheakfgmombdaaX.PrintLast Go.Proofs.YthheakfgmombdaaX.PrintMore
attribute [local go_sem] max2_int min2_int max_two min_two max_three min_three max_four min_four   -- for this text's walks alone
set_option linter.unusedVariables false
set_option linter.unusedSimpArgs false
set_option maxHeartbeats 8000000 in
set_option maxRecDepth 100000 in
theorem codewrightref01_limb.calls (A0 : Option Addr) (c0 : Nat) (l0 : List Int) (a1 : Int) (r : Int) (w : World) (hr0 : Kd.C (Kd.int .u32) w A0 l0.length l0) (hc0 : l0.length ≤ c0) (h : codewrightref01_limb.f l0 a1 = some r) :
  Calls Try.prog 101 #[.slice A0 l0.length c0, .int .i64 a1] w fun e w' => e = .returned (.int .u64 r) ∧ Drawn0 w w' := by
 have HR0 := Aside0.mk hr0
 have HC0 := Aside0.mk hc0
 clear hr0 hc0
 have H : (if a1 < (l0.length : Int) then (if 0 ≤ a1 then (some (IntKind.u64.wrap (rd l0 a1))) else (none)) else (some 0)) = some r := h
 clear h
 by_cases c3 : a1 < (l0.length : Int)
 ·rw [if_pos c3] at H
  have c3b0 : decide (a1 < (l0.length : Int)) = true := decide_eq_true c3
  clear c3
  by_cases c4 : 0 ≤ a1
  ·rw [if_pos c4] at H
   have c4b0 : decide (0 ≤ a1) = true := decide_eq_true c4
   clear c4
   obtain rfl := Option.some.inj H
   have p355 : 0 ≤ (a1 : Int) := of_decide_eq_true (by assumption)
   have q355 : a1 < (l0.length : Int) := of_decide_eq_true (by assumption)
   obtain ⟨ad355, e355, hx355_0⟩ := Kd.at_int HR0.out a1 p355 q355
   cases e355
   replace q355 := eq_true q355
   go_enter Try.func101, Try.ntmps101
   go_wp2
   go_ret
   exact ⟨by rfl, by repeat (exact Drawn0.refl _)⟩
  ·rw [if_neg c4] at H
   exact absurd H (by simp)
 ·rw [if_neg c3] at H
  have c3b0 : decide (a1 < (l0.length : Int)) = false := decide_eq_false c3
  clear c3
  obtain rfl := Option.some.inj H
  go_enter Try.func101, Try.ntmps101
  go_wp2
  go_ret
  exact ⟨by rfl, by repeat (exact Drawn0.refl _)⟩
end Go.Proofs.Ythheakfgmombdaa.F
end
section
namespace Go.Proofs.Ythheakfgmombdaa.F
open Go.RowKit Go.Proofs.YthheakfgmombdaaX.PrintWords Go.Proofs.YthheakfgmombdaaX.PrintLast Go.Proofs.YthheakfgmombdaaX.PrintMore
attribute [local go_sem] max2_int min2_int max_two min_two max_three min_three max_four min_four   -- for this text's walks alone
set_option linter.unusedVariables false
set_option linter.unusedSimpArgs false
set_option maxHeartbeats 8000000 in
set_option maxRecDepth 100000 in
theorem codewrightref01_Add.calls (k : Nat) (A0 : Option Addr) (c0 : Nat) (l0 : List Int) (A1 : Option Addr) (c1 : Nat) (l1 : List Int) (r : List Int) (w : World) (hr0 : Kd.C (Kd.int .u32) w A0 l0.length l0) (hc0 : l0.length ≤ c0) (hr1 : Kd.C (Kd.int .u32) w A1 l1.length l1) (hc1 : l1.length ≤ c1) (h : codewrightref01_Add.f k l0 l1 = some r) :
  Calls Try.prog 70 #[.slice A0 l0.length c0, .slice A1 l1.length c1] w fun e w' => ∃ v0_ : Value, e = .returned (v0_) ∧ Kd.R (Kd.int .u32) 100 w' w.heap.size (fun _ => True) v0_ r ∧ Below w.heap.size w w' := by
 have HR0 := Aside0.mk hr0
 have HC0 := Aside0.mk hc0
 clear hr0 hc0
 have HR1 := Aside0.mk hr1
 have HC1 := Aside0.mk hc1
 clear hr1 hc1
 have HB := Aside0.mk (Below.refl w.heap.size w)
 have H : (codewrightref01_Add.l0 k l0 l1 ([] : List Int) 0 0) = some r := h
 clear h
 have H' := Aside0.mk H
 clear H
 go_enter Try.func70, Try.ntmps70
 go_wp2
 go_loopg [5, 6, 7] k (fun kq v5 v6 v7 w' => ∃ (x5_1 : List Int) (x6_1 : Int) (x7_1 : Int), v6 = .int .u64 x6_1 ∧ v7 = .int .i64 x7_1 ∧ Aside0 (codewrightref01_Add.l0 kq l0 l1 x5_1 x6_1 x7_1 = some r) ∧ Aside0 (kq ≤ k) ∧ Aside0 (Kd.R (Kd.int .u32) 100 w' w.heap.size (fun _ => True) v5 x5_1) ∧ Aside0 (Below w.heap.size w w'))
 case atStart => exact ⟨(([] : List Int)), (0), (0), rfl, rfl, H', ⟨Nat.le_refl _⟩, ⟨by exact Kd.R_nil _ _ _ _ _⟩, ⟨HB.out⟩⟩
 case round =>
  clear H'
  obtain ⟨x5_1, x6_1, x7_1, rfl, rfl, HA, HK1, HO_5, HB⟩ := hrel
  cases gk with
  | zero => exact absurd HA.out (by simp [codewrightref01_Add.l0])
  | succ k1 =>
   have H := HA.out
   clear HA
   simp only [codewrightref01_Add.l0] at H
   have HC3 := Aside0.mk H
   clear H
   go_upto_region 4 with (fail)
   go_cut [22] (fun v22 wc => ∃ (kq : Nat) (x22_2 : Bool), v22 = .bool x22_2 ∧ Aside0 (codewrightref01_Add.j1 kq l0 l1 x5_1 x6_1 x7_1 x22_2 = some r) ∧ Aside0 (kq ≤ k1) ∧ Aside0 (Kd.R (Kd.int .u32) 100 wc w.heap.size (fun _ => True) u5 x5_1) ∧ Aside0 (Below w.heap.size w wc))
   case first =>
    have H := HC3.out
    clear HC3
    by_cases c4 : x7_1 < (l0.length : Int)
    ·rw [if_pos c4] at H
     have c4b0 : decide (x7_1 < (l0.length : Int)) = true := decide_eq_true c4
     clear c4
     (skip)
     have H' := Aside0.mk H
     clear H
     go_wp2
     go_meet
     case rel => exact ⟨_, (true), rfl, H', ⟨by have := HK1.out; omega⟩, ⟨HO_5.out⟩, ⟨HB.out⟩⟩
    ·rw [if_neg c4] at H
     have c4b0 : decide (x7_1 < (l0.length : Int)) = false := decide_eq_false c4
     clear c4
     (skip)
     by_cases c5 : x7_1 < (l1.length : Int)
     ·rw [if_pos c5] at H
      have c5b0 : decide (x7_1 < (l1.length : Int)) = true := decide_eq_true c5
      clear c5
      have H' := Aside0.mk H
      clear H
      go_wp2
      go_meet
      case rel => exact ⟨_, (true), rfl, H', ⟨by have := HK1.out; omega⟩, ⟨HO_5.out⟩, ⟨HB.out⟩⟩
     ·rw [if_neg c5] at H
      have c5b0 : decide (x7_1 < (l1.length : Int)) = false := decide_eq_false c5
      clear c5
      have H' := Aside0.mk H
      clear H
      go_wp2
      go_meet
      case rel => exact ⟨_, (decide (x6_1 > 0)), rfl, H', ⟨by have := HK1.out; omega⟩, ⟨HO_5.out⟩, ⟨HB.out⟩⟩
   case rest =>
    clear HC3
    obtain ⟨kq, x22_2, rfl, HA, HJ2, HO_5, HB⟩ := hcut
    cases kq with
    | zero => exact absurd HA.out (by simp [codewrightref01_Add.j1])
    | succ kj2 =>
     have H := HA.out
     clear HA
     simp only [codewrightref01_Add.j1] at H
     by_cases c6 : x22_2 = true
     ·subst c6
      rw [if_pos rfl] at H
      obtain ⟨t359, A7, H⟩ := bindA H
      obtain ⟨t360, A8, H⟩ := bindA H
      by_cases c9 : x5_1.length < 35184372088832
      ·rw [if_pos c9] at H
       have LMc9 := Aside0.mk c9
       clear c9
       obtain ⟨y361, hy361⟩ : ∃ y_ : List Int, y_ = (x5_1 ++ [(Int.tmod (IntKind.u64.wrap ((IntKind.u64.wrap (t359 + t360)) + x6_1)) 4294967296) % 4294967296]) := ⟨_, rfl⟩
       (try replace H := (Option.bind_some _ _).symm.trans H); rw [← hy361] at H
       have Ny361 := Aside0.mk hy361
       clear hy361
       have H' := Aside0.mk H
       clear H
       go_wp2_with (first | (refine goesL_ (some 27) rfl rfl Try.func101 (by kernel_rfl) rfl #[.slice A0 l0.length c0, .int .i64 x7_1] rfl (by simp only [List.map_toArray, List.map_cons, List.map_nil]; rfl) ?_; (with_reducible refine (codewrightref01_limb.calls _ _ l0 x7_1 t359 _ (Kd.C_below HR0.out HB.out) HC0.out A7.out).mono ?_); rintro e w' ⟨rfl, ⟨nd, rfl⟩⟩; refine ⟨_, rfl, ?_⟩) | (refine goesL_ (some 30) rfl rfl Try.func101 (by kernel_rfl) rfl #[.slice A1 l1.length c1, .int .i64 x7_1] rfl (by simp only [List.map_toArray, List.map_cons, List.map_nil]; rfl) ?_; (with_reducible refine (codewrightref01_limb.calls _ _ l1 x7_1 t360 _ ?side1 ?side2 A8.out).mono ?_); (case side1 => repeat (first | exact (Kd.C_below HR1.out (HB.out)) | (with_reducible refine Kd.C_drewN ?_ _))); (case side2 => exact HC1.out); rintro e w' ⟨rfl, ⟨nd, rfl⟩⟩; refine ⟨_, rfl, ?_⟩) | ((with_reducible refine gate_builtin (b := .append) (xs := #[.tmp 34, .tmp 38]) rfl ?_); (try (refine gate_guard (by rfl) ?_; dsimp only)); at_builtin; refine Kd.R_append (Kd.int .u32) (w0 := w) w.heap.size rfl (.tmp 34) (.tmp 38) 44 100 (.int .u32 0) 4 rfl Try.underlying44 info100 rfl (by decide) (by omega) u5 x5_1 ((Int.tmod (IntKind.u64.wrap ((IntKind.u64.wrap (t359 + t360)) + x6_1)) 4294967296) % 4294967296) [.int .u32 ((Int.tmod (IntKind.u64.wrap ((IntKind.u64.wrap (t359 + t360)) + x6_1)) 4294967296) % 4294967296)] (fun _ => True) (fun _ => False) rfl rfl ?aP (fun _ hk => hk.elim) ?aF ?aO ?aB ?aS ?aL ?_; (case aP => exact rfl); (case aB => exact (by repeat ((with_reducible first | exact HB.out | apply pw_below_drewN)))); (case aF => exact (fun _ _ => trivial)); (case aO => exact (HO_5.out)); (case aS => exact (below_size (by repeat ((with_reducible first | exact HB.out | apply pw_below_drewN))))); (case aL => have := LMc9.out; omega); intro v362 w10 ho hb hg hat; rw [← Ny361.out] at ho; replace HB := Aside0.mk (hb); have HO363 := Aside0.mk (ho); clear HO_5; clear ho hb hg hat))
       go_roundg kj2
       case measure => have := HK1.out; have := HJ2.out; omega
       case rel => exact ⟨(y361), (IntKind.u64.wrap (Int.tdiv (IntKind.u64.wrap ((IntKind.u64.wrap (t359 + t360)) + x6_1)) 4294967296)), (wrap64 (x7_1 + 1)), rfl, rfl, H', ⟨by have := HK1.out; have := HJ2.out; omega⟩, ⟨HO363.out⟩, ⟨HB.out⟩⟩
      ·rw [if_neg c9] at H
       exact absurd H (by simp)
     ·replace c6 := Bool.eq_false_iff.mpr c6
      subst c6
      rw [if_neg (show ¬ (false = true) by decide)] at H
      obtain ⟨t356, A11, H⟩ := bindA H
      obtain rfl := Option.some.inj H
      obtain ⟨Ao12, co12, eo12⟩ := Kd.R_slice HO_5.out
      subst eo12
      go_wp2_with ((refine goesL_ (some 43) rfl rfl Try.func97 (by kernel_rfl) rfl #[.slice Ao12 x5_1.length co12] rfl (by simp only [List.map_toArray, List.map_cons, List.map_nil]; rfl) ?_; (with_reducible refine (codewrightref01_Trim.calls kj2 _ _ x5_1 t356 _ ?side1 ?side2 A11.out).mono ?_); (case side1 => exact (Kd.R_reads' HO_5.out).2.2); (case side2 => exact (Kd.R_reads' HO_5.out).2.1); rintro e w13 ⟨v357, rfl, ho0, hb⟩; refine ⟨_, rfl, ?_⟩; have n0_ := Aside0.mk (Kd.R_elder' (HO_5.out) (Kd.R_base ho0) hb); have n1_ := Aside0.mk (Kd.R_lower (Kd.R_new' ho0 (Kd.R_lt (HO_5.out))) (below_size (HB.out))); have n2_ := Aside0.mk (below_step (HB.out) hb); clear HO_5; clear HB; have HO_5 := n0_; have HO358 := n1_; have HB := n2_; clear n0_ n1_ n2_))
      go_ret
      exact ⟨_, rfl, Kd.R_mono HO358.out (fun _ hk => trivial), HB.out⟩
end Go.Proofs.Ythheakfgmombdaa.F
end
section
namespace Go.Proofs.Ythheakfgmombdaa.F
open Go.RowKit Go.Proofs.YthheakfgmombdaaX.PrintWords Go.Proofs.YthheakfgmombdaaX.PrintLast Go.Proofs.YthheakfgmombdaaX.PrintMore
attribute [local go_sem] max2_int min2_int max_two min_two max_three min_three max_four min_four   -- for this text's walks alone
set_option linter.unusedVariables false
set_option linter.unusedSimpArgs false
set_option maxHeartbeats 8000000 in
set_option maxRecDepth 100000 in
theorem codewrightref01_Cmp.calls (k : Nat) (A0 : Option Addr) (c0 : Nat) (l0 : List Int) (A1 : Option Addr) (c1 : Nat) (l1 : List Int) (r : Int) (w : World) (hr0 : Kd.C (Kd.int .u32) w A0 l0.length l0) (hc0 : l0.length ≤ c0) (hr1 : Kd.C (Kd.int .u32) w A1 l1.length l1) (hc1 : l1.length ≤ c1) (h : codewrightref01_Cmp.f k l0 l1 = some r) :
  Calls Try.prog 71 #[.slice A0 l0.length c0, .slice A1 l1.length c1] w fun e w' => e = .returned (.int .i64 r) ∧ Below w.heap.size w w' := by
 have HR0 := Aside0.mk hr0
 have HC0 := Aside0.mk hc0
 clear hr0 hc0
 have HR1 := Aside0.mk hr1
 have HC1 := Aside0.mk hc1
 clear hr1 hc1
 have HB := Aside0.mk (Below.refl w.heap.size w)
 have H : (codewrightref01_Cmp.l0 k l0 l1 (wrap64 ((mx (l0.length : Int) (l1.length : Int)) - 1))) = some r := h
 clear h
 obtain ⟨ji3, hji3⟩ : ∃ j_ : Int, (mx (l0.length : Int) (l1.length : Int)) = j_ := ⟨_, rfl⟩
 rw [hji3] at H
 (try (have hji3l : 0 ≤ ji3 := by (rw [← hji3]; unfold mx; (repeat' split) <;> omega)))
 (try (have hji3m : 0 ≤ ji3 := by omega))
 have hji3n_ : (if l0.length < l1.length then (l1.length : Int) else (l0.length : Int)) = ji3 := by rw [← hji3]; simp only [mx, mn]; split <;> split <;> omega
 have H' := Aside0.mk H
 clear H
 go_enter Try.func71, Try.ntmps71
 go_wp2
 go_loopg [5] k (fun kq v5 w' => ∃ (x5_1 : Int), v5 = .int .i64 x5_1 ∧ Aside0 (codewrightref01_Cmp.l0 kq l0 l1 x5_1 = some r) ∧ Aside0 (kq ≤ k) ∧ Aside0 (Below w.heap.size w w'))
 case atStart => exact ⟨(wrap64 ((ji3) - 1)), rfl, H', ⟨Nat.le_refl _⟩, ⟨HB.out⟩⟩
 case round =>
  clear H'
  obtain ⟨x5_1, rfl, HA, HK1, HB⟩ := hrel
  cases gk with
  | zero => exact absurd HA.out (by simp [codewrightref01_Cmp.l0])
  | succ k1 =>
   have H := HA.out
   clear HA
   simp only [codewrightref01_Cmp.l0] at H
   by_cases c4 : x5_1 ≥ 0
   ·rw [if_pos c4] at H
    have c4b0 : decide (0 ≤ x5_1) = true := decide_eq_true c4
    clear c4
    obtain ⟨t364, A5, H⟩ := bindA H
    obtain ⟨t365, A6, H⟩ := bindA H
    by_cases c7 : t364 < t365
    ·rw [if_pos c7] at H
     have c7b0 : decide (t364 < t365) = true := decide_eq_true c7
     clear c7
     obtain rfl := Option.some.inj H
     go_wp2_with (first | (refine goesL_ (some 18) rfl rfl Try.func101 (by kernel_rfl) rfl #[.slice A0 l0.length c0, .int .i64 x5_1] rfl (by simp only [List.map_toArray, List.map_cons, List.map_nil]; rfl) ?_; (with_reducible refine (codewrightref01_limb.calls _ _ l0 x5_1 t364 _ (Kd.C_below HR0.out HB.out) HC0.out A5.out).mono ?_); rintro e w' ⟨rfl, ⟨nd, rfl⟩⟩; refine ⟨_, rfl, ?_⟩) | (refine goesL_ (some 21) rfl rfl Try.func101 (by kernel_rfl) rfl #[.slice A1 l1.length c1, .int .i64 x5_1] rfl (by simp only [List.map_toArray, List.map_cons, List.map_nil]; rfl) ?_; (with_reducible refine (codewrightref01_limb.calls _ _ l1 x5_1 t365 _ ?side1 ?side2 A6.out).mono ?_); (case side1 => repeat (first | exact (Kd.C_below HR1.out (HB.out)) | (with_reducible refine Kd.C_drewN ?_ _))); (case side2 => exact HC1.out); rintro e w' ⟨rfl, ⟨nd, rfl⟩⟩; refine ⟨_, rfl, ?_⟩))
     go_ret
     exact ⟨rfl, by repeat ((with_reducible first | exact HB.out | apply pw_below_drewN))⟩
    ·rw [if_neg c7] at H
     have c7b0 : decide (t364 < t365) = false := decide_eq_false c7
     clear c7
     obtain ⟨t366, A8, H⟩ := bindA H
     obtain ⟨t367, A9, H⟩ := bindA H
     by_cases c10 : t366 > t367
     ·rw [if_pos c10] at H
      have c10b0 : decide (t367 < t366) = true := decide_eq_true c10
      clear c10
      obtain rfl := Option.some.inj H
      go_wp2_with (first | (refine goesL_ (some 18) rfl rfl Try.func101 (by kernel_rfl) rfl #[.slice A0 l0.length c0, .int .i64 x5_1] rfl (by simp only [List.map_toArray, List.map_cons, List.map_nil]; rfl) ?_; (with_reducible refine (codewrightref01_limb.calls _ _ l0 x5_1 t364 _ (Kd.C_below HR0.out HB.out) HC0.out A5.out).mono ?_); rintro e w' ⟨rfl, ⟨nd, rfl⟩⟩; refine ⟨_, rfl, ?_⟩) | (refine goesL_ (some 21) rfl rfl Try.func101 (by kernel_rfl) rfl #[.slice A1 l1.length c1, .int .i64 x5_1] rfl (by simp only [List.map_toArray, List.map_cons, List.map_nil]; rfl) ?_; (with_reducible refine (codewrightref01_limb.calls _ _ l1 x5_1 t365 _ ?side1 ?side2 A6.out).mono ?_); (case side1 => repeat (first | exact (Kd.C_below HR1.out (HB.out)) | (with_reducible refine Kd.C_drewN ?_ _))); (case side2 => exact HC1.out); rintro e w' ⟨rfl, ⟨nd, rfl⟩⟩; refine ⟨_, rfl, ?_⟩) | (refine goesL_ (some 25) rfl rfl Try.func101 (by kernel_rfl) rfl #[.slice A0 l0.length c0, .int .i64 x5_1] rfl (by simp only [List.map_toArray, List.map_cons, List.map_nil]; rfl) ?_; (with_reducible refine (codewrightref01_limb.calls _ _ l0 x5_1 t366 _ ?side1 ?side2 A8.out).mono ?_); (case side1 => repeat (first | exact (Kd.C_below HR0.out (HB.out)) | (with_reducible refine Kd.C_drewN ?_ _))); (case side2 => exact HC0.out); rintro e w' ⟨rfl, ⟨nd, rfl⟩⟩; refine ⟨_, rfl, ?_⟩) | (refine goesL_ (some 28) rfl rfl Try.func101 (by kernel_rfl) rfl #[.slice A1 l1.length c1, .int .i64 x5_1] rfl (by simp only [List.map_toArray, List.map_cons, List.map_nil]; rfl) ?_; (with_reducible refine (codewrightref01_limb.calls _ _ l1 x5_1 t367 _ ?side1 ?side2 A9.out).mono ?_); (case side1 => repeat (first | exact (Kd.C_below HR1.out (HB.out)) | (with_reducible refine Kd.C_drewN ?_ _))); (case side2 => exact HC1.out); rintro e w' ⟨rfl, ⟨nd, rfl⟩⟩; refine ⟨_, rfl, ?_⟩))
      go_ret
      exact ⟨rfl, by repeat ((with_reducible first | exact HB.out | apply pw_below_drewN))⟩
     ·rw [if_neg c10] at H
      have c10b0 : decide (t367 < t366) = false := decide_eq_false c10
      clear c10
      have H' := Aside0.mk H
      clear H
      go_wp2_with (first | (refine goesL_ (some 18) rfl rfl Try.func101 (by kernel_rfl) rfl #[.slice A0 l0.length c0, .int .i64 x5_1] rfl (by simp only [List.map_toArray, List.map_cons, List.map_nil]; rfl) ?_; (with_reducible refine (codewrightref01_limb.calls _ _ l0 x5_1 t364 _ (Kd.C_below HR0.out HB.out) HC0.out A5.out).mono ?_); rintro e w' ⟨rfl, ⟨nd, rfl⟩⟩; refine ⟨_, rfl, ?_⟩) | (refine goesL_ (some 21) rfl rfl Try.func101 (by kernel_rfl) rfl #[.slice A1 l1.length c1, .int .i64 x5_1] rfl (by simp only [List.map_toArray, List.map_cons, List.map_nil]; rfl) ?_; (with_reducible refine (codewrightref01_limb.calls _ _ l1 x5_1 t365 _ ?side1 ?side2 A6.out).mono ?_); (case side1 => repeat (first | exact (Kd.C_below HR1.out (HB.out)) | (with_reducible refine Kd.C_drewN ?_ _))); (case side2 => exact HC1.out); rintro e w' ⟨rfl, ⟨nd, rfl⟩⟩; refine ⟨_, rfl, ?_⟩) | (refine goesL_ (some 25) rfl rfl Try.func101 (by kernel_rfl) rfl #[.slice A0 l0.length c0, .int .i64 x5_1] rfl (by simp only [List.map_toArray, List.map_cons, List.map_nil]; rfl) ?_; (with_reducible refine (codewrightref01_limb.calls _ _ l0 x5_1 t366 _ ?side1 ?side2 A8.out).mono ?_); (case side1 => repeat (first | exact (Kd.C_below HR0.out (HB.out)) | (with_reducible refine Kd.C_drewN ?_ _))); (case side2 => exact HC0.out); rintro e w' ⟨rfl, ⟨nd, rfl⟩⟩; refine ⟨_, rfl, ?_⟩) | (refine goesL_ (some 28) rfl rfl Try.func101 (by kernel_rfl) rfl #[.slice A1 l1.length c1, .int .i64 x5_1] rfl (by simp only [List.map_toArray, List.map_cons, List.map_nil]; rfl) ?_; (with_reducible refine (codewrightref01_limb.calls _ _ l1 x5_1 t367 _ ?side1 ?side2 A9.out).mono ?_); (case side1 => repeat (first | exact (Kd.C_below HR1.out (HB.out)) | (with_reducible refine Kd.C_drewN ?_ _))); (case side2 => exact HC1.out); rintro e w' ⟨rfl, ⟨nd, rfl⟩⟩; refine ⟨_, rfl, ?_⟩))
      go_roundg k1
      case measure => have := HK1.out; omega
      case rel => exact ⟨(wrap64 (x5_1 - 1)), rfl, H', ⟨by have := HK1.out; omega⟩, ⟨by repeat ((with_reducible first | exact HB.out | apply pw_below_drewN))⟩⟩
   ·rw [if_neg c4] at H
    have c4b0 : decide (0 ≤ x5_1) = false := decide_eq_false c4
    clear c4
    obtain rfl := Option.some.inj H
    go_wp2
    go_ret
    exact ⟨rfl, HB.out⟩
end Go.Proofs.Ythheakfgmombdaa.F
end
section
namespace Go.Proofs.Ythheakfgmombdaa.F
open Go.RowKit Go.Proofs.YthheakfgmombdaaX.PrintWords Go.Proofs.YthheakfgmombdaaX.PrintLast Go.Proofs.YthheakfgmombdaaX.PrintMore
attribute [local go_sem] max2_int min2_int max_two min_two max_three min_three max_four min_four   -- for this text's walks alone
set_option linter.unusedVariables false
set_option linter.unusedSimpArgs false
set_option maxHeartbeats 8000000 in
set_option maxRecDepth 100000 in
theorem codewrightref01_Sub.calls (k : Nat) (A0 : Option Addr) (c0 : Nat) (l0 : List Int) (A1 : Option Addr) (c1 : Nat) (l1 : List Int) (r : List Int) (w : World) (hr0 : Kd.C (Kd.int .u32) w A0 l0.length l0) (hc0 : l0.length ≤ c0) (hr1 : Kd.C (Kd.int .u32) w A1 l1.length l1) (hc1 : l1.length ≤ c1) (h : codewrightref01_Sub.f k l0 l1 = some r) :
  Calls Try.prog 72 #[.slice A0 l0.length c0, .slice A1 l1.length c1] w fun e w' => ∃ v0_ : Value, e = .returned (v0_) ∧ Kd.R (Kd.int .u32) 100 w' w.heap.size (fun _ => True) v0_ r ∧ Below w.heap.size w w' := by
 have HR0 := Aside0.mk hr0
 have HC0 := Aside0.mk hc0
 clear hr0 hc0
 have HR1 := Aside0.mk hr1
 have HC1 := Aside0.mk hc1
 clear hr1 hc1
 have HB := Aside0.mk (Below.refl w.heap.size w)
 have H : (codewrightref01_Sub.l0 k l0 l1 ([] : List Int) 0 0) = some r := h
 clear h
 have H' := Aside0.mk H
 clear H
 go_enter Try.func72, Try.ntmps72
 go_wp2
 go_loopg [5, 6, 7] k (fun kq v5 v6 v7 w' => ∃ (x5_1 : List Int) (x6_1 : Int) (x7_1 : Int), v6 = .int .u64 x6_1 ∧ v7 = .int .i64 x7_1 ∧ Aside0 (codewrightref01_Sub.l0 kq l0 l1 x5_1 x6_1 x7_1 = some r) ∧ Aside0 (kq ≤ k) ∧ Aside0 (Kd.R (Kd.int .u32) 100 w' w.heap.size (fun _ => True) v5 x5_1) ∧ Aside0 (Below w.heap.size w w'))
 case atStart => exact ⟨(([] : List Int)), (0), (0), rfl, rfl, H', ⟨Nat.le_refl _⟩, ⟨by exact Kd.R_nil _ _ _ _ _⟩, ⟨HB.out⟩⟩
 case round =>
  clear H'
  obtain ⟨x5_1, x6_1, x7_1, rfl, rfl, HA, HK1, HO_5, HB⟩ := hrel
  cases gk with
  | zero => exact absurd HA.out (by simp [codewrightref01_Sub.l0])
  | succ k1 =>
   have H := HA.out
   clear HA
   simp only [codewrightref01_Sub.l0] at H
   by_cases c3 : x7_1 < (l0.length : Int)
   ·rw [if_pos c3] at H
    have c3b0 : decide (x7_1 < (l0.length : Int)) = true := decide_eq_true c3
    clear c3
    obtain ⟨t371, A4, H⟩ := bindA H
    obtain ⟨t372, A5, H⟩ := bindA H
    by_cases c6 : x5_1.length < 35184372088832
    ·rw [if_pos c6] at H
     have LMc6 := Aside0.mk c6
     clear c6
     obtain ⟨y373, hy373⟩ : ∃ y_ : List Int, y_ = (x5_1 ++ [(Int.tmod (IntKind.u64.wrap ((IntKind.u64.wrap ((IntKind.u64.wrap (t371 + 4294967296)) - t372)) - x6_1)) 4294967296) % 4294967296]) := ⟨_, rfl⟩
     (try replace H := (Option.bind_some _ _).symm.trans H); rw [← hy373] at H
     have Ny373 := Aside0.mk hy373
     clear hy373
     have H' := Aside0.mk H
     clear H
     go_wp2_with (first | (refine goesL_ (some 17) rfl rfl Try.func101 (by kernel_rfl) rfl #[.slice A0 l0.length c0, .int .i64 x7_1] rfl (by simp only [List.map_toArray, List.map_cons, List.map_nil]; rfl) ?_; (with_reducible refine (codewrightref01_limb.calls _ _ l0 x7_1 t371 _ (Kd.C_below HR0.out HB.out) HC0.out A4.out).mono ?_); rintro e w' ⟨rfl, ⟨nd, rfl⟩⟩; refine ⟨_, rfl, ?_⟩) | (refine goesL_ (some 21) rfl rfl Try.func101 (by kernel_rfl) rfl #[.slice A1 l1.length c1, .int .i64 x7_1] rfl (by simp only [List.map_toArray, List.map_cons, List.map_nil]; rfl) ?_; (with_reducible refine (codewrightref01_limb.calls _ _ l1 x7_1 t372 _ ?side1 ?side2 A5.out).mono ?_); (case side1 => repeat (first | exact (Kd.C_below HR1.out (HB.out)) | (with_reducible refine Kd.C_drewN ?_ _))); (case side2 => exact HC1.out); rintro e w' ⟨rfl, ⟨nd, rfl⟩⟩; refine ⟨_, rfl, ?_⟩) | ((with_reducible refine gate_builtin (b := .append) (xs := #[.tmp 25, .tmp 29]) rfl ?_); at_builtin; refine Kd.R_append (Kd.int .u32) (w0 := w) w.heap.size rfl (.tmp 25) (.tmp 29) 44 100 (.int .u32 0) 4 rfl Try.underlying44 info100 rfl (by decide) (by omega) u5 x5_1 ((Int.tmod (IntKind.u64.wrap ((IntKind.u64.wrap ((IntKind.u64.wrap (t371 + 4294967296)) - t372)) - x6_1)) 4294967296) % 4294967296) [.int .u32 ((Int.tmod (IntKind.u64.wrap ((IntKind.u64.wrap ((IntKind.u64.wrap (t371 + 4294967296)) - t372)) - x6_1)) 4294967296) % 4294967296)] (fun _ => True) (fun _ => False) rfl rfl ?aP (fun _ hk => hk.elim) ?aF ?aO ?aB ?aS ?aL ?_; (case aP => exact rfl); (case aB => exact (by repeat ((with_reducible first | exact HB.out | apply pw_below_drewN)))); (case aF => exact (fun _ _ => trivial)); (case aO => exact (HO_5.out)); (case aS => exact (below_size (by repeat ((with_reducible first | exact HB.out | apply pw_below_drewN))))); (case aL => have := LMc6.out; omega); intro v374 w7 ho hb hg hat; rw [← Ny373.out] at ho; replace HB := Aside0.mk (hb); have HO375 := Aside0.mk (ho); clear HO_5; clear ho hb hg hat))
     go_roundg k1
     case measure => have := HK1.out; omega
     case rel => exact ⟨(y373), (IntKind.u64.wrap (1 - (IntKind.u64.wrap (Int.tdiv (IntKind.u64.wrap ((IntKind.u64.wrap ((IntKind.u64.wrap (t371 + 4294967296)) - t372)) - x6_1)) 4294967296)))), (wrap64 (x7_1 + 1)), rfl, rfl, H', ⟨by have := HK1.out; omega⟩, ⟨HO375.out⟩, ⟨HB.out⟩⟩
    ·rw [if_neg c6] at H
     exact absurd H (by simp)
   ·rw [if_neg c3] at H
    have c3b0 : decide (x7_1 < (l0.length : Int)) = false := decide_eq_false c3
    clear c3
    obtain ⟨t368, A8, H⟩ := bindA H
    obtain rfl := Option.some.inj H
    obtain ⟨Ao9, co9, eo9⟩ := Kd.R_slice HO_5.out
    subst eo9
    go_wp2_with ((refine goesL_ (some 35) rfl rfl Try.func97 (by kernel_rfl) rfl #[.slice Ao9 x5_1.length co9] rfl (by simp only [List.map_toArray, List.map_cons, List.map_nil]; rfl) ?_; (with_reducible refine (codewrightref01_Trim.calls k1 _ _ x5_1 t368 _ ?side1 ?side2 A8.out).mono ?_); (case side1 => exact (Kd.R_reads' HO_5.out).2.2); (case side2 => exact (Kd.R_reads' HO_5.out).2.1); rintro e w10 ⟨v369, rfl, ho0, hb⟩; refine ⟨_, rfl, ?_⟩; have n0_ := Aside0.mk (Kd.R_elder' (HO_5.out) (Kd.R_base ho0) hb); have n1_ := Aside0.mk (Kd.R_lower (Kd.R_new' ho0 (Kd.R_lt (HO_5.out))) (below_size (HB.out))); have n2_ := Aside0.mk (below_step (HB.out) hb); clear HO_5; clear HB; have HO_5 := n0_; have HO370 := n1_; have HB := n2_; clear n0_ n1_ n2_))
    go_ret
    exact ⟨_, rfl, Kd.R_mono HO370.out (fun _ hk => trivial), HB.out⟩
end Go.Proofs.Ythheakfgmombdaa.F
end
section
namespace Go.Proofs.Ythheakfgmombdaa.F
open Go.RowKit Go.Proofs.YthheakfgmombdaaX.PrintWords Go.Proofs.YthheakfgmombdaaX.PrintLast Go.Proofs.YthheakfgmombdaaX.PrintMore
attribute [local go_sem] max2_int min2_int max_two min_two max_three min_three max_four min_four   -- for this text's walks alone
set_option linter.unusedVariables false
set_option linter.unusedSimpArgs false
set_option maxHeartbeats 8000000 in
set_option maxRecDepth 100000 in
theorem codewrightref01_Bits.calls (k : Nat) (A0 : Option Addr) (c0 : Nat) (l0 : List Int) (r : Int) (w : World) (hr0 : Kd.C (Kd.int .u32) w A0 l0.length l0) (hc0 : l0.length ≤ c0) (h : codewrightref01_Bits.f k l0 = some r) :
  Calls Try.prog 116 #[.slice A0 l0.length c0] w fun e w' => e = .returned (.int .i64 r) ∧ Below w.heap.size w w' := by
 have HR0 := Aside0.mk hr0
 have HC0 := Aside0.mk hc0
 clear hr0 hc0
 have HB := Aside0.mk (Below.refl w.heap.size w)
 have H : ((codewrightref01_Trim.f k l0).bind fun t376 => (if (t376.length : Int) = 0 then (some 0) else (if 0 ≤ (wrap64 ((t376.length : Int) - 1)) then (if (wrap64 ((t376.length : Int) - 1)) < (t376.length : Int) then (codewrightref01_Bits.l0 k (wrap64 (32 * (wrap64 ((t376.length : Int) - 1)))) (rd t376 (wrap64 ((t376.length : Int) - 1)))) else (none)) else (none)))) = some r := h
 clear h
 obtain ⟨t376, A2, H⟩ := bindA H
 by_cases c3 : (t376.length : Int) = 0
 ·rw [if_pos c3] at H
  have c3b1 : ((t376.length : Int) != 0) = false := bne_eq_false_iff_eq.mpr c3
  clear c3
  obtain rfl := Option.some.inj H
  go_enter Try.func116, Try.ntmps116
  go_wp2_with ((refine goesL_ (some 6) rfl rfl Try.func97 (by kernel_rfl) rfl #[.slice A0 l0.length c0] rfl (by simp only [List.map_toArray, List.map_cons, List.map_nil]; rfl) ?_; (with_reducible refine (codewrightref01_Trim.calls k _ _ l0 t376 _ HR0.out HC0.out A2.out).mono ?_); rintro e w4 ⟨v377, rfl, ho0, hb⟩; refine ⟨_, rfl, ?_⟩; have HO378 := Aside0.mk (Kd.R_lower ho0 (below_size (HB.out))); replace HB := Aside0.mk (below_step (HB.out) hb); (try clear hb); (try clear ho0); obtain ⟨Ao5, co5, eo5⟩ := Kd.R_slice HO378.out; subst eo5))
  go_ret
  exact ⟨rfl, HB.out⟩
 ·rw [if_neg c3] at H
  obtain ⟨ji6, hji6⟩ : ∃ j_ : Int, (wrap64 ((t376.length : Int) - 1)) = j_ := ⟨_, rfl⟩
  rw [hji6] at H
  by_cases c7 : 0 ≤ (ji6)
  ·rw [if_pos c7] at H
   have c7b0 : decide (0 ≤ (ji6)) = true := decide_eq_true c7
   clear c7
   by_cases c8 : (ji6) < (t376.length : Int)
   ·rw [if_pos c8] at H
    have c8b0 : decide ((ji6) < (t376.length : Int)) = true := decide_eq_true c8
    clear c8
    have H' := Aside0.mk H
    clear H
    go_enter Try.func116, Try.ntmps116
    go_wp2_with ((refine goesL_ (some 6) rfl rfl Try.func97 (by kernel_rfl) rfl #[.slice A0 l0.length c0] rfl (by simp only [List.map_toArray, List.map_cons, List.map_nil]; rfl) ?_; (with_reducible refine (codewrightref01_Trim.calls k _ _ l0 t376 _ HR0.out HC0.out A2.out).mono ?_); rintro e w9 ⟨v377, rfl, ho0, hb⟩; refine ⟨_, rfl, ?_⟩; have HO378 := Aside0.mk (Kd.R_lower ho0 (below_size (HB.out))); replace HB := Aside0.mk (below_step (HB.out) hb); (try clear hb); (try clear ho0); obtain ⟨Ao10, co10, eo10⟩ := Kd.R_slice HO378.out; subst eo10; have p379 : 0 ≤ ((ji6) : Int) := of_decide_eq_true (by assumption); have q379 : (ji6) < (t376.length : Int) := of_decide_eq_true (by assumption); obtain ⟨ad379, e379, hx379_0⟩ := Kd.at_int (Kd.R_reads' HO378.out).2.2 (ji6) p379 q379; cases e379; replace p379 := eq_true p379; replace q379 := eq_true q379))
    go_loopg [3, 4] k (fun kq v3 v4 w' => ∃ (x3_1 : Int) (x4_1 : Int), v3 = .int .i64 x3_1 ∧ v4 = .int .u32 x4_1 ∧ Aside0 (codewrightref01_Bits.l0 kq x3_1 x4_1 = some r) ∧ Aside0 (kq ≤ k) ∧ Aside0 (Below w.heap.size w w'))
    case atStart => exact ⟨(wrap64 (32 * (ji6))), (rd t376 (ji6)), rfl, rfl, H', ⟨Nat.le_refl _⟩, ⟨HB.out⟩⟩
    case round =>
     clear H'
     obtain ⟨x3_1, x4_1, rfl, rfl, HA, HK1, HB⟩ := hrel
     cases gk with
     | zero => exact absurd HA.out (by simp [codewrightref01_Bits.l0])
     | succ k1 =>
      have H := HA.out
      clear HA
      simp only [codewrightref01_Bits.l0] at H
      by_cases c11 : x4_1 > 0
      ·rw [if_pos c11] at H
       have c11b0 : decide (0 < x4_1) = true := decide_eq_true c11
       clear c11
       have H' := Aside0.mk H
       clear H
       go_wp2
       go_roundg k1
       case measure => have := HK1.out; omega
       case rel => exact ⟨(wrap64 (x3_1 + 1)), ((Int.tdiv x4_1 2) % 4294967296), rfl, rfl, H', ⟨by have := HK1.out; omega⟩, ⟨HB.out⟩⟩
      ·rw [if_neg c11] at H
       have c11b0 : decide (0 < x4_1) = false := decide_eq_false c11
       clear c11
       obtain rfl := Option.some.inj H
       go_wp2
       go_ret
       exact ⟨rfl, HB.out⟩
   ·rw [if_neg c8] at H
    exact absurd H (by simp)
  ·rw [if_neg c7] at H
   exact absurd H (by simp)
end Go.Proofs.Ythheakfgmombdaa.F
end
section
namespace Go.Proofs.Ythheakfgmombdaa.F
open Go.RowKit Go.Proofs.YthheakfgmombdaaX.PrintWords Go.Proofs.YthheakfgmombdaaX.PrintLast Go.Proofs.YthheakfgmombdaaX.PrintMore
attribute [local go_sem] max2_int min2_int max_two min_two max_three min_three max_four min_four   -- for this text's walks alone
set_option linter.unusedVariables false
set_option linter.unusedSimpArgs false
set_option maxHeartbeats 8000000 in
set_option maxRecDepth 100000 in
theorem codewrightref01_shift.calls (k : Nat) (A0 : Option Addr) (c0 : Nat) (l0 : List Int) (a1 : Int) (r : List Int) (w : World) (hr0 : Kd.C (Kd.int .u32) w A0 l0.length l0) (hc0 : l0.length ≤ c0) (h : codewrightref01_shift.f k l0 a1 = some r) :
  Calls Try.prog 120 #[.slice A0 l0.length c0, .int .i64 a1] w fun e w' => ∃ v0_ : Value, e = .returned (v0_) ∧ Kd.R (Kd.int .u32) 100 w' w.heap.size (fun _ => True) v0_ r ∧ Below w.heap.size w w' := by
 have HR0 := Aside0.mk hr0
 have HC0 := Aside0.mk hc0
 clear hr0 hc0
 have HB := Aside0.mk (Below.refl w.heap.size w)
 have H : (if 0 ≤ (wrap64 (Int.tdiv a1 32)) then (if (wrap64 (Int.tdiv a1 32) : Int).toNat ≤ 70368744177664 then (codewrightref01_shift.l0 k l0 a1 (List.replicate (wrap64 (Int.tdiv a1 32) : Int).toNat 0) 0 0) else (none)) else (none)) = some r := h
 clear h
 obtain ⟨ji3, hji3⟩ : ∃ j_ : Int, (wrap64 (Int.tdiv a1 32)) = j_ := ⟨_, rfl⟩
 rw [hji3] at H
 have hji3w : (IntKind.i64.wrap (Int.tdiv a1 32)) = ji3 := (i64_w _).trans hji3
 by_cases c4 : 0 ≤ (ji3)
 ·rw [if_pos c4] at H
  have c4b1 : decide (0 ≤ (ji3)) = true := decide_eq_true c4
  clear c4
  by_cases c5 : (ji3 : Int).toNat ≤ 70368744177664
  ·rw [if_pos c5] at H
   have c5b1 : decide ((ji3 : Int).toNat ≤ 70368744177664) = true := decide_eq_true c5
   clear c5
   obtain ⟨y380, hy380⟩ : ∃ y_ : List Int, y_ = (List.replicate (ji3 : Int).toNat 0) := ⟨_, rfl⟩
   (try replace H := (Option.bind_some _ _).symm.trans H); rw [← hy380] at H
   have Ny380 := Aside0.mk hy380
   clear hy380
   have H' := Aside0.mk H
   clear H
   go_enter Try.func120, Try.ntmps120
   go_wp2_with ((refine Kd.R_make (Kd.int .u32) _ 100 rfl (N := 11) rfl 44 _ _ rfl ji3 rfl rfl Try.underlying44 (.int .u32 0) 4 info100 rfl (by decide) (by omega) 0 (ok := fun _ => True) (okp := fun _ => True) rfl (fun _ hk => hk) trivial (of_decide_eq_true (by assumption)) (Nat.le_trans (Nat.mul_le_mul_right _ (of_decide_eq_true (by assumption) : ji3.toNat ≤ 70368744177664)) (by omega)) (Below.refl _ _) (Nat.le_refl _) ?_; intro v381 w6 ho7 hb hg_ hnew_; clear hg_ hnew_; (rw [← Ny380.out] at ho7); have HO382 := Aside0.mk (Kd.R_lower ho7 (below_size (HB.out))); replace HB := Aside0.mk (below_step (HB.out) hb); clear hb ho7))
   go_loopg [5, 6, 7] k (fun kq v5 v6 v7 w' => ∃ (x5_1 : List Int) (x6_1 : Int) (x7_1 : Int), v6 = .int .u64 x6_1 ∧ v7 = .int .i64 x7_1 ∧ Aside0 (codewrightref01_shift.l0 kq l0 a1 x5_1 x6_1 x7_1 = some r) ∧ Aside0 (kq ≤ k) ∧ Aside0 (Kd.R (Kd.int .u32) 100 w' w.heap.size (fun _ => True) v5 x5_1) ∧ Aside0 (Below w.heap.size w w'))
   case atStart => exact ⟨(y380), (0), (0), rfl, rfl, H', ⟨Nat.le_refl _⟩, ⟨HO382.out⟩, ⟨HB.out⟩⟩
   case round =>
    clear H'
    obtain ⟨x5_1, x6_1, x7_1, rfl, rfl, HA, HK1, HO_5, HB⟩ := hrel
    cases gk with
    | zero => exact absurd HA.out (by simp [codewrightref01_shift.l0])
    | succ k1 =>
     have H := HA.out
     clear HA
     simp only [codewrightref01_shift.l0] at H
     by_cases c8 : x7_1 < (l0.length : Int)
     ·rw [if_pos c8] at H
      have c8b0 : decide (x7_1 < (l0.length : Int)) = true := decide_eq_true c8
      clear c8
      by_cases c9 : 0 ≤ x7_1
      ·rw [if_pos c9] at H
       have c9b0 : decide (0 ≤ x7_1) = true := decide_eq_true c9
       clear c9
       obtain ⟨ji10, hji10⟩ : ∃ j_ : Int, (Int.tmod a1 32) = j_ := ⟨_, rfl⟩
       rw [hji10] at H
       by_cases c11 : 0 ≤ (ji10)
       ·rw [if_pos c11] at H
        have c11b0 := eq_true c11
        clear c11
        obtain ⟨ji12, hji12⟩ : ∃ j_ : Int, (shl .u64 (IntKind.u64.wrap (rd l0 x7_1)) (ji10)) = j_ := ⟨_, rfl⟩
        rw [hji12] at H
        have hji12_ : (IntKind.u64.wrap ((IntKind.u64.wrap (rd l0 x7_1)) * 2 ^ min (ji10).toNat 64)) = ji12 := hji12
        by_cases c13 : x5_1.length < 35184372088832
        ·rw [if_pos c13] at H
         have LMc13 := Aside0.mk c13
         clear c13
         obtain ⟨y384, hy384⟩ : ∃ y_ : List Int, y_ = (x5_1 ++ [(Int.tmod (IntKind.u64.wrap ((ji12) + x6_1)) 4294967296) % 4294967296]) := ⟨_, rfl⟩
         (try replace H := (Option.bind_some _ _).symm.trans H); rw [← hy384] at H
         have Ny384 := Aside0.mk hy384
         clear hy384
         have H' := Aside0.mk H
         clear H
         have p383 : 0 ≤ (x7_1 : Int) := of_decide_eq_true (by assumption)
         have q383 : x7_1 < (l0.length : Int) := of_decide_eq_true (by assumption)
         obtain ⟨ad383, e383, hx383_0⟩ := Kd.at_int HR0.out x7_1 p383 q383
         cases e383
         replace hx383_0 := (HB.out.cell (World.block_lt_of_cell? w _ hx383_0)).trans hx383_0
         replace q383 := eq_true q383
         go_wp2_with (((with_reducible refine gate_builtin (b := .append) (xs := #[.tmp 28, .tmp 32]) rfl ?_); at_builtin; refine Kd.R_append (Kd.int .u32) (w0 := w) w.heap.size rfl (.tmp 28) (.tmp 32) 44 100 (.int .u32 0) 4 rfl Try.underlying44 info100 rfl (by decide) (by omega) u5 x5_1 ((Int.tmod (IntKind.u64.wrap ((ji12) + x6_1)) 4294967296) % 4294967296) [.int .u32 ((Int.tmod (IntKind.u64.wrap ((ji12) + x6_1)) 4294967296) % 4294967296)] (fun _ => True) (fun _ => False) rfl rfl ?aP (fun _ hk => hk.elim) ?aF ?aO ?aB ?aS ?aL ?_; (case aP => exact rfl); (case aB => exact (HB.out)); (case aF => exact (fun _ _ => trivial)); (case aO => exact (HO_5.out)); (case aS => exact (below_size (HB.out))); (case aL => have := LMc13.out; omega); intro v385 w14 ho hb hg hat; rw [← Ny384.out] at ho; replace HB := Aside0.mk (hb); have HO386 := Aside0.mk (ho); clear HO_5; clear ho hb hg hat))
         go_roundg k1
         case measure => have := HK1.out; omega
         case rel => exact ⟨(y384), (IntKind.u64.wrap (Int.tdiv (IntKind.u64.wrap ((ji12) + x6_1)) 4294967296)), (wrap64 (x7_1 + 1)), rfl, rfl, H', ⟨by have := HK1.out; omega⟩, ⟨HO386.out⟩, ⟨HB.out⟩⟩
        ·rw [if_neg c13] at H
         exact absurd H (by simp)
       ·rw [if_neg c11] at H
        exact absurd H (by simp)
      ·rw [if_neg c9] at H
       exact absurd H (by simp)
     ·rw [if_neg c8] at H
      have c8b0 : decide (x7_1 < (l0.length : Int)) = false := decide_eq_false c8
      clear c8
      by_cases c15 : x5_1.length < 35184372088832
      ·rw [if_pos c15] at H
       have LMc15 := Aside0.mk c15
       clear c15
       obtain ⟨y387, hy387⟩ : ∃ y_ : List Int, y_ = (x5_1 ++ [(x6_1) % 4294967296]) := ⟨_, rfl⟩
       (try replace H := (Option.bind_some _ _).symm.trans H); rw [← hy387] at H
       have Ny387 := Aside0.mk hy387
       clear hy387
       obtain ⟨t390, A16, H⟩ := bindA H
       obtain rfl := Option.some.inj H
       go_wp2_with (first | ((with_reducible refine gate_builtin (b := .append) (xs := #[.tmp 36, .tmp 39]) rfl ?_); at_builtin; refine Kd.R_append (Kd.int .u32) (w0 := w) w.heap.size rfl (.tmp 36) (.tmp 39) 44 100 (.int .u32 0) 4 rfl Try.underlying44 info100 rfl (by decide) (by omega) u5 x5_1 ((x6_1) % 4294967296) [.int .u32 ((x6_1) % 4294967296)] (fun _ => True) (fun _ => False) rfl rfl ?aP (fun _ hk => hk.elim) ?aF ?aO ?aB ?aS ?aL ?_; (case aP => exact rfl); (case aB => exact (HB.out)); (case aF => exact (fun _ _ => trivial)); (case aO => exact (HO_5.out)); (case aS => exact (below_size (HB.out))); (case aL => have := LMc15.out; omega); intro v388 w17 ho hb hg hat; rw [← Ny387.out] at ho; replace HB := Aside0.mk (hb); have HO389 := Aside0.mk (ho); clear HO_5; clear ho hb hg hat; obtain ⟨Ao18, co18, eo18⟩ := Kd.R_slice HO389.out; subst eo18) | (refine goesL_ (some 41) rfl rfl Try.func97 (by kernel_rfl) rfl #[.slice Ao18 y387.length co18] rfl (by simp only [List.map_toArray, List.map_cons, List.map_nil]; rfl) ?_; (with_reducible refine (codewrightref01_Trim.calls k1 _ _ y387 t390 _ ?side1 ?side2 A16.out).mono ?_); (case side1 => exact (Kd.R_reads' HO389.out).2.2); (case side2 => exact (Kd.R_reads' HO389.out).2.1); rintro e w19 ⟨v391, rfl, ho0, hb⟩; refine ⟨_, rfl, ?_⟩; have n0_ := Aside0.mk (Kd.R_elder' (HO389.out) (Kd.R_base ho0) hb); have n1_ := Aside0.mk (Kd.R_lower (Kd.R_new' ho0 (Kd.R_lt (HO389.out))) (below_size (HB.out))); have n2_ := Aside0.mk (below_step (HB.out) hb); clear HO389; clear HB; have HO389 := n0_; have HO392 := n1_; have HB := n2_; clear n0_ n1_ n2_))
       go_ret
       exact ⟨_, rfl, Kd.R_mono HO392.out (fun _ hk => trivial), HB.out⟩
      ·rw [if_neg c15] at H
       exact absurd H (by simp)
  ·rw [if_neg c5] at H
   exact absurd H (by simp)
 ·rw [if_neg c4] at H
  exact absurd H (by simp)
end Go.Proofs.Ythheakfgmombdaa.F
end
section
namespace Go.Proofs.Ythheakfgmombdaa.F
open Go.RowKit Go.Proofs.YthheakfgmombdaaX.PrintWords Go.Proofs.YthheakfgmombdaaX.PrintLast Go.Proofs.YthheakfgmombdaaX.PrintMore
attribute [local go_sem] max2_int min2_int max_two min_two max_three min_three max_four min_four   -- for this text's walks alone
set_option linter.unusedVariables false
set_option linter.unusedSimpArgs false
set_option maxHeartbeats 8000000 in
set_option maxRecDepth 100000 in
theorem codewrightref01_DivMod.calls (k : Nat) (A0 : Option Addr) (c0 : Nat) (l0 : List Int) (A1 : Option Addr) (c1 : Nat) (l1 : List Int) (r1 : List Int) (r2 : List Int) (w : World) (hr0 : Kd.C (Kd.int .u32) w A0 l0.length l0) (hc0 : l0.length ≤ c0) (hr1 : Kd.C (Kd.int .u32) w A1 l1.length l1) (hc1 : l1.length ≤ c1) (h : codewrightref01_DivMod.f k l0 l1 = some (r1, r2)) :
  Calls Try.prog 100 #[.slice A0 l0.length c0, .slice A1 l1.length c1] w fun e w' => ∃ v0_ v1_ : Value, e = .returned (.tuple #[v0_, v1_]) ∧ Kd.R (Kd.int .u32) 100 w' w.heap.size (fun k_ => some k_ ≠ (v1_ : Value).ownBlock) v0_ r1 ∧ Kd.R (Kd.int .u32) 100 w' w.heap.size (fun k_ => some k_ ≠ (v0_ : Value).ownBlock) v1_ r2 ∧ Below w.heap.size w w' := by
 have HR0 := Aside0.mk hr0
 have HC0 := Aside0.mk hc0
 clear hr0 hc0
 have HR1 := Aside0.mk hr1
 have HC1 := Aside0.mk hc1
 clear hr1 hc1
 have HB := Aside0.mk (Below.refl w.heap.size w)
 have H : ((codewrightref01_Trim.f k l0).bind fun t393 => ((codewrightref01_Bits.f k l0).bind fun t396 => ((codewrightref01_Bits.f k l1).bind fun t397 => (codewrightref01_DivMod.l0 k l1 ([] : List Int) t393 (wrap64 (t396 - t397)))))) = some (r1, r2) := h
 clear h
 obtain ⟨t393, A3, H⟩ := bindA H
 obtain ⟨t396, A4, H⟩ := bindA H
 obtain ⟨t397, A5, H⟩ := bindA H
 have H' := Aside0.mk H
 clear H
 go_enter Try.func100, Try.ntmps100
 go_wp2_with (first | (refine goesL_ (some 10) rfl rfl Try.func97 (by kernel_rfl) rfl #[.slice A0 l0.length c0] rfl (by simp only [List.map_toArray, List.map_cons, List.map_nil]; rfl) ?_; (with_reducible refine (codewrightref01_Trim.calls k _ _ l0 t393 _ HR0.out HC0.out A3.out).mono ?_); rintro e w6 ⟨v394, rfl, ho0, hb⟩; refine ⟨_, rfl, ?_⟩; have HO395 := Aside0.mk (Kd.R_lower ho0 (below_size (HB.out))); replace HB := Aside0.mk (below_step (HB.out) hb)) | (refine goesL_ (some 12) rfl rfl Try.func116 (by kernel_rfl) rfl #[.slice A0 l0.length c0] rfl (by simp only [List.map_toArray, List.map_cons, List.map_nil]; rfl) ?_; (with_reducible refine (codewrightref01_Bits.calls k _ _ l0 t396 _ (Kd.C_below HR0.out HB.out) HC0.out A4.out).mono ?_); rintro e w7 ⟨rfl, hb⟩; refine ⟨_, rfl, ?_⟩; replace HO395 := Aside0.mk (Kd.R_below (HO395.out) hb); replace HB := Aside0.mk (below_step (HB.out) hb)) | (refine goesL_ (some 14) rfl rfl Try.func116 (by kernel_rfl) rfl #[.slice A1 l1.length c1] rfl (by simp only [List.map_toArray, List.map_cons, List.map_nil]; rfl) ?_; (with_reducible refine (codewrightref01_Bits.calls k _ _ l1 t397 _ (Kd.C_below HR1.out HB.out) HC1.out A5.out).mono ?_); rintro e w8 ⟨rfl, hb⟩; refine ⟨_, rfl, ?_⟩; replace HO395 := Aside0.mk (Kd.R_below (HO395.out) hb); replace HB := Aside0.mk (below_step (HB.out) hb)))
 go_loopg [4, 5, 7] k (fun kq v4 v5 v7 w' => ∃ (x4_1 : List Int) (x5_1 : List Int) (x7_1 : Int), v7 = .int .i64 x7_1 ∧ Aside0 (codewrightref01_DivMod.l0 kq l1 x4_1 x5_1 x7_1 = some (r1, r2)) ∧ Aside0 (kq ≤ k) ∧ Aside0 (Kd.R (Kd.int .u32) 100 w' w.heap.size (fun k_ => some k_ ≠ (v5 : Value).ownBlock) v4 x4_1) ∧ Aside0 (Kd.R (Kd.int .u32) 100 w' w.heap.size (fun k_ => some k_ ≠ (v4 : Value).ownBlock) v5 x5_1) ∧ Aside0 (Below w.heap.size w w'))
 case atStart => exact ⟨(([] : List Int)), (t393), (wrap64 (t396 - t397)), rfl, H', ⟨Nat.le_refl _⟩, ⟨by exact Kd.R_nil _ _ _ _ _⟩, ⟨Kd.R_mono HO395.out (fun _ hk => (by simp [Value.ownBlock]))⟩, ⟨HB.out⟩⟩
 case round =>
  clear H'
  obtain ⟨x4_1, x5_1, x7_1, rfl, HA, HK1, HO_4, HO_5, HB⟩ := hrel
  cases gk with
  | zero => exact absurd HA.out (by simp [codewrightref01_DivMod.l0])
  | succ k1 =>
   have H := HA.out
   clear HA
   simp only [codewrightref01_DivMod.l0] at H
   by_cases c9 : x7_1 ≥ 0
   ·rw [if_pos c9] at H
    have c9b0 : decide (0 ≤ x7_1) = true := decide_eq_true c9
    clear c9
    obtain ⟨t401, A10, H⟩ := bindA H
    obtain ⟨t404, A11, H⟩ := bindA H
    by_cases c12 : t404 ≥ 0
    ·rw [if_pos c12] at H
     have c12b0 : decide (0 ≤ t404) = true := decide_eq_true c12
     clear c12
     obtain ⟨t405, A13, H⟩ := bindA H
     obtain ⟨y408, hy408⟩ : ∃ y_ : List Int, y_ = (([1] : List Int)) := ⟨_, rfl⟩
     (try replace H := (Option.bind_some _ _).symm.trans H); rw [← hy408] at H
     have Ny408 := Aside0.mk hy408
     clear hy408
     obtain ⟨t411, A14, H⟩ := bindA H
     obtain ⟨t414, A15, H⟩ := bindA H
     have H' := Aside0.mk H
     clear H
     go_wp2_with (first | (refine goesL_ (some 23) rfl rfl Try.func120 (by kernel_rfl) rfl #[.slice A1 l1.length c1, .int .i64 x7_1] rfl (by simp only [List.map_toArray, List.map_cons, List.map_nil]; rfl) ?_; (with_reducible refine (codewrightref01_shift.calls k1 _ _ l1 x7_1 t401 _ (Kd.C_below HR1.out HB.out) HC1.out A10.out).mono ?_); rintro e w16 ⟨v402, rfl, ho0, hb⟩; refine ⟨_, rfl, ?_⟩; have n0_ := Aside0.mk (Kd.R_elder' (HO_4.out) (Kd.R_base ho0) hb); have n1_ := Aside0.mk (Kd.R_elder' (HO_5.out) (Kd.R_base ho0) hb); have n2_ := Aside0.mk (Kd.R_lower (Kd.R_new' (Kd.R_new' ho0 (Kd.R_lt (HO_4.out))) (Kd.R_lt (HO_5.out))) (below_size (HB.out))); have n3_ := Aside0.mk (below_step (HB.out) hb); clear HO_4; clear HO_5; clear HB; have HO_4 := n0_; have HO_5 := n1_; have HO403 := n2_; have HB := n3_; clear n0_ n1_ n2_ n3_; (try clear hb); (try clear ho0); obtain ⟨Ao17, co17, eo17⟩ := Kd.R_slice HO_5.out; subst eo17; obtain ⟨Ao18, co18, eo18⟩ := Kd.R_slice HO403.out; subst eo18) | (refine goesL_ (some 26) rfl rfl Try.func71 (by kernel_rfl) rfl #[.slice Ao17 x5_1.length co17, .slice Ao18 t401.length co18] rfl (by simp only [List.map_toArray, List.map_cons, List.map_nil]; rfl) ?_; (with_reducible refine (codewrightref01_Cmp.calls k1 _ _ x5_1 _ _ t401 t404 _ ?side1 ?side2 ?side3 ?side4 A11.out).mono ?_); (case side1 => exact (Kd.R_reads' HO_5.out).2.2); (case side2 => exact (Kd.R_reads' HO_5.out).2.1); (case side3 => exact (Kd.R_reads' HO403.out).2.2); (case side4 => exact (Kd.R_reads' HO403.out).2.1); rintro e w19 ⟨rfl, hb⟩; refine ⟨_, rfl, ?_⟩; replace HO_4 := Aside0.mk (Kd.R_below (HO_4.out) hb); replace HO_5 := Aside0.mk (Kd.R_below (HO_5.out) hb); replace HO403 := Aside0.mk (Kd.R_below (HO403.out) hb); replace HB := Aside0.mk (below_step (HB.out) hb)) | (refine goesL_ (some 30) rfl rfl Try.func72 (by kernel_rfl) rfl #[.slice Ao17 x5_1.length co17, .slice Ao18 t401.length co18] rfl (by simp only [List.map_toArray, List.map_cons, List.map_nil]; rfl) ?_; (with_reducible refine (codewrightref01_Sub.calls k1 _ _ x5_1 _ _ t401 t405 _ ?side1 ?side2 ?side3 ?side4 A13.out).mono ?_); (case side1 => exact (Kd.R_reads' HO_5.out).2.2); (case side2 => exact (Kd.R_reads' HO_5.out).2.1); (case side3 => exact (Kd.R_reads' HO403.out).2.2); (case side4 => exact (Kd.R_reads' HO403.out).2.1); rintro e w20 ⟨v406, rfl, ho0, hb⟩; refine ⟨_, rfl, ?_⟩; have n0_ := Aside0.mk (Kd.R_elder' (HO_4.out) (Kd.R_base ho0) hb); have n1_ := Aside0.mk (Kd.R_elder' (HO_5.out) (Kd.R_base ho0) hb); have n2_ := Aside0.mk (Kd.R_elder' (HO403.out) (Kd.R_base ho0) hb); have n3_ := Aside0.mk (Kd.R_lower (Kd.R_new' (Kd.R_new' (Kd.R_new' ho0 (Kd.R_lt (HO_4.out))) (Kd.R_lt (HO_5.out))) (Kd.R_lt (HO403.out))) (below_size (HB.out))); have n4_ := Aside0.mk (below_step (HB.out) hb); clear HO_4; clear HO_5; clear HO403; clear HB; have HO_4 := n0_; have HO_5 := n1_; have HO403 := n2_; have HO407 := n3_; have HB := n4_; clear n0_ n1_ n2_ n3_ n4_) | (refine Kd.R_lit (Kd.int .u32) _ 100 ?hg (N := 32) ?hd (xs := ([1] : List Int)) (inner := [.int .u32 1]) (ok := fun _ => True) (okp := fun _ => True) ?hr ?hp (fun _ hk => hk) trivial (Below.refl _ _) (Nat.le_refl _) (by simp) ?_; (case hd => rfl); (case hg => rfl); (case hr => go_simp; done); (case hp => exact (Reps.one (show Kd.M (Kd.int .u32) _ _ _ 1 [.int .u32 1] from rfl) (Reps.none _ _))); intro v409 w21 ho22 hb hg_ hnew_; clear hg_ hnew_; (rw [← Ny408.out] at ho22); have n0_ := Aside0.mk (Kd.R_elder' (HO_4.out) (Kd.R_base ho22) hb); have n1_ := Aside0.mk (Kd.R_elder' (HO_5.out) (Kd.R_base ho22) hb); have n2_ := Aside0.mk (Kd.R_elder' (HO403.out) (Kd.R_base ho22) hb); have n3_ := Aside0.mk (Kd.R_elder' (HO407.out) (Kd.R_base ho22) hb); have n4_ := Aside0.mk (Kd.R_lower (Kd.R_new' (Kd.R_new' (Kd.R_new' (Kd.R_new' ho22 (Kd.R_lt (HO_4.out))) (Kd.R_lt (HO_5.out))) (Kd.R_lt (HO403.out))) (Kd.R_lt (HO407.out))) (below_size (HB.out))); have n5_ := Aside0.mk (below_step (HB.out) hb); clear HO_4; clear HO_5; clear HO403; clear HO407; clear HB; have HO_4 := n0_; have HO_5 := n1_; have HO403 := n2_; have HO407 := n3_; have HO410 := n4_; have HB := n5_; clear n0_ n1_ n2_ n3_ n4_ n5_; clear hb ho22; obtain ⟨Ao23, co23, eo23⟩ := Kd.R_slice HO410.out; subst eo23) | (refine goesL_ (some 34) rfl rfl Try.func120 (by kernel_rfl) rfl #[.slice Ao23 y408.length co23, .int .i64 x7_1] rfl (by simp only [List.map_toArray, List.map_cons, List.map_nil]; rfl) ?_; (with_reducible refine (codewrightref01_shift.calls k1 _ _ y408 x7_1 t411 _ ?side1 ?side2 A14.out).mono ?_); (case side1 => exact (Kd.R_reads' HO410.out).2.2); (case side2 => exact (Kd.R_reads' HO410.out).2.1); rintro e w24 ⟨v412, rfl, ho0, hb⟩; refine ⟨_, rfl, ?_⟩; have n0_ := Aside0.mk (Kd.R_elder' (HO_4.out) (Kd.R_base ho0) hb); have n1_ := Aside0.mk (Kd.R_elder' (HO_5.out) (Kd.R_base ho0) hb); have n2_ := Aside0.mk (Kd.R_elder' (HO403.out) (Kd.R_base ho0) hb); have n3_ := Aside0.mk (Kd.R_elder' (HO407.out) (Kd.R_base ho0) hb); have n4_ := Aside0.mk (Kd.R_elder' (HO410.out) (Kd.R_base ho0) hb); have n5_ := Aside0.mk (Kd.R_lower (Kd.R_new' (Kd.R_new' (Kd.R_new' (Kd.R_new' (Kd.R_new' ho0 (Kd.R_lt (HO_4.out))) (Kd.R_lt (HO_5.out))) (Kd.R_lt (HO403.out))) (Kd.R_lt (HO407.out))) (Kd.R_lt (HO410.out))) (below_size (HB.out))); have n6_ := Aside0.mk (below_step (HB.out) hb); clear HO_4; clear HO_5; clear HO403; clear HO407; clear HO410; clear HB; have HO_4 := n0_; have HO_5 := n1_; have HO403 := n2_; have HO407 := n3_; have HO410 := n4_; have HO413 := n5_; have HB := n6_; clear n0_ n1_ n2_ n3_ n4_ n5_ n6_; (try clear hb); (try clear ho0); obtain ⟨Ao25, co25, eo25⟩ := Kd.R_slice HO_4.out; subst eo25; obtain ⟨Ao26, co26, eo26⟩ := Kd.R_slice HO413.out; subst eo26) | (refine goesL_ (some 35) rfl rfl Try.func70 (by kernel_rfl) rfl #[.slice Ao25 x4_1.length co25, .slice Ao26 t411.length co26] rfl (by simp only [List.map_toArray, List.map_cons, List.map_nil]; rfl) ?_; (with_reducible refine (codewrightref01_Add.calls k1 _ _ x4_1 _ _ t411 t414 _ ?side1 ?side2 ?side3 ?side4 A15.out).mono ?_); (case side1 => exact (Kd.R_reads' HO_4.out).2.2); (case side2 => exact (Kd.R_reads' HO_4.out).2.1); (case side3 => exact (Kd.R_reads' HO413.out).2.2); (case side4 => exact (Kd.R_reads' HO413.out).2.1); rintro e w27 ⟨v415, rfl, ho0, hb⟩; refine ⟨_, rfl, ?_⟩; have n0_ := Aside0.mk (Kd.R_elder' (HO_4.out) (Kd.R_base ho0) hb); have n1_ := Aside0.mk (Kd.R_elder' (HO_5.out) (Kd.R_base ho0) hb); have n2_ := Aside0.mk (Kd.R_elder' (HO403.out) (Kd.R_base ho0) hb); have n3_ := Aside0.mk (Kd.R_elder' (HO407.out) (Kd.R_base ho0) hb); have n4_ := Aside0.mk (Kd.R_elder' (HO410.out) (Kd.R_base ho0) hb); have n5_ := Aside0.mk (Kd.R_elder' (HO413.out) (Kd.R_base ho0) hb); have n6_ := Aside0.mk (Kd.R_lower (Kd.R_new' (Kd.R_new' (Kd.R_new' (Kd.R_new' (Kd.R_new' (Kd.R_new' ho0 (Kd.R_lt (HO_4.out))) (Kd.R_lt (HO_5.out))) (Kd.R_lt (HO403.out))) (Kd.R_lt (HO407.out))) (Kd.R_lt (HO410.out))) (Kd.R_lt (HO413.out))) (below_size (HB.out))); have n7_ := Aside0.mk (below_step (HB.out) hb); clear HO_4; clear HO_5; clear HO403; clear HO407; clear HO410; clear HO413; clear HB; have HO_4 := n0_; have HO_5 := n1_; have HO403 := n2_; have HO407 := n3_; have HO410 := n4_; have HO413 := n5_; have HO416 := n6_; have HB := n7_; clear n0_ n1_ n2_ n3_ n4_ n5_ n6_ n7_))
     go_roundg k1
     case measure => have := HK1.out; omega
     case rel => exact ⟨(t414), (t405), (wrap64 (x7_1 - 1)), rfl, H', ⟨by have := HK1.out; omega⟩, ⟨Kd.R_mono HO416.out (fun _ hk => hk.1.1.2)⟩, ⟨Kd.R_mono HO407.out (fun _ hk => hk.2)⟩, ⟨HB.out⟩⟩
    ·rw [if_neg c12] at H
     have c12b0 : decide (0 ≤ t404) = false := decide_eq_false c12
     clear c12
     have H' := Aside0.mk H
     clear H
     go_wp2_with (first | (refine goesL_ (some 23) rfl rfl Try.func120 (by kernel_rfl) rfl #[.slice A1 l1.length c1, .int .i64 x7_1] rfl (by simp only [List.map_toArray, List.map_cons, List.map_nil]; rfl) ?_; (with_reducible refine (codewrightref01_shift.calls k1 _ _ l1 x7_1 t401 _ (Kd.C_below HR1.out HB.out) HC1.out A10.out).mono ?_); rintro e w28 ⟨v402, rfl, ho0, hb⟩; refine ⟨_, rfl, ?_⟩; have n0_ := Aside0.mk (Kd.R_elder' (HO_4.out) (Kd.R_base ho0) hb); have n1_ := Aside0.mk (Kd.R_elder' (HO_5.out) (Kd.R_base ho0) hb); have n2_ := Aside0.mk (Kd.R_lower (Kd.R_new' (Kd.R_new' ho0 (Kd.R_lt (HO_4.out))) (Kd.R_lt (HO_5.out))) (below_size (HB.out))); have n3_ := Aside0.mk (below_step (HB.out) hb); clear HO_4; clear HO_5; clear HB; have HO_4 := n0_; have HO_5 := n1_; have HO403 := n2_; have HB := n3_; clear n0_ n1_ n2_ n3_; (try clear hb); (try clear ho0); obtain ⟨Ao29, co29, eo29⟩ := Kd.R_slice HO_5.out; subst eo29; obtain ⟨Ao30, co30, eo30⟩ := Kd.R_slice HO403.out; subst eo30) | (refine goesL_ (some 26) rfl rfl Try.func71 (by kernel_rfl) rfl #[.slice Ao29 x5_1.length co29, .slice Ao30 t401.length co30] rfl (by simp only [List.map_toArray, List.map_cons, List.map_nil]; rfl) ?_; (with_reducible refine (codewrightref01_Cmp.calls k1 _ _ x5_1 _ _ t401 t404 _ ?side1 ?side2 ?side3 ?side4 A11.out).mono ?_); (case side1 => exact (Kd.R_reads' HO_5.out).2.2); (case side2 => exact (Kd.R_reads' HO_5.out).2.1); (case side3 => exact (Kd.R_reads' HO403.out).2.2); (case side4 => exact (Kd.R_reads' HO403.out).2.1); rintro e w31 ⟨rfl, hb⟩; refine ⟨_, rfl, ?_⟩; replace HO_4 := Aside0.mk (Kd.R_below (HO_4.out) hb); replace HO_5 := Aside0.mk (Kd.R_below (HO_5.out) hb); replace HO403 := Aside0.mk (Kd.R_below (HO403.out) hb); replace HB := Aside0.mk (below_step (HB.out) hb)))
     go_roundg k1
     case measure => have := HK1.out; omega
     case rel => exact ⟨(x4_1), (x5_1), (wrap64 (x7_1 - 1)), rfl, H', ⟨by have := HK1.out; omega⟩, ⟨Kd.R_mono HO_4.out (fun _ hk => hk.1)⟩, ⟨Kd.R_mono HO_5.out (fun _ hk => hk.1)⟩, ⟨HB.out⟩⟩
   ·rw [if_neg c9] at H
    have c9b0 : decide (0 ≤ x7_1) = false := decide_eq_false c9
    clear c9
    obtain ⟨t398, A32, H⟩ := bindA H
    simp only [Option.some.injEq, Prod.mk.injEq] at H
    obtain ⟨rfl, rfl⟩ := H
    obtain ⟨Ao33, co33, eo33⟩ := Kd.R_slice HO_4.out
    subst eo33
    go_wp2_with ((refine goesL_ (some 37) rfl rfl Try.func97 (by kernel_rfl) rfl #[.slice Ao33 x4_1.length co33] rfl (by simp only [List.map_toArray, List.map_cons, List.map_nil]; rfl) ?_; (with_reducible refine (codewrightref01_Trim.calls k1 _ _ x4_1 t398 _ ?side1 ?side2 A32.out).mono ?_); (case side1 => exact (Kd.R_reads' HO_4.out).2.2); (case side2 => exact (Kd.R_reads' HO_4.out).2.1); rintro e w34 ⟨v399, rfl, ho0, hb⟩; refine ⟨_, rfl, ?_⟩; have n0_ := Aside0.mk (Kd.R_elder' (HO_4.out) (Kd.R_base ho0) hb); have n1_ := Aside0.mk (Kd.R_elder' (HO_5.out) (Kd.R_base ho0) hb); have n2_ := Aside0.mk (Kd.R_lower (Kd.R_new' (Kd.R_new' ho0 (Kd.R_lt (HO_4.out))) (Kd.R_lt (HO_5.out))) (below_size (HB.out))); have n3_ := Aside0.mk (below_step (HB.out) hb); clear HO_4; clear HO_5; clear HB; have HO_4 := n0_; have HO_5 := n1_; have HO400 := n2_; have HB := n3_; clear n0_ n1_ n2_ n3_))
    go_ret2
    exact ⟨_, _, rfl, Kd.R_mono HO400.out (fun _ hk => hk.2), Kd.R_mono HO_5.out (fun _ hk => hk.2), HB.out⟩
end Go.Proofs.Ythheakfgmombdaa.F
end
section
namespace Go.Proofs.Ythheakfgmombdaa.F
open Go.RowKit Go.Proofs.YthheakfgmombdaaX.PrintWords Go.Proofs.YthheakfgmombdaaX.PrintLast Go.Proofs.YthheakfgmombdaaX.PrintMore
attribute [local go_sem] max2_int min2_int max_two min_two max_three min_three max_four min_four   -- for this text's walks alone
set_option linter.unusedVariables false
set_option linter.unusedSimpArgs false
set_option maxHeartbeats 8000000 in
set_option maxRecDepth 100000 in
theorem codewrightref01_Gcd.calls (k : Nat) (P0_ : Nat → Prop) (A0 : Option Addr) (c0 : Nat) (l0 : List Int) (P1_ : Nat → Prop) (A1 : Option Addr) (c1 : Nat) (l1 : List Int) (r : List Int) (w : World) (hs0 : Kd.V (Kd.int .u32) 100 w w.heap.size (fun k_ => P0_ k_) (.slice A0 l0.length c0) l0) (hs1 : Kd.V (Kd.int .u32) 100 w w.heap.size (fun k_ => P1_ k_) (.slice A1 l1.length c1) l1) (h : codewrightref01_Gcd.f k l0 l1 = some r) :
  Calls Try.prog 99 #[.slice A0 l0.length c0, .slice A1 l1.length c1] w fun e w' => ∃ v0_ : Value, e = .returned (v0_) ∧ Kd.R (Kd.int .u32) 100 w' w.heap.size (fun k_ => (w.heap.size ≤ k_)) v0_ r ∧ Below w.heap.size w w' := by
 have HO0 := Aside0.mk (show Kd.V (Kd.int .u32) 100 w w.heap.size (fun k_ => ((P0_ k_ ∨ P1_ k_) ∨ w.heap.size ≤ k_)) (.slice A0 l0.length c0) l0 from Kd.V_mono hs0 (fun k_ hk => .inl (.inl hk)))
 have HO1 := Aside0.mk (show Kd.V (Kd.int .u32) 100 w w.heap.size (fun k_ => ((P0_ k_ ∨ P1_ k_) ∨ w.heap.size ≤ k_)) (.slice A1 l1.length c1) l1 from Kd.V_mono hs1 (fun k_ hk => .inl (.inr hk)))
 have HB := Aside0.mk (Below.refl w.heap.size w)
 have H : (codewrightref01_Gcd.l0 k l0 l1) = some r := h
 clear h
 have H' := Aside0.mk H
 clear H
 go_enter Try.func99, Try.ntmps99
 go_wp2
 go_loopg [0, 1] k (fun kq v0 v1 w' => ∃ (x0_1 : List Int) (x1_1 : List Int), Aside0 (codewrightref01_Gcd.l0 kq x0_1 x1_1 = some r) ∧ Aside0 (kq ≤ k) ∧ Aside0 (Kd.V (Kd.int .u32) 100 w' w.heap.size (fun k_ => ((P0_ k_ ∨ P1_ k_) ∨ w.heap.size ≤ k_)) v0 x0_1) ∧ Aside0 (Kd.V (Kd.int .u32) 100 w' w.heap.size (fun k_ => ((P0_ k_ ∨ P1_ k_) ∨ w.heap.size ≤ k_)) v1 x1_1) ∧ Aside0 (Below w.heap.size w w'))
 case atStart => exact ⟨(l0), (l1), H', ⟨Nat.le_refl _⟩, ⟨HO0.out⟩, ⟨HO1.out⟩, ⟨HB.out⟩⟩
 case round =>
  clear H'
  obtain ⟨x0_1, x1_1, HA, HK1, HO_0, HO_1, HB⟩ := hrel
  cases gk with
  | zero => exact absurd HA.out (by simp [codewrightref01_Gcd.l0])
  | succ k1 =>
   have H := HA.out
   clear HA
   simp only [codewrightref01_Gcd.l0] at H
   obtain ⟨t417, A3, H⟩ := bindA H
   by_cases c4 : t417 = true
   ·subst c4
    rw [if_pos rfl] at H
    obtain ⟨t418, A5, H⟩ := bindA H
    obtain rfl := Option.some.inj H
    obtain ⟨Ao6, co6, eo6⟩ := Kd.V_slice HO_1.out
    subst eo6
    go_wp2_with (first | (refine goesL_ (some 8) rfl rfl Try.func98 (by kernel_rfl) rfl #[.slice Ao6 x1_1.length co6] rfl (by simp only [List.map_toArray, List.map_cons, List.map_nil]; rfl) ?_; (with_reducible refine (codewrightref01_Zero.calls k1 _ _ x1_1 true _ ?side1 ?side2 A3.out).mono ?_); (case side1 => exact (Kd.V_reads' HO_1.out).2.2); (case side2 => exact (Kd.V_reads' HO_1.out).2.1); rintro e w7 ⟨rfl, hb⟩; refine ⟨_, rfl, ?_⟩; replace HO_0 := Aside0.mk (Kd.V_below (HO_0.out) hb); replace HO_1 := Aside0.mk (Kd.V_below (HO_1.out) hb); replace HB := Aside0.mk (below_step (HB.out) hb); (try clear hb); obtain ⟨Ao8, co8, eo8⟩ := Kd.V_slice HO_0.out; subst eo8) | (refine goesL_ (some 19) rfl rfl Try.func97 (by kernel_rfl) rfl #[.slice Ao8 x0_1.length co8] rfl (by simp only [List.map_toArray, List.map_cons, List.map_nil]; rfl) ?_; (with_reducible refine (codewrightref01_Trim.calls k1 _ _ x0_1 t418 _ ?side1 ?side2 A5.out).mono ?_); (case side1 => exact (Kd.V_reads' HO_0.out).2.2); (case side2 => exact (Kd.V_reads' HO_0.out).2.1); rintro e w9 ⟨v419, rfl, ho0, hb⟩; refine ⟨_, rfl, ?_⟩; replace HO_0 := Aside0.mk (Kd.V_elder' (HO_0.out) (Kd.R_base ho0) hb); replace HO_1 := Aside0.mk (Kd.V_elder' (HO_1.out) (Kd.R_base ho0) hb); have HO420 := Aside0.mk (Kd.R_lower (Kd.R_newM (M := fun k_ => (w.heap.size ≤ k_)) ho0 (below_size (HB.out)) (fun k_ h_ => h_)) (below_size (HB.out))); replace HB := Aside0.mk (below_step (HB.out) hb)))
    go_ret
    exact ⟨_, rfl, Kd.R_mono HO420.out (fun _ hk => hk.1), HB.out⟩
   ·replace c4 := Bool.eq_false_iff.mpr c4
    subst c4
    rw [if_neg (show ¬ (false = true) by decide)] at H
    obtain ⟨⟨t421, t422⟩, A10, H⟩ := bindA H
    have H' := Aside0.mk H
    clear H
    obtain ⟨Ao11, co11, eo11⟩ := Kd.V_slice HO_1.out
    subst eo11
    go_wp2_with (first | (refine goesL_ (some 8) rfl rfl Try.func98 (by kernel_rfl) rfl #[.slice Ao11 x1_1.length co11] rfl (by simp only [List.map_toArray, List.map_cons, List.map_nil]; rfl) ?_; (with_reducible refine (codewrightref01_Zero.calls k1 _ _ x1_1 false _ ?side1 ?side2 A3.out).mono ?_); (case side1 => exact (Kd.V_reads' HO_1.out).2.2); (case side2 => exact (Kd.V_reads' HO_1.out).2.1); rintro e w12 ⟨rfl, hb⟩; refine ⟨_, rfl, ?_⟩; replace HO_0 := Aside0.mk (Kd.V_below (HO_0.out) hb); replace HO_1 := Aside0.mk (Kd.V_below (HO_1.out) hb); replace HB := Aside0.mk (below_step (HB.out) hb); (try clear hb); obtain ⟨Ao13, co13, eo13⟩ := Kd.V_slice HO_0.out; subst eo13) | (refine goesL_ (some 13) rfl rfl Try.func100 (by kernel_rfl) rfl #[.slice Ao13 x0_1.length co13, .slice Ao11 x1_1.length co11] rfl (by simp only [List.map_toArray, List.map_cons, List.map_nil]; rfl) ?_; (with_reducible refine (codewrightref01_DivMod.calls k1 _ _ x0_1 _ _ x1_1 t421 t422 _ ?side1 ?side2 ?side3 ?side4 A10.out).mono ?_); (case side1 => exact (Kd.V_reads' HO_0.out).2.2); (case side2 => exact (Kd.V_reads' HO_0.out).2.1); (case side3 => exact (Kd.V_reads' HO_1.out).2.2); (case side4 => exact (Kd.V_reads' HO_1.out).2.1); rintro e w14 ⟨v423, v425, rfl, ho0, ho1, hb⟩; refine ⟨_, rfl, ?_⟩; replace HO_0 := Aside0.mk (Kd.V_mono (Kd.V_told (Kd.V_told (Kd.V_old (HO_0.out) hb) (Kd.R_base ho0)) (Kd.R_base ho1)) (fun _ h_ => h_.1)); replace HO_1 := Aside0.mk (Kd.V_mono (Kd.V_told (Kd.V_told (Kd.V_old (HO_1.out) hb) (Kd.R_base ho0)) (Kd.R_base ho1)) (fun _ h_ => h_.1)); have HO424 := Aside0.mk (Kd.R_lower (Kd.R_newM (M := fun k_ => (w.heap.size ≤ k_)) ho0 (below_size (HB.out)) (fun k_ h_ => h_)) (below_size (HB.out))); have HO426 := Aside0.mk (Kd.R_lower (Kd.R_newM (M := fun k_ => (w.heap.size ≤ k_)) ho1 (below_size (HB.out)) (fun k_ h_ => h_)) (below_size (HB.out))); replace HB := Aside0.mk (below_step (HB.out) hb)))
    go_roundg k1
    case measure => have := HK1.out; omega
    case rel => exact ⟨(x1_1), (t422), H', ⟨by have := HK1.out; omega⟩, ⟨Kd.V_mono HO_1.out (fun _ hk => hk.1.1)⟩, ⟨Kd.V_mono (Kd.R_V (HO426.out)) (fun k_ hk => by ((have hk := hk.1; exact (.inr (hk)))))⟩, ⟨HB.out⟩⟩
end Go.Proofs.Ythheakfgmombdaa.F
end
section
namespace Go.Proofs.Ythheakfgmombdaa.F
open Go.RowKit Go.Proofs.YthheakfgmombdaaX.PrintWords Go.Proofs.YthheakfgmombdaaX.PrintLast Go.Proofs.YthheakfgmombdaaX.PrintMore
attribute [local go_sem] max2_int min2_int max_two min_two max_three min_three max_four min_four   -- for this text's walks alone
set_option linter.unusedVariables false
set_option linter.unusedSimpArgs false
set_option maxHeartbeats 8000000 in
set_option maxRecDepth 100000 in
theorem codewrightref02_Make.calls (k : Nat) (a0 : Bool) (A1 : Option Addr) (c1 : Nat) (l1 : List Int) (A2 : Option Addr) (c2 : Nat) (l2 : List Int) (r1 : Bool) (r2 : List Int) (r3 : List Int) (w : World) (hr1 : Kd.C (Kd.int .u32) w A1 l1.length l1) (hc1 : l1.length ≤ c1) (hr2 : Kd.C (Kd.int .u32) w A2 l2.length l2) (hc2 : l2.length ≤ c2) (h : codewrightref02_Make.f k a0 l1 l2 = some (r1, r2, r3)) :
  Calls Try.prog 69 #[.bool a0, .slice A1 l1.length c1, .slice A2 l2.length c2] w fun e w' => ∃ v1_ v2_ : Value, e = .returned (.agg #[.bool r1, v1_, v2_]) ∧ Kd.R (Kd.int .u32) 100 w' w.heap.size (fun k_ => some k_ ≠ (v2_ : Value).ownBlock) v1_ r2 ∧ Kd.R (Kd.int .u32) 100 w' w.heap.size (fun k_ => some k_ ≠ (v1_ : Value).ownBlock) v2_ r3 ∧ Below w.heap.size w w' := by
 have hu46 := Try.underlying46
 have HR1 := Aside0.mk hr1
 have HC1 := Aside0.mk hc1
 clear hr1 hc1
 have HR2 := Aside0.mk hr2
 have HC2 := Aside0.mk hc2
 clear hr2 hc2
 have HB := Aside0.mk (Below.refl w.heap.size w)
 have H : ((codewrightref01_Zero.f k l1).bind fun t428 => (if t428 = true then (codewrightref02_Make.j0 k a0 l1 l2 true) else ((codewrightref01_Zero.f k l2).bind fun t429 => (codewrightref02_Make.j0 k a0 l1 l2 t429)))) = some (r1, r2, r3) := h
 clear h
 have HC4 := Aside0.mk H
 clear H
 go_enter Try.func69, Try.ntmps69
 go_upto_region 1 with ((refine box_event ?hg (N := 6) ?hd (cs := #[.bool false, .slice none 0 0, .slice none 0 0]) (t := 46) ?hr ?_; (case hd => rfl); (case hg => rfl); (case hr => go_simp; done); intro gb427 hg w5 hbox hb; have n0_ := Aside0.mk (below_step (HB.out) hb); have n1_ := Aside0.mk (hbox); have n2_ := Aside0.mk ((by rw [hg]; exact (below_size (HB.out)) : w.heap.size ≤ gb427)); have n3_ := Aside0.mk ((by rw [hg]; exact (below_size (HB.out)) : w.heap.size ≤ gb427)); clear HB; have HB := n0_; have BK427 := n1_; have GW427 := n2_; have GE427 := n3_; clear n0_ n1_ n2_ n3_; clear hb hbox hg))
 (try simp only [Act.put, List.setIfInBounds_toArray, List.set_cons_zero, List.set_cons_succ])
 go_cut [17] (fun v17 wc => ∃ (kq : Nat) (x17_3 : Bool), v17 = .bool x17_3 ∧ Aside0 (codewrightref02_Make.j0 kq a0 l1 l2 x17_3 = some (r1, r2, r3)) ∧ Aside0 (kq ≤ k) ∧ Aside0 (wc.heap[gb427]? = some (.cells #[.bool false, (.slice none 0 0), (.slice none 0 0)] 46 (0, 0))) ∧ Aside0 (Below w.heap.size w wc))
 case first =>
  have H := HC4.out
  clear HC4
  obtain ⟨t428, A6, H⟩ := bindA H
  by_cases c7 : t428 = true
  ·subst c7
   rw [if_pos rfl] at H
   have H' := Aside0.mk H
   clear H
   go_wp2_with ((refine goesL_ (some 13) rfl rfl Try.func98 (by kernel_rfl) rfl #[.slice A1 l1.length c1] rfl (by simp only [List.map_toArray, List.map_cons, List.map_nil]; rfl) ?_; (with_reducible refine (codewrightref01_Zero.calls k _ _ l1 true _ (Kd.C_below HR1.out HB.out) HC1.out A6.out).mono ?_); rintro e w8 ⟨rfl, hb⟩; refine ⟨_, rfl, ?_⟩; replace BK427 := Aside0.mk (blk_below (BK427.out) hb); replace HB := Aside0.mk (below_step (HB.out) hb)))
   go_meet
   case rel => exact ⟨_, (true), rfl, H', ⟨by omega⟩, ⟨BK427.out⟩, ⟨HB.out⟩⟩
  ·replace c7 := Bool.eq_false_iff.mpr c7
   subst c7
   rw [if_neg (show ¬ (false = true) by decide)] at H
   obtain ⟨t429, A9, H⟩ := bindA H
   have H' := Aside0.mk H
   clear H
   go_wp2_with (first | (refine goesL_ (some 13) rfl rfl Try.func98 (by kernel_rfl) rfl #[.slice A1 l1.length c1] rfl (by simp only [List.map_toArray, List.map_cons, List.map_nil]; rfl) ?_; (with_reducible refine (codewrightref01_Zero.calls k _ _ l1 false _ (Kd.C_below HR1.out HB.out) HC1.out A6.out).mono ?_); rintro e w10 ⟨rfl, hb⟩; refine ⟨_, rfl, ?_⟩; replace BK427 := Aside0.mk (blk_below (BK427.out) hb); replace HB := Aside0.mk (below_step (HB.out) hb)) | (go_at_call 98; (with_reducible refine (codewrightref01_Zero.calls k _ _ l2 t429 _ (Kd.C_below HR2.out HB.out) HC2.out A9.out).mono ?_); rintro e w11 ⟨rfl, hb⟩; replace BK427 := Aside0.mk (blk_below (BK427.out) hb); replace HB := Aside0.mk (below_step (HB.out) hb)))
   go_meet
   case rel => exact ⟨_, (t429), rfl, H', ⟨by omega⟩, ⟨BK427.out⟩, ⟨HB.out⟩⟩
 case rest =>
  clear HC4
  obtain ⟨kq, x17_3, rfl, HA, HJ3, BK427, HB⟩ := hcut
  cases kq with
  | zero => exact absurd HA.out (by simp [codewrightref02_Make.j0])
  | succ kj3 =>
   have H := HA.out
   clear HA
   simp only [codewrightref02_Make.j0] at H
   by_cases c12 : x17_3 = true
   ·subst c12
    rw [if_pos rfl] at H
    obtain ⟨y430, hy430⟩ : ∃ y_ : List Int, y_ = (([] : List Int)) := ⟨_, rfl⟩
    replace H : (some (false, y430, (([1] : List Int)))) = some (r1, r2, r3) := by (rw [hy430]; with_reducible exact H)
    have Ny430 := Aside0.mk hy430
    clear hy430
    obtain ⟨y433, hy433⟩ : ∃ y_ : List Int, y_ = (([1] : List Int)) := ⟨_, rfl⟩
    (try replace H := (Option.bind_some _ _).symm.trans H); rw [← hy433] at H
    have Ny433 := Aside0.mk hy433
    clear hy433
    simp only [Option.some.injEq, Prod.mk.injEq] at H
    obtain ⟨rfl, rfl, rfl⟩ := H
    go_wp2_with (first | (refine Kd.R_lit (Kd.int .u32) _ 100 ?hg (N := 18) ?hd (xs := ([] : List Int)) (inner := []) (ok := fun _ => True) (okp := fun _ => True) ?hr ?hp (fun _ hk => hk) trivial (Below.refl _ _) (Nat.le_refl _) (by simp) ?_; (case hd => rfl); (case hg => rfl); (case hr => go_simp; done); (case hp => exact (Reps.none _ _)); intro v431 w13 ho14 hb hg_ hnew_; clear hg_ hnew_; (rw [← Ny430.out] at ho14); have HO432 := Aside0.mk (Kd.R_lower ho14 (below_size (HB.out))); replace BK427 := Aside0.mk (blk_below (BK427.out) hb); replace HB := Aside0.mk (below_step (HB.out) hb); clear hb ho14) | (refine Kd.R_lit (Kd.int .u32) _ 100 ?hg (N := 19) ?hd (xs := ([1] : List Int)) (inner := [.int .u32 1]) (ok := fun _ => True) (okp := fun _ => True) ?hr ?hp (fun _ hk => hk) trivial (Below.refl _ _) (Nat.le_refl _) (by simp) ?_; (case hd => rfl); (case hg => rfl); (case hr => go_simp; done); (case hp => exact (Reps.one (show Kd.M (Kd.int .u32) _ _ _ 1 [.int .u32 1] from rfl) (Reps.none _ _))); intro v434 w15 ho16 hb hg_ hnew_; clear hg_ hnew_; (rw [← Ny433.out] at ho16); have n0_ := Aside0.mk (Kd.R_elder' (HO432.out) (Kd.R_base ho16) hb); have n1_ := Aside0.mk (Kd.R_lower (Kd.R_new' ho16 (Kd.R_lt (HO432.out))) (below_size (HB.out))); have n2_ := Aside0.mk (blk_below (BK427.out) hb); have n3_ := Aside0.mk (below_step (HB.out) hb); clear HO432; clear BK427; clear HB; have HO432 := n0_; have HO435 := n1_; have BK427 := n2_; have HB := n3_; clear n0_ n1_ n2_ n3_; clear hb ho16; obtain ⟨Ao17, co17, eo17⟩ := Kd.R_slice HO435.out; subst eo17; obtain ⟨Ao18, co18, eo18⟩ := Kd.R_slice HO432.out; subst eo18; have hcz19_0 : w15.cell? ⟨gb427, 0, none⟩ = some (.bool false) := (blk_cell BK427.out 0).trans rfl; have hcz19_1 : w15.cell? ⟨gb427, 1, none⟩ = some (.slice none 0 0) := (blk_cell BK427.out 1).trans rfl; have hcz19_2 : w15.cell? ⟨gb427, 2, none⟩ = some (.slice none 0 0) := (blk_cell BK427.out 2).trans rfl; have hfz19_0 := blk_frozen BK427.out 0; have hfz19_1 := blk_frozen BK427.out 1; have hfz19_2 := blk_frozen BK427.out 2))
    refine bodyPost_ret (results_cell_row rfl _ _ gb427 46 #[.bool false, .slice Ao18 y430.length co18, .slice Ao17 y433.length co17] (0, 0) _ rfl (by (with_reducible repeat (fail)); refine blk_put (cs := #[.bool false, .slice Ao18 y430.length co18, .slice none 0 0]) ?_ 2 _ rfl; (with_reducible repeat (fail)); refine blk_put (cs := #[.bool false, .slice none 0 0, .slice none 0 0]) ?_ 1 _ rfl; (with_reducible repeat (fail)); refine blk_put (cs := #[.bool false, .slice none 0 0, .slice none 0 0]) ?_ 0 _ rfl; (with_reducible repeat (fail)); exact BK427.out) Try.underlying46 rfl (by kernel_rfl)) rfl ?_
    exact ⟨_, _, rfl, Kd.R_mono (Kd.R_far (p := ⟨gb427, 2, none⟩) (Kd.R_far (p := ⟨gb427, 1, none⟩) (Kd.R_far (p := ⟨gb427, 0, none⟩) (Kd.R_types HO432.out BK427.out (by decide)) (fun _ hk => hk.2) (.bool false)) (fun _ hk => hk.2) (.slice Ao18 y430.length co18)) (fun _ hk => hk.2) (.slice Ao17 y433.length co17)) (fun _ hk => hk.1.2), Kd.R_mono (Kd.R_far (p := ⟨gb427, 2, none⟩) (Kd.R_far (p := ⟨gb427, 1, none⟩) (Kd.R_far (p := ⟨gb427, 0, none⟩) (Kd.R_types HO435.out BK427.out (by decide)) (fun _ hk => hk.2) (.bool false)) (fun _ hk => hk.2) (.slice Ao18 y430.length co18)) (fun _ hk => hk.2) (.slice Ao17 y433.length co17)) (fun _ hk => hk.1.2), by repeat ((with_reducible first | exact HB.out | refine below_set ?_ GE427.out))⟩
   ·replace c12 := Bool.eq_false_iff.mpr c12
    subst c12
    rw [if_neg (show ¬ (false = true) by decide)] at H
    obtain ⟨t436, A20, H⟩ := bindA H
    obtain ⟨⟨t439, t440⟩, A21, H⟩ := bindA H
    obtain ⟨⟨t445, t446⟩, A22, H⟩ := bindA H
    simp only [Option.some.injEq, Prod.mk.injEq] at H
    obtain ⟨rfl, rfl, rfl⟩ := H
    go_wp2_with (first | (refine goesL_ (some 23) rfl rfl Try.func99 (by kernel_rfl) rfl #[.slice A1 l1.length c1, .slice A2 l2.length c2] rfl (by simp only [List.map_toArray, List.map_cons, List.map_nil]; rfl) ?_; (with_reducible refine (codewrightref01_Gcd.calls kj3 (fun k_ => k_ < w.heap.size) _ _ l1 (fun k_ => k_ < w.heap.size) _ _ l2 t436 _ (Kd.V_mk HC1.out (Kd.F_below (Kd.C_F (Kd.heap_int .u32) HR1.out) (HB.out))) (Kd.V_mk HC2.out (Kd.F_below (Kd.C_F (Kd.heap_int .u32) HR2.out) (HB.out))) A20.out).mono ?_); rintro e w23 ⟨v437, rfl, ho0, hb⟩; refine ⟨_, rfl, ?_⟩; have HO438 := Aside0.mk (Kd.R_lower (Kd.R_mono (ok' := fun k_ => True) ho0 (fun _ hk_ => trivial)) (below_size (HB.out))); replace BK427 := Aside0.mk (blk_below (BK427.out) hb); replace HB := Aside0.mk (below_step (HB.out) hb); (try clear hb); (try clear ho0); obtain ⟨Ao24, co24, eo24⟩ := Kd.R_slice HO438.out; subst eo24) | (refine goesL_ (some 27) rfl rfl Try.func100 (by kernel_rfl) rfl #[.slice A1 l1.length c1, .slice Ao24 t436.length co24] rfl (by simp only [List.map_toArray, List.map_cons, List.map_nil]; rfl) ?_; (with_reducible refine (codewrightref01_DivMod.calls kj3 _ _ l1 _ _ t436 t439 t440 _ ?side1 ?side2 ?side3 ?side4 A21.out).mono ?_); (case side1 => exact (Kd.C_below HR1.out HB.out)); (case side2 => exact HC1.out); (case side3 => exact (Kd.R_reads' HO438.out).2.2); (case side4 => exact (Kd.R_reads' HO438.out).2.1); rintro e w25 ⟨v441, v443, rfl, ho0, ho1, hb⟩; refine ⟨_, rfl, ?_⟩; have n0_ := Aside0.mk (Kd.R_mono (Kd.R_told (Kd.R_told (Kd.R_old (HO438.out) hb) (Kd.R_base ho0)) (Kd.R_base ho1)) (fun _ h_ => h_.1)); have n1_ := Aside0.mk (Kd.R_lower (Kd.R_new' ho0 (Kd.R_lt (HO438.out))) (below_size (HB.out))); have n2_ := Aside0.mk (Kd.R_lower (Kd.R_new' ho1 (Kd.R_lt (HO438.out))) (below_size (HB.out))); have n3_ := Aside0.mk (blk_below (BK427.out) hb); have n4_ := Aside0.mk (below_step (HB.out) hb); clear HO438; clear BK427; clear HB; have HO438 := n0_; have HO442 := n1_; have HO444 := n2_; have BK427 := n3_; have HB := n4_; clear n0_ n1_ n2_ n3_ n4_) | (refine goesL_ (some 33) rfl rfl Try.func100 (by kernel_rfl) rfl #[.slice A2 l2.length c2, .slice Ao24 t436.length co24] rfl (by simp only [List.map_toArray, List.map_cons, List.map_nil]; rfl) ?_; (with_reducible refine (codewrightref01_DivMod.calls kj3 _ _ l2 _ _ t436 t445 t446 _ ?side1 ?side2 ?side3 ?side4 A22.out).mono ?_); (case side1 => exact (Kd.C_below HR2.out HB.out)); (case side2 => exact HC2.out); (case side3 => exact (Kd.R_reads' HO438.out).2.2); (case side4 => exact (Kd.R_reads' HO438.out).2.1); rintro e w26 ⟨v447, v449, rfl, ho0, ho1, hb⟩; refine ⟨_, rfl, ?_⟩; have n0_ := Aside0.mk (Kd.R_mono (Kd.R_told (Kd.R_told (Kd.R_old (HO438.out) hb) (Kd.R_base ho0)) (Kd.R_base ho1)) (fun _ h_ => h_.1)); have n1_ := Aside0.mk (Kd.R_mono (Kd.R_told (Kd.R_told (Kd.R_old (HO442.out) hb) (Kd.R_base ho0)) (Kd.R_base ho1)) (fun _ h_ => h_.1)); have n2_ := Aside0.mk (Kd.R_mono (Kd.R_told (Kd.R_told (Kd.R_old (HO444.out) hb) (Kd.R_base ho0)) (Kd.R_base ho1)) (fun _ h_ => h_.1)); have n3_ := Aside0.mk (Kd.R_lower (Kd.R_new' (Kd.R_new' (Kd.R_new' ho0 (Kd.R_lt (HO438.out))) (Kd.R_lt (HO442.out))) (Kd.R_lt (HO444.out))) (below_size (HB.out))); have n4_ := Aside0.mk (Kd.R_lower (Kd.R_new' (Kd.R_new' (Kd.R_new' ho1 (Kd.R_lt (HO438.out))) (Kd.R_lt (HO442.out))) (Kd.R_lt (HO444.out))) (below_size (HB.out))); have n5_ := Aside0.mk (blk_below (BK427.out) hb); have n6_ := Aside0.mk (below_step (HB.out) hb); clear HO438; clear HO442; clear HO444; clear BK427; clear HB; have HO438 := n0_; have HO442 := n1_; have HO444 := n2_; have HO448 := n3_; have HO450 := n4_; have BK427 := n5_; have HB := n6_; clear n0_ n1_ n2_ n3_ n4_ n5_ n6_; (try clear hb); (try clear ho0); (try clear ho1); obtain ⟨Ao27, co27, eo27⟩ := Kd.R_slice HO448.out; subst eo27; obtain ⟨Ao28, co28, eo28⟩ := Kd.R_slice HO442.out; subst eo28; have hcz29_0 : w26.cell? ⟨gb427, 0, none⟩ = some (.bool false) := (blk_cell BK427.out 0).trans rfl; have hcz29_1 : w26.cell? ⟨gb427, 1, none⟩ = some (.slice none 0 0) := (blk_cell BK427.out 1).trans rfl; have hcz29_2 : w26.cell? ⟨gb427, 2, none⟩ = some (.slice none 0 0) := (blk_cell BK427.out 2).trans rfl; have hfz29_0 := blk_frozen BK427.out 0; have hfz29_1 := blk_frozen BK427.out 1; have hfz29_2 := blk_frozen BK427.out 2))
    refine bodyPost_ret (results_cell_row rfl _ _ gb427 46 #[.bool a0, .slice Ao28 t439.length co28, .slice Ao27 t445.length co27] (0, 0) _ rfl (by (with_reducible repeat (fail)); refine blk_put (cs := #[.bool a0, .slice Ao28 t439.length co28, .slice none 0 0]) ?_ 2 _ rfl; (with_reducible repeat (fail)); refine blk_put (cs := #[.bool a0, .slice none 0 0, .slice none 0 0]) ?_ 1 _ rfl; (with_reducible repeat (fail)); refine blk_put (cs := #[.bool false, .slice none 0 0, .slice none 0 0]) ?_ 0 _ rfl; (with_reducible repeat (fail)); exact BK427.out) Try.underlying46 rfl (by kernel_rfl)) rfl ?_
    exact ⟨_, _, rfl, Kd.R_mono (Kd.R_far (p := ⟨gb427, 2, none⟩) (Kd.R_far (p := ⟨gb427, 1, none⟩) (Kd.R_far (p := ⟨gb427, 0, none⟩) (Kd.R_types HO442.out BK427.out (by decide)) (fun _ hk => hk.2) (.bool a0)) (fun _ hk => hk.2) (.slice Ao28 t439.length co28)) (fun _ hk => hk.2) (.slice Ao27 t445.length co27)) (fun _ hk => hk.1.1.2), Kd.R_mono (Kd.R_far (p := ⟨gb427, 2, none⟩) (Kd.R_far (p := ⟨gb427, 1, none⟩) (Kd.R_far (p := ⟨gb427, 0, none⟩) (Kd.R_types HO448.out BK427.out (by decide)) (fun _ hk => hk.2) (.bool a0)) (fun _ hk => hk.2) (.slice Ao28 t439.length co28)) (fun _ hk => hk.2) (.slice Ao27 t445.length co27)) (fun _ hk => hk.1.1.2), by repeat ((with_reducible first | exact HB.out | refine below_set ?_ GE427.out))⟩
end Go.Proofs.Ythheakfgmombdaa.F
end
section
namespace Go.Proofs.Ythheakfgmombdaa.F
open Go.RowKit Go.Proofs.YthheakfgmombdaaX.PrintWords Go.Proofs.YthheakfgmombdaaX.PrintLast Go.Proofs.YthheakfgmombdaaX.PrintMore
attribute [local go_sem] max2_int min2_int max_two min_two max_three min_three max_four min_four   -- for this text's walks alone
set_option linter.unusedVariables false
set_option linter.unusedSimpArgs false
set_option maxHeartbeats 8000000 in
set_option maxRecDepth 100000 in
theorem codewrightref01_Of.calls (k : Nat) (a0 : Int) (r : List Int) (w : World) (h : codewrightref01_Of.f k a0 = some r) :
  Calls Try.prog 80 #[.int .u64 a0] w fun e w' => ∃ v0_ : Value, e = .returned (v0_) ∧ Kd.R (Kd.int .u32) 100 w' w.heap.size (fun _ => True) v0_ r ∧ Below w.heap.size w w' := by
 have HB := Aside0.mk (Below.refl w.heap.size w)
 have H : ((codewrightref01_Trim.f k (([(Int.tmod a0 4294967296) % 4294967296, (IntKind.u64.wrap (Int.tdiv a0 4294967296)) % 4294967296] : List Int))).bind fun t582 => (some t582)) = some r := h
 clear h
 obtain ⟨y579, hy579⟩ : ∃ y_ : List Int, y_ = (([(Int.tmod a0 4294967296) % 4294967296, (IntKind.u64.wrap (Int.tdiv a0 4294967296)) % 4294967296] : List Int)) := ⟨_, rfl⟩
 (try replace H := (Option.bind_some _ _).symm.trans H); rw [← hy579] at H
 have Ny579 := Aside0.mk hy579
 clear hy579
 obtain ⟨t582, A2, H⟩ := bindA H
 obtain rfl := Option.some.inj H
 go_enter Try.func80, Try.ntmps80
 go_wp2_with (first | (refine Kd.R_lit (Kd.int .u32) _ 100 ?hg (N := 9) ?hd (xs := ([(Int.tmod a0 4294967296) % 4294967296, (IntKind.u64.wrap (Int.tdiv a0 4294967296)) % 4294967296] : List Int)) (inner := [.int .u32 ((Int.tmod a0 4294967296) % 4294967296), .int .u32 ((IntKind.u64.wrap (Int.tdiv a0 4294967296)) % 4294967296)]) (ok := fun _ => True) (okp := fun _ => True) ?hr ?hp (fun _ hk => hk) trivial (Below.refl _ _) (Nat.le_refl _) (by simp) ?_; (case hd => rfl); (case hg => rfl); (case hr => go_simp; done); (case hp => exact (Reps.one (show Kd.M (Kd.int .u32) _ _ _ ((Int.tmod a0 4294967296) % 4294967296) [.int .u32 ((Int.tmod a0 4294967296) % 4294967296)] from rfl) (Reps.one (show Kd.M (Kd.int .u32) _ _ _ ((IntKind.u64.wrap (Int.tdiv a0 4294967296)) % 4294967296) [.int .u32 ((IntKind.u64.wrap (Int.tdiv a0 4294967296)) % 4294967296)] from rfl) (Reps.none _ _)))); intro v580 w3 ho4 hb hg_ hnew_; clear hg_ hnew_; (rw [← Ny579.out] at ho4); have HO581 := Aside0.mk (Kd.R_lower ho4 (below_size (HB.out))); replace HB := Aside0.mk (below_step (HB.out) hb); clear hb ho4; obtain ⟨Ao5, co5, eo5⟩ := Kd.R_slice HO581.out; subst eo5) | (refine goesL_ (some 10) rfl rfl Try.func97 (by kernel_rfl) rfl #[.slice Ao5 y579.length co5] rfl (by simp only [List.map_toArray, List.map_cons, List.map_nil]; rfl) ?_; (with_reducible refine (codewrightref01_Trim.calls k _ _ y579 t582 _ ?side1 ?side2 A2.out).mono ?_); (case side1 => exact (Kd.R_reads' HO581.out).2.2); (case side2 => exact (Kd.R_reads' HO581.out).2.1); rintro e w6 ⟨v583, rfl, ho0, hb⟩; refine ⟨_, rfl, ?_⟩; have n0_ := Aside0.mk (Kd.R_elder' (HO581.out) (Kd.R_base ho0) hb); have n1_ := Aside0.mk (Kd.R_lower (Kd.R_new' ho0 (Kd.R_lt (HO581.out))) (below_size (HB.out))); have n2_ := Aside0.mk (below_step (HB.out) hb); clear HO581; clear HB; have HO581 := n0_; have HO584 := n1_; have HB := n2_; clear n0_ n1_ n2_))
 go_ret
 exact ⟨_, rfl, Kd.R_mono HO584.out (fun _ hk => trivial), HB.out⟩
end Go.Proofs.Ythheakfgmombdaa.F
end
section
namespace Go.Proofs.Ythheakfgmombdaa.F
open Go.RowKit Go.Proofs.YthheakfgmombdaaX.PrintWords Go.Proofs.YthheakfgmombdaaX.PrintLast Go.Proofs.YthheakfgmombdaaX.PrintMore
attribute [local go_sem] max2_int min2_int max_two min_two max_three min_three max_four min_four   -- for this text's walks alone
set_option linter.unusedVariables false
set_option linter.unusedSimpArgs false
set_option maxHeartbeats 8000000 in
set_option maxRecDepth 100000 in
theorem codewrightref02_abs.calls (k : Nat) (a0 : Int) (r : List Int) (w : World) (h : codewrightref02_abs.f k a0 = some r) :
  Calls Try.prog 96 #[.int .i64 a0] w fun e w' => ∃ v0_ : Value, e = .returned (v0_) ∧ Kd.R (Kd.int .u32) 100 w' w.heap.size (fun _ => True) v0_ r ∧ Below w.heap.size w w' := by
 have HB := Aside0.mk (Below.refl w.heap.size w)
 have H : (if a0 < 0 then ((codewrightref01_Of.f k (IntKind.u64.wrap (wrap64 (-(wrap64 (a0 + 1)))))).bind fun t585 => ((codewrightref01_Add.f k t585 (([1] : List Int))).bind fun t591 => (some t591))) else ((codewrightref01_Of.f k (IntKind.u64.wrap (a0))).bind fun t594 => (some t594))) = some r := h
 clear h
 by_cases c2 : a0 < 0
 ·rw [if_pos c2] at H
  have c2b0 : decide (a0 < 0) = true := decide_eq_true c2
  clear c2
  obtain ⟨t585, A3, H⟩ := bindA H
  obtain ⟨y588, hy588⟩ : ∃ y_ : List Int, y_ = (([1] : List Int)) := ⟨_, rfl⟩
  (try replace H := (Option.bind_some _ _).symm.trans H); rw [← hy588] at H
  have Ny588 := Aside0.mk hy588
  clear hy588
  obtain ⟨t591, A4, H⟩ := bindA H
  obtain rfl := Option.some.inj H
  go_enter Try.func96, Try.ntmps96
  go_wp2_with (first | (refine goesL_ (some 9) rfl rfl Try.func80 (by kernel_rfl) rfl #[.int .u64 (IntKind.u64.wrap (wrap64 (-(wrap64 (a0 + 1)))))] rfl (by simp only [List.map_toArray, List.map_cons, List.map_nil]; rfl) ?_; (with_reducible refine (codewrightref01_Of.calls k (IntKind.u64.wrap (wrap64 (-(wrap64 (a0 + 1))))) t585 _ A3.out).mono ?_); rintro e w5 ⟨v586, rfl, ho0, hb⟩; refine ⟨_, rfl, ?_⟩; have HO587 := Aside0.mk (Kd.R_lower ho0 (below_size (HB.out))); replace HB := Aside0.mk (below_step (HB.out) hb)) | (refine Kd.R_lit (Kd.int .u32) _ 100 ?hg (N := 10) ?hd (xs := ([1] : List Int)) (inner := [.int .u32 1]) (ok := fun _ => True) (okp := fun _ => True) ?hr ?hp (fun _ hk => hk) trivial (Below.refl _ _) (Nat.le_refl _) (by simp) ?_; (case hd => rfl); (case hg => rfl); (case hr => go_simp; done); (case hp => exact (Reps.one (show Kd.M (Kd.int .u32) _ _ _ 1 [.int .u32 1] from rfl) (Reps.none _ _))); intro v589 w6 ho7 hb hg_ hnew_; clear hg_ hnew_; (rw [← Ny588.out] at ho7); have n0_ := Aside0.mk (Kd.R_elder' (HO587.out) (Kd.R_base ho7) hb); have n1_ := Aside0.mk (Kd.R_lower (Kd.R_new' ho7 (Kd.R_lt (HO587.out))) (below_size (HB.out))); have n2_ := Aside0.mk (below_step (HB.out) hb); clear HO587; clear HB; have HO587 := n0_; have HO590 := n1_; have HB := n2_; clear n0_ n1_ n2_; clear hb ho7; obtain ⟨Ao8, co8, eo8⟩ := Kd.R_slice HO587.out; subst eo8; obtain ⟨Ao9, co9, eo9⟩ := Kd.R_slice HO590.out; subst eo9) | (refine goesL_ (some 11) rfl rfl Try.func70 (by kernel_rfl) rfl #[.slice Ao8 t585.length co8, .slice Ao9 y588.length co9] rfl (by simp only [List.map_toArray, List.map_cons, List.map_nil]; rfl) ?_; (with_reducible refine (codewrightref01_Add.calls k _ _ t585 _ _ y588 t591 _ ?side1 ?side2 ?side3 ?side4 A4.out).mono ?_); (case side1 => exact (Kd.R_reads' HO587.out).2.2); (case side2 => exact (Kd.R_reads' HO587.out).2.1); (case side3 => exact (Kd.R_reads' HO590.out).2.2); (case side4 => exact (Kd.R_reads' HO590.out).2.1); rintro e w10 ⟨v592, rfl, ho0, hb⟩; refine ⟨_, rfl, ?_⟩; have n0_ := Aside0.mk (Kd.R_elder' (HO587.out) (Kd.R_base ho0) hb); have n1_ := Aside0.mk (Kd.R_elder' (HO590.out) (Kd.R_base ho0) hb); have n2_ := Aside0.mk (Kd.R_lower (Kd.R_new' (Kd.R_new' ho0 (Kd.R_lt (HO587.out))) (Kd.R_lt (HO590.out))) (below_size (HB.out))); have n3_ := Aside0.mk (below_step (HB.out) hb); clear HO587; clear HO590; clear HB; have HO587 := n0_; have HO590 := n1_; have HO593 := n2_; have HB := n3_; clear n0_ n1_ n2_ n3_))
  go_ret
  exact ⟨_, rfl, Kd.R_mono HO593.out (fun _ hk => trivial), HB.out⟩
 ·rw [if_neg c2] at H
  have c2b0 : decide (a0 < 0) = false := decide_eq_false c2
  clear c2
  obtain ⟨t594, A11, H⟩ := bindA H
  obtain rfl := Option.some.inj H
  go_enter Try.func96, Try.ntmps96
  go_wp2_with ((refine goesL_ (some 14) rfl rfl Try.func80 (by kernel_rfl) rfl #[.int .u64 (IntKind.u64.wrap (a0))] rfl (by simp only [List.map_toArray, List.map_cons, List.map_nil]; rfl) ?_; (with_reducible refine (codewrightref01_Of.calls k (IntKind.u64.wrap (a0)) t594 _ A11.out).mono ?_); rintro e w12 ⟨v595, rfl, ho0, hb⟩; refine ⟨_, rfl, ?_⟩; have HO596 := Aside0.mk (Kd.R_lower ho0 (below_size (HB.out))); replace HB := Aside0.mk (below_step (HB.out) hb)))
  go_ret
  exact ⟨_, rfl, HO596.out, HB.out⟩
end Go.Proofs.Ythheakfgmombdaa.F
end
section
namespace Go.Proofs.Ythheakfgmombdaa.F
open Go.RowKit Go.Proofs.YthheakfgmombdaaX.PrintWords Go.Proofs.YthheakfgmombdaaX.PrintLast Go.Proofs.YthheakfgmombdaaX.PrintMore
attribute [local go_sem] max2_int min2_int max_two min_two max_three min_three max_four min_four   -- for this text's walks alone
set_option linter.unusedVariables false
set_option linter.unusedSimpArgs false
set_option maxHeartbeats 8000000 in
set_option maxRecDepth 100000 in
theorem codewrightref02_Of.calls (k : Nat) (a0 : Int) (a1 : Int) (r1 : Bool) (r2 : List Int) (r3 : List Int) (w : World) (h : codewrightref02_Of.f k a0 a1 = some (r1, r2, r3)) :
  Calls Try.prog 65 #[.int .i64 a0, .int .i64 a1] w fun e w' => ∃ v1_ v2_ : Value, e = .returned (.agg #[.bool r1, v1_, v2_]) ∧ Kd.R (Kd.int .u32) 100 w' w.heap.size (fun k_ => some k_ ≠ (v2_ : Value).ownBlock) v1_ r2 ∧ Kd.R (Kd.int .u32) 100 w' w.heap.size (fun k_ => some k_ ≠ (v1_ : Value).ownBlock) v2_ r3 ∧ Below w.heap.size w w' := by
 have hu46 := Try.underlying46
 have HB := Aside0.mk (Below.refl w.heap.size w)
 have H : ((codewrightref02_abs.f k a0).bind fun t598 => ((codewrightref02_abs.f k a1).bind fun t601 => ((codewrightref02_Make.f k ((decide (a0 < 0)) != (decide (a1 < 0))) t598 t601).bind fun bt604 => (some (bt604.1, bt604.2.1, bt604.2.2))))) = some (r1, r2, r3) := h
 clear h
 obtain ⟨t598, A3, H⟩ := bindA H
 obtain ⟨t601, A4, H⟩ := bindA H
 obtain ⟨⟨t604, t605, t608⟩, A5, H⟩ := bindA H
 simp only [Option.some.injEq, Prod.mk.injEq] at H
 obtain ⟨rfl, rfl, rfl⟩ := H
 go_enter Try.func65, Try.ntmps65
 go_wp2_with (first | (refine box_event ?hg (N := 4) ?hd (cs := #[.bool false, .slice none 0 0, .slice none 0 0]) (t := 46) ?hr ?_; (case hd => rfl); (case hg => rfl); (case hr => go_simp; done); intro gb597 hg w6 hbox hb; have n0_ := Aside0.mk (below_step (HB.out) hb); have n1_ := Aside0.mk (hbox); have n2_ := Aside0.mk ((by rw [hg]; exact (below_size (HB.out)) : w.heap.size ≤ gb597)); have n3_ := Aside0.mk ((by rw [hg]; exact (below_size (HB.out)) : w.heap.size ≤ gb597)); clear HB; have HB := n0_; have BK597 := n1_; have GW597 := n2_; have GE597 := n3_; clear n0_ n1_ n2_ n3_; clear hb hbox hg) | (refine goesL_ (some 11) rfl rfl Try.func96 (by kernel_rfl) rfl #[.int .i64 a0] rfl (by simp only [List.map_toArray, List.map_cons, List.map_nil]; rfl) ?_; (with_reducible refine (codewrightref02_abs.calls k a0 t598 _ A3.out).mono ?_); rintro e w7 ⟨v599, rfl, ho0, hb⟩; refine ⟨_, rfl, ?_⟩; have HO600 := Aside0.mk (Kd.R_lower ho0 (below_size (HB.out))); replace BK597 := Aside0.mk (blk_below (BK597.out) hb); replace HB := Aside0.mk (below_step (HB.out) hb)) | (refine goesL_ (some 13) rfl rfl Try.func96 (by kernel_rfl) rfl #[.int .i64 a1] rfl (by simp only [List.map_toArray, List.map_cons, List.map_nil]; rfl) ?_; (with_reducible refine (codewrightref02_abs.calls k a1 t601 _ A4.out).mono ?_); rintro e w8 ⟨v602, rfl, ho0, hb⟩; refine ⟨_, rfl, ?_⟩; have n0_ := Aside0.mk (Kd.R_elder' (HO600.out) (Kd.R_base ho0) hb); have n1_ := Aside0.mk (Kd.R_lower (Kd.R_new' ho0 (Kd.R_lt (HO600.out))) (below_size (HB.out))); have n2_ := Aside0.mk (blk_below (BK597.out) hb); have n3_ := Aside0.mk (below_step (HB.out) hb); clear HO600; clear BK597; clear HB; have HO600 := n0_; have HO603 := n1_; have BK597 := n2_; have HB := n3_; clear n0_ n1_ n2_ n3_; (try clear hb); (try clear ho0); obtain ⟨Ao9, co9, eo9⟩ := Kd.R_slice HO600.out; subst eo9; obtain ⟨Ao10, co10, eo10⟩ := Kd.R_slice HO603.out; subst eo10) | (refine goesL_ (some 14) rfl rfl Try.func69 (by kernel_rfl) rfl #[.bool ((decide (a0 < 0)) != (decide (a1 < 0))), .slice Ao9 t598.length co9, .slice Ao10 t601.length co10] rfl (by simp only [List.map_toArray, List.map_cons, List.map_nil]; rfl) ?_; (with_reducible refine (codewrightref02_Make.calls k ((decide (a0 < 0)) != (decide (a1 < 0))) _ _ t598 _ _ t601 t604 t605 t608 _ ?side1 ?side2 ?side3 ?side4 A5.out).mono ?_); (case side1 => exact (Kd.R_reads' HO600.out).2.2); (case side2 => exact (Kd.R_reads' HO600.out).2.1); (case side3 => exact (Kd.R_reads' HO603.out).2.2); (case side4 => exact (Kd.R_reads' HO603.out).2.1); rintro e w11 ⟨v606, v609, rfl, ho0, ho1, hb⟩; refine ⟨_, rfl, ?_⟩; have n0_ := Aside0.mk (Kd.R_mono (Kd.R_told (Kd.R_told (Kd.R_old (HO600.out) hb) (Kd.R_base ho0)) (Kd.R_base ho1)) (fun _ h_ => h_.1)); have n1_ := Aside0.mk (Kd.R_mono (Kd.R_told (Kd.R_told (Kd.R_old (HO603.out) hb) (Kd.R_base ho0)) (Kd.R_base ho1)) (fun _ h_ => h_.1)); have n2_ := Aside0.mk (Kd.R_lower (Kd.R_new' (Kd.R_new' ho0 (Kd.R_lt (HO600.out))) (Kd.R_lt (HO603.out))) (below_size (HB.out))); have n3_ := Aside0.mk (Kd.R_lower (Kd.R_new' (Kd.R_new' ho1 (Kd.R_lt (HO600.out))) (Kd.R_lt (HO603.out))) (below_size (HB.out))); have n4_ := Aside0.mk (blk_below (BK597.out) hb); have n5_ := Aside0.mk (below_step (HB.out) hb); clear HO600; clear HO603; clear BK597; clear HB; have HO600 := n0_; have HO603 := n1_; have HO607 := n2_; have HO610 := n3_; have BK597 := n4_; have HB := n5_; clear n0_ n1_ n2_ n3_ n4_ n5_; (try clear hb); (try clear ho0); (try clear ho1); have hcz12_0 : w11.cell? ⟨gb597, 0, none⟩ = some (.bool false) := (blk_cell BK597.out 0).trans rfl; have hcz12_1 : w11.cell? ⟨gb597, 1, none⟩ = some (.slice none 0 0) := (blk_cell BK597.out 1).trans rfl; have hcz12_2 : w11.cell? ⟨gb597, 2, none⟩ = some (.slice none 0 0) := (blk_cell BK597.out 2).trans rfl; have hfz12_0 := blk_frozen BK597.out 0; have hfz12_1 := blk_frozen BK597.out 1; have hfz12_2 := blk_frozen BK597.out 2; obtain ⟨Ao13, co13, eo13⟩ := Kd.R_slice HO607.out; subst eo13; obtain ⟨Ao14, co14, eo14⟩ := Kd.R_slice HO610.out; subst eo14))
 refine bodyPost_ret (results_cell_row rfl _ _ gb597 46 #[.bool t604, .slice Ao13 t605.length co13, .slice Ao14 t608.length co14] (0, 0) _ rfl (by (with_reducible repeat (fail)); refine blk_put (cs := #[.bool t604, .slice Ao13 t605.length co13, .slice none 0 0]) ?_ 2 _ rfl; (with_reducible repeat (fail)); refine blk_put (cs := #[.bool t604, .slice none 0 0, .slice none 0 0]) ?_ 1 _ rfl; (with_reducible repeat (fail)); refine blk_put (cs := #[.bool false, .slice none 0 0, .slice none 0 0]) ?_ 0 _ rfl; (with_reducible repeat (fail)); exact BK597.out) Try.underlying46 rfl (by kernel_rfl)) rfl ?_
 exact ⟨_, _, rfl, Kd.R_mono (Kd.R_far (p := ⟨gb597, 2, none⟩) (Kd.R_far (p := ⟨gb597, 1, none⟩) (Kd.R_far (p := ⟨gb597, 0, none⟩) (Kd.R_types HO607.out BK597.out (by decide)) (fun _ hk => hk.2) (.bool t604)) (fun _ hk => hk.2) (.slice Ao13 t605.length co13)) (fun _ hk => hk.2) (.slice Ao14 t608.length co14)) (fun _ hk => hk.1.1.1), Kd.R_mono (Kd.R_far (p := ⟨gb597, 2, none⟩) (Kd.R_far (p := ⟨gb597, 1, none⟩) (Kd.R_far (p := ⟨gb597, 0, none⟩) (Kd.R_types HO610.out BK597.out (by decide)) (fun _ hk => hk.2) (.bool t604)) (fun _ hk => hk.2) (.slice Ao13 t605.length co13)) (fun _ hk => hk.2) (.slice Ao14 t608.length co14)) (fun _ hk => hk.1.1.1), by repeat ((with_reducible first | exact HB.out | refine below_set ?_ GE597.out))⟩
end Go.Proofs.Ythheakfgmombdaa.F
end
section
namespace Go.Proofs.Ythheakfgmombdaa.F
open Go.RowKit Go.Proofs.YthheakfgmombdaaX.PrintWords Go.Proofs.YthheakfgmombdaaX.PrintLast Go.Proofs.YthheakfgmombdaaX.PrintMore
attribute [local go_sem] max2_int min2_int max_two min_two max_three min_three max_four min_four   -- for this text's walks alone
set_option linter.unusedVariables false
set_option linter.unusedSimpArgs false
set_option maxHeartbeats 8000000 in
set_option maxRecDepth 100000 in
theorem codewrightref02_Int.calls (k : Nat) (a0 : Int) (r1 : Bool) (r2 : List Int) (r3 : List Int) (w : World) (h : codewrightref02_Int.f k a0 = some (r1, r2, r3)) :
  Calls Try.prog 30 #[.int .i64 a0] w fun e w' => ∃ v1_ v2_ : Value, e = .returned (.agg #[.bool r1, v1_, v2_]) ∧ Kd.R (Kd.int .u32) 100 w' w.heap.size (fun k_ => some k_ ≠ (v2_ : Value).ownBlock) v1_ r2 ∧ Kd.R (Kd.int .u32) 100 w' w.heap.size (fun k_ => some k_ ≠ (v1_ : Value).ownBlock) v2_ r3 ∧ Below w.heap.size w w' := by
 have hu46 := Try.underlying46
 have HB := Aside0.mk (Below.refl w.heap.size w)
 have H : ((codewrightref02_Of.f k a0 1).bind fun bt612 => (some (bt612.1, bt612.2.1, bt612.2.2))) = some (r1, r2, r3) := h
 clear h
 obtain ⟨⟨t612, t613, t616⟩, A2, H⟩ := bindA H
 simp only [Option.some.injEq, Prod.mk.injEq] at H
 obtain ⟨rfl, rfl, rfl⟩ := H
 go_enter Try.func30, Try.ntmps30
 go_wp2_with (first | (refine box_event ?hg (N := 2) ?hd (cs := #[.bool false, .slice none 0 0, .slice none 0 0]) (t := 46) ?hr ?_; (case hd => rfl); (case hg => rfl); (case hr => go_simp; done); intro gb611 hg w3 hbox hb; have n0_ := Aside0.mk (below_step (HB.out) hb); have n1_ := Aside0.mk (hbox); have n2_ := Aside0.mk ((by rw [hg]; exact (below_size (HB.out)) : w.heap.size ≤ gb611)); have n3_ := Aside0.mk ((by rw [hg]; exact (below_size (HB.out)) : w.heap.size ≤ gb611)); clear HB; have HB := n0_; have BK611 := n1_; have GW611 := n2_; have GE611 := n3_; clear n0_ n1_ n2_ n3_; clear hb hbox hg) | (refine goesL_ (some 4) rfl rfl Try.func65 (by kernel_rfl) rfl #[.int .i64 a0, .int .i64 1] rfl (by simp only [List.map_toArray, List.map_cons, List.map_nil]; rfl) ?_; (with_reducible refine (codewrightref02_Of.calls k a0 1 t612 t613 t616 _ A2.out).mono ?_); rintro e w4 ⟨v614, v617, rfl, ho0, ho1, hb⟩; refine ⟨_, rfl, ?_⟩; have HO615 := Aside0.mk (Kd.R_lower ho0 (below_size (HB.out))); have HO618 := Aside0.mk (Kd.R_lower ho1 (below_size (HB.out))); replace BK611 := Aside0.mk (blk_below (BK611.out) hb); replace HB := Aside0.mk (below_step (HB.out) hb); (try clear hb); (try clear ho0); (try clear ho1); have hcz5_0 : w4.cell? ⟨gb611, 0, none⟩ = some (.bool false) := (blk_cell BK611.out 0).trans rfl; have hcz5_1 : w4.cell? ⟨gb611, 1, none⟩ = some (.slice none 0 0) := (blk_cell BK611.out 1).trans rfl; have hcz5_2 : w4.cell? ⟨gb611, 2, none⟩ = some (.slice none 0 0) := (blk_cell BK611.out 2).trans rfl; have hfz5_0 := blk_frozen BK611.out 0; have hfz5_1 := blk_frozen BK611.out 1; have hfz5_2 := blk_frozen BK611.out 2; obtain ⟨Ao6, co6, eo6⟩ := Kd.R_slice HO615.out; subst eo6; obtain ⟨Ao7, co7, eo7⟩ := Kd.R_slice HO618.out; subst eo7))
 refine bodyPost_ret (results_cell_row rfl _ _ gb611 46 #[.bool t612, .slice Ao6 t613.length co6, .slice Ao7 t616.length co7] (0, 0) _ rfl (by (with_reducible repeat (fail)); refine blk_put (cs := #[.bool t612, .slice Ao6 t613.length co6, .slice none 0 0]) ?_ 2 _ rfl; (with_reducible repeat (fail)); refine blk_put (cs := #[.bool t612, .slice none 0 0, .slice none 0 0]) ?_ 1 _ rfl; (with_reducible repeat (fail)); refine blk_put (cs := #[.bool false, .slice none 0 0, .slice none 0 0]) ?_ 0 _ rfl; (with_reducible repeat (fail)); exact BK611.out) Try.underlying46 rfl (by kernel_rfl)) rfl ?_
 exact ⟨_, _, rfl, Kd.R_mono (Kd.R_far (p := ⟨gb611, 2, none⟩) (Kd.R_far (p := ⟨gb611, 1, none⟩) (Kd.R_far (p := ⟨gb611, 0, none⟩) (Kd.R_types HO615.out BK611.out (by decide)) (fun _ hk => hk.2) (.bool t612)) (fun _ hk => hk.2) (.slice Ao6 t613.length co6)) (fun _ hk => hk.2) (.slice Ao7 t616.length co7)) (fun _ hk => hk.1), Kd.R_mono (Kd.R_far (p := ⟨gb611, 2, none⟩) (Kd.R_far (p := ⟨gb611, 1, none⟩) (Kd.R_far (p := ⟨gb611, 0, none⟩) (Kd.R_types HO618.out BK611.out (by decide)) (fun _ hk => hk.2) (.bool t612)) (fun _ hk => hk.2) (.slice Ao6 t613.length co6)) (fun _ hk => hk.2) (.slice Ao7 t616.length co7)) (fun _ hk => hk.1), by repeat ((with_reducible first | exact HB.out | refine below_set ?_ GE611.out))⟩
end Go.Proofs.Ythheakfgmombdaa.F
end
section
namespace Go.Proofs.Ythheakfgmombdaa.F
open Go.RowKit Go.Proofs.YthheakfgmombdaaX.PrintWords Go.Proofs.YthheakfgmombdaaX.PrintLast Go.Proofs.YthheakfgmombdaaX.PrintMore
attribute [local go_sem] max2_int min2_int max_two min_two max_three min_three max_four min_four   -- for this text's walks alone
set_option linter.unusedVariables false
set_option linter.unusedSimpArgs false
set_option maxHeartbeats 8000000 in
set_option maxRecDepth 100000 in
theorem codewrightref02_Trim.calls (k : Nat) (a0_0 : Bool) (A0_1 : Option Addr) (c0_1 : Nat) (l0_1 : List Int) (A0_2 : Option Addr) (c0_2 : Nat) (l0_2 : List Int) (r1 : Bool) (r2 : List Int) (r3 : List Int) (w : World) (hr0_1 : Kd.C (Kd.int .u32) w A0_1 l0_1.length l0_1) (hc0_1 : l0_1.length ≤ c0_1) (hr0_2 : Kd.C (Kd.int .u32) w A0_2 l0_2.length l0_2) (hc0_2 : l0_2.length ≤ c0_2) (h : codewrightref02_Trim.f k a0_0 l0_1 l0_2 = some (r1, r2, r3)) :
  Calls Try.prog 67 #[.agg #[.bool a0_0, .slice A0_1 l0_1.length c0_1, .slice A0_2 l0_2.length c0_2]] w fun e w' => ∃ v1_ v2_ : Value, e = .returned (.agg #[.bool r1, v1_, v2_]) ∧ Kd.R (Kd.int .u32) 100 w' w.heap.size (fun k_ => some k_ ≠ (v2_ : Value).ownBlock) v1_ r2 ∧ Kd.R (Kd.int .u32) 100 w' w.heap.size (fun k_ => some k_ ≠ (v1_ : Value).ownBlock) v2_ r3 ∧ Below w.heap.size w w' := by
 have hu46 := Try.underlying46
 have HR0_1 := Aside0.mk hr0_1
 have HC0_1 := Aside0.mk hc0_1
 clear hr0_1 hc0_1
 have HR0_2 := Aside0.mk hr0_2
 have HC0_2 := Aside0.mk hc0_2
 clear hr0_2 hc0_2
 have HB := Aside0.mk (Below.refl w.heap.size w)
 have H : ((codewrightref02_Make.f k a0_0 l0_1 l0_2).bind fun bt453 => (some (bt453.1, bt453.2.1, bt453.2.2))) = some (r1, r2, r3) := h
 clear h
 obtain ⟨⟨t453, t454, t457⟩, A2, H⟩ := bindA H
 simp only [Option.some.injEq, Prod.mk.injEq] at H
 obtain ⟨rfl, rfl, rfl⟩ := H
 go_enter Try.func67, Try.ntmps67
 go_wp2_with (first | (refine box_event ?hg (N := 1) ?hd (cs := #[.bool a0_0, .slice A0_1 l0_1.length c0_1, .slice A0_2 l0_2.length c0_2]) (t := 46) ?hr ?_; (case hd => rfl); (case hg => rfl); (case hr => go_simp; done); intro gb451 hg w3 hbox hb; have n0_ := Aside0.mk (below_step (HB.out) hb); have n1_ := Aside0.mk (hbox); have n2_ := Aside0.mk ((by rw [hg]; exact (below_size (HB.out)) : w.heap.size ≤ gb451)); have n3_ := Aside0.mk ((by rw [hg]; exact (below_size (HB.out)) : w.heap.size ≤ gb451)); clear HB; have HB := n0_; have BK451 := n1_; have GW451 := n2_; have GE451 := n3_; clear n0_ n1_ n2_ n3_; clear hb hbox hg) | (refine box_event ?hg (N := 2) ?hd (cs := #[.bool false, .slice none 0 0, .slice none 0 0]) (t := 46) ?hr ?_; (case hd => rfl); (case hg => rfl); (case hr => go_simp; done); intro gb452 hg w4 hbox hb; have n0_ := Aside0.mk (blk_below (BK451.out) hb); have n1_ := Aside0.mk (below_step (HB.out) hb); have n2_ := Aside0.mk (hbox); have n3_ := Aside0.mk ((by rw [hg]; exact (below_size (HB.out)) : w.heap.size ≤ gb452)); have n4_ := Aside0.mk ((by rw [hg]; exact (below_size (HB.out)) : w.heap.size ≤ gb452)); have n5_ := Aside0.mk ((by rw [hg]; exact Nat.ne_of_lt (blk_lt (BK451.out)) : gb451 ≠ gb452)); have n6_ := Aside0.mk ((by rw [hg]; exact Nat.ne_of_gt (blk_lt (BK451.out)) : gb452 ≠ gb451)); clear BK451; clear HB; have BK451 := n0_; have HB := n1_; have BK452 := n2_; have GW452 := n3_; have GE452 := n4_; have NB451_452 := n5_; have NB452_451 := n6_; clear n0_ n1_ n2_ n3_ n4_ n5_ n6_; clear hb hbox hg; have hnb5 := NB451_452.out; have hnc5 := NB452_451.out; have hcz6_0 : w4.cell? ⟨gb451, 0, none⟩ = some (.bool a0_0) := (blk_cell BK451.out 0).trans rfl; have hcz6_1 : w4.cell? ⟨gb451, 1, none⟩ = some (.slice A0_1 l0_1.length c0_1) := (blk_cell BK451.out 1).trans rfl; have hcz6_2 : w4.cell? ⟨gb451, 2, none⟩ = some (.slice A0_2 l0_2.length c0_2) := (blk_cell BK451.out 2).trans rfl; have hfz6_0 := blk_frozen BK451.out 0; have hfz6_1 := blk_frozen BK451.out 1; have hfz6_2 := blk_frozen BK451.out 2) | (refine goesL_ (some 9) rfl rfl Try.func69 (by kernel_rfl) rfl #[.bool a0_0, .slice A0_1 l0_1.length c0_1, .slice A0_2 l0_2.length c0_2] rfl (by simp only [List.map_toArray, List.map_cons, List.map_nil]; rfl) ?_; (with_reducible refine (codewrightref02_Make.calls k a0_0 _ _ l0_1 _ _ l0_2 t453 t454 t457 _ (Kd.C_below HR0_1.out HB.out) HC0_1.out (Kd.C_below HR0_2.out HB.out) HC0_2.out A2.out).mono ?_); rintro e w7 ⟨v455, v458, rfl, ho0, ho1, hb⟩; refine ⟨_, rfl, ?_⟩; have HO456 := Aside0.mk (Kd.R_lower ho0 (below_size (HB.out))); have HO459 := Aside0.mk (Kd.R_lower ho1 (below_size (HB.out))); replace BK451 := Aside0.mk (blk_below (BK451.out) hb); replace BK452 := Aside0.mk (blk_below (BK452.out) hb); replace HB := Aside0.mk (below_step (HB.out) hb); (try clear hb); (try clear ho0); (try clear ho1); have hcz8_0 : w7.cell? ⟨gb452, 0, none⟩ = some (.bool false) := (blk_cell BK452.out 0).trans rfl; have hcz8_1 : w7.cell? ⟨gb452, 1, none⟩ = some (.slice none 0 0) := (blk_cell BK452.out 1).trans rfl; have hcz8_2 : w7.cell? ⟨gb452, 2, none⟩ = some (.slice none 0 0) := (blk_cell BK452.out 2).trans rfl; have hfz8_0 := blk_frozen BK452.out 0; have hfz8_1 := blk_frozen BK452.out 1; have hfz8_2 := blk_frozen BK452.out 2; obtain ⟨Ao9, co9, eo9⟩ := Kd.R_slice HO456.out; subst eo9; obtain ⟨Ao10, co10, eo10⟩ := Kd.R_slice HO459.out; subst eo10))
 refine bodyPost_ret (results_cell_row rfl _ _ gb452 46 #[.bool t453, .slice Ao9 t454.length co9, .slice Ao10 t457.length co10] (0, 0) _ rfl (by (with_reducible repeat (fail)); refine blk_put (cs := #[.bool t453, .slice Ao9 t454.length co9, .slice none 0 0]) ?_ 2 _ rfl; (with_reducible repeat (fail)); refine blk_put (cs := #[.bool t453, .slice none 0 0, .slice none 0 0]) ?_ 1 _ rfl; (with_reducible repeat (fail)); refine blk_put (cs := #[.bool false, .slice none 0 0, .slice none 0 0]) ?_ 0 _ rfl; (with_reducible repeat (fail)); exact BK452.out) Try.underlying46 rfl (by kernel_rfl)) rfl ?_
 exact ⟨_, _, rfl, Kd.R_mono (Kd.R_far (p := ⟨gb452, 2, none⟩) (Kd.R_far (p := ⟨gb452, 1, none⟩) (Kd.R_far (p := ⟨gb452, 0, none⟩) (Kd.R_types HO456.out BK452.out (by decide)) (fun _ hk => hk.2) (.bool t453)) (fun _ hk => hk.2) (.slice Ao9 t454.length co9)) (fun _ hk => hk.2) (.slice Ao10 t457.length co10)) (fun _ hk => hk.1), Kd.R_mono (Kd.R_far (p := ⟨gb452, 2, none⟩) (Kd.R_far (p := ⟨gb452, 1, none⟩) (Kd.R_far (p := ⟨gb452, 0, none⟩) (Kd.R_types HO459.out BK452.out (by decide)) (fun _ hk => hk.2) (.bool t453)) (fun _ hk => hk.2) (.slice Ao9 t454.length co9)) (fun _ hk => hk.2) (.slice Ao10 t457.length co10)) (fun _ hk => hk.1), by repeat ((with_reducible first | exact HB.out | refine below_set ?_ GE452.out))⟩
end Go.Proofs.Ythheakfgmombdaa.F
end
section
namespace Go.Proofs.Ythheakfgmombdaa.F
open Go.RowKit Go.Proofs.YthheakfgmombdaaX.PrintWords Go.Proofs.YthheakfgmombdaaX.PrintLast Go.Proofs.YthheakfgmombdaaX.PrintMore
attribute [local go_sem] max2_int min2_int max_two min_two max_three min_three max_four min_four   -- for this text's walks alone
set_option linter.unusedVariables false
set_option linter.unusedSimpArgs false
set_option maxHeartbeats 8000000 in
set_option maxRecDepth 100000 in
theorem codewrightref02_Sign.calls (k : Nat) (a0_0 : Bool) (A0_1 : Option Addr) (c0_1 : Nat) (l0_1 : List Int) (A0_2 : Option Addr) (c0_2 : Nat) (l0_2 : List Int) (r : Int) (w : World) (hr0_1 : Kd.C (Kd.int .u32) w A0_1 l0_1.length l0_1) (hc0_1 : l0_1.length ≤ c0_1) (hr0_2 : Kd.C (Kd.int .u32) w A0_2 l0_2.length l0_2) (hc0_2 : l0_2.length ≤ c0_2) (h : codewrightref02_Sign.f k a0_0 l0_1 l0_2 = some r) :
  Calls Try.prog 32 #[.agg #[.bool a0_0, .slice A0_1 l0_1.length c0_1, .slice A0_2 l0_2.length c0_2]] w fun e w' => e = .returned (.int .i64 r) ∧ Below w.heap.size w w' := by
 have hu46 := Try.underlying46
 have HR0_1 := Aside0.mk hr0_1
 have HC0_1 := Aside0.mk hc0_1
 clear hr0_1 hc0_1
 have HR0_2 := Aside0.mk hr0_2
 have HC0_2 := Aside0.mk hc0_2
 clear hr0_2 hc0_2
 have HB := Aside0.mk (Below.refl w.heap.size w)
 have H : ((codewrightref02_Trim.f k a0_0 l0_1 l0_2).bind fun bt461 => (if (bt461.2.1.length : Int) = 0 then (some 0) else (if bt461.1 = true then (some (-1)) else (some 1)))) = some r := h
 clear h
 obtain ⟨⟨t461, t462, t465⟩, A2, H⟩ := bindA H
 by_cases c3 : (t462.length : Int) = 0
 ·rw [if_pos c3] at H
  have c3b1 : ((t462.length : Int) != 0) = false := bne_eq_false_iff_eq.mpr c3
  clear c3
  obtain rfl := Option.some.inj H
  go_enter Try.func32, Try.ntmps32
  go_wp2_with (first | (refine box_event ?hg (N := 1) ?hd (cs := #[.bool a0_0, .slice A0_1 l0_1.length c0_1, .slice A0_2 l0_2.length c0_2]) (t := 46) ?hr ?_; (case hd => rfl); (case hg => rfl); (case hr => go_simp; done); intro gb460 hg w4 hbox hb; have n0_ := Aside0.mk (below_step (HB.out) hb); have n1_ := Aside0.mk (hbox); have n2_ := Aside0.mk ((by rw [hg]; exact (below_size (HB.out)) : w.heap.size ≤ gb460)); have n3_ := Aside0.mk ((by rw [hg]; exact (below_size (HB.out)) : w.heap.size ≤ gb460)); clear HB; have HB := n0_; have BK460 := n1_; have GW460 := n2_; have GE460 := n3_; clear n0_ n1_ n2_ n3_; clear hb hbox hg; have hcz5_0 : w4.cell? ⟨gb460, 0, none⟩ = some (.bool a0_0) := (blk_cell BK460.out 0).trans rfl; have hcz5_1 : w4.cell? ⟨gb460, 1, none⟩ = some (.slice A0_1 l0_1.length c0_1) := (blk_cell BK460.out 1).trans rfl; have hcz5_2 : w4.cell? ⟨gb460, 2, none⟩ = some (.slice A0_2 l0_2.length c0_2) := (blk_cell BK460.out 2).trans rfl; have hfz5_0 := blk_frozen BK460.out 0; have hfz5_1 := blk_frozen BK460.out 1; have hfz5_2 := blk_frozen BK460.out 2) | (refine goesL_ (some 4) rfl rfl Try.func67 (by kernel_rfl) rfl #[.agg #[.bool a0_0, .slice A0_1 l0_1.length c0_1, .slice A0_2 l0_2.length c0_2]] rfl (by simp only [List.map_toArray, List.map_cons, List.map_nil]; rfl) ?_; (with_reducible refine (codewrightref02_Trim.calls k a0_0 _ _ l0_1 _ _ l0_2 t461 t462 t465 _ (Kd.C_below HR0_1.out HB.out) HC0_1.out (Kd.C_below HR0_2.out HB.out) HC0_2.out A2.out).mono ?_); rintro e w6 ⟨v463, v466, rfl, ho0, ho1, hb⟩; refine ⟨_, rfl, ?_⟩; have HO464 := Aside0.mk (Kd.R_lower ho0 (below_size (HB.out))); have HO467 := Aside0.mk (Kd.R_lower ho1 (below_size (HB.out))); replace BK460 := Aside0.mk (blk_below (BK460.out) hb); replace HB := Aside0.mk (below_step (HB.out) hb); (try clear hb); (try clear ho0); (try clear ho1); have hcz7_0 : w6.cell? ⟨gb460, 0, none⟩ = some (.bool a0_0) := (blk_cell BK460.out 0).trans rfl; have hcz7_1 : w6.cell? ⟨gb460, 1, none⟩ = some (.slice A0_1 l0_1.length c0_1) := (blk_cell BK460.out 1).trans rfl; have hcz7_2 : w6.cell? ⟨gb460, 2, none⟩ = some (.slice A0_2 l0_2.length c0_2) := (blk_cell BK460.out 2).trans rfl; have hfz7_0 := blk_frozen BK460.out 0; have hfz7_1 := blk_frozen BK460.out 1; have hfz7_2 := blk_frozen BK460.out 2; obtain ⟨Ao8, co8, eo8⟩ := Kd.R_slice HO464.out; subst eo8; obtain ⟨Ao9, co9, eo9⟩ := Kd.R_slice HO467.out; subst eo9))
  go_ret
  exact ⟨rfl, by repeat ((with_reducible first | exact HB.out | refine below_set ?_ GE460.out))⟩
 ·rw [if_neg c3] at H
  by_cases c10 : t461 = true
  ·subst c10
   rw [if_pos rfl] at H
   obtain rfl := Option.some.inj H
   go_enter Try.func32, Try.ntmps32
   go_wp2_with (first | (refine box_event ?hg (N := 1) ?hd (cs := #[.bool a0_0, .slice A0_1 l0_1.length c0_1, .slice A0_2 l0_2.length c0_2]) (t := 46) ?hr ?_; (case hd => rfl); (case hg => rfl); (case hr => go_simp; done); intro gb460 hg w11 hbox hb; have n0_ := Aside0.mk (below_step (HB.out) hb); have n1_ := Aside0.mk (hbox); have n2_ := Aside0.mk ((by rw [hg]; exact (below_size (HB.out)) : w.heap.size ≤ gb460)); have n3_ := Aside0.mk ((by rw [hg]; exact (below_size (HB.out)) : w.heap.size ≤ gb460)); clear HB; have HB := n0_; have BK460 := n1_; have GW460 := n2_; have GE460 := n3_; clear n0_ n1_ n2_ n3_; clear hb hbox hg; have hcz12_0 : w11.cell? ⟨gb460, 0, none⟩ = some (.bool a0_0) := (blk_cell BK460.out 0).trans rfl; have hcz12_1 : w11.cell? ⟨gb460, 1, none⟩ = some (.slice A0_1 l0_1.length c0_1) := (blk_cell BK460.out 1).trans rfl; have hcz12_2 : w11.cell? ⟨gb460, 2, none⟩ = some (.slice A0_2 l0_2.length c0_2) := (blk_cell BK460.out 2).trans rfl; have hfz12_0 := blk_frozen BK460.out 0; have hfz12_1 := blk_frozen BK460.out 1; have hfz12_2 := blk_frozen BK460.out 2) | (refine goesL_ (some 4) rfl rfl Try.func67 (by kernel_rfl) rfl #[.agg #[.bool a0_0, .slice A0_1 l0_1.length c0_1, .slice A0_2 l0_2.length c0_2]] rfl (by simp only [List.map_toArray, List.map_cons, List.map_nil]; rfl) ?_; (with_reducible refine (codewrightref02_Trim.calls k a0_0 _ _ l0_1 _ _ l0_2 true t462 t465 _ (Kd.C_below HR0_1.out HB.out) HC0_1.out (Kd.C_below HR0_2.out HB.out) HC0_2.out A2.out).mono ?_); rintro e w13 ⟨v463, v466, rfl, ho0, ho1, hb⟩; refine ⟨_, rfl, ?_⟩; have HO464 := Aside0.mk (Kd.R_lower ho0 (below_size (HB.out))); have HO467 := Aside0.mk (Kd.R_lower ho1 (below_size (HB.out))); replace BK460 := Aside0.mk (blk_below (BK460.out) hb); replace HB := Aside0.mk (below_step (HB.out) hb); (try clear hb); (try clear ho0); (try clear ho1); have hcz14_0 : w13.cell? ⟨gb460, 0, none⟩ = some (.bool a0_0) := (blk_cell BK460.out 0).trans rfl; have hcz14_1 : w13.cell? ⟨gb460, 1, none⟩ = some (.slice A0_1 l0_1.length c0_1) := (blk_cell BK460.out 1).trans rfl; have hcz14_2 : w13.cell? ⟨gb460, 2, none⟩ = some (.slice A0_2 l0_2.length c0_2) := (blk_cell BK460.out 2).trans rfl; have hfz14_0 := blk_frozen BK460.out 0; have hfz14_1 := blk_frozen BK460.out 1; have hfz14_2 := blk_frozen BK460.out 2; obtain ⟨Ao15, co15, eo15⟩ := Kd.R_slice HO464.out; subst eo15; obtain ⟨Ao16, co16, eo16⟩ := Kd.R_slice HO467.out; subst eo16))
   go_ret
   exact ⟨rfl, by repeat ((with_reducible first | exact HB.out | refine below_set ?_ GE460.out))⟩
  ·replace c10 := Bool.eq_false_iff.mpr c10
   subst c10
   rw [if_neg (show ¬ (false = true) by decide)] at H
   obtain rfl := Option.some.inj H
   go_enter Try.func32, Try.ntmps32
   go_wp2_with (first | (refine box_event ?hg (N := 1) ?hd (cs := #[.bool a0_0, .slice A0_1 l0_1.length c0_1, .slice A0_2 l0_2.length c0_2]) (t := 46) ?hr ?_; (case hd => rfl); (case hg => rfl); (case hr => go_simp; done); intro gb460 hg w17 hbox hb; have n0_ := Aside0.mk (below_step (HB.out) hb); have n1_ := Aside0.mk (hbox); have n2_ := Aside0.mk ((by rw [hg]; exact (below_size (HB.out)) : w.heap.size ≤ gb460)); have n3_ := Aside0.mk ((by rw [hg]; exact (below_size (HB.out)) : w.heap.size ≤ gb460)); clear HB; have HB := n0_; have BK460 := n1_; have GW460 := n2_; have GE460 := n3_; clear n0_ n1_ n2_ n3_; clear hb hbox hg; have hcz18_0 : w17.cell? ⟨gb460, 0, none⟩ = some (.bool a0_0) := (blk_cell BK460.out 0).trans rfl; have hcz18_1 : w17.cell? ⟨gb460, 1, none⟩ = some (.slice A0_1 l0_1.length c0_1) := (blk_cell BK460.out 1).trans rfl; have hcz18_2 : w17.cell? ⟨gb460, 2, none⟩ = some (.slice A0_2 l0_2.length c0_2) := (blk_cell BK460.out 2).trans rfl; have hfz18_0 := blk_frozen BK460.out 0; have hfz18_1 := blk_frozen BK460.out 1; have hfz18_2 := blk_frozen BK460.out 2) | (refine goesL_ (some 4) rfl rfl Try.func67 (by kernel_rfl) rfl #[.agg #[.bool a0_0, .slice A0_1 l0_1.length c0_1, .slice A0_2 l0_2.length c0_2]] rfl (by simp only [List.map_toArray, List.map_cons, List.map_nil]; rfl) ?_; (with_reducible refine (codewrightref02_Trim.calls k a0_0 _ _ l0_1 _ _ l0_2 false t462 t465 _ (Kd.C_below HR0_1.out HB.out) HC0_1.out (Kd.C_below HR0_2.out HB.out) HC0_2.out A2.out).mono ?_); rintro e w19 ⟨v463, v466, rfl, ho0, ho1, hb⟩; refine ⟨_, rfl, ?_⟩; have HO464 := Aside0.mk (Kd.R_lower ho0 (below_size (HB.out))); have HO467 := Aside0.mk (Kd.R_lower ho1 (below_size (HB.out))); replace BK460 := Aside0.mk (blk_below (BK460.out) hb); replace HB := Aside0.mk (below_step (HB.out) hb); (try clear hb); (try clear ho0); (try clear ho1); have hcz20_0 : w19.cell? ⟨gb460, 0, none⟩ = some (.bool a0_0) := (blk_cell BK460.out 0).trans rfl; have hcz20_1 : w19.cell? ⟨gb460, 1, none⟩ = some (.slice A0_1 l0_1.length c0_1) := (blk_cell BK460.out 1).trans rfl; have hcz20_2 : w19.cell? ⟨gb460, 2, none⟩ = some (.slice A0_2 l0_2.length c0_2) := (blk_cell BK460.out 2).trans rfl; have hfz20_0 := blk_frozen BK460.out 0; have hfz20_1 := blk_frozen BK460.out 1; have hfz20_2 := blk_frozen BK460.out 2; obtain ⟨Ao21, co21, eo21⟩ := Kd.R_slice HO464.out; subst eo21; obtain ⟨Ao22, co22, eo22⟩ := Kd.R_slice HO467.out; subst eo22))
   go_ret
   exact ⟨rfl, by repeat ((with_reducible first | exact HB.out | refine below_set ?_ GE460.out))⟩
end Go.Proofs.Ythheakfgmombdaa.F
end
section
namespace Go.Proofs.Ythheakfgmombdaa.F
open Go.RowKit Go.Proofs.YthheakfgmombdaaX.PrintWords Go.Proofs.YthheakfgmombdaaX.PrintLast Go.Proofs.YthheakfgmombdaaX.PrintMore
attribute [local go_sem] max2_int min2_int max_two min_two max_three min_three max_four min_four   -- for this text's walks alone
set_option linter.unusedVariables false
set_option linter.unusedSimpArgs false
set_option maxHeartbeats 8000000 in
set_option maxRecDepth 100000 in
theorem codewrightref01_Mul.calls (k : Nat) (A0 : Option Addr) (c0 : Nat) (l0 : List Int) (A1 : Option Addr) (c1 : Nat) (l1 : List Int) (r : List Int) (w : World) (hr0 : Kd.C (Kd.int .u32) w A0 l0.length l0) (hc0 : l0.length ≤ c0) (hr1 : Kd.C (Kd.int .u32) w A1 l1.length l1) (hc1 : l1.length ≤ c1) (h : codewrightref01_Mul.f k l0 l1 = some r) :
  Calls Try.prog 68 #[.slice A0 l0.length c0, .slice A1 l1.length c1] w fun e w' => ∃ v0_ : Value, e = .returned (v0_) ∧ Kd.R (Kd.int .u32) 100 w' w.heap.size (fun _ => True) v0_ r ∧ Below w.heap.size w w' := by
 have HR0 := Aside0.mk hr0
 have HC0 := Aside0.mk hc0
 clear hr0 hc0
 have HR1 := Aside0.mk hr1
 have HC1 := Aside0.mk hc1
 clear hr1 hc1
 have HB := Aside0.mk (Below.refl w.heap.size w)
 have H : (if 0 ≤ (wrap64 ((l0.length : Int) + (l1.length : Int))) then (if (wrap64 ((l0.length : Int) + (l1.length : Int)) : Int).toNat ≤ 70368744177664 then (codewrightref01_Mul.l0 k l0 l1 (List.replicate (wrap64 ((l0.length : Int) + (l1.length : Int)) : Int).toNat 0) 0) else (none)) else (none)) = some r := h
 clear h
 obtain ⟨ji3, hji3⟩ : ∃ j_ : Int, (wrap64 ((l0.length : Int) + (l1.length : Int))) = j_ := ⟨_, rfl⟩
 rw [hji3] at H
 have hji3w : (IntKind.i64.wrap ((l0.length : Int) + (l1.length : Int))) = ji3 := (i64_w _).trans hji3
 by_cases c4 : 0 ≤ (ji3)
 ·rw [if_pos c4] at H
  have c4b1 : decide (0 ≤ (ji3)) = true := decide_eq_true c4
  clear c4
  by_cases c5 : (ji3 : Int).toNat ≤ 70368744177664
  ·rw [if_pos c5] at H
   have c5b1 : decide ((ji3 : Int).toNat ≤ 70368744177664) = true := decide_eq_true c5
   clear c5
   obtain ⟨y468, hy468⟩ : ∃ y_ : List Int, y_ = (List.replicate (ji3 : Int).toNat 0) := ⟨_, rfl⟩
   (try replace H := (Option.bind_some _ _).symm.trans H); rw [← hy468] at H
   have Ny468 := Aside0.mk hy468
   clear hy468
   have H' := Aside0.mk H
   clear H
   go_enter Try.func68, Try.ntmps68
   go_wp2_with ((refine Kd.R_make (Kd.int .u32) _ 100 rfl (N := 15) rfl 44 _ _ rfl ji3 rfl rfl Try.underlying44 (.int .u32 0) 4 info100 rfl (by decide) (by omega) 0 (ok := fun _ => True) (okp := fun _ => True) rfl (fun _ hk => hk) trivial (of_decide_eq_true (by assumption)) (Nat.le_trans (Nat.mul_le_mul_right _ (of_decide_eq_true (by assumption) : ji3.toNat ≤ 70368744177664)) (by omega)) (Below.refl _ _) (Nat.le_refl _) ?_; intro v469 w6 ho7 hb hg_ hnew_; clear hg_ hnew_; (rw [← Ny468.out] at ho7); have HO470 := Aside0.mk (Kd.R_lower ho7 (below_size (HB.out))); replace HB := Aside0.mk (below_step (HB.out) hb); clear hb ho7))
   repeat (go_quiet (fail); try go_wp2)
   go_loopg [6] k (fun kq v6 w' => ∃ (x5_1 : List Int) (x6_1 : Int), v6 = .int .i64 x6_1 ∧ Aside0 (codewrightref01_Mul.l0 kq l0 l1 x5_1 x6_1 = some r) ∧ Aside0 (kq ≤ k) ∧ Aside0 (Kd.R (Kd.int .u32) 100 w' w.heap.size (fun _ => True) v469 x5_1) ∧ Aside0 (Below w.heap.size w w'))
   case atStart => exact ⟨(y468), (0), rfl, H', ⟨Nat.le_refl _⟩, ⟨HO470.out⟩, ⟨HB.out⟩⟩
   case round =>
    clear H'
    obtain ⟨x5_1, x6_1, rfl, HA, HK1, HO_5, HB⟩ := hrel
    cases gk with
    | zero => exact absurd HA.out (by simp [codewrightref01_Mul.l0])
    | succ k1 =>
     have H := HA.out
     clear HA
     simp only [codewrightref01_Mul.l0] at H
     by_cases c8 : x6_1 < (l0.length : Int)
     ·rw [if_pos c8] at H
      have c8b0 : decide (x6_1 < (l0.length : Int)) = true := decide_eq_true c8
      clear c8
      have H' := Aside0.mk H
      clear H
      go_wp2
      repeat (go_quiet (fail); try go_wp2)
      go_loopg [7, 8] k1 (fun kq v7 v8 w' => ∃ (x5_2 : List Int) (x7_2 : Int) (x8_2 : Int), v7 = .int .u64 x7_2 ∧ v8 = .int .i64 x8_2 ∧ Aside0 (codewrightref01_Mul.l1 kq l0 l1 x5_2 x6_1 x7_2 x8_2 = some r) ∧ Aside0 (kq ≤ k1) ∧ Aside0 (Kd.R (Kd.int .u32) 100 w' w.heap.size (fun _ => True) v469 x5_2) ∧ Aside0 (Below w.heap.size w w'))
      case atStart => exact ⟨(x5_1), (0), (0), rfl, rfl, H', ⟨Nat.le_refl _⟩, ⟨HO_5.out⟩, ⟨HB.out⟩⟩
      case round =>
       clear H'
       obtain ⟨x5_2, x7_2, x8_2, rfl, rfl, HA, HK2, HO_5, HB⟩ := hrel
       cases gk with
       | zero => exact absurd HA.out (by simp [codewrightref01_Mul.l1])
       | succ k2 =>
        have H := HA.out
        clear HA
        simp only [codewrightref01_Mul.l1] at H
        by_cases c9 : x8_2 < (l1.length : Int)
        ·rw [if_pos c9] at H
         have c9b0 : decide (x8_2 < (l1.length : Int)) = true := decide_eq_true c9
         clear c9
         by_cases c10 : 0 ≤ x6_1
         ·rw [if_pos c10] at H
          have c10b0 : decide (0 ≤ x6_1) = true := decide_eq_true c10
          clear c10
          by_cases c11 : x6_1 < (l0.length : Int)
          ·rw [if_pos c11] at H
           clear c11
           by_cases c12 : 0 ≤ x8_2
           ·rw [if_pos c12] at H
            have c12b0 : decide (0 ≤ x8_2) = true := decide_eq_true c12
            clear c12
            obtain ⟨ji13, hji13⟩ : ∃ j_ : Int, (wrap64 (x6_1 + x8_2)) = j_ := ⟨_, rfl⟩
            rw [hji13] at H
            by_cases c14 : 0 ≤ (ji13)
            ·rw [if_pos c14] at H
             have c14b0 : decide (0 ≤ (ji13)) = true := decide_eq_true c14
             clear c14
             by_cases c15 : (ji13) < (x5_2.length : Int)
             ·rw [if_pos c15] at H
              have c15b0 : decide ((ji13) < (x5_2.length : Int)) = true := decide_eq_true c15
              clear c15
              obtain ⟨y477, hy477⟩ : ∃ y_ : List Int, y_ = (x5_2.set ((ji13) : Int).toNat ((Int.tmod (IntKind.u64.wrap ((IntKind.u64.wrap ((IntKind.u64.wrap ((IntKind.u64.wrap (rd l0 x6_1)) * (IntKind.u64.wrap (rd l1 x8_2)))) + (IntKind.u64.wrap (rd x5_2 (ji13))))) + x7_2)) 4294967296) % 4294967296)) := ⟨_, rfl⟩
              (try replace H := (Option.bind_some _ _).symm.trans H); rw [← hy477] at H
              have Ny477 := Aside0.mk hy477
              clear hy477
              have H' := Aside0.mk H
              clear H
              have p474 : 0 ≤ (x6_1 : Int) := of_decide_eq_true (by assumption)
              have q474 : x6_1 < (l0.length : Int) := of_decide_eq_true (by assumption)
              obtain ⟨ad474, e474, hx474_0⟩ := Kd.at_int HR0.out x6_1 p474 q474
              cases e474
              replace hx474_0 := (HB.out.cell (World.block_lt_of_cell? w _ hx474_0)).trans hx474_0
              replace q474 := eq_true q474
              have p475 : 0 ≤ (x8_2 : Int) := of_decide_eq_true (by assumption)
              have q475 : x8_2 < (l1.length : Int) := of_decide_eq_true (by assumption)
              obtain ⟨ad475, e475, hx475_0⟩ := Kd.at_int HR1.out x8_2 p475 q475
              cases e475
              replace hx475_0 := (HB.out.cell (World.block_lt_of_cell? w _ hx475_0)).trans hx475_0
              replace q475 := eq_true q475
              obtain ⟨Ao17, co17, eo17⟩ := Kd.R_slice HO_5.out
              subst eo17
              have p476 : 0 ≤ ((ji13) : Int) := of_decide_eq_true (by assumption)
              have q476 : (ji13) < (x5_2.length : Int) := of_decide_eq_true (by assumption)
              obtain ⟨ad476, e476, hx476_0⟩ := Kd.at_int (Kd.R_reads' HO_5.out).2.2 (ji13) p476 q476
              cases e476
              replace q476 := eq_true q476
              have p16 : 0 ≤ ((ji13) : Int) := of_decide_eq_true (by assumption)
              have q16 : ((ji13) : Int) < ((x5_2.length : Int) : Int) := of_decide_eq_true (by assumption)
              obtain ⟨go16, co16, eo16, gb16, gl16, cl16, HG16⟩ := Kd.R_form HO_5.out (by omega)
              (cases eo16)
              have GB16 := Aside0.mk gb16
              have GG16 := Aside0.mk HG16
              clear gb16 gl16 HG16
              (simp only [add_plain] at hx476_0)
              obtain ⟨hx16_0, hf16_0⟩ := Kd.R_celln 0 HO_5.out ((ji13) : Int) p16 q16
              replace p16 := eq_true p16
              replace q16 := eq_true q16
              have HP18 := Kd.R_putg HO_5.out ((ji13) : Int) ((Int.tmod (IntKind.u64.wrap ((IntKind.u64.wrap ((IntKind.u64.wrap ((IntKind.u64.wrap (rd l0 x6_1)) * (IntKind.u64.wrap (rd l1 x8_2)))) + (IntKind.u64.wrap (rd x5_2 (ji13))))) + x7_2)) 4294967296) % 4294967296)
              go_wp2
              repeat (go_quiet (fail); try go_wp2_with (((try (rw [drewN_self wr]; generalize hq_ : World.drewN wr _ = wr; replace HO_5 := Aside0.mk (Kd.R_at hq_ HO_5.out); replace HB := Aside0.mk (below_at hq_ HB.out); clear hq_; (try (have HP18 := Kd.R_putg HO_5.out ((ji13) : Int) ((Int.tmod (IntKind.u64.wrap ((IntKind.u64.wrap ((IntKind.u64.wrap ((IntKind.u64.wrap (rd l0 x6_1)) * (IntKind.u64.wrap (rd l1 x8_2)))) + (IntKind.u64.wrap (rd x5_2 (ji13))))) + x7_2)) 4294967296) % 4294967296))); (try (obtain ⟨hx16_0, hf16_0⟩ := Kd.R_celln 0 HO_5.out ((ji13) : Int) (of_eq_true p16) (of_eq_true q16))); (try skip); (try skip))); refine store_event (t := 100) (p := 56) (v := ?vo_w19) (w1 := (wr.setCell ⟨go16, ((ji13) : Int).toNat, none⟩ (.int .u32 ((Int.tmod (IntKind.u64.wrap ((IntKind.u64.wrap ((IntKind.u64.wrap ((IntKind.u64.wrap (rd l0 x6_1)) * (IntKind.u64.wrap (rd l1 x8_2)))) + (IntKind.u64.wrap (rd x5_2 (ji13))))) + x7_2)) 4294967296) % 4294967296)))) ?hg ?ho ?hn ?hr ?_; (case ho => rfl); (case hg => rfl); (case hn => rfl); (case hr => go_simp; done); intro w19 hw; have hg : wr.grownBy w19 (some go16) := (by rw [hw]; exact HP18.2); have hp_ : Kd.R (Kd.int .u32) 100 w19 w.heap.size (fun _ => True) (.slice (some ⟨go16, 0, none⟩) x5_2.length co17) y477 := (by rw [hw, Ny477.out]; exact HP18.1); clear HP18; replace HO_5 := Aside0.mk (hp_); replace HB := Aside0.mk ((by rw [hw]; exact below_set (HB.out) GB16.out : Below w.heap.size w w19)); clear hg hw hp_)))
              go_roundg k2
              case measure => have := HK1.out; have := HK2.out; omega
              case rel => exact ⟨(y477), (IntKind.u64.wrap (Int.tdiv (IntKind.u64.wrap ((IntKind.u64.wrap ((IntKind.u64.wrap ((IntKind.u64.wrap (rd l0 x6_1)) * (IntKind.u64.wrap (rd l1 x8_2)))) + (IntKind.u64.wrap (rd x5_2 (ji13))))) + x7_2)) 4294967296)), (wrap64 (x8_2 + 1)), rfl, rfl, H', ⟨by have := HK1.out; have := HK2.out; omega⟩, ⟨HO_5.out⟩, ⟨HB.out⟩⟩
             ·rw [if_neg c15] at H
              exact absurd H (by simp)
            ·rw [if_neg c14] at H
             exact absurd H (by simp)
           ·rw [if_neg c12] at H
            exact absurd H (by simp)
          ·rw [if_neg c11] at H
           exact absurd H (by simp)
         ·rw [if_neg c10] at H
          exact absurd H (by simp)
        ·rw [if_neg c9] at H
         have c9b0 : decide (x8_2 < (l1.length : Int)) = false := decide_eq_false c9
         clear c9
         obtain ⟨ji20, hji20⟩ : ∃ j_ : Int, (wrap64 (x6_1 + (l1.length : Int))) = j_ := ⟨_, rfl⟩
         rw [hji20] at H
         have hji20w : (IntKind.i64.wrap (x6_1 + (l1.length : Int))) = ji20 := (i64_w _).trans hji20
         by_cases c21 : 0 ≤ (ji20)
         ·rw [if_pos c21] at H
          have c21b0 : decide (0 ≤ (ji20)) = true := decide_eq_true c21
          clear c21
          by_cases c22 : (ji20) < (x5_2.length : Int)
          ·rw [if_pos c22] at H
           have c22b0 : decide ((ji20) < (x5_2.length : Int)) = true := decide_eq_true c22
           clear c22
           obtain ⟨y478, hy478⟩ : ∃ y_ : List Int, y_ = (x5_2.set ((ji20) : Int).toNat ((x7_2) % 4294967296)) := ⟨_, rfl⟩
           (try replace H := (Option.bind_some _ _).symm.trans H); rw [← hy478] at H
           have Ny478 := Aside0.mk hy478
           clear hy478
           have H' := Aside0.mk H
           clear H
           have p23 : 0 ≤ ((ji20) : Int) := of_decide_eq_true (by assumption)
           have q23 : ((ji20) : Int) < ((x5_2.length : Int) : Int) := of_decide_eq_true (by assumption)
           obtain ⟨go23, co23, eo23, gb23, gl23, cl23, HG23⟩ := Kd.R_form HO_5.out (by omega)
           (cases eo23)
           have GB23 := Aside0.mk gb23
           have GG23 := Aside0.mk HG23
           clear gb23 gl23 HG23
           obtain ⟨hx23_0, hf23_0⟩ := Kd.R_celln 0 HO_5.out ((ji20) : Int) p23 q23
           replace p23 := eq_true p23
           replace q23 := eq_true q23
           have HP24 := Kd.R_putg HO_5.out ((ji20) : Int) ((x7_2) % 4294967296)
           go_wp2_with ((refine store_event (t := 100) (p := 66) (v := ?vo_w25) (w1 := (wr.setCell ⟨go23, ((ji20) : Int).toNat, none⟩ (.int .u32 ((x7_2) % 4294967296)))) ?hg ?ho ?hn ?hr ?_; (case ho => rfl); (case hg => rfl); (case hn => rfl); (case hr => go_simp; done); intro w25 hw; have hg : wr.grownBy w25 (some go23) := (by rw [hw]; exact HP24.2); have hp_ : Kd.R (Kd.int .u32) 100 w25 w.heap.size (fun _ => True) (.slice (some ⟨go23, 0, none⟩) x5_2.length co23) y478 := (by rw [hw, Ny478.out]; exact HP24.1); clear HP24; replace HO_5 := Aside0.mk (hp_); replace HB := Aside0.mk ((by rw [hw]; exact below_set (HB.out) GB23.out : Below w.heap.size w w25)); clear hg hw hp_))
           repeat (go_quiet (fail); try go_wp2)
           go_roundg k2
           case measure => have := HK1.out; have := HK2.out; omega
           case rel => exact ⟨(y478), (wrap64 (x6_1 + 1)), rfl, H', ⟨by have := HK1.out; have := HK2.out; omega⟩, ⟨HO_5.out⟩, ⟨HB.out⟩⟩
          ·rw [if_neg c22] at H
           exact absurd H (by simp)
         ·rw [if_neg c21] at H
          exact absurd H (by simp)
     ·rw [if_neg c8] at H
      have c8b0 : decide (x6_1 < (l0.length : Int)) = false := decide_eq_false c8
      clear c8
      obtain ⟨t471, A26, H⟩ := bindA H
      obtain rfl := Option.some.inj H
      obtain ⟨Ao27, co27, eo27⟩ := Kd.R_slice HO_5.out
      subst eo27
      go_wp2_with ((go_at_call 97; (with_reducible refine (codewrightref01_Trim.calls k1 _ _ x5_1 t471 _ ?side1 ?side2 A26.out).mono ?_); (case side1 => exact (Kd.R_reads' HO_5.out).2.2); (case side2 => exact (Kd.R_reads' HO_5.out).2.1); rintro e w28 ⟨v472, rfl, ho0, hb⟩; have n0_ := Aside0.mk (Kd.R_elder' (HO_5.out) (Kd.R_base ho0) hb); have n1_ := Aside0.mk (Kd.R_lower (Kd.R_new' ho0 (Kd.R_lt (HO_5.out))) (below_size (HB.out))); have n2_ := Aside0.mk (below_step (HB.out) hb); clear HO_5; clear HB; have HO_5 := n0_; have HO473 := n1_; have HB := n2_; clear n0_ n1_ n2_))
      repeat (go_quiet (fail); try go_wp2)
      go_ret
      exact ⟨_, rfl, Kd.R_mono HO473.out (fun _ hk => trivial), HB.out⟩
  ·rw [if_neg c5] at H
   exact absurd H (by simp)
 ·rw [if_neg c4] at H
  exact absurd H (by simp)
end Go.Proofs.Ythheakfgmombdaa.F
end
