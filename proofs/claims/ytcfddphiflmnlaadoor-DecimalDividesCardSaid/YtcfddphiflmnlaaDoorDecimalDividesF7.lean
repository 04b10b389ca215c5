/- Functions of the program, as functions of Lean, and the walks that show that the code answers as they do: written by a program. Conditions: those of each theorem. -/
import Derived.Test.YtcfddphiflmnlaaDoorDecimalDividesF6
namespace Go.Proofs.YtcfddphiflmnlaaDoor.P
open Go.RowKit Go.Proofs.YtcfddphiflmnlaaDoorW.PrintWords Go.Proofs.YtcfddphiflmnlaaDoorW.PrintLast Go.Proofs.YtcfddphiflmnlaaDoorW.PrintMore
attribute [local go_sem] gtr_text max2_int min2_int max_two min_two max_three min_three max_four min_four
set_option linter.unusedVariables false
set_option linter.unusedSimpArgs false
mutual
def schismalaw01_DecimalDivides.j0 : Nat → List Int → List Int → Bool → Option (Bool)
  | 0, _, _, _ => none
  | k + 1, x0, x1, x17 => if x17 = true then ((schismalaw01_known.f k).bind fun t360 => (some t360)) else ((schismalaw01_Make.f k x0).bind fun t361 => ((schismalaw01_Make.f k x1).bind fun t362 => ((decimal_DivMod.f k t361 t362).bind fun bt363 => (if t362.toList = ([48] : List UInt8) then (if bt363.1.toList = ([] : List UInt8) then (if bt363.2.1.toList = ([] : List UInt8) then (some (bt363.2.2 == 17)) else (some false)) else (some false)) else (if bt363.2.2 = 0 then ((schismaref01_Canonical.f k bt363.1).bind fun t366 => (if t366 = true then ((schismaref01_Canonical.f k bt363.2.1).bind fun t367 => (if t367 = true then (if (bt363.1.size : Int) > 120 then (schismalaw01_DecimalDivides.j1 k t361 t362 bt363.1 bt363.2.1 true) else (schismalaw01_DecimalDivides.j1 k t361 t362 bt363.1 bt363.2.1 (decide ((bt363.2.1.size : Int) > 120)))) else (schismalaw01_DecimalDivides.j1 k t361 t362 bt363.1 bt363.2.1 true))) else (schismalaw01_DecimalDivides.j1 k t361 t362 bt363.1 bt363.2.1 true))) else (schismalaw01_DecimalDivides.j1 k t361 t362 bt363.1 bt363.2.1 true))))))
def schismalaw01_DecimalDivides.j1 : Nat → ByteArray → ByteArray → ByteArray → ByteArray → Bool → Option (Bool)
  | 0, _, _, _, _, _ => none
  | k + 1, x5, x6, x7, x8, x63 => if x63 = true then (some false) else ((schismaref01_Compare.f x8 x6).bind fun t368 => (if t368 < 0 then ((schismaref01_Mul.f k x7 x6).bind fun t369 => ((schismaref01_Add.f k t369 x8).bind fun t370 => (some (t370.toList == x5.toList)))) else (some false)))
end
def schismalaw01_DecimalDivides.f (k : Nat) (l0 : List Int) (l1 : List Int) : Option (Bool) := (schismalaw01_known.f k).bind fun t358 => (if t358 = true then ((schismalaw01_few.f l0 l1 ([] : List Int)).bind fun t359 => (schismalaw01_DecimalDivides.j0 k l0 l1 (!t359))) else (schismalaw01_DecimalDivides.j0 k l0 l1 true))
theorem schismalaw01_DecimalDivides.mono_l : ∀ k, (∀ y0 y1 y2, LeO (schismalaw01_DecimalDivides.j0 k y0 y1 y2) (schismalaw01_DecimalDivides.j0 (k + 1) y0 y1 y2)) ∧ (∀ y0 y1 y2 y3 y4, LeO (schismalaw01_DecimalDivides.j1 k y0 y1 y2 y3 y4) (schismalaw01_DecimalDivides.j1 (k + 1) y0 y1 y2 y3 y4))
  | 0 => ⟨fun _ _ _ r h => by simp [schismalaw01_DecimalDivides.j0] at h, fun _ _ _ _ _ r h => by simp [schismalaw01_DecimalDivides.j1] at h⟩
  | k + 1 => by
    obtain ⟨ih0, ih1⟩ := schismalaw01_DecimalDivides.mono_l k
    refine ⟨?_, ?_⟩
    · intro y0 y1 y2
      unfold schismalaw01_DecimalDivides.j0
      repeat' first
      | (with_reducible exact ih0 _ _ _)
      | (with_reducible exact ih1 _ _ _ _ _)
      | (with_reducible exact decimal_DivMod.mono _ _ _)
      | (with_reducible exact schismalaw01_Make.mono _ _)
      | (with_reducible exact schismalaw01_known.mono _)
      | (with_reducible exact schismaref01_Add.mono _ _ _)
      | (with_reducible exact schismaref01_Canonical.mono _ _)
      | (with_reducible exact schismaref01_Mul.mono _ _ _)
      | (with_reducible exact LeO.refl _)
      | (with_reducible exact LeO.none _)
      | (with_reducible refine LeO.ite ?_ ?_)
      | (with_reducible refine LeO.bind ?_ (fun _ => ?_))
      | exact ih0 _ _ _
      | exact ih1 _ _ _ _ _
      | exact decimal_DivMod.mono _ _ _
      | exact schismalaw01_Make.mono _ _
      | exact schismalaw01_known.mono _
      | exact schismaref01_Add.mono _ _ _
      | exact schismaref01_Canonical.mono _ _
      | exact schismaref01_Mul.mono _ _ _
      | exact LeO.none _
      | refine LeO.ite ?_ ?_
      | refine LeO.bind ?_ (fun _ => ?_)
    · intro y0 y1 y2 y3 y4
      unfold schismalaw01_DecimalDivides.j1
      repeat' first
      | (with_reducible exact ih0 _ _ _)
      | (with_reducible exact ih1 _ _ _ _ _)
      | (with_reducible exact decimal_DivMod.mono _ _ _)
      | (with_reducible exact schismalaw01_Make.mono _ _)
      | (with_reducible exact schismalaw01_known.mono _)
      | (with_reducible exact schismaref01_Add.mono _ _ _)
      | (with_reducible exact schismaref01_Canonical.mono _ _)
      | (with_reducible exact schismaref01_Mul.mono _ _ _)
      | (with_reducible exact LeO.refl _)
      | (with_reducible exact LeO.none _)
      | (with_reducible refine LeO.ite ?_ ?_)
      | (with_reducible refine LeO.bind ?_ (fun _ => ?_))
      | exact ih0 _ _ _
      | exact ih1 _ _ _ _ _
      | exact decimal_DivMod.mono _ _ _
      | exact schismalaw01_Make.mono _ _
      | exact schismalaw01_known.mono _
      | exact schismaref01_Add.mono _ _ _
      | exact schismaref01_Canonical.mono _ _
      | exact schismaref01_Mul.mono _ _ _
      | exact LeO.none _
      | refine LeO.ite ?_ ?_
      | refine LeO.bind ?_ (fun _ => ?_)
theorem schismalaw01_DecimalDivides.mono : ∀ a0 a1 k, LeO (schismalaw01_DecimalDivides.f k a0 a1) (schismalaw01_DecimalDivides.f (k + 1) a0 a1) := by
  intro a0 a1 k
  obtain ⟨ih0, ih1⟩ := schismalaw01_DecimalDivides.mono_l k
  unfold schismalaw01_DecimalDivides.f
  repeat' first
      | (with_reducible exact ih0 _ _ _)
      | (with_reducible exact ih1 _ _ _ _ _)
      | (with_reducible exact decimal_DivMod.mono _ _ _)
      | (with_reducible exact schismalaw01_Make.mono _ _)
      | (with_reducible exact schismalaw01_known.mono _)
      | (with_reducible exact schismaref01_Add.mono _ _ _)
      | (with_reducible exact schismaref01_Canonical.mono _ _)
      | (with_reducible exact schismaref01_Mul.mono _ _ _)
      | (with_reducible exact LeO.refl _)
      | (with_reducible exact LeO.none _)
      | (with_reducible refine LeO.ite ?_ ?_)
      | (with_reducible refine LeO.bind ?_ (fun _ => ?_))
      | exact ih0 _ _ _
      | exact ih1 _ _ _ _ _
      | exact decimal_DivMod.mono _ _ _
      | exact schismalaw01_Make.mono _ _
      | exact schismalaw01_known.mono _
      | exact schismaref01_Add.mono _ _ _
      | exact schismaref01_Canonical.mono _ _
      | exact schismaref01_Mul.mono _ _ _
      | exact LeO.none _
      | refine LeO.ite ?_ ?_
      | refine LeO.bind ?_ (fun _ => ?_)
set_option maxHeartbeats 8000000 in
set_option maxRecDepth 100000 in
theorem schismalaw01_DecimalDivides.calls (k : Nat) (A0 : Option Addr) (c0 : Nat) (l0 : List Int) (A1 : Option Addr) (c1 : Nat) (l1 : List Int) (r : Bool) (w : World) (hr0 : Kd.C (Kd.int .u8) w A0 l0.length l0) (hc0 : l0.length ≤ c0) (hr1 : Kd.C (Kd.int .u8) w A1 l1.length l1) (hc1 : l1.length ≤ c1) (hT : Tab w) (h : schismalaw01_DecimalDivides.f k l0 l1 = some r) :
    Calls Tryd.prog 4 #[.slice A0 l0.length c0, .slice A1 l1.length c1] w fun e w' => e = .returned (.bool r) ∧ Below w.heap.size w w' := by
  have HT := Aside0.mk hT
  clear hT
  have HR0 := Aside0.mk hr0
  have HC0 := Aside0.mk hc0
  clear hr0 hc0
  have HR1 := Aside0.mk hr1
  have HC1 := Aside0.mk hc1
  clear hr1 hc1
  have HB := Aside0.mk (Below.refl w.heap.size w)
  have H : ((schismalaw01_known.f k).bind fun t358 => (if t358 = true then ((schismalaw01_few.f l0 l1 ([] : List Int)).bind fun t359 => (schismalaw01_DecimalDivides.j0 k l0 l1 (!t359))) else (schismalaw01_DecimalDivides.j0 k l0 l1 true))) = some r := h
  clear h
  have HC3 := Aside0.mk H
  clear H
  go_enter Tryd.func4, Tryd.ntmps4
  go_upto_region 1 with (fail)
  go_cut [17] (fun v17 wc => ∃ (kq : Nat) (x17_2 : Bool), v17 = .bool x17_2 ∧ Aside0 (schismalaw01_DecimalDivides.j0 kq l0 l1 x17_2 = some r) ∧ Aside0 (kq ≤ k) ∧ Aside0 (Below w.heap.size w wc))
  case first =>
    have H := HC3.out
    clear HC3
    replace H := Option.bind_eq_some_iff.mp H
    obtain ⟨t358, A40, H⟩ := H
    replace H : (if t358 = true then ((schismalaw01_few.f l0 l1 ([] : List Int)).bind fun t359 => (schismalaw01_DecimalDivides.j0 k l0 l1 (!t359))) else (schismalaw01_DecimalDivides.j0 k l0 l1 true)) = some r := H
    have A4 := Aside0.mk A40
    clear A40
    by_cases c5 : t358 = true
    · subst c5
      have H1 : ((schismalaw01_few.f l0 l1 ([] : List Int)).bind fun t359 => (schismalaw01_DecimalDivides.j0 k l0 l1 (!t359))) = some r := by rw [if_pos rfl] at H; exact H
      clear H
      have H := H1
      clear H1
      replace H := Option.bind_eq_some_iff.mp H
      obtain ⟨t359, A60, H⟩ := H
      replace H : (schismalaw01_DecimalDivides.j0 k l0 l1 (!t359)) = some r := H
      have A6 := Aside0.mk A60
      clear A60
      have H' := Aside0.mk H
      clear H
      go_wp2_with (first | ((with_reducible refine gate_callee (f := 13) rfl ?_); refine goesL_ (some 10) rfl rfl Tryd.func13 (by kernel_rfl) rfl #[] rfl mq ?_; (with_reducible refine (schismalaw01_known.calls (hT := HT.out.below bq) k  true _ A4.out).mono ?_); rintro e w7 ⟨rfl, hb⟩; refine ⟨_, rfl, ?_⟩; replace HB := Aside0.mk (below_step bq hb); (try clear hb); (try clear hb2); (try clear hk); (try clear hi)) | (go_at_call 19; (refine (schismalaw01_few.calls _ _ l0 _ _ l1 _ _ ([] : List Int) t359 _ ?side1 ?side2 ?side3 ?side4 ?side5 ?side6 A6.out).mono ?_); (case side1 => repeat (first | exact (Kd.C_below HR0.out HB.out) | (with_reducible refine Kd.C_alloc ?_ _) | (with_reducible refine Kd.C_drewN ?_ _) | (with_reducible refine Kd.C_drew ?_))); (case side2 => exact HC0.out); (case side3 => repeat (first | exact (Kd.C_below HR1.out HB.out) | (with_reducible refine Kd.C_alloc ?_ _) | (with_reducible refine Kd.C_drewN ?_ _) | (with_reducible refine Kd.C_drew ?_))); (case side4 => exact HC1.out); (case side5 => exact Kd.C_nil _ _); (case side6 => exact Nat.le_refl _); rintro e w' ⟨rfl, ⟨nd, rfl⟩⟩))
      go_meet
      case rel => exact ⟨_, (!t359), (by first | rfl | (simp; done) | (simp [*]; done)), H', ⟨by first | omega | exact Nat.le_refl _⟩, ⟨bq⟩⟩
    · replace c5 := Bool.eq_false_iff.mpr c5
      subst c5
      have H1 : (schismalaw01_DecimalDivides.j0 k l0 l1 true) = some r := by rw [if_neg (show ¬ (false = true) by decide)] at H; exact H
      clear H
      have H := H1
      clear H1
      have H' := Aside0.mk H
      clear H
      go_wp2_with (first | ((with_reducible refine gate_callee (f := 13) rfl ?_); refine goesL_ (some 10) rfl rfl Tryd.func13 (by kernel_rfl) rfl #[] rfl mq ?_; (with_reducible refine (schismalaw01_known.calls (hT := HT.out.below bq) k  false _ A4.out).mono ?_); rintro e w8 ⟨rfl, hb⟩; refine ⟨_, rfl, ?_⟩; replace HB := Aside0.mk (below_step bq hb); (try clear hb); (try clear hb2); (try clear hk); (try clear hi)))
      go_meet
      case rel => exact ⟨_, (true), (by first | rfl | (simp; done) | (simp [*]; done)), H', ⟨by first | omega | exact Nat.le_refl _⟩, ⟨bq⟩⟩
  case rest =>
    clear HC3
    try clear c1
    try clear p2
    try clear c4
    try clear c5
    obtain ⟨kq, x17_2, rfl, HA, HJ2, HB⟩ := hcut
    cases kq with
    | zero => exact absurd HA.out (by simp [schismalaw01_DecimalDivides.j0])
    | succ kj2 =>
      have H := HA.out
      clear HA
      simp only [schismalaw01_DecimalDivides.j0] at H
      by_cases c9 : x17_2 = true
      · subst c9
        have H1 : ((schismalaw01_known.f kj2).bind fun t360 => (some t360)) = some r := by rw [if_pos rfl] at H; exact H
        clear H
        have H := H1
        clear H1
        replace H := Option.bind_eq_some_iff.mp H
        obtain ⟨t360, A100, H⟩ := H
        replace H : (some t360) = some r := H
        have A10 := Aside0.mk A100
        clear A100
        obtain rfl := Option.some.inj H
        go_wp2_with (first | ((with_reducible refine gate_callee (f := 13) rfl ?_); refine goesL_ (some 18) rfl rfl Tryd.func13 (by kernel_rfl) rfl #[] rfl mq ?_; (with_reducible refine (schismalaw01_known.calls (hT := HT.out.below bq) kj2  t360 _ A10.out).mono ?_); rintro e w11 ⟨rfl, hb⟩; refine ⟨_, rfl, ?_⟩; replace HB := Aside0.mk (below_step bq hb); (try clear hb); (try clear hb2); (try clear hk); (try clear hi)))
        go_ret
        exact ⟨eq_, bq⟩
      · replace c9 := Bool.eq_false_iff.mpr c9
        subst c9
        have H1 : ((schismalaw01_Make.f kj2 l0).bind fun t361 => ((schismalaw01_Make.f kj2 l1).bind fun t362 => ((decimal_DivMod.f kj2 t361 t362).bind fun bt363 => (if t362.toList = ([48] : List UInt8) then (if bt363.1.toList = ([] : List UInt8) then (if bt363.2.1.toList = ([] : List UInt8) then (some (bt363.2.2 == 17)) else (some false)) else (some false)) else (if bt363.2.2 = 0 then ((schismaref01_Canonical.f kj2 bt363.1).bind fun t366 => (if t366 = true then ((schismaref01_Canonical.f kj2 bt363.2.1).bind fun t367 => (if t367 = true then (if (bt363.1.size : Int) > 120 then (schismalaw01_DecimalDivides.j1 kj2 t361 t362 bt363.1 bt363.2.1 true) else (schismalaw01_DecimalDivides.j1 kj2 t361 t362 bt363.1 bt363.2.1 (decide ((bt363.2.1.size : Int) > 120)))) else (schismalaw01_DecimalDivides.j1 kj2 t361 t362 bt363.1 bt363.2.1 true))) else (schismalaw01_DecimalDivides.j1 kj2 t361 t362 bt363.1 bt363.2.1 true))) else (schismalaw01_DecimalDivides.j1 kj2 t361 t362 bt363.1 bt363.2.1 true)))))) = some r := by rw [if_neg (show ¬ (false = true) by decide)] at H; exact H
        clear H
        have H := H1
        clear H1
        replace H := Option.bind_eq_some_iff.mp H
        obtain ⟨t361, A120, H⟩ := H
        replace H : ((schismalaw01_Make.f kj2 l1).bind fun t362 => ((decimal_DivMod.f kj2 t361 t362).bind fun bt363 => (if t362.toList = ([48] : List UInt8) then (if bt363.1.toList = ([] : List UInt8) then (if bt363.2.1.toList = ([] : List UInt8) then (some (bt363.2.2 == 17)) else (some false)) else (some false)) else (if bt363.2.2 = 0 then ((schismaref01_Canonical.f kj2 bt363.1).bind fun t366 => (if t366 = true then ((schismaref01_Canonical.f kj2 bt363.2.1).bind fun t367 => (if t367 = true then (if (bt363.1.size : Int) > 120 then (schismalaw01_DecimalDivides.j1 kj2 t361 t362 bt363.1 bt363.2.1 true) else (schismalaw01_DecimalDivides.j1 kj2 t361 t362 bt363.1 bt363.2.1 (decide ((bt363.2.1.size : Int) > 120)))) else (schismalaw01_DecimalDivides.j1 kj2 t361 t362 bt363.1 bt363.2.1 true))) else (schismalaw01_DecimalDivides.j1 kj2 t361 t362 bt363.1 bt363.2.1 true))) else (schismalaw01_DecimalDivides.j1 kj2 t361 t362 bt363.1 bt363.2.1 true))))) = some r := H
        have A12 := Aside0.mk A120
        clear A120
        replace H := Option.bind_eq_some_iff.mp H
        obtain ⟨t362, A130, H⟩ := H
        replace H : ((decimal_DivMod.f kj2 t361 t362).bind fun bt363 => (if t362.toList = ([48] : List UInt8) then (if bt363.1.toList = ([] : List UInt8) then (if bt363.2.1.toList = ([] : List UInt8) then (some (bt363.2.2 == 17)) else (some false)) else (some false)) else (if bt363.2.2 = 0 then ((schismaref01_Canonical.f kj2 bt363.1).bind fun t366 => (if t366 = true then ((schismaref01_Canonical.f kj2 bt363.2.1).bind fun t367 => (if t367 = true then (if (bt363.1.size : Int) > 120 then (schismalaw01_DecimalDivides.j1 kj2 t361 t362 bt363.1 bt363.2.1 true) else (schismalaw01_DecimalDivides.j1 kj2 t361 t362 bt363.1 bt363.2.1 (decide ((bt363.2.1.size : Int) > 120)))) else (schismalaw01_DecimalDivides.j1 kj2 t361 t362 bt363.1 bt363.2.1 true))) else (schismalaw01_DecimalDivides.j1 kj2 t361 t362 bt363.1 bt363.2.1 true))) else (schismalaw01_DecimalDivides.j1 kj2 t361 t362 bt363.1 bt363.2.1 true)))) = some r := H
        have A13 := Aside0.mk A130
        clear A130
        replace H := Option.bind_eq_some_iff.mp H
        obtain ⟨⟨t363, t364, t365⟩, A140, H⟩ := H
        replace H : (if t362.toList = ([48] : List UInt8) then (if t363.toList = ([] : List UInt8) then (if t364.toList = ([] : List UInt8) then (some (t365 == 17)) else (some false)) else (some false)) else (if t365 = 0 then ((schismaref01_Canonical.f kj2 t363).bind fun t366 => (if t366 = true then ((schismaref01_Canonical.f kj2 t364).bind fun t367 => (if t367 = true then (if (t363.size : Int) > 120 then (schismalaw01_DecimalDivides.j1 kj2 t361 t362 t363 t364 true) else (schismalaw01_DecimalDivides.j1 kj2 t361 t362 t363 t364 (decide ((t364.size : Int) > 120)))) else (schismalaw01_DecimalDivides.j1 kj2 t361 t362 t363 t364 true))) else (schismalaw01_DecimalDivides.j1 kj2 t361 t362 t363 t364 true))) else (schismalaw01_DecimalDivides.j1 kj2 t361 t362 t363 t364 true))) = some r := H
        have A14 := Aside0.mk A140
        clear A140
        by_cases c15 : t362.toList = ([48] : List UInt8)
        · rw [if_pos c15] at H
          have c15b0 : (t362.toList == ([48] : List UInt8)) = true := beq_iff_eq.mpr c15
          have c15b1 : (t362.toList != ([48] : List UInt8)) = false := bne_eq_false_iff_eq.mpr c15
          clear c15
          by_cases c16 : t363.toList = ([] : List UInt8)
          · rw [if_pos c16] at H
            have c16b0 : (t363.toList == ([] : List UInt8)) = true := beq_iff_eq.mpr c16
            have c16b1 : (t363.toList != ([] : List UInt8)) = false := bne_eq_false_iff_eq.mpr c16
            clear c16
            by_cases c17 : t364.toList = ([] : List UInt8)
            · rw [if_pos c17] at H
              have c17b0 : (t364.toList == ([] : List UInt8)) = true := beq_iff_eq.mpr c17
              have c17b1 : (t364.toList != ([] : List UInt8)) = false := bne_eq_false_iff_eq.mpr c17
              clear c17
              obtain rfl := Option.some.inj H
              go_wp2_with (first | ((with_reducible refine gate_callee (f := 16) rfl ?_); refine goesL_ (some 20) rfl rfl Tryd.func16 (by kernel_rfl) rfl #[.slice A0 l0.length c0] rfl mq ?_; (with_reducible refine (schismalaw01_Make.calls kj2 _ _ l0 t361 _ ?side1 ?side2 A12.out).mono ?_); (case side1 => repeat (first | exact (Kd.C_below HR0.out HB.out) | (with_reducible refine Kd.C_alloc ?_ _) | (with_reducible refine Kd.C_drewN ?_ _) | (with_reducible refine Kd.C_drew ?_))); (case side2 => exact HC0.out); rintro e w18 ⟨rfl, hb⟩; refine ⟨_, rfl, ?_⟩; replace HB := Aside0.mk (below_step bq hb); (try clear hb); (try clear hb2); (try clear hk); (try clear hi)) | ((with_reducible refine gate_callee (f := 16) rfl ?_); refine goesL_ (some 22) rfl rfl Tryd.func16 (by kernel_rfl) rfl #[.slice A1 l1.length c1] rfl mq ?_; (with_reducible refine (schismalaw01_Make.calls kj2 _ _ l1 t362 _ ?side1 ?side2 A13.out).mono ?_); (case side1 => repeat (first | exact (Kd.C_below HR1.out HB.out) | (with_reducible refine Kd.C_alloc ?_ _) | (with_reducible refine Kd.C_drewN ?_ _) | (with_reducible refine Kd.C_drew ?_))); (case side2 => exact HC1.out); rintro e w19 ⟨rfl, hb⟩; refine ⟨_, rfl, ?_⟩; replace HB := Aside0.mk (below_step bq hb); (try clear hb); (try clear hb2); (try clear hk); (try clear hi)) | ((with_reducible refine gate_callee (f := 20) rfl ?_); refine goesL_ (some 26) rfl rfl Tryd.func20 (by kernel_rfl) rfl #[.string t361, .string t362] rfl mq ?_; (with_reducible refine (decimal_DivMod.calls (hT := HT.out.below bq) kj2 t361 t362 t363 t364 t365 _ A14.out).mono ?_); rintro e w20 ⟨rfl, hb⟩; refine ⟨_, rfl, ?_⟩; replace HB := Aside0.mk (below_step bq hb); (try clear hb); (try clear hb2); (try clear hk); (try clear hi)))
              go_ret
              exact ⟨eq_, bq⟩
            · rw [if_neg c17] at H
              have c17b0 : (t364.toList == ([] : List UInt8)) = false := beq_eq_false_iff_ne.mpr c17
              have c17b1 : (t364.toList != ([] : List UInt8)) = true := bne_iff_ne.mpr c17
              obtain rfl := Option.some.inj H
              go_wp2_with (first | ((with_reducible refine gate_callee (f := 16) rfl ?_); refine goesL_ (some 20) rfl rfl Tryd.func16 (by kernel_rfl) rfl #[.slice A0 l0.length c0] rfl mq ?_; (with_reducible refine (schismalaw01_Make.calls kj2 _ _ l0 t361 _ ?side1 ?side2 A12.out).mono ?_); (case side1 => repeat (first | exact (Kd.C_below HR0.out HB.out) | (with_reducible refine Kd.C_alloc ?_ _) | (with_reducible refine Kd.C_drewN ?_ _) | (with_reducible refine Kd.C_drew ?_))); (case side2 => exact HC0.out); rintro e w21 ⟨rfl, hb⟩; refine ⟨_, rfl, ?_⟩; replace HB := Aside0.mk (below_step bq hb); (try clear hb); (try clear hb2); (try clear hk); (try clear hi)) | ((with_reducible refine gate_callee (f := 16) rfl ?_); refine goesL_ (some 22) rfl rfl Tryd.func16 (by kernel_rfl) rfl #[.slice A1 l1.length c1] rfl mq ?_; (with_reducible refine (schismalaw01_Make.calls kj2 _ _ l1 t362 _ ?side1 ?side2 A13.out).mono ?_); (case side1 => repeat (first | exact (Kd.C_below HR1.out HB.out) | (with_reducible refine Kd.C_alloc ?_ _) | (with_reducible refine Kd.C_drewN ?_ _) | (with_reducible refine Kd.C_drew ?_))); (case side2 => exact HC1.out); rintro e w22 ⟨rfl, hb⟩; refine ⟨_, rfl, ?_⟩; replace HB := Aside0.mk (below_step bq hb); (try clear hb); (try clear hb2); (try clear hk); (try clear hi)) | ((with_reducible refine gate_callee (f := 20) rfl ?_); refine goesL_ (some 26) rfl rfl Tryd.func20 (by kernel_rfl) rfl #[.string t361, .string t362] rfl mq ?_; (with_reducible refine (decimal_DivMod.calls (hT := HT.out.below bq) kj2 t361 t362 t363 t364 t365 _ A14.out).mono ?_); rintro e w23 ⟨rfl, hb⟩; refine ⟨_, rfl, ?_⟩; replace HB := Aside0.mk (below_step bq hb); (try clear hb); (try clear hb2); (try clear hk); (try clear hi)))
              go_ret
              exact ⟨eq_, bq⟩
          · rw [if_neg c16] at H
            have c16b0 : (t363.toList == ([] : List UInt8)) = false := beq_eq_false_iff_ne.mpr c16
            have c16b1 : (t363.toList != ([] : List UInt8)) = true := bne_iff_ne.mpr c16
            obtain rfl := Option.some.inj H
            go_wp2_with (first | ((with_reducible refine gate_callee (f := 16) rfl ?_); refine goesL_ (some 20) rfl rfl Tryd.func16 (by kernel_rfl) rfl #[.slice A0 l0.length c0] rfl mq ?_; (with_reducible refine (schismalaw01_Make.calls kj2 _ _ l0 t361 _ ?side1 ?side2 A12.out).mono ?_); (case side1 => repeat (first | exact (Kd.C_below HR0.out HB.out) | (with_reducible refine Kd.C_alloc ?_ _) | (with_reducible refine Kd.C_drewN ?_ _) | (with_reducible refine Kd.C_drew ?_))); (case side2 => exact HC0.out); rintro e w24 ⟨rfl, hb⟩; refine ⟨_, rfl, ?_⟩; replace HB := Aside0.mk (below_step bq hb); (try clear hb); (try clear hb2); (try clear hk); (try clear hi)) | ((with_reducible refine gate_callee (f := 16) rfl ?_); refine goesL_ (some 22) rfl rfl Tryd.func16 (by kernel_rfl) rfl #[.slice A1 l1.length c1] rfl mq ?_; (with_reducible refine (schismalaw01_Make.calls kj2 _ _ l1 t362 _ ?side1 ?side2 A13.out).mono ?_); (case side1 => repeat (first | exact (Kd.C_below HR1.out HB.out) | (with_reducible refine Kd.C_alloc ?_ _) | (with_reducible refine Kd.C_drewN ?_ _) | (with_reducible refine Kd.C_drew ?_))); (case side2 => exact HC1.out); rintro e w25 ⟨rfl, hb⟩; refine ⟨_, rfl, ?_⟩; replace HB := Aside0.mk (below_step bq hb); (try clear hb); (try clear hb2); (try clear hk); (try clear hi)) | ((with_reducible refine gate_callee (f := 20) rfl ?_); refine goesL_ (some 26) rfl rfl Tryd.func20 (by kernel_rfl) rfl #[.string t361, .string t362] rfl mq ?_; (with_reducible refine (decimal_DivMod.calls (hT := HT.out.below bq) kj2 t361 t362 t363 t364 t365 _ A14.out).mono ?_); rintro e w26 ⟨rfl, hb⟩; refine ⟨_, rfl, ?_⟩; replace HB := Aside0.mk (below_step bq hb); (try clear hb); (try clear hb2); (try clear hk); (try clear hi)))
            go_ret
            exact ⟨eq_, bq⟩
        · rw [if_neg c15] at H
          have c15b0 : (t362.toList == ([48] : List UInt8)) = false := beq_eq_false_iff_ne.mpr c15
          have c15b1 : (t362.toList != ([48] : List UInt8)) = true := bne_iff_ne.mpr c15
          have HC27 := Aside0.mk H
          clear H
          go_upto_region 7 with (first | ((with_reducible refine gate_callee (f := 16) rfl ?_); refine goesL_ (some 20) rfl rfl Tryd.func16 (by kernel_rfl) rfl #[.slice A0 l0.length c0] rfl mq ?_; (with_reducible refine (schismalaw01_Make.calls kj2 _ _ l0 t361 _ ?side1 ?side2 A12.out).mono ?_); (case side1 => repeat (first | exact (Kd.C_below HR0.out HB.out) | (with_reducible refine Kd.C_alloc ?_ _) | (with_reducible refine Kd.C_drewN ?_ _) | (with_reducible refine Kd.C_drew ?_))); (case side2 => exact HC0.out); rintro e w28 ⟨rfl, hb⟩; refine ⟨_, rfl, ?_⟩; replace HB := Aside0.mk (below_step bq hb); (try clear hb); (try clear hb2); (try clear hk); (try clear hi)) | ((with_reducible refine gate_callee (f := 16) rfl ?_); refine goesL_ (some 22) rfl rfl Tryd.func16 (by kernel_rfl) rfl #[.slice A1 l1.length c1] rfl mq ?_; (with_reducible refine (schismalaw01_Make.calls kj2 _ _ l1 t362 _ ?side1 ?side2 A13.out).mono ?_); (case side1 => repeat (first | exact (Kd.C_below HR1.out HB.out) | (with_reducible refine Kd.C_alloc ?_ _) | (with_reducible refine Kd.C_drewN ?_ _) | (with_reducible refine Kd.C_drew ?_))); (case side2 => exact HC1.out); rintro e w29 ⟨rfl, hb⟩; refine ⟨_, rfl, ?_⟩; replace HB := Aside0.mk (below_step bq hb); (try clear hb); (try clear hb2); (try clear hk); (try clear hi)) | ((with_reducible refine gate_callee (f := 20) rfl ?_); refine goesL_ (some 26) rfl rfl Tryd.func20 (by kernel_rfl) rfl #[.string t361, .string t362] rfl mq ?_; (with_reducible refine (decimal_DivMod.calls (hT := HT.out.below bq) kj2 t361 t362 t363 t364 t365 _ A14.out).mono ?_); rintro e w30 ⟨rfl, hb⟩; refine ⟨_, rfl, ?_⟩; replace HB := Aside0.mk (below_step bq hb); (try clear hb); (try clear hb2); (try clear hk); (try clear hi)))
          (try simp only [Act.put, List.setIfInBounds_toArray, List.set_cons_zero, List.set_cons_succ])
          go_cut [63] (fun v63 wc => ∃ (kq : Nat) (x63_26 : Bool), v63 = .bool x63_26 ∧ Aside0 (schismalaw01_DecimalDivides.j1 kq t361 t362 t363 t364 x63_26 = some r) ∧ Aside0 (kq ≤ kj2) ∧ Aside0 (Below w.heap.size w wc))
          case first =>
            have H := HC27.out
            clear HC27
            by_cases c31 : t365 = 0
            · rw [if_pos c31] at H
              have c31b0 : (t365 == 0) = true := beq_iff_eq.mpr c31
              have c31b1 : (t365 != 0) = false := bne_eq_false_iff_eq.mpr c31
              clear c31
              (first | rw [c31b0] | (simp only [i64_w, i32_w]; rw [c31b0]) | skip)
              replace H := Option.bind_eq_some_iff.mp H
              obtain ⟨t366, A320, H⟩ := H
              replace H : (if t366 = true then ((schismaref01_Canonical.f kj2 t364).bind fun t367 => (if t367 = true then (if (t363.size : Int) > 120 then (schismalaw01_DecimalDivides.j1 kj2 t361 t362 t363 t364 true) else (schismalaw01_DecimalDivides.j1 kj2 t361 t362 t363 t364 (decide ((t364.size : Int) > 120)))) else (schismalaw01_DecimalDivides.j1 kj2 t361 t362 t363 t364 true))) else (schismalaw01_DecimalDivides.j1 kj2 t361 t362 t363 t364 true)) = some r := H
              have A32 := Aside0.mk A320
              clear A320
              by_cases c33 : t366 = true
              · subst c33
                have H1 : ((schismaref01_Canonical.f kj2 t364).bind fun t367 => (if t367 = true then (if (t363.size : Int) > 120 then (schismalaw01_DecimalDivides.j1 kj2 t361 t362 t363 t364 true) else (schismalaw01_DecimalDivides.j1 kj2 t361 t362 t363 t364 (decide ((t364.size : Int) > 120)))) else (schismalaw01_DecimalDivides.j1 kj2 t361 t362 t363 t364 true))) = some r := by rw [if_pos rfl] at H; exact H
                clear H
                have H := H1
                clear H1
                replace H := Option.bind_eq_some_iff.mp H
                obtain ⟨t367, A340, H⟩ := H
                replace H : (if t367 = true then (if (t363.size : Int) > 120 then (schismalaw01_DecimalDivides.j1 kj2 t361 t362 t363 t364 true) else (schismalaw01_DecimalDivides.j1 kj2 t361 t362 t363 t364 (decide ((t364.size : Int) > 120)))) else (schismalaw01_DecimalDivides.j1 kj2 t361 t362 t363 t364 true)) = some r := H
                have A34 := Aside0.mk A340
                clear A340
                by_cases c35 : t367 = true
                · subst c35
                  have H1 : (if (t363.size : Int) > 120 then (schismalaw01_DecimalDivides.j1 kj2 t361 t362 t363 t364 true) else (schismalaw01_DecimalDivides.j1 kj2 t361 t362 t363 t364 (decide ((t364.size : Int) > 120)))) = some r := by rw [if_pos rfl] at H; exact H
                  clear H
                  have H := H1
                  clear H1
                  by_cases c36 : (t363.size : Int) > 120
                  · rw [if_pos c36] at H
                    have c36b0 : decide (120 < (t363.size : Int)) = true := decide_eq_true c36
                    have c36b1 : decide (120 < t363.size) = true := decide_eq_true (by omega)
                    clear c36
                    have H' := Aside0.mk H
                    clear H
                    go_wp2_with (first | (go_at_call 21; (with_reducible refine (schismaref01_Canonical.calls kj2 t363 true _ A32.out).mono ?_); rintro e w' ⟨rfl, ⟨nd, rfl⟩⟩) | (go_at_call 21; (with_reducible refine (schismaref01_Canonical.calls kj2 t364 true _ A34.out).mono ?_); rintro e w' ⟨rfl, ⟨nd, rfl⟩⟩))
                    go_meet
                    case rel => exact ⟨_, (true), (by first | rfl | (simp; done) | (simp [*]; done)), H', ⟨by have := HJ2.out; first | omega | exact Nat.le_refl _⟩, ⟨bq⟩⟩
                  · rw [if_neg c36] at H
                    have c36b0 : decide (120 < (t363.size : Int)) = false := decide_eq_false c36
                    have c36b1 : decide (120 < t363.size) = false := decide_eq_false (by omega)
                    clear c36
                    have H' := Aside0.mk H
                    clear H
                    go_wp2_with (first | (go_at_call 21; (with_reducible refine (schismaref01_Canonical.calls kj2 t363 true _ A32.out).mono ?_); rintro e w' ⟨rfl, ⟨nd, rfl⟩⟩) | (go_at_call 21; (with_reducible refine (schismaref01_Canonical.calls kj2 t364 true _ A34.out).mono ?_); rintro e w' ⟨rfl, ⟨nd, rfl⟩⟩))
                    go_meet
                    case rel => exact ⟨_, (decide ((t364.size : Int) > 120)), (by first | rfl | (simp; done) | (simp [*]; done)), H', ⟨by have := HJ2.out; first | omega | exact Nat.le_refl _⟩, ⟨bq⟩⟩
                · replace c35 := Bool.eq_false_iff.mpr c35
                  subst c35
                  have H1 : (schismalaw01_DecimalDivides.j1 kj2 t361 t362 t363 t364 true) = some r := by rw [if_neg (show ¬ (false = true) by decide)] at H; exact H
                  clear H
                  have H := H1
                  clear H1
                  have H' := Aside0.mk H
                  clear H
                  go_wp2_with (first | (go_at_call 21; (with_reducible refine (schismaref01_Canonical.calls kj2 t363 true _ A32.out).mono ?_); rintro e w' ⟨rfl, ⟨nd, rfl⟩⟩) | (go_at_call 21; (with_reducible refine (schismaref01_Canonical.calls kj2 t364 false _ A34.out).mono ?_); rintro e w' ⟨rfl, ⟨nd, rfl⟩⟩))
                  go_meet
                  case rel => exact ⟨_, (true), (by first | rfl | (simp; done) | (simp [*]; done)), H', ⟨by have := HJ2.out; first | omega | exact Nat.le_refl _⟩, ⟨bq⟩⟩
              · replace c33 := Bool.eq_false_iff.mpr c33
                subst c33
                have H1 : (schismalaw01_DecimalDivides.j1 kj2 t361 t362 t363 t364 true) = some r := by rw [if_neg (show ¬ (false = true) by decide)] at H; exact H
                clear H
                have H := H1
                clear H1
                have H' := Aside0.mk H
                clear H
                go_wp2_with (first | (go_at_call 21; (with_reducible refine (schismaref01_Canonical.calls kj2 t363 false _ A32.out).mono ?_); rintro e w' ⟨rfl, ⟨nd, rfl⟩⟩))
                go_meet
                case rel => exact ⟨_, (true), (by first | rfl | (simp; done) | (simp [*]; done)), H', ⟨by have := HJ2.out; first | omega | exact Nat.le_refl _⟩, ⟨bq⟩⟩
            · rw [if_neg c31] at H
              have c31b0 : (t365 == 0) = false := beq_eq_false_iff_ne.mpr c31
              have c31b1 : (t365 != 0) = true := bne_iff_ne.mpr c31
              (first | rw [c31b0] | (simp only [i64_w, i32_w]; rw [c31b0]) | skip)
              have H' := Aside0.mk H
              clear H
              go_wp2
              go_meet
              case rel => exact ⟨_, (true), (by first | rfl | (simp; done) | (simp [*]; done)), H', ⟨by have := HJ2.out; first | omega | exact Nat.le_refl _⟩, ⟨bq⟩⟩
          case rest =>
            clear HC27
            try clear c1
            try clear c2
            try clear p2
            try clear c3
            try clear c4
            try clear c5
            try clear c9
            try clear c13
            try clear c15
            try clear c15b0
            try clear c15b1
            try clear c16
            try clear c16b0
            try clear c16b1
            try clear c17
            try clear c17b0
            try clear c17b1
            try clear c20
            try clear c31
            try clear c31b0
            try clear c31b1
            try clear c33
            try clear c35
            try clear c36
            try clear c36b0
            try clear c36b1
            try clear p2
            obtain ⟨kq, x63_26, rfl, HA, HJ26, HB⟩ := hcut
            cases kq with
            | zero => exact absurd HA.out (by simp [schismalaw01_DecimalDivides.j1])
            | succ kj26 =>
              have H := HA.out
              clear HA
              simp only [schismalaw01_DecimalDivides.j1] at H
              by_cases c37 : x63_26 = true
              · subst c37
                have H1 : (some false) = some r := by rw [if_pos rfl] at H; exact H
                clear H
                have H := H1
                clear H1
                obtain rfl := Option.some.inj H
                go_wp2
                go_ret
                exact ⟨eq_, bq⟩
              · replace c37 := Bool.eq_false_iff.mpr c37
                subst c37
                have H1 : ((schismaref01_Compare.f t364 t362).bind fun t368 => (if t368 < 0 then ((schismaref01_Mul.f kj26 t363 t362).bind fun t369 => ((schismaref01_Add.f kj26 t369 t364).bind fun t370 => (some (t370.toList == t361.toList)))) else (some false))) = some r := by rw [if_neg (show ¬ (false = true) by decide)] at H; exact H
                clear H
                have H := H1
                clear H1
                replace H := Option.bind_eq_some_iff.mp H
                obtain ⟨t368, A380, H⟩ := H
                replace H : (if t368 < 0 then ((schismaref01_Mul.f kj26 t363 t362).bind fun t369 => ((schismaref01_Add.f kj26 t369 t364).bind fun t370 => (some (t370.toList == t361.toList)))) else (some false)) = some r := H
                have A38 := Aside0.mk A380
                clear A380
                by_cases c39 : t368 < 0
                · rw [if_pos c39] at H
                  have c39b0 : decide (t368 < 0) = true := decide_eq_true c39
                  clear c39
                  replace H := Option.bind_eq_some_iff.mp H
                  obtain ⟨t369, A400, H⟩ := H
                  replace H : ((schismaref01_Add.f kj26 t369 t364).bind fun t370 => (some (t370.toList == t361.toList))) = some r := H
                  have A40 := Aside0.mk A400
                  clear A400
                  replace H := Option.bind_eq_some_iff.mp H
                  obtain ⟨t370, A410, H⟩ := H
                  replace H : (some (t370.toList == t361.toList)) = some r := H
                  have A41 := Aside0.mk A410
                  clear A410
                  obtain rfl := Option.some.inj H
                  go_wp2_with (first | ((with_reducible refine gate_callee (f := 22) rfl ?_); refine goesL_ (some 66) rfl rfl Tryd.func22 (by kernel_rfl) rfl #[.string t364, .string t362] rfl mq ?_; (with_reducible refine (schismaref01_Compare.calls t364 t362 t368 _ A38.out).mono ?_); rintro e w' ⟨rfl, ⟨nd, rfl⟩⟩; refine ⟨_, rfl, ?_⟩) | (go_at_call 24; (with_reducible refine (schismaref01_Mul.calls kj26 t363 t362 t369 _ A40.out).mono ?_); rintro e w42 ⟨rfl, hb⟩; replace HB := Aside0.mk (below_step bq hb); (try clear hb); (try clear hb2); (try clear hk); (try clear hi)) | (go_at_call 23; (with_reducible refine (schismaref01_Add.calls kj26 t369 t364 t370 _ A41.out).mono ?_); rintro e w43 ⟨rfl, hb⟩; replace HB := Aside0.mk (below_step bq hb); (try clear hb); (try clear hb2); (try clear hk); (try clear hi)))
                  go_ret
                  exact ⟨eq_, bq⟩
                · rw [if_neg c39] at H
                  have c39b0 : decide (t368 < 0) = false := decide_eq_false c39
                  clear c39
                  obtain rfl := Option.some.inj H
                  go_wp2_with (first | ((with_reducible refine gate_callee (f := 22) rfl ?_); refine goesL_ (some 66) rfl rfl Tryd.func22 (by kernel_rfl) rfl #[.string t364, .string t362] rfl mq ?_; (with_reducible refine (schismaref01_Compare.calls t364 t362 t368 _ A38.out).mono ?_); rintro e w' ⟨rfl, ⟨nd, rfl⟩⟩; refine ⟨_, rfl, ?_⟩))
                  go_ret
                  exact ⟨eq_, bq⟩
def schismalaw01_DecimalDivides.Pure : Prop := ∀ (l0 : List Int) (l1 : List Int), l0.length ≤ maxLen → l0.length * 1 ≤ 140737488351232 → (∀ x ∈ l0, (Lit.int .u8 x).wf = true) → l1.length ≤ maxLen → l1.length * 1 ≤ 140737488351232 → (∀ x ∈ l1, (Lit.int .u8 x).wf = true) → ∃ k, schismalaw01_DecimalDivides.f k l0 l1 = some true
theorem schismalaw01_DecimalDivides.walk (P : schismalaw01_DecimalDivides.Pure) (a0 : Option Addr) (len0 cap0 : Nat) (z0 : List Int) (a1 : Option Addr) (len1 cap1 : Nat) (z1 : List Int) (w : World) (w0 : (a0 = none ∧ len0 = 0 ∧ cap0 = 0 ∧ z0 = []) ∨ ∃ x, a0 = some x ∧ len0 ≤ cap0 ∧ cap0 ≤ maxLen ∧ z0.length = cap0 ∧ (∀ i, i < z0.length → w.cell? (x.add i) = some (.int .u8 (z0.getD i 0))) ∧ ∀ n ∈ z0, (Lit.int .u8 n).wf = true) (y0 : len0 * 1 ≤ 140737488351232) (w1 : (a1 = none ∧ len1 = 0 ∧ cap1 = 0 ∧ z1 = []) ∨ ∃ x, a1 = some x ∧ len1 ≤ cap1 ∧ cap1 ≤ maxLen ∧ z1.length = cap1 ∧ (∀ i, i < z1.length → w.cell? (x.add i) = some (.int .u8 (z1.getD i 0))) ∧ ∀ n ∈ z1, (Lit.int .u8 n).wf = true) (y1 : len1 * 1 ≤ 140737488351232) (hT : Tab w) :
    Calls Tryd.prog 4 #[.slice a0 len0 cap0, .slice a1 len1 cap1] w fun e w' => e = .returned (.bool true) ∧ Below w.heap.size w w' := by
  obtain ⟨l0, rfl, hr0, hm0, hw0, hc0⟩ := ReadsInt.ofRowC w0
  obtain ⟨l1, rfl, hr1, hm1, hw1, hc1⟩ := ReadsInt.ofRowC w1
  obtain ⟨k, h⟩ := P l0 l1 hm0 y0 hw0 hm1 y1 hw1
  refine (schismalaw01_DecimalDivides.calls (hT := hT) k _ _ l0 _ _ l1 true w (Kd.C_of_reads (d := (0 : Int)) (h1 := fun _ => rfl) hr0) hc0 (Kd.C_of_reads (d := (0 : Int)) (h1 := fun _ => rfl) hr1) hc1 h).mono ?_
  rintro e w' ⟨rfl, hd⟩
  exact ⟨rfl, hd⟩
end Go.Proofs.YtcfddphiflmnlaaDoor.P
