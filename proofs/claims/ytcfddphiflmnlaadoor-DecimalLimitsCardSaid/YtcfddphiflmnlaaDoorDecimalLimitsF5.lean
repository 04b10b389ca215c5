/- Functions of the program, as functions of Lean, and the walks that show that the code answers as they do: written by a program. Conditions: those of each theorem. -/
import Derived.Test.YtcfddphiflmnlaaDoorDecimalLimitsF4
namespace Go.Proofs.YtcfddphiflmnlaaDoor.P
open Go.RowKit Go.Proofs.YtcfddphiflmnlaaDoorW.PrintWords Go.Proofs.YtcfddphiflmnlaaDoorW.PrintLast Go.Proofs.YtcfddphiflmnlaaDoorW.PrintMore
attribute [local go_sem] gtr_text max2_int min2_int max_two min_two max_three min_three max_four min_four
set_option linter.unusedVariables false
set_option linter.unusedSimpArgs false
def schismalaw01_known.f (k : Nat)  : Option (Bool) := (decimal_DivMod.f k (⟨#[49, 48, 48, 48, 48, 48, 48, 48, 48, 48, 48, 48, 48, 48, 48, 48, 48, 48, 48, 48, 48, 48]⟩ : ByteArray) (⟨#[55]⟩ : ByteArray)).bind fun bt281 => ((decimal_Small.f (⟨#[49, 56, 52, 52, 54, 55, 52, 52, 48, 55, 51, 55, 48, 57, 53, 53, 49, 54, 49, 54]⟩ : ByteArray)).bind fun bt284 => ((decimal_Power.f k (⟨#[50]⟩ : ByteArray) 64).bind fun bt286 => (if bt281.2.2 = 0 then (if bt281.1.toList = ([49, 52, 50, 56, 53, 55, 49, 52, 50, 56, 53, 55, 49, 52, 50, 56, 53, 55, 49, 52, 50] : List UInt8) then (if bt281.2.1.toList = ([54] : List UInt8) then (if bt284.2 = true then (some false) else (if bt286.2 = 0 then (if bt286.1.toList = ([49, 56, 52, 52, 54, 55, 52, 52, 48, 55, 51, 55, 48, 57, 53, 53, 49, 54, 49, 54] : List UInt8) then ((decimal_Bits.f k (⟨#[50, 53, 53]⟩ : ByteArray)).bind fun t288 => (if t288 = 8 then ((decimal_Bits.f k (⟨#[50, 53, 54]⟩ : ByteArray)).bind fun t289 => (if t289 = 9 then ((decimal_Canonical.f k (⟨#[48, 48, 55]⟩ : ByteArray)).bind fun t290 => (some (!t290))) else (some false))) else (some false))) else (some false)) else (some false))) else (some false)) else (some false)) else (some false))))
theorem schismalaw01_known.mono : ∀ k, LeO (schismalaw01_known.f k ) (schismalaw01_known.f (k + 1) ) := by
  intro  k
  unfold schismalaw01_known.f
  repeat' first
      | (with_reducible exact decimal_Bits.mono _ _)
      | (with_reducible exact decimal_Canonical.mono _ _)
      | (with_reducible exact decimal_DivMod.mono _ _ _)
      | (with_reducible exact decimal_Power.mono _ _ _)
      | (with_reducible exact LeO.refl _)
      | (with_reducible exact LeO.none _)
      | (with_reducible refine LeO.ite ?_ ?_)
      | (with_reducible refine LeO.bind ?_ (fun _ => ?_))
      | exact decimal_Bits.mono _ _
      | exact decimal_Canonical.mono _ _
      | exact decimal_DivMod.mono _ _ _
      | exact decimal_Power.mono _ _ _
      | exact LeO.none _
      | refine LeO.ite ?_ ?_
      | refine LeO.bind ?_ (fun _ => ?_)
set_option maxHeartbeats 8000000 in
set_option maxRecDepth 100000 in
theorem schismalaw01_known.calls (k : Nat)  (r : Bool) (w : World) (hT : Tab w) (h : schismalaw01_known.f k  = some r) :
    Calls Tryd.prog 13 #[] w fun e w' => e = .returned (.bool r) ∧ Below w.heap.size w w' := by
  have HT := Aside0.mk hT
  clear hT
  have HB := Aside0.mk (Below.refl w.heap.size w)
  have H : ((decimal_DivMod.f k (⟨#[49, 48, 48, 48, 48, 48, 48, 48, 48, 48, 48, 48, 48, 48, 48, 48, 48, 48, 48, 48, 48, 48]⟩ : ByteArray) (⟨#[55]⟩ : ByteArray)).bind fun bt281 => ((decimal_Small.f (⟨#[49, 56, 52, 52, 54, 55, 52, 52, 48, 55, 51, 55, 48, 57, 53, 53, 49, 54, 49, 54]⟩ : ByteArray)).bind fun bt284 => ((decimal_Power.f k (⟨#[50]⟩ : ByteArray) 64).bind fun bt286 => (if bt281.2.2 = 0 then (if bt281.1.toList = ([49, 52, 50, 56, 53, 55, 49, 52, 50, 56, 53, 55, 49, 52, 50, 56, 53, 55, 49, 52, 50] : List UInt8) then (if bt281.2.1.toList = ([54] : List UInt8) then (if bt284.2 = true then (some false) else (if bt286.2 = 0 then (if bt286.1.toList = ([49, 56, 52, 52, 54, 55, 52, 52, 48, 55, 51, 55, 48, 57, 53, 53, 49, 54, 49, 54] : List UInt8) then ((decimal_Bits.f k (⟨#[50, 53, 53]⟩ : ByteArray)).bind fun t288 => (if t288 = 8 then ((decimal_Bits.f k (⟨#[50, 53, 54]⟩ : ByteArray)).bind fun t289 => (if t289 = 9 then ((decimal_Canonical.f k (⟨#[48, 48, 55]⟩ : ByteArray)).bind fun t290 => (some (!t290))) else (some false))) else (some false))) else (some false)) else (some false))) else (some false)) else (some false)) else (some false))))) = some r := h
  clear h
  replace H := Option.bind_eq_some_iff.mp H
  obtain ⟨⟨t281, t282, t283⟩, A10, H⟩ := H
  replace H : ((decimal_Small.f (⟨#[49, 56, 52, 52, 54, 55, 52, 52, 48, 55, 51, 55, 48, 57, 53, 53, 49, 54, 49, 54]⟩ : ByteArray)).bind fun bt284 => ((decimal_Power.f k (⟨#[50]⟩ : ByteArray) 64).bind fun bt286 => (if t283 = 0 then (if t281.toList = ([49, 52, 50, 56, 53, 55, 49, 52, 50, 56, 53, 55, 49, 52, 50, 56, 53, 55, 49, 52, 50] : List UInt8) then (if t282.toList = ([54] : List UInt8) then (if bt284.2 = true then (some false) else (if bt286.2 = 0 then (if bt286.1.toList = ([49, 56, 52, 52, 54, 55, 52, 52, 48, 55, 51, 55, 48, 57, 53, 53, 49, 54, 49, 54] : List UInt8) then ((decimal_Bits.f k (⟨#[50, 53, 53]⟩ : ByteArray)).bind fun t288 => (if t288 = 8 then ((decimal_Bits.f k (⟨#[50, 53, 54]⟩ : ByteArray)).bind fun t289 => (if t289 = 9 then ((decimal_Canonical.f k (⟨#[48, 48, 55]⟩ : ByteArray)).bind fun t290 => (some (!t290))) else (some false))) else (some false))) else (some false)) else (some false))) else (some false)) else (some false)) else (some false)))) = some r := H
  have A1 := Aside0.mk A10
  clear A10
  replace H := Option.bind_eq_some_iff.mp H
  obtain ⟨⟨t284, t285⟩, A20, H⟩ := H
  replace H : ((decimal_Power.f k (⟨#[50]⟩ : ByteArray) 64).bind fun bt286 => (if t283 = 0 then (if t281.toList = ([49, 52, 50, 56, 53, 55, 49, 52, 50, 56, 53, 55, 49, 52, 50, 56, 53, 55, 49, 52, 50] : List UInt8) then (if t282.toList = ([54] : List UInt8) then (if t285 = true then (some false) else (if bt286.2 = 0 then (if bt286.1.toList = ([49, 56, 52, 52, 54, 55, 52, 52, 48, 55, 51, 55, 48, 57, 53, 53, 49, 54, 49, 54] : List UInt8) then ((decimal_Bits.f k (⟨#[50, 53, 53]⟩ : ByteArray)).bind fun t288 => (if t288 = 8 then ((decimal_Bits.f k (⟨#[50, 53, 54]⟩ : ByteArray)).bind fun t289 => (if t289 = 9 then ((decimal_Canonical.f k (⟨#[48, 48, 55]⟩ : ByteArray)).bind fun t290 => (some (!t290))) else (some false))) else (some false))) else (some false)) else (some false))) else (some false)) else (some false)) else (some false))) = some r := H
  have A2 := Aside0.mk A20
  clear A20
  replace H := Option.bind_eq_some_iff.mp H
  obtain ⟨⟨t286, t287⟩, A30, H⟩ := H
  replace H : (if t283 = 0 then (if t281.toList = ([49, 52, 50, 56, 53, 55, 49, 52, 50, 56, 53, 55, 49, 52, 50, 56, 53, 55, 49, 52, 50] : List UInt8) then (if t282.toList = ([54] : List UInt8) then (if t285 = true then (some false) else (if t287 = 0 then (if t286.toList = ([49, 56, 52, 52, 54, 55, 52, 52, 48, 55, 51, 55, 48, 57, 53, 53, 49, 54, 49, 54] : List UInt8) then ((decimal_Bits.f k (⟨#[50, 53, 53]⟩ : ByteArray)).bind fun t288 => (if t288 = 8 then ((decimal_Bits.f k (⟨#[50, 53, 54]⟩ : ByteArray)).bind fun t289 => (if t289 = 9 then ((decimal_Canonical.f k (⟨#[48, 48, 55]⟩ : ByteArray)).bind fun t290 => (some (!t290))) else (some false))) else (some false))) else (some false)) else (some false))) else (some false)) else (some false)) else (some false)) = some r := H
  have A3 := Aside0.mk A30
  clear A30
  by_cases c4 : t283 = 0
  · rw [if_pos c4] at H
    have c4b0 : (t283 == 0) = true := beq_iff_eq.mpr c4
    have c4b1 : (t283 != 0) = false := bne_eq_false_iff_eq.mpr c4
    clear c4
    by_cases c5 : t281.toList = ([49, 52, 50, 56, 53, 55, 49, 52, 50, 56, 53, 55, 49, 52, 50, 56, 53, 55, 49, 52, 50] : List UInt8)
    · rw [if_pos c5] at H
      have c5b0 : (t281.toList == ([49, 52, 50, 56, 53, 55, 49, 52, 50, 56, 53, 55, 49, 52, 50, 56, 53, 55, 49, 52, 50] : List UInt8)) = true := beq_iff_eq.mpr c5
      have c5b1 : (t281.toList != ([49, 52, 50, 56, 53, 55, 49, 52, 50, 56, 53, 55, 49, 52, 50, 56, 53, 55, 49, 52, 50] : List UInt8)) = false := bne_eq_false_iff_eq.mpr c5
      clear c5
      by_cases c6 : t282.toList = ([54] : List UInt8)
      · rw [if_pos c6] at H
        have c6b0 : (t282.toList == ([54] : List UInt8)) = true := beq_iff_eq.mpr c6
        have c6b1 : (t282.toList != ([54] : List UInt8)) = false := bne_eq_false_iff_eq.mpr c6
        clear c6
        by_cases c7 : t285 = true
        · subst c7
          have H1 : (some false) = some r := by rw [if_pos rfl] at H; exact H
          clear H
          have H := H1
          clear H1
          obtain rfl := Option.some.inj H
          go_enter Tryd.func13, Tryd.ntmps13
          go_wp2_with (first | ((with_reducible refine gate_callee (f := 20) rfl ?_); refine goesL_ (some 9) rfl rfl Tryd.func20 (by kernel_rfl) rfl #[.string (⟨#[49, 48, 48, 48, 48, 48, 48, 48, 48, 48, 48, 48, 48, 48, 48, 48, 48, 48, 48, 48, 48, 48]⟩ : ByteArray), .string (⟨#[55]⟩ : ByteArray)] rfl mq ?_; (with_reducible refine (decimal_DivMod.calls (hT := HT.out.below bq) k (⟨#[49, 48, 48, 48, 48, 48, 48, 48, 48, 48, 48, 48, 48, 48, 48, 48, 48, 48, 48, 48, 48, 48]⟩ : ByteArray) (⟨#[55]⟩ : ByteArray) t281 t282 t283 _ A1.out).mono ?_); rintro e w8 ⟨rfl, hb⟩; refine ⟨_, rfl, ?_⟩; replace HB := Aside0.mk (below_step bq hb); (try clear hb); (try clear hb2); (try clear hk); (try clear hi)) | ((with_reducible refine gate_callee (f := 15) rfl ?_); refine goesL_ (some 14) rfl rfl Tryd.func15 (by kernel_rfl) rfl #[.string (⟨#[49, 56, 52, 52, 54, 55, 52, 52, 48, 55, 51, 55, 48, 57, 53, 53, 49, 54, 49, 54]⟩ : ByteArray)] rfl mq ?_; (with_reducible refine (decimal_Small.calls (hT := HT.out.below bq) (⟨#[49, 56, 52, 52, 54, 55, 52, 52, 48, 55, 51, 55, 48, 57, 53, 53, 49, 54, 49, 54]⟩ : ByteArray) t284 true _ A2.out).mono ?_); rintro e w9 ⟨rfl, hb⟩; refine ⟨_, rfl, ?_⟩; replace HB := Aside0.mk (below_step bq hb); (try clear hb); (try clear hb2); (try clear hk); (try clear hi)) | ((with_reducible refine gate_callee (f := 25) rfl ?_); refine goesL_ (some 18) rfl rfl Tryd.func25 (by kernel_rfl) rfl #[.string (⟨#[50]⟩ : ByteArray), .int .i64 64] rfl mq ?_; (with_reducible refine (decimal_Power.calls (hT := HT.out.below bq) k (⟨#[50]⟩ : ByteArray) 64 t286 t287 _ A3.out).mono ?_); rintro e w10 ⟨rfl, hb⟩; refine ⟨_, rfl, ?_⟩; replace HB := Aside0.mk (below_step bq hb); (try clear hb); (try clear hb2); (try clear hk); (try clear hi)))
          go_ret
          exact ⟨eq_, bq⟩
        · replace c7 := Bool.eq_false_iff.mpr c7
          subst c7
          have H1 : (if t287 = 0 then (if t286.toList = ([49, 56, 52, 52, 54, 55, 52, 52, 48, 55, 51, 55, 48, 57, 53, 53, 49, 54, 49, 54] : List UInt8) then ((decimal_Bits.f k (⟨#[50, 53, 53]⟩ : ByteArray)).bind fun t288 => (if t288 = 8 then ((decimal_Bits.f k (⟨#[50, 53, 54]⟩ : ByteArray)).bind fun t289 => (if t289 = 9 then ((decimal_Canonical.f k (⟨#[48, 48, 55]⟩ : ByteArray)).bind fun t290 => (some (!t290))) else (some false))) else (some false))) else (some false)) else (some false)) = some r := by rw [if_neg (show ¬ (false = true) by decide)] at H; exact H
          clear H
          have H := H1
          clear H1
          by_cases c11 : t287 = 0
          · rw [if_pos c11] at H
            have c11b0 : (t287 == 0) = true := beq_iff_eq.mpr c11
            have c11b1 : (t287 != 0) = false := bne_eq_false_iff_eq.mpr c11
            clear c11
            by_cases c12 : t286.toList = ([49, 56, 52, 52, 54, 55, 52, 52, 48, 55, 51, 55, 48, 57, 53, 53, 49, 54, 49, 54] : List UInt8)
            · rw [if_pos c12] at H
              have c12b0 : (t286.toList == ([49, 56, 52, 52, 54, 55, 52, 52, 48, 55, 51, 55, 48, 57, 53, 53, 49, 54, 49, 54] : List UInt8)) = true := beq_iff_eq.mpr c12
              have c12b1 : (t286.toList != ([49, 56, 52, 52, 54, 55, 52, 52, 48, 55, 51, 55, 48, 57, 53, 53, 49, 54, 49, 54] : List UInt8)) = false := bne_eq_false_iff_eq.mpr c12
              clear c12
              replace H := Option.bind_eq_some_iff.mp H
              obtain ⟨t288, A130, H⟩ := H
              replace H : (if t288 = 8 then ((decimal_Bits.f k (⟨#[50, 53, 54]⟩ : ByteArray)).bind fun t289 => (if t289 = 9 then ((decimal_Canonical.f k (⟨#[48, 48, 55]⟩ : ByteArray)).bind fun t290 => (some (!t290))) else (some false))) else (some false)) = some r := H
              have A13 := Aside0.mk A130
              clear A130
              by_cases c14 : t288 = 8
              · rw [if_pos c14] at H
                have c14b0 : (t288 == 8) = true := beq_iff_eq.mpr c14
                have c14b1 : (t288 != 8) = false := bne_eq_false_iff_eq.mpr c14
                clear c14
                replace H := Option.bind_eq_some_iff.mp H
                obtain ⟨t289, A150, H⟩ := H
                replace H : (if t289 = 9 then ((decimal_Canonical.f k (⟨#[48, 48, 55]⟩ : ByteArray)).bind fun t290 => (some (!t290))) else (some false)) = some r := H
                have A15 := Aside0.mk A150
                clear A150
                by_cases c16 : t289 = 9
                · rw [if_pos c16] at H
                  have c16b0 : (t289 == 9) = true := beq_iff_eq.mpr c16
                  have c16b1 : (t289 != 9) = false := bne_eq_false_iff_eq.mpr c16
                  clear c16
                  replace H := Option.bind_eq_some_iff.mp H
                  obtain ⟨t290, A170, H⟩ := H
                  replace H : (some (!t290)) = some r := H
                  have A17 := Aside0.mk A170
                  clear A170
                  obtain rfl := Option.some.inj H
                  go_enter Tryd.func13, Tryd.ntmps13
                  go_wp2_with (first | ((with_reducible refine gate_callee (f := 20) rfl ?_); refine goesL_ (some 9) rfl rfl Tryd.func20 (by kernel_rfl) rfl #[.string (⟨#[49, 48, 48, 48, 48, 48, 48, 48, 48, 48, 48, 48, 48, 48, 48, 48, 48, 48, 48, 48, 48, 48]⟩ : ByteArray), .string (⟨#[55]⟩ : ByteArray)] rfl mq ?_; (with_reducible refine (decimal_DivMod.calls (hT := HT.out.below bq) k (⟨#[49, 48, 48, 48, 48, 48, 48, 48, 48, 48, 48, 48, 48, 48, 48, 48, 48, 48, 48, 48, 48, 48]⟩ : ByteArray) (⟨#[55]⟩ : ByteArray) t281 t282 t283 _ A1.out).mono ?_); rintro e w18 ⟨rfl, hb⟩; refine ⟨_, rfl, ?_⟩; replace HB := Aside0.mk (below_step bq hb); (try clear hb); (try clear hb2); (try clear hk); (try clear hi)) | ((with_reducible refine gate_callee (f := 15) rfl ?_); refine goesL_ (some 14) rfl rfl Tryd.func15 (by kernel_rfl) rfl #[.string (⟨#[49, 56, 52, 52, 54, 55, 52, 52, 48, 55, 51, 55, 48, 57, 53, 53, 49, 54, 49, 54]⟩ : ByteArray)] rfl mq ?_; (with_reducible refine (decimal_Small.calls (hT := HT.out.below bq) (⟨#[49, 56, 52, 52, 54, 55, 52, 52, 48, 55, 51, 55, 48, 57, 53, 53, 49, 54, 49, 54]⟩ : ByteArray) t284 false _ A2.out).mono ?_); rintro e w19 ⟨rfl, hb⟩; refine ⟨_, rfl, ?_⟩; replace HB := Aside0.mk (below_step bq hb); (try clear hb); (try clear hb2); (try clear hk); (try clear hi)) | ((with_reducible refine gate_callee (f := 25) rfl ?_); refine goesL_ (some 18) rfl rfl Tryd.func25 (by kernel_rfl) rfl #[.string (⟨#[50]⟩ : ByteArray), .int .i64 64] rfl mq ?_; (with_reducible refine (decimal_Power.calls (hT := HT.out.below bq) k (⟨#[50]⟩ : ByteArray) 64 t286 t287 _ A3.out).mono ?_); rintro e w20 ⟨rfl, hb⟩; refine ⟨_, rfl, ?_⟩; replace HB := Aside0.mk (below_step bq hb); (try clear hb); (try clear hb2); (try clear hk); (try clear hi)) | (go_at_call 31; (with_reducible refine (decimal_Bits.calls (hT := HT.out.below bq) k (⟨#[50, 53, 53]⟩ : ByteArray) t288 _ A13.out).mono ?_); rintro e w21 ⟨rfl, hb⟩; replace HB := Aside0.mk (below_step bq hb); (try clear hb); (try clear hb2); (try clear hk); (try clear hi)) | (go_at_call 31; (with_reducible refine (decimal_Bits.calls (hT := HT.out.below bq) k (⟨#[50, 53, 54]⟩ : ByteArray) t289 _ A15.out).mono ?_); rintro e w22 ⟨rfl, hb⟩; replace HB := Aside0.mk (below_step bq hb); (try clear hb); (try clear hb2); (try clear hk); (try clear hi)) | (go_at_call 28; (with_reducible refine (decimal_Canonical.calls k (⟨#[48, 48, 55]⟩ : ByteArray) t290 _ A17.out).mono ?_); rintro e w23 ⟨rfl, hb⟩; replace HB := Aside0.mk (below_step bq hb); (try clear hb); (try clear hb2); (try clear hk); (try clear hi)))
                  go_ret
                  exact ⟨eq_, bq⟩
                · rw [if_neg c16] at H
                  have c16b0 : (t289 == 9) = false := beq_eq_false_iff_ne.mpr c16
                  have c16b1 : (t289 != 9) = true := bne_iff_ne.mpr c16
                  obtain rfl := Option.some.inj H
                  go_enter Tryd.func13, Tryd.ntmps13
                  go_wp2_with (first | ((with_reducible refine gate_callee (f := 20) rfl ?_); refine goesL_ (some 9) rfl rfl Tryd.func20 (by kernel_rfl) rfl #[.string (⟨#[49, 48, 48, 48, 48, 48, 48, 48, 48, 48, 48, 48, 48, 48, 48, 48, 48, 48, 48, 48, 48, 48]⟩ : ByteArray), .string (⟨#[55]⟩ : ByteArray)] rfl mq ?_; (with_reducible refine (decimal_DivMod.calls (hT := HT.out.below bq) k (⟨#[49, 48, 48, 48, 48, 48, 48, 48, 48, 48, 48, 48, 48, 48, 48, 48, 48, 48, 48, 48, 48, 48]⟩ : ByteArray) (⟨#[55]⟩ : ByteArray) t281 t282 t283 _ A1.out).mono ?_); rintro e w24 ⟨rfl, hb⟩; refine ⟨_, rfl, ?_⟩; replace HB := Aside0.mk (below_step bq hb); (try clear hb); (try clear hb2); (try clear hk); (try clear hi)) | ((with_reducible refine gate_callee (f := 15) rfl ?_); refine goesL_ (some 14) rfl rfl Tryd.func15 (by kernel_rfl) rfl #[.string (⟨#[49, 56, 52, 52, 54, 55, 52, 52, 48, 55, 51, 55, 48, 57, 53, 53, 49, 54, 49, 54]⟩ : ByteArray)] rfl mq ?_; (with_reducible refine (decimal_Small.calls (hT := HT.out.below bq) (⟨#[49, 56, 52, 52, 54, 55, 52, 52, 48, 55, 51, 55, 48, 57, 53, 53, 49, 54, 49, 54]⟩ : ByteArray) t284 false _ A2.out).mono ?_); rintro e w25 ⟨rfl, hb⟩; refine ⟨_, rfl, ?_⟩; replace HB := Aside0.mk (below_step bq hb); (try clear hb); (try clear hb2); (try clear hk); (try clear hi)) | ((with_reducible refine gate_callee (f := 25) rfl ?_); refine goesL_ (some 18) rfl rfl Tryd.func25 (by kernel_rfl) rfl #[.string (⟨#[50]⟩ : ByteArray), .int .i64 64] rfl mq ?_; (with_reducible refine (decimal_Power.calls (hT := HT.out.below bq) k (⟨#[50]⟩ : ByteArray) 64 t286 t287 _ A3.out).mono ?_); rintro e w26 ⟨rfl, hb⟩; refine ⟨_, rfl, ?_⟩; replace HB := Aside0.mk (below_step bq hb); (try clear hb); (try clear hb2); (try clear hk); (try clear hi)) | (go_at_call 31; (with_reducible refine (decimal_Bits.calls (hT := HT.out.below bq) k (⟨#[50, 53, 53]⟩ : ByteArray) t288 _ A13.out).mono ?_); rintro e w27 ⟨rfl, hb⟩; replace HB := Aside0.mk (below_step bq hb); (try clear hb); (try clear hb2); (try clear hk); (try clear hi)) | (go_at_call 31; (with_reducible refine (decimal_Bits.calls (hT := HT.out.below bq) k (⟨#[50, 53, 54]⟩ : ByteArray) t289 _ A15.out).mono ?_); rintro e w28 ⟨rfl, hb⟩; replace HB := Aside0.mk (below_step bq hb); (try clear hb); (try clear hb2); (try clear hk); (try clear hi)))
                  go_ret
                  exact ⟨eq_, bq⟩
              · rw [if_neg c14] at H
                have c14b0 : (t288 == 8) = false := beq_eq_false_iff_ne.mpr c14
                have c14b1 : (t288 != 8) = true := bne_iff_ne.mpr c14
                obtain rfl := Option.some.inj H
                go_enter Tryd.func13, Tryd.ntmps13
                go_wp2_with (first | ((with_reducible refine gate_callee (f := 20) rfl ?_); refine goesL_ (some 9) rfl rfl Tryd.func20 (by kernel_rfl) rfl #[.string (⟨#[49, 48, 48, 48, 48, 48, 48, 48, 48, 48, 48, 48, 48, 48, 48, 48, 48, 48, 48, 48, 48, 48]⟩ : ByteArray), .string (⟨#[55]⟩ : ByteArray)] rfl mq ?_; (with_reducible refine (decimal_DivMod.calls (hT := HT.out.below bq) k (⟨#[49, 48, 48, 48, 48, 48, 48, 48, 48, 48, 48, 48, 48, 48, 48, 48, 48, 48, 48, 48, 48, 48]⟩ : ByteArray) (⟨#[55]⟩ : ByteArray) t281 t282 t283 _ A1.out).mono ?_); rintro e w29 ⟨rfl, hb⟩; refine ⟨_, rfl, ?_⟩; replace HB := Aside0.mk (below_step bq hb); (try clear hb); (try clear hb2); (try clear hk); (try clear hi)) | ((with_reducible refine gate_callee (f := 15) rfl ?_); refine goesL_ (some 14) rfl rfl Tryd.func15 (by kernel_rfl) rfl #[.string (⟨#[49, 56, 52, 52, 54, 55, 52, 52, 48, 55, 51, 55, 48, 57, 53, 53, 49, 54, 49, 54]⟩ : ByteArray)] rfl mq ?_; (with_reducible refine (decimal_Small.calls (hT := HT.out.below bq) (⟨#[49, 56, 52, 52, 54, 55, 52, 52, 48, 55, 51, 55, 48, 57, 53, 53, 49, 54, 49, 54]⟩ : ByteArray) t284 false _ A2.out).mono ?_); rintro e w30 ⟨rfl, hb⟩; refine ⟨_, rfl, ?_⟩; replace HB := Aside0.mk (below_step bq hb); (try clear hb); (try clear hb2); (try clear hk); (try clear hi)) | ((with_reducible refine gate_callee (f := 25) rfl ?_); refine goesL_ (some 18) rfl rfl Tryd.func25 (by kernel_rfl) rfl #[.string (⟨#[50]⟩ : ByteArray), .int .i64 64] rfl mq ?_; (with_reducible refine (decimal_Power.calls (hT := HT.out.below bq) k (⟨#[50]⟩ : ByteArray) 64 t286 t287 _ A3.out).mono ?_); rintro e w31 ⟨rfl, hb⟩; refine ⟨_, rfl, ?_⟩; replace HB := Aside0.mk (below_step bq hb); (try clear hb); (try clear hb2); (try clear hk); (try clear hi)) | (go_at_call 31; (with_reducible refine (decimal_Bits.calls (hT := HT.out.below bq) k (⟨#[50, 53, 53]⟩ : ByteArray) t288 _ A13.out).mono ?_); rintro e w32 ⟨rfl, hb⟩; replace HB := Aside0.mk (below_step bq hb); (try clear hb); (try clear hb2); (try clear hk); (try clear hi)))
                go_ret
                exact ⟨eq_, bq⟩
            · rw [if_neg c12] at H
              have c12b0 : (t286.toList == ([49, 56, 52, 52, 54, 55, 52, 52, 48, 55, 51, 55, 48, 57, 53, 53, 49, 54, 49, 54] : List UInt8)) = false := beq_eq_false_iff_ne.mpr c12
              have c12b1 : (t286.toList != ([49, 56, 52, 52, 54, 55, 52, 52, 48, 55, 51, 55, 48, 57, 53, 53, 49, 54, 49, 54] : List UInt8)) = true := bne_iff_ne.mpr c12
              obtain rfl := Option.some.inj H
              go_enter Tryd.func13, Tryd.ntmps13
              go_wp2_with (first | ((with_reducible refine gate_callee (f := 20) rfl ?_); refine goesL_ (some 9) rfl rfl Tryd.func20 (by kernel_rfl) rfl #[.string (⟨#[49, 48, 48, 48, 48, 48, 48, 48, 48, 48, 48, 48, 48, 48, 48, 48, 48, 48, 48, 48, 48, 48]⟩ : ByteArray), .string (⟨#[55]⟩ : ByteArray)] rfl mq ?_; (with_reducible refine (decimal_DivMod.calls (hT := HT.out.below bq) k (⟨#[49, 48, 48, 48, 48, 48, 48, 48, 48, 48, 48, 48, 48, 48, 48, 48, 48, 48, 48, 48, 48, 48]⟩ : ByteArray) (⟨#[55]⟩ : ByteArray) t281 t282 t283 _ A1.out).mono ?_); rintro e w33 ⟨rfl, hb⟩; refine ⟨_, rfl, ?_⟩; replace HB := Aside0.mk (below_step bq hb); (try clear hb); (try clear hb2); (try clear hk); (try clear hi)) | ((with_reducible refine gate_callee (f := 15) rfl ?_); refine goesL_ (some 14) rfl rfl Tryd.func15 (by kernel_rfl) rfl #[.string (⟨#[49, 56, 52, 52, 54, 55, 52, 52, 48, 55, 51, 55, 48, 57, 53, 53, 49, 54, 49, 54]⟩ : ByteArray)] rfl mq ?_; (with_reducible refine (decimal_Small.calls (hT := HT.out.below bq) (⟨#[49, 56, 52, 52, 54, 55, 52, 52, 48, 55, 51, 55, 48, 57, 53, 53, 49, 54, 49, 54]⟩ : ByteArray) t284 false _ A2.out).mono ?_); rintro e w34 ⟨rfl, hb⟩; refine ⟨_, rfl, ?_⟩; replace HB := Aside0.mk (below_step bq hb); (try clear hb); (try clear hb2); (try clear hk); (try clear hi)) | ((with_reducible refine gate_callee (f := 25) rfl ?_); refine goesL_ (some 18) rfl rfl Tryd.func25 (by kernel_rfl) rfl #[.string (⟨#[50]⟩ : ByteArray), .int .i64 64] rfl mq ?_; (with_reducible refine (decimal_Power.calls (hT := HT.out.below bq) k (⟨#[50]⟩ : ByteArray) 64 t286 t287 _ A3.out).mono ?_); rintro e w35 ⟨rfl, hb⟩; refine ⟨_, rfl, ?_⟩; replace HB := Aside0.mk (below_step bq hb); (try clear hb); (try clear hb2); (try clear hk); (try clear hi)))
              go_ret
              exact ⟨eq_, bq⟩
          · rw [if_neg c11] at H
            have c11b0 : (t287 == 0) = false := beq_eq_false_iff_ne.mpr c11
            have c11b1 : (t287 != 0) = true := bne_iff_ne.mpr c11
            obtain rfl := Option.some.inj H
            go_enter Tryd.func13, Tryd.ntmps13
            go_wp2_with (first | ((with_reducible refine gate_callee (f := 20) rfl ?_); refine goesL_ (some 9) rfl rfl Tryd.func20 (by kernel_rfl) rfl #[.string (⟨#[49, 48, 48, 48, 48, 48, 48, 48, 48, 48, 48, 48, 48, 48, 48, 48, 48, 48, 48, 48, 48, 48]⟩ : ByteArray), .string (⟨#[55]⟩ : ByteArray)] rfl mq ?_; (with_reducible refine (decimal_DivMod.calls (hT := HT.out.below bq) k (⟨#[49, 48, 48, 48, 48, 48, 48, 48, 48, 48, 48, 48, 48, 48, 48, 48, 48, 48, 48, 48, 48, 48]⟩ : ByteArray) (⟨#[55]⟩ : ByteArray) t281 t282 t283 _ A1.out).mono ?_); rintro e w36 ⟨rfl, hb⟩; refine ⟨_, rfl, ?_⟩; replace HB := Aside0.mk (below_step bq hb); (try clear hb); (try clear hb2); (try clear hk); (try clear hi)) | ((with_reducible refine gate_callee (f := 15) rfl ?_); refine goesL_ (some 14) rfl rfl Tryd.func15 (by kernel_rfl) rfl #[.string (⟨#[49, 56, 52, 52, 54, 55, 52, 52, 48, 55, 51, 55, 48, 57, 53, 53, 49, 54, 49, 54]⟩ : ByteArray)] rfl mq ?_; (with_reducible refine (decimal_Small.calls (hT := HT.out.below bq) (⟨#[49, 56, 52, 52, 54, 55, 52, 52, 48, 55, 51, 55, 48, 57, 53, 53, 49, 54, 49, 54]⟩ : ByteArray) t284 false _ A2.out).mono ?_); rintro e w37 ⟨rfl, hb⟩; refine ⟨_, rfl, ?_⟩; replace HB := Aside0.mk (below_step bq hb); (try clear hb); (try clear hb2); (try clear hk); (try clear hi)) | ((with_reducible refine gate_callee (f := 25) rfl ?_); refine goesL_ (some 18) rfl rfl Tryd.func25 (by kernel_rfl) rfl #[.string (⟨#[50]⟩ : ByteArray), .int .i64 64] rfl mq ?_; (with_reducible refine (decimal_Power.calls (hT := HT.out.below bq) k (⟨#[50]⟩ : ByteArray) 64 t286 t287 _ A3.out).mono ?_); rintro e w38 ⟨rfl, hb⟩; refine ⟨_, rfl, ?_⟩; replace HB := Aside0.mk (below_step bq hb); (try clear hb); (try clear hb2); (try clear hk); (try clear hi)))
            go_ret
            exact ⟨eq_, bq⟩
      · rw [if_neg c6] at H
        have c6b0 : (t282.toList == ([54] : List UInt8)) = false := beq_eq_false_iff_ne.mpr c6
        have c6b1 : (t282.toList != ([54] : List UInt8)) = true := bne_iff_ne.mpr c6
        obtain rfl := Option.some.inj H
        go_enter Tryd.func13, Tryd.ntmps13
        go_wp2_with (first | ((with_reducible refine gate_callee (f := 20) rfl ?_); refine goesL_ (some 9) rfl rfl Tryd.func20 (by kernel_rfl) rfl #[.string (⟨#[49, 48, 48, 48, 48, 48, 48, 48, 48, 48, 48, 48, 48, 48, 48, 48, 48, 48, 48, 48, 48, 48]⟩ : ByteArray), .string (⟨#[55]⟩ : ByteArray)] rfl mq ?_; (with_reducible refine (decimal_DivMod.calls (hT := HT.out.below bq) k (⟨#[49, 48, 48, 48, 48, 48, 48, 48, 48, 48, 48, 48, 48, 48, 48, 48, 48, 48, 48, 48, 48, 48]⟩ : ByteArray) (⟨#[55]⟩ : ByteArray) t281 t282 t283 _ A1.out).mono ?_); rintro e w39 ⟨rfl, hb⟩; refine ⟨_, rfl, ?_⟩; replace HB := Aside0.mk (below_step bq hb); (try clear hb); (try clear hb2); (try clear hk); (try clear hi)) | ((with_reducible refine gate_callee (f := 15) rfl ?_); refine goesL_ (some 14) rfl rfl Tryd.func15 (by kernel_rfl) rfl #[.string (⟨#[49, 56, 52, 52, 54, 55, 52, 52, 48, 55, 51, 55, 48, 57, 53, 53, 49, 54, 49, 54]⟩ : ByteArray)] rfl mq ?_; (with_reducible refine (decimal_Small.calls (hT := HT.out.below bq) (⟨#[49, 56, 52, 52, 54, 55, 52, 52, 48, 55, 51, 55, 48, 57, 53, 53, 49, 54, 49, 54]⟩ : ByteArray) t284 t285 _ A2.out).mono ?_); rintro e w40 ⟨rfl, hb⟩; refine ⟨_, rfl, ?_⟩; replace HB := Aside0.mk (below_step bq hb); (try clear hb); (try clear hb2); (try clear hk); (try clear hi)) | ((with_reducible refine gate_callee (f := 25) rfl ?_); refine goesL_ (some 18) rfl rfl Tryd.func25 (by kernel_rfl) rfl #[.string (⟨#[50]⟩ : ByteArray), .int .i64 64] rfl mq ?_; (with_reducible refine (decimal_Power.calls (hT := HT.out.below bq) k (⟨#[50]⟩ : ByteArray) 64 t286 t287 _ A3.out).mono ?_); rintro e w41 ⟨rfl, hb⟩; refine ⟨_, rfl, ?_⟩; replace HB := Aside0.mk (below_step bq hb); (try clear hb); (try clear hb2); (try clear hk); (try clear hi)))
        go_ret
        exact ⟨eq_, bq⟩
    · rw [if_neg c5] at H
      have c5b0 : (t281.toList == ([49, 52, 50, 56, 53, 55, 49, 52, 50, 56, 53, 55, 49, 52, 50, 56, 53, 55, 49, 52, 50] : List UInt8)) = false := beq_eq_false_iff_ne.mpr c5
      have c5b1 : (t281.toList != ([49, 52, 50, 56, 53, 55, 49, 52, 50, 56, 53, 55, 49, 52, 50, 56, 53, 55, 49, 52, 50] : List UInt8)) = true := bne_iff_ne.mpr c5
      obtain rfl := Option.some.inj H
      go_enter Tryd.func13, Tryd.ntmps13
      go_wp2_with (first | ((with_reducible refine gate_callee (f := 20) rfl ?_); refine goesL_ (some 9) rfl rfl Tryd.func20 (by kernel_rfl) rfl #[.string (⟨#[49, 48, 48, 48, 48, 48, 48, 48, 48, 48, 48, 48, 48, 48, 48, 48, 48, 48, 48, 48, 48, 48]⟩ : ByteArray), .string (⟨#[55]⟩ : ByteArray)] rfl mq ?_; (with_reducible refine (decimal_DivMod.calls (hT := HT.out.below bq) k (⟨#[49, 48, 48, 48, 48, 48, 48, 48, 48, 48, 48, 48, 48, 48, 48, 48, 48, 48, 48, 48, 48, 48]⟩ : ByteArray) (⟨#[55]⟩ : ByteArray) t281 t282 t283 _ A1.out).mono ?_); rintro e w42 ⟨rfl, hb⟩; refine ⟨_, rfl, ?_⟩; replace HB := Aside0.mk (below_step bq hb); (try clear hb); (try clear hb2); (try clear hk); (try clear hi)) | ((with_reducible refine gate_callee (f := 15) rfl ?_); refine goesL_ (some 14) rfl rfl Tryd.func15 (by kernel_rfl) rfl #[.string (⟨#[49, 56, 52, 52, 54, 55, 52, 52, 48, 55, 51, 55, 48, 57, 53, 53, 49, 54, 49, 54]⟩ : ByteArray)] rfl mq ?_; (with_reducible refine (decimal_Small.calls (hT := HT.out.below bq) (⟨#[49, 56, 52, 52, 54, 55, 52, 52, 48, 55, 51, 55, 48, 57, 53, 53, 49, 54, 49, 54]⟩ : ByteArray) t284 t285 _ A2.out).mono ?_); rintro e w43 ⟨rfl, hb⟩; refine ⟨_, rfl, ?_⟩; replace HB := Aside0.mk (below_step bq hb); (try clear hb); (try clear hb2); (try clear hk); (try clear hi)) | ((with_reducible refine gate_callee (f := 25) rfl ?_); refine goesL_ (some 18) rfl rfl Tryd.func25 (by kernel_rfl) rfl #[.string (⟨#[50]⟩ : ByteArray), .int .i64 64] rfl mq ?_; (with_reducible refine (decimal_Power.calls (hT := HT.out.below bq) k (⟨#[50]⟩ : ByteArray) 64 t286 t287 _ A3.out).mono ?_); rintro e w44 ⟨rfl, hb⟩; refine ⟨_, rfl, ?_⟩; replace HB := Aside0.mk (below_step bq hb); (try clear hb); (try clear hb2); (try clear hk); (try clear hi)))
      go_ret
      exact ⟨eq_, bq⟩
  · rw [if_neg c4] at H
    have c4b0 : (t283 == 0) = false := beq_eq_false_iff_ne.mpr c4
    have c4b1 : (t283 != 0) = true := bne_iff_ne.mpr c4
    obtain rfl := Option.some.inj H
    go_enter Tryd.func13, Tryd.ntmps13
    go_wp2_with (first | ((with_reducible refine gate_callee (f := 20) rfl ?_); refine goesL_ (some 9) rfl rfl Tryd.func20 (by kernel_rfl) rfl #[.string (⟨#[49, 48, 48, 48, 48, 48, 48, 48, 48, 48, 48, 48, 48, 48, 48, 48, 48, 48, 48, 48, 48, 48]⟩ : ByteArray), .string (⟨#[55]⟩ : ByteArray)] rfl mq ?_; (with_reducible refine (decimal_DivMod.calls (hT := HT.out.below bq) k (⟨#[49, 48, 48, 48, 48, 48, 48, 48, 48, 48, 48, 48, 48, 48, 48, 48, 48, 48, 48, 48, 48, 48]⟩ : ByteArray) (⟨#[55]⟩ : ByteArray) t281 t282 t283 _ A1.out).mono ?_); rintro e w45 ⟨rfl, hb⟩; refine ⟨_, rfl, ?_⟩; replace HB := Aside0.mk (below_step bq hb); (try clear hb); (try clear hb2); (try clear hk); (try clear hi)) | ((with_reducible refine gate_callee (f := 15) rfl ?_); refine goesL_ (some 14) rfl rfl Tryd.func15 (by kernel_rfl) rfl #[.string (⟨#[49, 56, 52, 52, 54, 55, 52, 52, 48, 55, 51, 55, 48, 57, 53, 53, 49, 54, 49, 54]⟩ : ByteArray)] rfl mq ?_; (with_reducible refine (decimal_Small.calls (hT := HT.out.below bq) (⟨#[49, 56, 52, 52, 54, 55, 52, 52, 48, 55, 51, 55, 48, 57, 53, 53, 49, 54, 49, 54]⟩ : ByteArray) t284 t285 _ A2.out).mono ?_); rintro e w46 ⟨rfl, hb⟩; refine ⟨_, rfl, ?_⟩; replace HB := Aside0.mk (below_step bq hb); (try clear hb); (try clear hb2); (try clear hk); (try clear hi)) | ((with_reducible refine gate_callee (f := 25) rfl ?_); refine goesL_ (some 18) rfl rfl Tryd.func25 (by kernel_rfl) rfl #[.string (⟨#[50]⟩ : ByteArray), .int .i64 64] rfl mq ?_; (with_reducible refine (decimal_Power.calls (hT := HT.out.below bq) k (⟨#[50]⟩ : ByteArray) 64 t286 t287 _ A3.out).mono ?_); rintro e w47 ⟨rfl, hb⟩; refine ⟨_, rfl, ?_⟩; replace HB := Aside0.mk (below_step bq hb); (try clear hb); (try clear hb2); (try clear hk); (try clear hi)))
    go_ret
    exact ⟨eq_, bq⟩
def decimal_Check.f (k : Nat) (a0 : ByteArray) : Option (Int) := (decimal_Canonical.f k a0).bind fun t379 => (if t379 = true then (if (a0.size : Int) > 400 then (some 2) else (some 0)) else (some 2))
theorem decimal_Check.mono : ∀ a0 k, LeO (decimal_Check.f k a0) (decimal_Check.f (k + 1) a0) := by
  intro a0 k
  unfold decimal_Check.f
  repeat' first
      | (with_reducible exact decimal_Canonical.mono _ _)
      | (with_reducible exact LeO.refl _)
      | (with_reducible exact LeO.none _)
      | (with_reducible refine LeO.ite ?_ ?_)
      | (with_reducible refine LeO.bind ?_ (fun _ => ?_))
      | exact decimal_Canonical.mono _ _
      | exact LeO.none _
      | refine LeO.ite ?_ ?_
      | refine LeO.bind ?_ (fun _ => ?_)
set_option maxHeartbeats 8000000 in
set_option maxRecDepth 100000 in
theorem decimal_Check.calls (k : Nat) (a0 : ByteArray) (r : Int) (w : World) (h : decimal_Check.f k a0 = some r) :
    Calls Tryd.prog 27 #[.string a0] w fun e w' => e = .returned (.int .i64 r) ∧ Below w.heap.size w w' := by
  have HB := Aside0.mk (Below.refl w.heap.size w)
  have H : ((decimal_Canonical.f k a0).bind fun t379 => (if t379 = true then (if (a0.size : Int) > 400 then (some 2) else (some 0)) else (some 2))) = some r := h
  clear h
  replace H := Option.bind_eq_some_iff.mp H
  obtain ⟨t379, A20, H⟩ := H
  replace H : (if t379 = true then (if (a0.size : Int) > 400 then (some 2) else (some 0)) else (some 2)) = some r := H
  have A2 := Aside0.mk A20
  clear A20
  by_cases c3 : t379 = true
  · subst c3
    have H1 : (if (a0.size : Int) > 400 then (some 2) else (some 0)) = some r := by rw [if_pos rfl] at H; exact H
    clear H
    have H := H1
    clear H1
    by_cases c4 : (a0.size : Int) > 400
    · rw [if_pos c4] at H
      have c4b0 : decide (400 < (a0.size : Int)) = true := decide_eq_true c4
      have c4b1 : decide (400 < a0.size) = true := decide_eq_true (by omega)
      clear c4
      obtain rfl := Option.some.inj H
      go_enter Tryd.func27, Tryd.ntmps27
      go_wp2_with (first | ((with_reducible refine gate_callee (f := 28) rfl ?_); refine goesL_ (some 4) rfl rfl Tryd.func28 (by kernel_rfl) rfl #[.string a0] rfl mq ?_; (with_reducible refine (decimal_Canonical.calls k a0 true _ A2.out).mono ?_); rintro e w5 ⟨rfl, hb⟩; refine ⟨_, rfl, ?_⟩; replace HB := Aside0.mk (below_step bq hb); (try clear hb); (try clear hb2); (try clear hk); (try clear hi)))
      go_ret
      exact ⟨eq_, bq⟩
    · rw [if_neg c4] at H
      have c4b0 : decide (400 < (a0.size : Int)) = false := decide_eq_false c4
      have c4b1 : decide (400 < a0.size) = false := decide_eq_false (by omega)
      clear c4
      obtain rfl := Option.some.inj H
      go_enter Tryd.func27, Tryd.ntmps27
      go_wp2_with (first | ((with_reducible refine gate_callee (f := 28) rfl ?_); refine goesL_ (some 4) rfl rfl Tryd.func28 (by kernel_rfl) rfl #[.string a0] rfl mq ?_; (with_reducible refine (decimal_Canonical.calls k a0 true _ A2.out).mono ?_); rintro e w6 ⟨rfl, hb⟩; refine ⟨_, rfl, ?_⟩; replace HB := Aside0.mk (below_step bq hb); (try clear hb); (try clear hb2); (try clear hk); (try clear hi)))
      go_ret
      exact ⟨eq_, bq⟩
  · replace c3 := Bool.eq_false_iff.mpr c3
    subst c3
    have H1 : (some 2) = some r := by rw [if_neg (show ¬ (false = true) by decide)] at H; exact H
    clear H
    have H := H1
    clear H1
    obtain rfl := Option.some.inj H
    go_enter Tryd.func27, Tryd.ntmps27
    go_wp2_with (first | ((with_reducible refine gate_callee (f := 28) rfl ?_); refine goesL_ (some 4) rfl rfl Tryd.func28 (by kernel_rfl) rfl #[.string a0] rfl mq ?_; (with_reducible refine (decimal_Canonical.calls k a0 false _ A2.out).mono ?_); rintro e w7 ⟨rfl, hb⟩; refine ⟨_, rfl, ?_⟩; replace HB := Aside0.mk (below_step bq hb); (try clear hb); (try clear hb2); (try clear hk); (try clear hi)))
    go_ret
    exact ⟨eq_, bq⟩
def decimal_Digits.f (a0 : ByteArray) : Option (Int) := some (a0.size : Int)
set_option maxHeartbeats 8000000 in
set_option maxRecDepth 100000 in
theorem decimal_Digits.calls (a0 : ByteArray) (r : Int) (w : World) (h : decimal_Digits.f a0 = some r) :
    Calls Tryd.prog 29 #[.string a0] w fun e w' => e = .returned (.int .i64 r) ∧ Drawn0 w w' := by
  have H : (some (a0.size : Int)) = some r := h
  clear h
  obtain rfl := Option.some.inj H
  go_enter Tryd.func29, Tryd.ntmps29
  go_wp2
  go_ret
  exact ⟨by first | rfl | (simp; done) | (simp [wrap64]; done) | (simp [*]; done), by repeat (first | exact Drawn0.refl _ | apply Drawn0.step)⟩
mutual
def schismalaw01_DecimalLimits.l0 : Nat → Int → List Int → Int → Option (Bool)
  | 0, _, _, _ => none
  | k + 1, x3, x4, x5 => if x5 < x3 then (if 0 ≤ x5 then (if x5 < (x4.length : Int) then (schismalaw01_DecimalLimits.l0 k x3 (x4.set (x5 : Int).toNat 57) (wrap64 (x5 + 1))) else (none)) else (none)) else ((decimal_Digits.f (strOfNums x4)).bind fun t390 => (if t390 = x3 then ((decimal_Canonical.f k (strOfNums x4)).bind fun t391 => (if t391 = true then (if 1 + (strOfNums x4).size ≤ 9223372036854775807 then ((decimal_Check.f k ((⟨#[48]⟩ : ByteArray) ++ (strOfNums x4))).bind fun t392 => (schismalaw01_DecimalLimits.j1 k x3 (strOfNums x4) (t392 != 2))) else (none)) else (schismalaw01_DecimalLimits.j1 k x3 (strOfNums x4) true))) else (schismalaw01_DecimalLimits.j1 k x3 (strOfNums x4) true)))
def schismalaw01_DecimalLimits.j1 : Nat → Int → ByteArray → Bool → Option (Bool)
  | 0, _, _, _ => none
  | k + 1, x3, x6, x39 => if x39 = true then (some false) else (if x3 > 400 then ((decimal_Check.f k x6).bind fun t393 => (some (t393 == 2))) else ((decimal_Check.f k x6).bind fun t394 => (some (t394 == 0))))
end
def schismalaw01_DecimalLimits.f (k : Nat) (a0 : Int) : Option (Bool) := (schismalaw01_known.f k).bind fun t385 => (if t385 = true then (if 0 ≤ (wrap64 (395 + (wrap64 (Int.tmod a0 11)))) then (if (wrap64 (395 + (wrap64 (Int.tmod a0 11))) : Int).toNat ≤ 281474976710656 then (schismalaw01_DecimalLimits.l0 k (wrap64 (395 + (wrap64 (Int.tmod a0 11)))) (List.replicate (wrap64 (395 + (wrap64 (Int.tmod a0 11))) : Int).toNat 0) 0) else (none)) else (none)) else (some false))
theorem schismalaw01_DecimalLimits.mono_l : ∀ k, (∀ y0 y1 y2, LeO (schismalaw01_DecimalLimits.l0 k y0 y1 y2) (schismalaw01_DecimalLimits.l0 (k + 1) y0 y1 y2)) ∧ (∀ y0 y1 y2, LeO (schismalaw01_DecimalLimits.j1 k y0 y1 y2) (schismalaw01_DecimalLimits.j1 (k + 1) y0 y1 y2))
  | 0 => ⟨fun _ _ _ r h => by simp [schismalaw01_DecimalLimits.l0] at h, fun _ _ _ r h => by simp [schismalaw01_DecimalLimits.j1] at h⟩
  | k + 1 => by
    obtain ⟨ih0, ih1⟩ := schismalaw01_DecimalLimits.mono_l k
    refine ⟨?_, ?_⟩
    · intro y0 y1 y2
      unfold schismalaw01_DecimalLimits.l0
      repeat' first
      | (with_reducible exact ih0 _ _ _)
      | (with_reducible exact ih1 _ _ _)
      | (with_reducible exact decimal_Canonical.mono _ _)
      | (with_reducible exact decimal_Check.mono _ _)
      | (with_reducible exact schismalaw01_known.mono _)
      | (with_reducible exact LeO.refl _)
      | (with_reducible exact LeO.none _)
      | (with_reducible refine LeO.ite ?_ ?_)
      | (with_reducible refine LeO.bind ?_ (fun _ => ?_))
      | exact ih0 _ _ _
      | exact ih1 _ _ _
      | exact decimal_Canonical.mono _ _
      | exact decimal_Check.mono _ _
      | exact schismalaw01_known.mono _
      | exact LeO.none _
      | refine LeO.ite ?_ ?_
      | refine LeO.bind ?_ (fun _ => ?_)
    · intro y0 y1 y2
      unfold schismalaw01_DecimalLimits.j1
      repeat' first
      | (with_reducible exact ih0 _ _ _)
      | (with_reducible exact ih1 _ _ _)
      | (with_reducible exact decimal_Canonical.mono _ _)
      | (with_reducible exact decimal_Check.mono _ _)
      | (with_reducible exact schismalaw01_known.mono _)
      | (with_reducible exact LeO.refl _)
      | (with_reducible exact LeO.none _)
      | (with_reducible refine LeO.ite ?_ ?_)
      | (with_reducible refine LeO.bind ?_ (fun _ => ?_))
      | exact ih0 _ _ _
      | exact ih1 _ _ _
      | exact decimal_Canonical.mono _ _
      | exact decimal_Check.mono _ _
      | exact schismalaw01_known.mono _
      | exact LeO.none _
      | refine LeO.ite ?_ ?_
      | refine LeO.bind ?_ (fun _ => ?_)
theorem schismalaw01_DecimalLimits.mono : ∀ a0 k, LeO (schismalaw01_DecimalLimits.f k a0) (schismalaw01_DecimalLimits.f (k + 1) a0) := by
  intro a0 k
  obtain ⟨ih0, ih1⟩ := schismalaw01_DecimalLimits.mono_l k
  unfold schismalaw01_DecimalLimits.f
  repeat' first
      | (with_reducible exact ih0 _ _ _)
      | (with_reducible exact ih1 _ _ _)
      | (with_reducible exact decimal_Canonical.mono _ _)
      | (with_reducible exact decimal_Check.mono _ _)
      | (with_reducible exact schismalaw01_known.mono _)
      | (with_reducible exact LeO.refl _)
      | (with_reducible exact LeO.none _)
      | (with_reducible refine LeO.ite ?_ ?_)
      | (with_reducible refine LeO.bind ?_ (fun _ => ?_))
      | exact ih0 _ _ _
      | exact ih1 _ _ _
      | exact decimal_Canonical.mono _ _
      | exact decimal_Check.mono _ _
      | exact schismalaw01_known.mono _
      | exact LeO.none _
      | refine LeO.ite ?_ ?_
      | refine LeO.bind ?_ (fun _ => ?_)
set_option maxHeartbeats 8000000 in
set_option maxRecDepth 100000 in
theorem schismalaw01_DecimalLimits.calls (k : Nat) (a0 : Int) (r : Bool) (w : World) (hT : Tab w) (h : schismalaw01_DecimalLimits.f k a0 = some r) :
    Calls Tryd.prog 7 #[.int .u8 a0] w fun e w' => e = .returned (.bool r) ∧ Below w.heap.size w w' := by
  have HT := Aside0.mk hT
  clear hT
  have HB := Aside0.mk (Below.refl w.heap.size w)
  have H : ((schismalaw01_known.f k).bind fun t385 => (if t385 = true then (if 0 ≤ (wrap64 (395 + (wrap64 (Int.tmod a0 11)))) then (if (wrap64 (395 + (wrap64 (Int.tmod a0 11))) : Int).toNat ≤ 281474976710656 then (schismalaw01_DecimalLimits.l0 k (wrap64 (395 + (wrap64 (Int.tmod a0 11)))) (List.replicate (wrap64 (395 + (wrap64 (Int.tmod a0 11))) : Int).toNat 0) 0) else (none)) else (none)) else (some false))) = some r := h
  clear h
  replace H := Option.bind_eq_some_iff.mp H
  obtain ⟨t385, A20, H⟩ := H
  replace H : (if t385 = true then (if 0 ≤ (wrap64 (395 + (wrap64 (Int.tmod a0 11)))) then (if (wrap64 (395 + (wrap64 (Int.tmod a0 11))) : Int).toNat ≤ 281474976710656 then (schismalaw01_DecimalLimits.l0 k (wrap64 (395 + (wrap64 (Int.tmod a0 11)))) (List.replicate (wrap64 (395 + (wrap64 (Int.tmod a0 11))) : Int).toNat 0) 0) else (none)) else (none)) else (some false)) = some r := H
  have A2 := Aside0.mk A20
  clear A20
  by_cases c3 : t385 = true
  · subst c3
    have H1 : (if 0 ≤ (wrap64 (395 + (wrap64 (Int.tmod a0 11)))) then (if (wrap64 (395 + (wrap64 (Int.tmod a0 11))) : Int).toNat ≤ 281474976710656 then (schismalaw01_DecimalLimits.l0 k (wrap64 (395 + (wrap64 (Int.tmod a0 11)))) (List.replicate (wrap64 (395 + (wrap64 (Int.tmod a0 11))) : Int).toNat 0) 0) else (none)) else (none)) = some r := by rw [if_pos rfl] at H; exact H
    clear H
    have H := H1
    clear H1
    obtain ⟨ji4, hji4⟩ : ∃ j_ : Int, (wrap64 (395 + (wrap64 (Int.tmod a0 11)))) = j_ := ⟨_, rfl⟩
    replace H : (if 0 ≤ (ji4) then (if (ji4 : Int).toNat ≤ 281474976710656 then (schismalaw01_DecimalLimits.l0 k ji4 (List.replicate (ji4 : Int).toNat 0) 0) else (none)) else (none)) = some r := by first | (rw [hji4] at H; exact H) | (simp only [hji4] at H ⊢; exact H)
    (try rw [hji4] at A2)
    have hji4w : (IntKind.i64.wrap (395 + (wrap64 (Int.tmod a0 11)))) = ji4 := (i64_w _).trans hji4
    by_cases c5 : 0 ≤ (ji4)
    · rw [if_pos c5] at H
      have c5b0 := eq_true c5
      have c5b1 : decide (0 ≤ (ji4)) = true := decide_eq_true c5
      clear c5
      by_cases c6 : (ji4 : Int).toNat ≤ 281474976710656
      · rw [if_pos c6] at H
        have c6b0 := eq_true c6
        have c6b1 : decide ((ji4 : Int).toNat ≤ 281474976710656) = true := decide_eq_true c6
        clear c6
        obtain ⟨y386, hy386⟩ : ∃ y_ : List Int, y_ = (List.replicate (ji4 : Int).toNat 0) := ⟨_, rfl⟩
        replace H : (schismalaw01_DecimalLimits.l0 k ji4 y386 0) = some r := by first | (rw [hy386]; with_reducible exact H) | (have H2_ := (Option.bind_some _ _).symm.trans H; rw [hy386]; with_reducible exact H2_) | (have H2_ := (Option.bind_some _ _).symm.trans H; with_reducible exact H2_) | with_reducible exact H | (rw [hy386]; exact H) | exact H
        have Ny386 := Aside0.mk hy386
        clear hy386
        have H' := Aside0.mk H
        clear H
        go_enter Tryd.func7, Tryd.ntmps7
        go_wp2_with (first | ((with_reducible refine gate_callee (f := 13) rfl ?_); refine goesL_ (some 7) rfl rfl Tryd.func13 (by kernel_rfl) rfl #[] rfl mq ?_; (with_reducible refine (schismalaw01_known.calls (hT := HT.out.below bq) k  true _ A2.out).mono ?_); rintro e w7 ⟨rfl, hb⟩; refine ⟨_, rfl, ?_⟩; replace HB := Aside0.mk (below_step bq hb); (try clear hb); (try clear hb2); (try clear hk); (try clear hi)) | ((with_reducible refine gate_dst (N := 14) rfl ?_); refine Kd.R_make (Kd.int .u8) _ 5 rfl (N := 14) rfl 23 _ _ rfl ji4 rfl rfl Tryd.underlying23 (.int .u8 0) 1 info5 rfl (by decide) (by omega) 0 (ok := fun _ => True) (okp := fun _ => True) rfl (fun _ hk => hk) trivial (of_decide_eq_true (by first | (with_reducible assumption) | assumption)) (Nat.le_trans (Nat.mul_le_mul_right _ (of_decide_eq_true (by first | (with_reducible assumption) | assumption) : ji4.toNat ≤ 281474976710656)) (by omega)) (Below.refl _ _) (Nat.le_refl _) ?_; intro v387 w8 ho9 hb hg_ hnew_; clear hg_ hnew_; (first | rw [← Ny386.out] at ho9 | (simp only [Int.reduceToNat] at ho9; rw [← Ny386.out] at ho9)); have n0_ := Aside0.mk (Kd.R_lower ho9 (below_size bq)); have n1_ := Aside0.mk (below_step bq hb); clear HB; have HO388 := n0_; have HB := n1_; clear n0_ n1_; clear hb ho9))
        go_loopg [5] k (fun kq v5 w' => ∃ (x4_1 : List Int) (x5_1 : Int), v5 = .int .i64 x5_1 ∧ Aside0 (schismalaw01_DecimalLimits.l0 kq ji4 x4_1 x5_1 = some r) ∧ Aside0 (kq ≤ k) ∧ Aside0 (Kd.R (Kd.int .u8) 5 w' w.heap.size (fun _ => True) v387 x4_1) ∧ Aside0 (Below w.heap.size w w'))
        case atStart => exact ⟨(y386), (0), (by first | rfl | (simp; done) | (simp [*]; done)), H', ⟨Nat.le_refl _⟩, ⟨by (with_reducible repeat (first | apply Kd.R_alloc | apply Kd.R_drewN | apply Kd.R_drew)); exact HO388.out⟩, ⟨bq⟩⟩
        case round =>
          clear H'
          try clear c1
          try clear p2
          try clear c3
          try clear c5
          try clear c5b0
          try clear c5b1
          try clear c6
          try clear c6b0
          try clear c6b1
          try clear p6
          try clear c7
          obtain ⟨x4_1, x5_1, rfl, HA, HK1, HO_4, HB⟩ := hrel
          cases gk with
          | zero => exact absurd HA.out (by simp [schismalaw01_DecimalLimits.l0])
          | succ k1 =>
            have H := HA.out
            clear HA
            simp only [schismalaw01_DecimalLimits.l0] at H
            by_cases c10 : x5_1 < ji4
            · rw [if_pos c10] at H
              have c10b0 : decide (x5_1 < ji4) = true := decide_eq_true c10
              clear c10
              by_cases c11 : 0 ≤ x5_1
              · rw [if_pos c11] at H
                have c11b0 : decide (0 ≤ x5_1) = true := decide_eq_true c11
                clear c11
                by_cases c12 : x5_1 < (x4_1.length : Int)
                · rw [if_pos c12] at H
                  have c12b0 : decide (x5_1 < (x4_1.length : Int)) = true := decide_eq_true c12
                  clear c12
                  obtain ⟨y389, hy389⟩ : ∃ y_ : List Int, y_ = (x4_1.set (x5_1 : Int).toNat 57) := ⟨_, rfl⟩
                  replace H : (schismalaw01_DecimalLimits.l0 k1 ji4 y389 (wrap64 (x5_1 + 1))) = some r := by first | (rw [hy389]; with_reducible exact H) | (have H2_ := (Option.bind_some _ _).symm.trans H; rw [hy389]; with_reducible exact H2_) | (have H2_ := (Option.bind_some _ _).symm.trans H; with_reducible exact H2_) | with_reducible exact H | (rw [hy389]; exact H) | exact H
                  have Ny389 := Aside0.mk hy389
                  clear hy389
                  have H' := Aside0.mk H
                  clear H
                  have p13 : 0 ≤ (x5_1 : Int) := of_decide_eq_true (by first | (with_reducible assumption) | assumption)
                  have q13 : (x5_1 : Int) < ((x4_1.length : Int) : Int) := of_decide_eq_true (by first | (with_reducible assumption) | assumption)
                  obtain ⟨go13, co13, eo13, gb13, gl13, cl13, HG13⟩ := Kd.R_form HO_4.out (by omega)
                  (first | cases eo13 | (injection eo13 with ea_ en_ ec_; (first | subst ea_ | (injection ea_ with ea_; subst ea_)); subst ec_; clear en_))
                  have GB13 := Aside0.mk gb13
                  have GG13 := Aside0.mk HG13
                  clear gb13 gl13 HG13
                  obtain ⟨hx13_0, hf13_0⟩ := Kd.R_celln 0 HO_4.out (x5_1 : Int) p13 q13
                  replace p13 := eq_true p13
                  replace q13 := eq_true q13
                  have HP14 := Kd.R_putg HO_4.out (x5_1 : Int) 57
                  go_wp2_with (first | ((with_reducible refine gate_store (t := 5) (p := 22) rfl ?_); refine store_event (t := 5) (p := 22) (v := ?vo_w15) (w1 := (wr.setCell ⟨go13, (x5_1 : Int).toNat, none⟩ (.int .u8 57))) ?hg ?ho ?hn ?hr ?_; (case ho => rfl); (case hg => rfl); (case hn => rfl); (case hr => first | (go_simp; done) | (go_simp; rfl)); intro w15 hw; have hg : wr.grownBy w15 (some go13) := (by rw [hw]; exact HP14.2); have hp_ : Kd.R (Kd.int .u8) 5 w15 w.heap.size (fun _ => True) (.slice (some ⟨go13, 0, none⟩) x4_1.length co13) y389 := (by rw [hw, Ny389.out]; exact HP14.1); clear HP14; have n0_ := Aside0.mk (hp_); have n1_ := Aside0.mk ((by rw [hw]; exact below_set (HB.out) GB13.out : Below w.heap.size w w15)); clear HO_4; clear HB; have HO_4 := n0_; have HB := n1_; clear n0_ n1_; clear hg hw hp_))
                  go_roundg k1
                  case measure => have := HK1.out; omega
                  case rel => exact ⟨(y389), (wrap64 (x5_1 + 1)), (by first | rfl | (simp; done) | (simp [*]; done)), H', ⟨by have := HK1.out; omega⟩, ⟨by (with_reducible repeat (first | apply Kd.R_alloc | apply Kd.R_drewN | apply Kd.R_drew)); exact HO_4.out⟩, ⟨bq⟩⟩
                · rw [if_neg c12] at H
                  exact absurd H (by simp)
              · rw [if_neg c11] at H
                exact absurd H (by simp)
            · rw [if_neg c10] at H
              have c10b0 : decide (x5_1 < ji4) = false := decide_eq_false c10
              clear c10
              have HC16 := Aside0.mk H
              clear H
              have hcv17 := own_string (P := Tryd.prog) Tryd.underlying23 Tryd.underlying5 Tryd.underlying26 (Kd.own_of_R HO_4.out)
              have hcv17z := hcv17
              try simp only [List.length_drop, List.length_take] at hcv17z
              go_upto_region 10 with (fail)
              go_cut [39] (fun v39 wc => ∃ (kq : Nat) (x39_15 : Bool), v39 = .bool x39_15 ∧ Aside0 (schismalaw01_DecimalLimits.j1 kq ji4 (strOfNums x4_1) x39_15 = some r) ∧ Aside0 (kq ≤ k1) ∧ Aside0 (Below w.heap.size w wc))
              case first =>
                have H := HC16.out
                clear HC16
                replace H := Option.bind_eq_some_iff.mp H
                obtain ⟨t390, A180, H⟩ := H
                replace H : (if t390 = ji4 then ((decimal_Canonical.f k1 (strOfNums x4_1)).bind fun t391 => (if t391 = true then (if 1 + (strOfNums x4_1).size ≤ 9223372036854775807 then ((decimal_Check.f k1 ((⟨#[48]⟩ : ByteArray) ++ (strOfNums x4_1))).bind fun t392 => (schismalaw01_DecimalLimits.j1 k1 ji4 (strOfNums x4_1) (t392 != 2))) else (none)) else (schismalaw01_DecimalLimits.j1 k1 ji4 (strOfNums x4_1) true))) else (schismalaw01_DecimalLimits.j1 k1 ji4 (strOfNums x4_1) true)) = some r := H
                have A18 := Aside0.mk A180
                clear A180
                by_cases c19 : t390 = ji4
                · rw [if_pos c19] at H
                  have c19b0 : (t390 == ji4) = true := beq_iff_eq.mpr c19
                  have c19b1 : (t390 != ji4) = false := bne_eq_false_iff_eq.mpr c19
                  clear c19
                  (first | rw [c19b0] | (simp only [i64_w, i32_w]; rw [c19b0]) | skip)
                  replace H := Option.bind_eq_some_iff.mp H
                  obtain ⟨t391, A200, H⟩ := H
                  replace H : (if t391 = true then (if 1 + (strOfNums x4_1).size ≤ 9223372036854775807 then ((decimal_Check.f k1 ((⟨#[48]⟩ : ByteArray) ++ (strOfNums x4_1))).bind fun t392 => (schismalaw01_DecimalLimits.j1 k1 ji4 (strOfNums x4_1) (t392 != 2))) else (none)) else (schismalaw01_DecimalLimits.j1 k1 ji4 (strOfNums x4_1) true)) = some r := H
                  have A20 := Aside0.mk A200
                  clear A200
                  by_cases c21 : t391 = true
                  · subst c21
                    have H1 : (if 1 + (strOfNums x4_1).size ≤ 9223372036854775807 then ((decimal_Check.f k1 ((⟨#[48]⟩ : ByteArray) ++ (strOfNums x4_1))).bind fun t392 => (schismalaw01_DecimalLimits.j1 k1 ji4 (strOfNums x4_1) (t392 != 2))) else (none)) = some r := by rw [if_pos rfl] at H; exact H
                    clear H
                    have H := H1
                    clear H1
                    by_cases c22 : 1 + (strOfNums x4_1).size ≤ 9223372036854775807
                    · rw [if_pos c22] at H
                      have c22b0 := eq_true c22
                      have c22b1 : decide (1 + (strOfNums x4_1).size ≤ 9223372036854775807) = true := decide_eq_true c22
                      try have c22b2 : (9223372036854775807 < 1 + (strOfNums x4_1).size) = False := eq_false (Nat.not_lt.2 c22)
                      replace H := Option.bind_eq_some_iff.mp H
                      obtain ⟨t392, A230, H⟩ := H
                      replace H : (schismalaw01_DecimalLimits.j1 k1 ji4 (strOfNums x4_1) (t392 != 2)) = some r := H
                      have A23 := Aside0.mk A230
                      clear A230
                      have H' := Aside0.mk H
                      clear H
                      go_wp2_with (first | ((with_reducible refine gate_callee (f := 29) rfl ?_); refine goesL_ (some 26) rfl rfl Tryd.func29 (by kernel_rfl) rfl #[.string (strOfNums x4_1)] rfl mq ?_; (with_reducible refine (decimal_Digits.calls (strOfNums x4_1) t390 _ A18.out).mono ?_); rintro e w' ⟨rfl, ⟨nd, rfl⟩⟩; refine ⟨_, rfl, ?_⟩) | (go_at_call 28; (with_reducible refine (decimal_Canonical.calls k1 (strOfNums x4_1) true _ A20.out).mono ?_); rintro e w24 ⟨rfl, hb⟩; have n0_ := Aside0.mk (Kd.R_below (by (with_reducible repeat (first | apply Kd.R_alloc | apply Kd.R_drewN | apply Kd.R_drew)); exact HO_4.out) hb); have n1_ := Aside0.mk (below_step bq hb); clear HO_4; clear HB; have HO_4 := n0_; have HB := n1_; clear n0_ n1_; (try clear hb); (try clear hb2); (try clear hk); (try clear hi)) | (go_at_call 27; (with_reducible refine (decimal_Check.calls k1 ((⟨#[48]⟩ : ByteArray) ++ (strOfNums x4_1)) t392 _ A23.out).mono ?_); rintro e w25 ⟨rfl, hb⟩; have n0_ := Aside0.mk (Kd.R_below (by (with_reducible repeat (first | apply Kd.R_alloc | apply Kd.R_drewN | apply Kd.R_drew)); exact HO_4.out) hb); have n1_ := Aside0.mk (below_step bq hb); clear HO_4; clear HB; have HO_4 := n0_; have HB := n1_; clear n0_ n1_; (try clear hb); (try clear hb2); (try clear hk); (try clear hi)))
                      go_meet
                      case rel => exact ⟨_, ((t392 != 2)), (by first | rfl | (simp; done) | (simp [*]; done)), H', ⟨by have := HK1.out; first | omega | exact Nat.le_refl _⟩, ⟨bq⟩⟩
                    · rw [if_neg c22] at H
                      exact absurd H (by simp)
                  · replace c21 := Bool.eq_false_iff.mpr c21
                    subst c21
                    have H1 : (schismalaw01_DecimalLimits.j1 k1 ji4 (strOfNums x4_1) true) = some r := by rw [if_neg (show ¬ (false = true) by decide)] at H; exact H
                    clear H
                    have H := H1
                    clear H1
                    have H' := Aside0.mk H
                    clear H
                    go_wp2_with (first | ((with_reducible refine gate_callee (f := 29) rfl ?_); refine goesL_ (some 26) rfl rfl Tryd.func29 (by kernel_rfl) rfl #[.string (strOfNums x4_1)] rfl mq ?_; (with_reducible refine (decimal_Digits.calls (strOfNums x4_1) t390 _ A18.out).mono ?_); rintro e w' ⟨rfl, ⟨nd, rfl⟩⟩; refine ⟨_, rfl, ?_⟩) | (go_at_call 28; (with_reducible refine (decimal_Canonical.calls k1 (strOfNums x4_1) false _ A20.out).mono ?_); rintro e w26 ⟨rfl, hb⟩; have n0_ := Aside0.mk (Kd.R_below (by (with_reducible repeat (first | apply Kd.R_alloc | apply Kd.R_drewN | apply Kd.R_drew)); exact HO_4.out) hb); have n1_ := Aside0.mk (below_step bq hb); clear HO_4; clear HB; have HO_4 := n0_; have HB := n1_; clear n0_ n1_; (try clear hb); (try clear hb2); (try clear hk); (try clear hi)))
                    go_meet
                    case rel => exact ⟨_, (true), (by first | rfl | (simp; done) | (simp [*]; done)), H', ⟨by have := HK1.out; first | omega | exact Nat.le_refl _⟩, ⟨bq⟩⟩
                · rw [if_neg c19] at H
                  have c19b0 : (t390 == ji4) = false := beq_eq_false_iff_ne.mpr c19
                  have c19b1 : (t390 != ji4) = true := bne_iff_ne.mpr c19
                  (first | rw [c19b0] | (simp only [i64_w, i32_w]; rw [c19b0]) | skip)
                  have H' := Aside0.mk H
                  clear H
                  go_wp2_with (first | ((with_reducible refine gate_callee (f := 29) rfl ?_); refine goesL_ (some 26) rfl rfl Tryd.func29 (by kernel_rfl) rfl #[.string (strOfNums x4_1)] rfl mq ?_; (with_reducible refine (decimal_Digits.calls (strOfNums x4_1) t390 _ A18.out).mono ?_); rintro e w' ⟨rfl, ⟨nd, rfl⟩⟩; refine ⟨_, rfl, ?_⟩))
                  go_meet
                  case rel => exact ⟨_, (true), (by first | rfl | (simp; done) | (simp [*]; done)), H', ⟨by have := HK1.out; first | omega | exact Nat.le_refl _⟩, ⟨bq⟩⟩
              case rest =>
                clear HC16
                try clear c1
                try clear p1
                try clear q1
                try clear hx1
                try clear hcv1
                try clear hf1
                try clear c2
                try clear p2
                try clear c3
                try clear c5
                try clear c5b0
                try clear c5b1
                try clear c6
                try clear c6b0
                try clear c6b1
                try clear p6
                try clear c7
                try clear c10
                try clear c10b0
                try clear c11
                try clear c11b0
                try clear c12
                try clear c12b0
                try clear c13
                try clear p13
                try clear q13
                try clear hx13
                try clear hf13
                try clear hcv17
                try clear c19
                try clear c19b0
                try clear c19b1
                try clear c21
                try clear c22
                try clear c22b0
                try clear c22b1
                try clear c22b2
                try clear hx13_0
                try clear p13
                try clear p2
                try clear p6
                try clear q13
                obtain ⟨kq, x39_15, rfl, HA, HJ15, HB⟩ := hcut
                cases kq with
                | zero => exact absurd HA.out (by simp [schismalaw01_DecimalLimits.j1])
                | succ kj15 =>
                  have H := HA.out
                  clear HA
                  simp only [schismalaw01_DecimalLimits.j1] at H
                  by_cases c27 : x39_15 = true
                  · subst c27
                    have H1 : (some false) = some r := by rw [if_pos rfl] at H; exact H
                    clear H
                    have H := H1
                    clear H1
                    obtain rfl := Option.some.inj H
                    go_wp2
                    go_ret
                    exact ⟨by first | rfl | (simp [errW_none, errW_some] <;> rfl) | (simp only [← hji4]; first | rfl | (simp [errW_none, errW_some] <;> rfl)) | (simp [*, errW_none, errW_some] <;> rfl), bq⟩
                  · replace c27 := Bool.eq_false_iff.mpr c27
                    subst c27
                    have H1 : (if ji4 > 400 then ((decimal_Check.f kj15 (strOfNums x4_1)).bind fun t393 => (some (t393 == 2))) else ((decimal_Check.f kj15 (strOfNums x4_1)).bind fun t394 => (some (t394 == 0)))) = some r := by rw [if_neg (show ¬ (false = true) by decide)] at H; exact H
                    clear H
                    have H := H1
                    clear H1
                    by_cases c28 : ji4 > 400
                    · rw [if_pos c28] at H
                      have c28b0 : decide (400 < ji4) = true := decide_eq_true c28
                      clear c28
                      replace H := Option.bind_eq_some_iff.mp H
                      obtain ⟨t393, A290, H⟩ := H
                      replace H : (some (t393 == 2)) = some r := H
                      have A29 := Aside0.mk A290
                      clear A290
                      obtain rfl := Option.some.inj H
                      go_wp2_with (first | ((with_reducible refine gate_callee (f := 27) rfl ?_); refine goesL_ (some 43) rfl rfl Tryd.func27 (by kernel_rfl) rfl #[.string (strOfNums x4_1)] rfl mq ?_; (with_reducible refine (decimal_Check.calls kj15 (strOfNums x4_1) t393 _ A29.out).mono ?_); rintro e w30 ⟨rfl, hb⟩; refine ⟨_, rfl, ?_⟩; replace HB := Aside0.mk (below_step bq hb); (try clear hb); (try clear hb2); (try clear hk); (try clear hi)))
                      go_ret
                      exact ⟨by first | rfl | (simp [errW_none, errW_some] <;> rfl) | (simp only [← hji4]; first | rfl | (simp [errW_none, errW_some] <;> rfl)) | (simp [*, errW_none, errW_some] <;> rfl), bq⟩
                    · rw [if_neg c28] at H
                      have c28b0 : decide (400 < ji4) = false := decide_eq_false c28
                      clear c28
                      replace H := Option.bind_eq_some_iff.mp H
                      obtain ⟨t394, A310, H⟩ := H
                      replace H : (some (t394 == 0)) = some r := H
                      have A31 := Aside0.mk A310
                      clear A310
                      obtain rfl := Option.some.inj H
                      go_wp2_with (first | ((with_reducible refine gate_callee (f := 27) rfl ?_); refine goesL_ (some 46) rfl rfl Tryd.func27 (by kernel_rfl) rfl #[.string (strOfNums x4_1)] rfl mq ?_; (with_reducible refine (decimal_Check.calls kj15 (strOfNums x4_1) t394 _ A31.out).mono ?_); rintro e w32 ⟨rfl, hb⟩; refine ⟨_, rfl, ?_⟩; replace HB := Aside0.mk (below_step bq hb); (try clear hb); (try clear hb2); (try clear hk); (try clear hi)))
                      go_ret
                      exact ⟨by first | rfl | (simp [errW_none, errW_some] <;> rfl) | (simp only [← hji4]; first | rfl | (simp [errW_none, errW_some] <;> rfl)) | (simp [*, errW_none, errW_some] <;> rfl), bq⟩
      · rw [if_neg c6] at H
        exact absurd H (by simp)
    · rw [if_neg c5] at H
      exact absurd H (by simp)
  · replace c3 := Bool.eq_false_iff.mpr c3
    subst c3
    have H1 : (some false) = some r := by rw [if_neg (show ¬ (false = true) by decide)] at H; exact H
    clear H
    have H := H1
    clear H1
    obtain rfl := Option.some.inj H
    go_enter Tryd.func7, Tryd.ntmps7
    go_wp2_with (first | ((with_reducible refine gate_callee (f := 13) rfl ?_); refine goesL_ (some 7) rfl rfl Tryd.func13 (by kernel_rfl) rfl #[] rfl mq ?_; (with_reducible refine (schismalaw01_known.calls (hT := HT.out.below bq) k  false _ A2.out).mono ?_); rintro e w33 ⟨rfl, hb⟩; refine ⟨_, rfl, ?_⟩; replace HB := Aside0.mk (below_step bq hb); (try clear hb); (try clear hb2); (try clear hk); (try clear hi)))
    go_ret
    exact ⟨eq_, bq⟩
def schismalaw01_DecimalLimits.Pure : Prop := ∀ (a0 : Int), (Lit.int .u8 a0).wf = true → ∃ k, schismalaw01_DecimalLimits.f k a0 = some true
theorem schismalaw01_DecimalLimits.walk (P : schismalaw01_DecimalLimits.Pure) (a0 : Int) (w : World) (w0 : (Lit.int .u8 a0).wf = true) (hT : Tab w) :
    Calls Tryd.prog 7 #[.int .u8 a0] w fun e w' => e = .returned (.bool true) ∧ Below w.heap.size w w' := by
  obtain ⟨k, h⟩ := P a0 w0
  refine (schismalaw01_DecimalLimits.calls (hT := hT) k a0 true w h).mono ?_
  rintro e w' ⟨rfl, hd⟩
  exact ⟨rfl, hd⟩
end Go.Proofs.YtcfddphiflmnlaaDoor.P
