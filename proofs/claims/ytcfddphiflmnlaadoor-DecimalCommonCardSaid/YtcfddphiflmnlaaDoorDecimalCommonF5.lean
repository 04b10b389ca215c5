/- Functions of the program, as functions of Lean, and the walks that show that the code answers as they do: written by a program. Conditions: those of each theorem. -/
import Derived.Test.YtcfddphiflmnlaaDoorDecimalCommonF4
namespace Go.Proofs.YtcfddphiflmnlaaDoor.P
open Go.RowKit Go.Proofs.YtcfddphiflmnlaaDoorW.PrintWords Go.Proofs.YtcfddphiflmnlaaDoorW.PrintLast Go.Proofs.YtcfddphiflmnlaaDoorW.PrintMore
attribute [local go_sem] gtr_text max2_int min2_int max_two min_two max_three min_three max_four min_four
set_option linter.unusedVariables false
set_option linter.unusedSimpArgs false
def schismalaw01_known.f (k : Nat)  : Option (Bool) := (decimal_DivMod.f k (⟨#[49, 48, 48, 48, 48, 48, 48, 48, 48, 48, 48, 48, 48, 48, 48, 48, 48, 48, 48, 48, 48, 48]⟩ : ByteArray) (⟨#[55]⟩ : ByteArray)).bind fun bt281 => ((decimal_Small.f (⟨#[49, 56, 52, 52, 54, 55, 52, 52, 48, 55, 51, 55, 48, 57, 53, 53, 49, 54, 49, 54]⟩ : ByteArray)).bind fun bt284 => ((decimal_Power.f k (⟨#[50]⟩ : ByteArray) 64).bind fun bt286 => (if bt281.2.2 = 0 then (if bt281.1.toList = ([49, 52, 50, 56, 53, 55, 49, 52, 50, 56, 53, 55, 49, 52, 50, 56, 53, 55, 49, 52, 50] : List UInt8) then (if bt281.2.1.toList = ([54] : List UInt8) then (if bt284.2 = true then (some false) else (if bt286.2 = 0 then (if bt286.1.toList = ([49, 56, 52, 52, 54, 55, 52, 52, 48, 55, 51, 55, 48, 57, 53, 53, 49, 54, 49, 54] : List UInt8) then ((decimal_Bits.f k (⟨#[50, 53, 53]⟩ : ByteArray)).bind fun t288 => (if t288 = 8 then ((decimal_Bits.f k (⟨#[50, 53, 54]⟩ : ByteArray)).bind fun t289 => (if t289 = 9 then ((decimal_Canonical.f k (⟨#[48, 48, 55]⟩ : ByteArray)).bind fun t290 => (some (!t290))) else (some false))) else (some false))) else (some false)) else (some false))) else (some false)) else (some false)) else (some false))))
theorem schismalaw01_known.mono : ∀ k, LeO (schismalaw01_known.f k ) (schismalaw01_known.f (k + 1) ) := by
  intro  k
  unfold schismalaw01_known.f
  repeat' first
      | (with_reducible exact decimal_Bits.mono _ _)
      | (with_reducible exact decimal_Canonical.mono _ _)
      | (with_reducible exact decimal_DivMod.mono _ _ _)
      | (with_reducible exact decimal_Power.mono _ _ _)
      | (with_reducible exact LeO.refl _)
      | (with_reducible exact LeO.none _)
      | (with_reducible refine LeO.ite ?_ ?_)
      | (with_reducible refine LeO.bind ?_ (fun _ => ?_))
      | exact decimal_Bits.mono _ _
      | exact decimal_Canonical.mono _ _
      | exact decimal_DivMod.mono _ _ _
      | exact decimal_Power.mono _ _ _
      | exact LeO.none _
      | refine LeO.ite ?_ ?_
      | refine LeO.bind ?_ (fun _ => ?_)
set_option maxHeartbeats 8000000 in
set_option maxRecDepth 100000 in
theorem schismalaw01_known.calls (k : Nat)  (r : Bool) (w : World) (hT : Tab w) (h : schismalaw01_known.f k  = some r) :
    Calls Tryd.prog 13 #[] w fun e w' => e = .returned (.bool r) ∧ Below w.heap.size w w' := by
  have HT := Aside0.mk hT
  clear hT
  have HB := Aside0.mk (Below.refl w.heap.size w)
  have H : ((decimal_DivMod.f k (⟨#[49, 48, 48, 48, 48, 48, 48, 48, 48, 48, 48, 48, 48, 48, 48, 48, 48, 48, 48, 48, 48, 48]⟩ : ByteArray) (⟨#[55]⟩ : ByteArray)).bind fun bt281 => ((decimal_Small.f (⟨#[49, 56, 52, 52, 54, 55, 52, 52, 48, 55, 51, 55, 48, 57, 53, 53, 49, 54, 49, 54]⟩ : ByteArray)).bind fun bt284 => ((decimal_Power.f k (⟨#[50]⟩ : ByteArray) 64).bind fun bt286 => (if bt281.2.2 = 0 then (if bt281.1.toList = ([49, 52, 50, 56, 53, 55, 49, 52, 50, 56, 53, 55, 49, 52, 50, 56, 53, 55, 49, 52, 50] : List UInt8) then (if bt281.2.1.toList = ([54] : List UInt8) then (if bt284.2 = true then (some false) else (if bt286.2 = 0 then (if bt286.1.toList = ([49, 56, 52, 52, 54, 55, 52, 52, 48, 55, 51, 55, 48, 57, 53, 53, 49, 54, 49, 54] : List UInt8) then ((decimal_Bits.f k (⟨#[50, 53, 53]⟩ : ByteArray)).bind fun t288 => (if t288 = 8 then ((decimal_Bits.f k (⟨#[50, 53, 54]⟩ : ByteArray)).bind fun t289 => (if t289 = 9 then ((decimal_Canonical.f k (⟨#[48, 48, 55]⟩ : ByteArray)).bind fun t290 => (some (!t290))) else (some false))) else (some false))) else (some false)) else (some false))) else (some false)) else (some false)) else (some false))))) = some r := h
  clear h
  replace H := Option.bind_eq_some_iff.mp H
  obtain ⟨⟨t281, t282, t283⟩, A10, H⟩ := H
  replace H : ((decimal_Small.f (⟨#[49, 56, 52, 52, 54, 55, 52, 52, 48, 55, 51, 55, 48, 57, 53, 53, 49, 54, 49, 54]⟩ : ByteArray)).bind fun bt284 => ((decimal_Power.f k (⟨#[50]⟩ : ByteArray) 64).bind fun bt286 => (if t283 = 0 then (if t281.toList = ([49, 52, 50, 56, 53, 55, 49, 52, 50, 56, 53, 55, 49, 52, 50, 56, 53, 55, 49, 52, 50] : List UInt8) then (if t282.toList = ([54] : List UInt8) then (if bt284.2 = true then (some false) else (if bt286.2 = 0 then (if bt286.1.toList = ([49, 56, 52, 52, 54, 55, 52, 52, 48, 55, 51, 55, 48, 57, 53, 53, 49, 54, 49, 54] : List UInt8) then ((decimal_Bits.f k (⟨#[50, 53, 53]⟩ : ByteArray)).bind fun t288 => (if t288 = 8 then ((decimal_Bits.f k (⟨#[50, 53, 54]⟩ : ByteArray)).bind fun t289 => (if t289 = 9 then ((decimal_Canonical.f k (⟨#[48, 48, 55]⟩ : ByteArray)).bind fun t290 => (some (!t290))) else (some false))) else (some false))) else (some false)) else (some false))) else (some false)) else (some false)) else (some false)))) = some r := H
  have A1 := Aside0.mk A10
  clear A10
  replace H := Option.bind_eq_some_iff.mp H
  obtain ⟨⟨t284, t285⟩, A20, H⟩ := H
  replace H : ((decimal_Power.f k (⟨#[50]⟩ : ByteArray) 64).bind fun bt286 => (if t283 = 0 then (if t281.toList = ([49, 52, 50, 56, 53, 55, 49, 52, 50, 56, 53, 55, 49, 52, 50, 56, 53, 55, 49, 52, 50] : List UInt8) then (if t282.toList = ([54] : List UInt8) then (if t285 = true then (some false) else (if bt286.2 = 0 then (if bt286.1.toList = ([49, 56, 52, 52, 54, 55, 52, 52, 48, 55, 51, 55, 48, 57, 53, 53, 49, 54, 49, 54] : List UInt8) then ((decimal_Bits.f k (⟨#[50, 53, 53]⟩ : ByteArray)).bind fun t288 => (if t288 = 8 then ((decimal_Bits.f k (⟨#[50, 53, 54]⟩ : ByteArray)).bind fun t289 => (if t289 = 9 then ((decimal_Canonical.f k (⟨#[48, 48, 55]⟩ : ByteArray)).bind fun t290 => (some (!t290))) else (some false))) else (some false))) else (some false)) else (some false))) else (some false)) else (some false)) else (some false))) = some r := H
  have A2 := Aside0.mk A20
  clear A20
  replace H := Option.bind_eq_some_iff.mp H
  obtain ⟨⟨t286, t287⟩, A30, H⟩ := H
  replace H : (if t283 = 0 then (if t281.toList = ([49, 52, 50, 56, 53, 55, 49, 52, 50, 56, 53, 55, 49, 52, 50, 56, 53, 55, 49, 52, 50] : List UInt8) then (if t282.toList = ([54] : List UInt8) then (if t285 = true then (some false) else (if t287 = 0 then (if t286.toList = ([49, 56, 52, 52, 54, 55, 52, 52, 48, 55, 51, 55, 48, 57, 53, 53, 49, 54, 49, 54] : List UInt8) then ((decimal_Bits.f k (⟨#[50, 53, 53]⟩ : ByteArray)).bind fun t288 => (if t288 = 8 then ((decimal_Bits.f k (⟨#[50, 53, 54]⟩ : ByteArray)).bind fun t289 => (if t289 = 9 then ((decimal_Canonical.f k (⟨#[48, 48, 55]⟩ : ByteArray)).bind fun t290 => (some (!t290))) else (some false))) else (some false))) else (some false)) else (some false))) else (some false)) else (some false)) else (some false)) = some r := H
  have A3 := Aside0.mk A30
  clear A30
  by_cases c4 : t283 = 0
  · rw [if_pos c4] at H
    have c4b0 : (t283 == 0) = true := beq_iff_eq.mpr c4
    have c4b1 : (t283 != 0) = false := bne_eq_false_iff_eq.mpr c4
    clear c4
    by_cases c5 : t281.toList = ([49, 52, 50, 56, 53, 55, 49, 52, 50, 56, 53, 55, 49, 52, 50, 56, 53, 55, 49, 52, 50] : List UInt8)
    · rw [if_pos c5] at H
      have c5b0 : (t281.toList == ([49, 52, 50, 56, 53, 55, 49, 52, 50, 56, 53, 55, 49, 52, 50, 56, 53, 55, 49, 52, 50] : List UInt8)) = true := beq_iff_eq.mpr c5
      have c5b1 : (t281.toList != ([49, 52, 50, 56, 53, 55, 49, 52, 50, 56, 53, 55, 49, 52, 50, 56, 53, 55, 49, 52, 50] : List UInt8)) = false := bne_eq_false_iff_eq.mpr c5
      clear c5
      by_cases c6 : t282.toList = ([54] : List UInt8)
      · rw [if_pos c6] at H
        have c6b0 : (t282.toList == ([54] : List UInt8)) = true := beq_iff_eq.mpr c6
        have c6b1 : (t282.toList != ([54] : List UInt8)) = false := bne_eq_false_iff_eq.mpr c6
        clear c6
        by_cases c7 : t285 = true
        · subst c7
          have H1 : (some false) = some r := by rw [if_pos rfl] at H; exact H
          clear H
          have H := H1
          clear H1
          obtain rfl := Option.some.inj H
          go_enter Tryd.func13, Tryd.ntmps13
          go_wp2_with (first | ((with_reducible refine gate_callee (f := 20) rfl ?_); refine goesL_ (some 9) rfl rfl Tryd.func20 (by kernel_rfl) rfl #[.string (⟨#[49, 48, 48, 48, 48, 48, 48, 48, 48, 48, 48, 48, 48, 48, 48, 48, 48, 48, 48, 48, 48, 48]⟩ : ByteArray), .string (⟨#[55]⟩ : ByteArray)] rfl mq ?_; (with_reducible refine (decimal_DivMod.calls (hT := HT.out.below bq) k (⟨#[49, 48, 48, 48, 48, 48, 48, 48, 48, 48, 48, 48, 48, 48, 48, 48, 48, 48, 48, 48, 48, 48]⟩ : ByteArray) (⟨#[55]⟩ : ByteArray) t281 t282 t283 _ A1.out).mono ?_); rintro e w8 ⟨rfl, hb⟩; refine ⟨_, rfl, ?_⟩; replace HB := Aside0.mk (below_step bq hb); (try clear hb); (try clear hb2); (try clear hk); (try clear hi)) | ((with_reducible refine gate_callee (f := 15) rfl ?_); refine goesL_ (some 14) rfl rfl Tryd.func15 (by kernel_rfl) rfl #[.string (⟨#[49, 56, 52, 52, 54, 55, 52, 52, 48, 55, 51, 55, 48, 57, 53, 53, 49, 54, 49, 54]⟩ : ByteArray)] rfl mq ?_; (with_reducible refine (decimal_Small.calls (hT := HT.out.below bq) (⟨#[49, 56, 52, 52, 54, 55, 52, 52, 48, 55, 51, 55, 48, 57, 53, 53, 49, 54, 49, 54]⟩ : ByteArray) t284 true _ A2.out).mono ?_); rintro e w9 ⟨rfl, hb⟩; refine ⟨_, rfl, ?_⟩; replace HB := Aside0.mk (below_step bq hb); (try clear hb); (try clear hb2); (try clear hk); (try clear hi)) | ((with_reducible refine gate_callee (f := 25) rfl ?_); refine goesL_ (some 18) rfl rfl Tryd.func25 (by kernel_rfl) rfl #[.string (⟨#[50]⟩ : ByteArray), .int .i64 64] rfl mq ?_; (with_reducible refine (decimal_Power.calls (hT := HT.out.below bq) k (⟨#[50]⟩ : ByteArray) 64 t286 t287 _ A3.out).mono ?_); rintro e w10 ⟨rfl, hb⟩; refine ⟨_, rfl, ?_⟩; replace HB := Aside0.mk (below_step bq hb); (try clear hb); (try clear hb2); (try clear hk); (try clear hi)))
          go_ret
          exact ⟨eq_, bq⟩
        · replace c7 := Bool.eq_false_iff.mpr c7
          subst c7
          have H1 : (if t287 = 0 then (if t286.toList = ([49, 56, 52, 52, 54, 55, 52, 52, 48, 55, 51, 55, 48, 57, 53, 53, 49, 54, 49, 54] : List UInt8) then ((decimal_Bits.f k (⟨#[50, 53, 53]⟩ : ByteArray)).bind fun t288 => (if t288 = 8 then ((decimal_Bits.f k (⟨#[50, 53, 54]⟩ : ByteArray)).bind fun t289 => (if t289 = 9 then ((decimal_Canonical.f k (⟨#[48, 48, 55]⟩ : ByteArray)).bind fun t290 => (some (!t290))) else (some false))) else (some false))) else (some false)) else (some false)) = some r := by rw [if_neg (show ¬ (false = true) by decide)] at H; exact H
          clear H
          have H := H1
          clear H1
          by_cases c11 : t287 = 0
          · rw [if_pos c11] at H
            have c11b0 : (t287 == 0) = true := beq_iff_eq.mpr c11
            have c11b1 : (t287 != 0) = false := bne_eq_false_iff_eq.mpr c11
            clear c11
            by_cases c12 : t286.toList = ([49, 56, 52, 52, 54, 55, 52, 52, 48, 55, 51, 55, 48, 57, 53, 53, 49, 54, 49, 54] : List UInt8)
            · rw [if_pos c12] at H
              have c12b0 : (t286.toList == ([49, 56, 52, 52, 54, 55, 52, 52, 48, 55, 51, 55, 48, 57, 53, 53, 49, 54, 49, 54] : List UInt8)) = true := beq_iff_eq.mpr c12
              have c12b1 : (t286.toList != ([49, 56, 52, 52, 54, 55, 52, 52, 48, 55, 51, 55, 48, 57, 53, 53, 49, 54, 49, 54] : List UInt8)) = false := bne_eq_false_iff_eq.mpr c12
              clear c12
              replace H := Option.bind_eq_some_iff.mp H
              obtain ⟨t288, A130, H⟩ := H
              replace H : (if t288 = 8 then ((decimal_Bits.f k (⟨#[50, 53, 54]⟩ : ByteArray)).bind fun t289 => (if t289 = 9 then ((decimal_Canonical.f k (⟨#[48, 48, 55]⟩ : ByteArray)).bind fun t290 => (some (!t290))) else (some false))) else (some false)) = some r := H
              have A13 := Aside0.mk A130
              clear A130
              by_cases c14 : t288 = 8
              · rw [if_pos c14] at H
                have c14b0 : (t288 == 8) = true := beq_iff_eq.mpr c14
                have c14b1 : (t288 != 8) = false := bne_eq_false_iff_eq.mpr c14
                clear c14
                replace H := Option.bind_eq_some_iff.mp H
                obtain ⟨t289, A150, H⟩ := H
                replace H : (if t289 = 9 then ((decimal_Canonical.f k (⟨#[48, 48, 55]⟩ : ByteArray)).bind fun t290 => (some (!t290))) else (some false)) = some r := H
                have A15 := Aside0.mk A150
                clear A150
                by_cases c16 : t289 = 9
                · rw [if_pos c16] at H
                  have c16b0 : (t289 == 9) = true := beq_iff_eq.mpr c16
                  have c16b1 : (t289 != 9) = false := bne_eq_false_iff_eq.mpr c16
                  clear c16
                  replace H := Option.bind_eq_some_iff.mp H
                  obtain ⟨t290, A170, H⟩ := H
                  replace H : (some (!t290)) = some r := H
                  have A17 := Aside0.mk A170
                  clear A170
                  obtain rfl := Option.some.inj H
                  go_enter Tryd.func13, Tryd.ntmps13
                  go_wp2_with (first | ((with_reducible refine gate_callee (f := 20) rfl ?_); refine goesL_ (some 9) rfl rfl Tryd.func20 (by kernel_rfl) rfl #[.string (⟨#[49, 48, 48, 48, 48, 48, 48, 48, 48, 48, 48, 48, 48, 48, 48, 48, 48, 48, 48, 48, 48, 48]⟩ : ByteArray), .string (⟨#[55]⟩ : ByteArray)] rfl mq ?_; (with_reducible refine (decimal_DivMod.calls (hT := HT.out.below bq) k (⟨#[49, 48, 48, 48, 48, 48, 48, 48, 48, 48, 48, 48, 48, 48, 48, 48, 48, 48, 48, 48, 48, 48]⟩ : ByteArray) (⟨#[55]⟩ : ByteArray) t281 t282 t283 _ A1.out).mono ?_); rintro e w18 ⟨rfl, hb⟩; refine ⟨_, rfl, ?_⟩; replace HB := Aside0.mk (below_step bq hb); (try clear hb); (try clear hb2); (try clear hk); (try clear hi)) | ((with_reducible refine gate_callee (f := 15) rfl ?_); refine goesL_ (some 14) rfl rfl Tryd.func15 (by kernel_rfl) rfl #[.string (⟨#[49, 56, 52, 52, 54, 55, 52, 52, 48, 55, 51, 55, 48, 57, 53, 53, 49, 54, 49, 54]⟩ : ByteArray)] rfl mq ?_; (with_reducible refine (decimal_Small.calls (hT := HT.out.below bq) (⟨#[49, 56, 52, 52, 54, 55, 52, 52, 48, 55, 51, 55, 48, 57, 53, 53, 49, 54, 49, 54]⟩ : ByteArray) t284 false _ A2.out).mono ?_); rintro e w19 ⟨rfl, hb⟩; refine ⟨_, rfl, ?_⟩; replace HB := Aside0.mk (below_step bq hb); (try clear hb); (try clear hb2); (try clear hk); (try clear hi)) | ((with_reducible refine gate_callee (f := 25) rfl ?_); refine goesL_ (some 18) rfl rfl Tryd.func25 (by kernel_rfl) rfl #[.string (⟨#[50]⟩ : ByteArray), .int .i64 64] rfl mq ?_; (with_reducible refine (decimal_Power.calls (hT := HT.out.below bq) k (⟨#[50]⟩ : ByteArray) 64 t286 t287 _ A3.out).mono ?_); rintro e w20 ⟨rfl, hb⟩; refine ⟨_, rfl, ?_⟩; replace HB := Aside0.mk (below_step bq hb); (try clear hb); (try clear hb2); (try clear hk); (try clear hi)) | (go_at_call 31; (with_reducible refine (decimal_Bits.calls (hT := HT.out.below bq) k (⟨#[50, 53, 53]⟩ : ByteArray) t288 _ A13.out).mono ?_); rintro e w21 ⟨rfl, hb⟩; replace HB := Aside0.mk (below_step bq hb); (try clear hb); (try clear hb2); (try clear hk); (try clear hi)) | (go_at_call 31; (with_reducible refine (decimal_Bits.calls (hT := HT.out.below bq) k (⟨#[50, 53, 54]⟩ : ByteArray) t289 _ A15.out).mono ?_); rintro e w22 ⟨rfl, hb⟩; replace HB := Aside0.mk (below_step bq hb); (try clear hb); (try clear hb2); (try clear hk); (try clear hi)) | (go_at_call 28; (with_reducible refine (decimal_Canonical.calls k (⟨#[48, 48, 55]⟩ : ByteArray) t290 _ A17.out).mono ?_); rintro e w23 ⟨rfl, hb⟩; replace HB := Aside0.mk (below_step bq hb); (try clear hb); (try clear hb2); (try clear hk); (try clear hi)))
                  go_ret
                  exact ⟨eq_, bq⟩
                · rw [if_neg c16] at H
                  have c16b0 : (t289 == 9) = false := beq_eq_false_iff_ne.mpr c16
                  have c16b1 : (t289 != 9) = true := bne_iff_ne.mpr c16
                  obtain rfl := Option.some.inj H
                  go_enter Tryd.func13, Tryd.ntmps13
                  go_wp2_with (first | ((with_reducible refine gate_callee (f := 20) rfl ?_); refine goesL_ (some 9) rfl rfl Tryd.func20 (by kernel_rfl) rfl #[.string (⟨#[49, 48, 48, 48, 48, 48, 48, 48, 48, 48, 48, 48, 48, 48, 48, 48, 48, 48, 48, 48, 48, 48]⟩ : ByteArray), .string (⟨#[55]⟩ : ByteArray)] rfl mq ?_; (with_reducible refine (decimal_DivMod.calls (hT := HT.out.below bq) k (⟨#[49, 48, 48, 48, 48, 48, 48, 48, 48, 48, 48, 48, 48, 48, 48, 48, 48, 48, 48, 48, 48, 48]⟩ : ByteArray) (⟨#[55]⟩ : ByteArray) t281 t282 t283 _ A1.out).mono ?_); rintro e w24 ⟨rfl, hb⟩; refine ⟨_, rfl, ?_⟩; replace HB := Aside0.mk (below_step bq hb); (try clear hb); (try clear hb2); (try clear hk); (try clear hi)) | ((with_reducible refine gate_callee (f := 15) rfl ?_); refine goesL_ (some 14) rfl rfl Tryd.func15 (by kernel_rfl) rfl #[.string (⟨#[49, 56, 52, 52, 54, 55, 52, 52, 48, 55, 51, 55, 48, 57, 53, 53, 49, 54, 49, 54]⟩ : ByteArray)] rfl mq ?_; (with_reducible refine (decimal_Small.calls (hT := HT.out.below bq) (⟨#[49, 56, 52, 52, 54, 55, 52, 52, 48, 55, 51, 55, 48, 57, 53, 53, 49, 54, 49, 54]⟩ : ByteArray) t284 false _ A2.out).mono ?_); rintro e w25 ⟨rfl, hb⟩; refine ⟨_, rfl, ?_⟩; replace HB := Aside0.mk (below_step bq hb); (try clear hb); (try clear hb2); (try clear hk); (try clear hi)) | ((with_reducible refine gate_callee (f := 25) rfl ?_); refine goesL_ (some 18) rfl rfl Tryd.func25 (by kernel_rfl) rfl #[.string (⟨#[50]⟩ : ByteArray), .int .i64 64] rfl mq ?_; (with_reducible refine (decimal_Power.calls (hT := HT.out.below bq) k (⟨#[50]⟩ : ByteArray) 64 t286 t287 _ A3.out).mono ?_); rintro e w26 ⟨rfl, hb⟩; refine ⟨_, rfl, ?_⟩; replace HB := Aside0.mk (below_step bq hb); (try clear hb); (try clear hb2); (try clear hk); (try clear hi)) | (go_at_call 31; (with_reducible refine (decimal_Bits.calls (hT := HT.out.below bq) k (⟨#[50, 53, 53]⟩ : ByteArray) t288 _ A13.out).mono ?_); rintro e w27 ⟨rfl, hb⟩; replace HB := Aside0.mk (below_step bq hb); (try clear hb); (try clear hb2); (try clear hk); (try clear hi)) | (go_at_call 31; (with_reducible refine (decimal_Bits.calls (hT := HT.out.below bq) k (⟨#[50, 53, 54]⟩ : ByteArray) t289 _ A15.out).mono ?_); rintro e w28 ⟨rfl, hb⟩; replace HB := Aside0.mk (below_step bq hb); (try clear hb); (try clear hb2); (try clear hk); (try clear hi)))
                  go_ret
                  exact ⟨eq_, bq⟩
              · rw [if_neg c14] at H
                have c14b0 : (t288 == 8) = false := beq_eq_false_iff_ne.mpr c14
                have c14b1 : (t288 != 8) = true := bne_iff_ne.mpr c14
                obtain rfl := Option.some.inj H
                go_enter Tryd.func13, Tryd.ntmps13
                go_wp2_with (first | ((with_reducible refine gate_callee (f := 20) rfl ?_); refine goesL_ (some 9) rfl rfl Tryd.func20 (by kernel_rfl) rfl #[.string (⟨#[49, 48, 48, 48, 48, 48, 48, 48, 48, 48, 48, 48, 48, 48, 48, 48, 48, 48, 48, 48, 48, 48]⟩ : ByteArray), .string (⟨#[55]⟩ : ByteArray)] rfl mq ?_; (with_reducible refine (decimal_DivMod.calls (hT := HT.out.below bq) k (⟨#[49, 48, 48, 48, 48, 48, 48, 48, 48, 48, 48, 48, 48, 48, 48, 48, 48, 48, 48, 48, 48, 48]⟩ : ByteArray) (⟨#[55]⟩ : ByteArray) t281 t282 t283 _ A1.out).mono ?_); rintro e w29 ⟨rfl, hb⟩; refine ⟨_, rfl, ?_⟩; replace HB := Aside0.mk (below_step bq hb); (try clear hb); (try clear hb2); (try clear hk); (try clear hi)) | ((with_reducible refine gate_callee (f := 15) rfl ?_); refine goesL_ (some 14) rfl rfl Tryd.func15 (by kernel_rfl) rfl #[.string (⟨#[49, 56, 52, 52, 54, 55, 52, 52, 48, 55, 51, 55, 48, 57, 53, 53, 49, 54, 49, 54]⟩ : ByteArray)] rfl mq ?_; (with_reducible refine (decimal_Small.calls (hT := HT.out.below bq) (⟨#[49, 56, 52, 52, 54, 55, 52, 52, 48, 55, 51, 55, 48, 57, 53, 53, 49, 54, 49, 54]⟩ : ByteArray) t284 false _ A2.out).mono ?_); rintro e w30 ⟨rfl, hb⟩; refine ⟨_, rfl, ?_⟩; replace HB := Aside0.mk (below_step bq hb); (try clear hb); (try clear hb2); (try clear hk); (try clear hi)) | ((with_reducible refine gate_callee (f := 25) rfl ?_); refine goesL_ (some 18) rfl rfl Tryd.func25 (by kernel_rfl) rfl #[.string (⟨#[50]⟩ : ByteArray), .int .i64 64] rfl mq ?_; (with_reducible refine (decimal_Power.calls (hT := HT.out.below bq) k (⟨#[50]⟩ : ByteArray) 64 t286 t287 _ A3.out).mono ?_); rintro e w31 ⟨rfl, hb⟩; refine ⟨_, rfl, ?_⟩; replace HB := Aside0.mk (below_step bq hb); (try clear hb); (try clear hb2); (try clear hk); (try clear hi)) | (go_at_call 31; (with_reducible refine (decimal_Bits.calls (hT := HT.out.below bq) k (⟨#[50, 53, 53]⟩ : ByteArray) t288 _ A13.out).mono ?_); rintro e w32 ⟨rfl, hb⟩; replace HB := Aside0.mk (below_step bq hb); (try clear hb); (try clear hb2); (try clear hk); (try clear hi)))
                go_ret
                exact ⟨eq_, bq⟩
            · rw [if_neg c12] at H
              have c12b0 : (t286.toList == ([49, 56, 52, 52, 54, 55, 52, 52, 48, 55, 51, 55, 48, 57, 53, 53, 49, 54, 49, 54] : List UInt8)) = false := beq_eq_false_iff_ne.mpr c12
              have c12b1 : (t286.toList != ([49, 56, 52, 52, 54, 55, 52, 52, 48, 55, 51, 55, 48, 57, 53, 53, 49, 54, 49, 54] : List UInt8)) = true := bne_iff_ne.mpr c12
              obtain rfl := Option.some.inj H
              go_enter Tryd.func13, Tryd.ntmps13
              go_wp2_with (first | ((with_reducible refine gate_callee (f := 20) rfl ?_); refine goesL_ (some 9) rfl rfl Tryd.func20 (by kernel_rfl) rfl #[.string (⟨#[49, 48, 48, 48, 48, 48, 48, 48, 48, 48, 48, 48, 48, 48, 48, 48, 48, 48, 48, 48, 48, 48]⟩ : ByteArray), .string (⟨#[55]⟩ : ByteArray)] rfl mq ?_; (with_reducible refine (decimal_DivMod.calls (hT := HT.out.below bq) k (⟨#[49, 48, 48, 48, 48, 48, 48, 48, 48, 48, 48, 48, 48, 48, 48, 48, 48, 48, 48, 48, 48, 48]⟩ : ByteArray) (⟨#[55]⟩ : ByteArray) t281 t282 t283 _ A1.out).mono ?_); rintro e w33 ⟨rfl, hb⟩; refine ⟨_, rfl, ?_⟩; replace HB := Aside0.mk (below_step bq hb); (try clear hb); (try clear hb2); (try clear hk); (try clear hi)) | ((with_reducible refine gate_callee (f := 15) rfl ?_); refine goesL_ (some 14) rfl rfl Tryd.func15 (by kernel_rfl) rfl #[.string (⟨#[49, 56, 52, 52, 54, 55, 52, 52, 48, 55, 51, 55, 48, 57, 53, 53, 49, 54, 49, 54]⟩ : ByteArray)] rfl mq ?_; (with_reducible refine (decimal_Small.calls (hT := HT.out.below bq) (⟨#[49, 56, 52, 52, 54, 55, 52, 52, 48, 55, 51, 55, 48, 57, 53, 53, 49, 54, 49, 54]⟩ : ByteArray) t284 false _ A2.out).mono ?_); rintro e w34 ⟨rfl, hb⟩; refine ⟨_, rfl, ?_⟩; replace HB := Aside0.mk (below_step bq hb); (try clear hb); (try clear hb2); (try clear hk); (try clear hi)) | ((with_reducible refine gate_callee (f := 25) rfl ?_); refine goesL_ (some 18) rfl rfl Tryd.func25 (by kernel_rfl) rfl #[.string (⟨#[50]⟩ : ByteArray), .int .i64 64] rfl mq ?_; (with_reducible refine (decimal_Power.calls (hT := HT.out.below bq) k (⟨#[50]⟩ : ByteArray) 64 t286 t287 _ A3.out).mono ?_); rintro e w35 ⟨rfl, hb⟩; refine ⟨_, rfl, ?_⟩; replace HB := Aside0.mk (below_step bq hb); (try clear hb); (try clear hb2); (try clear hk); (try clear hi)))
              go_ret
              exact ⟨eq_, bq⟩
          · rw [if_neg c11] at H
            have c11b0 : (t287 == 0) = false := beq_eq_false_iff_ne.mpr c11
            have c11b1 : (t287 != 0) = true := bne_iff_ne.mpr c11
            obtain rfl := Option.some.inj H
            go_enter Tryd.func13, Tryd.ntmps13
            go_wp2_with (first | ((with_reducible refine gate_callee (f := 20) rfl ?_); refine goesL_ (some 9) rfl rfl Tryd.func20 (by kernel_rfl) rfl #[.string (⟨#[49, 48, 48, 48, 48, 48, 48, 48, 48, 48, 48, 48, 48, 48, 48, 48, 48, 48, 48, 48, 48, 48]⟩ : ByteArray), .string (⟨#[55]⟩ : ByteArray)] rfl mq ?_; (with_reducible refine (decimal_DivMod.calls (hT := HT.out.below bq) k (⟨#[49, 48, 48, 48, 48, 48, 48, 48, 48, 48, 48, 48, 48, 48, 48, 48, 48, 48, 48, 48, 48, 48]⟩ : ByteArray) (⟨#[55]⟩ : ByteArray) t281 t282 t283 _ A1.out).mono ?_); rintro e w36 ⟨rfl, hb⟩; refine ⟨_, rfl, ?_⟩; replace HB := Aside0.mk (below_step bq hb); (try clear hb); (try clear hb2); (try clear hk); (try clear hi)) | ((with_reducible refine gate_callee (f := 15) rfl ?_); refine goesL_ (some 14) rfl rfl Tryd.func15 (by kernel_rfl) rfl #[.string (⟨#[49, 56, 52, 52, 54, 55, 52, 52, 48, 55, 51, 55, 48, 57, 53, 53, 49, 54, 49, 54]⟩ : ByteArray)] rfl mq ?_; (with_reducible refine (decimal_Small.calls (hT := HT.out.below bq) (⟨#[49, 56, 52, 52, 54, 55, 52, 52, 48, 55, 51, 55, 48, 57, 53, 53, 49, 54, 49, 54]⟩ : ByteArray) t284 false _ A2.out).mono ?_); rintro e w37 ⟨rfl, hb⟩; refine ⟨_, rfl, ?_⟩; replace HB := Aside0.mk (below_step bq hb); (try clear hb); (try clear hb2); (try clear hk); (try clear hi)) | ((with_reducible refine gate_callee (f := 25) rfl ?_); refine goesL_ (some 18) rfl rfl Tryd.func25 (by kernel_rfl) rfl #[.string (⟨#[50]⟩ : ByteArray), .int .i64 64] rfl mq ?_; (with_reducible refine (decimal_Power.calls (hT := HT.out.below bq) k (⟨#[50]⟩ : ByteArray) 64 t286 t287 _ A3.out).mono ?_); rintro e w38 ⟨rfl, hb⟩; refine ⟨_, rfl, ?_⟩; replace HB := Aside0.mk (below_step bq hb); (try clear hb); (try clear hb2); (try clear hk); (try clear hi)))
            go_ret
            exact ⟨eq_, bq⟩
      · rw [if_neg c6] at H
        have c6b0 : (t282.toList == ([54] : List UInt8)) = false := beq_eq_false_iff_ne.mpr c6
        have c6b1 : (t282.toList != ([54] : List UInt8)) = true := bne_iff_ne.mpr c6
        obtain rfl := Option.some.inj H
        go_enter Tryd.func13, Tryd.ntmps13
        go_wp2_with (first | ((with_reducible refine gate_callee (f := 20) rfl ?_); refine goesL_ (some 9) rfl rfl Tryd.func20 (by kernel_rfl) rfl #[.string (⟨#[49, 48, 48, 48, 48, 48, 48, 48, 48, 48, 48, 48, 48, 48, 48, 48, 48, 48, 48, 48, 48, 48]⟩ : ByteArray), .string (⟨#[55]⟩ : ByteArray)] rfl mq ?_; (with_reducible refine (decimal_DivMod.calls (hT := HT.out.below bq) k (⟨#[49, 48, 48, 48, 48, 48, 48, 48, 48, 48, 48, 48, 48, 48, 48, 48, 48, 48, 48, 48, 48, 48]⟩ : ByteArray) (⟨#[55]⟩ : ByteArray) t281 t282 t283 _ A1.out).mono ?_); rintro e w39 ⟨rfl, hb⟩; refine ⟨_, rfl, ?_⟩; replace HB := Aside0.mk (below_step bq hb); (try clear hb); (try clear hb2); (try clear hk); (try clear hi)) | ((with_reducible refine gate_callee (f := 15) rfl ?_); refine goesL_ (some 14) rfl rfl Tryd.func15 (by kernel_rfl) rfl #[.string (⟨#[49, 56, 52, 52, 54, 55, 52, 52, 48, 55, 51, 55, 48, 57, 53, 53, 49, 54, 49, 54]⟩ : ByteArray)] rfl mq ?_; (with_reducible refine (decimal_Small.calls (hT := HT.out.below bq) (⟨#[49, 56, 52, 52, 54, 55, 52, 52, 48, 55, 51, 55, 48, 57, 53, 53, 49, 54, 49, 54]⟩ : ByteArray) t284 t285 _ A2.out).mono ?_); rintro e w40 ⟨rfl, hb⟩; refine ⟨_, rfl, ?_⟩; replace HB := Aside0.mk (below_step bq hb); (try clear hb); (try clear hb2); (try clear hk); (try clear hi)) | ((with_reducible refine gate_callee (f := 25) rfl ?_); refine goesL_ (some 18) rfl rfl Tryd.func25 (by kernel_rfl) rfl #[.string (⟨#[50]⟩ : ByteArray), .int .i64 64] rfl mq ?_; (with_reducible refine (decimal_Power.calls (hT := HT.out.below bq) k (⟨#[50]⟩ : ByteArray) 64 t286 t287 _ A3.out).mono ?_); rintro e w41 ⟨rfl, hb⟩; refine ⟨_, rfl, ?_⟩; replace HB := Aside0.mk (below_step bq hb); (try clear hb); (try clear hb2); (try clear hk); (try clear hi)))
        go_ret
        exact ⟨eq_, bq⟩
    · rw [if_neg c5] at H
      have c5b0 : (t281.toList == ([49, 52, 50, 56, 53, 55, 49, 52, 50, 56, 53, 55, 49, 52, 50, 56, 53, 55, 49, 52, 50] : List UInt8)) = false := beq_eq_false_iff_ne.mpr c5
      have c5b1 : (t281.toList != ([49, 52, 50, 56, 53, 55, 49, 52, 50, 56, 53, 55, 49, 52, 50, 56, 53, 55, 49, 52, 50] : List UInt8)) = true := bne_iff_ne.mpr c5
      obtain rfl := Option.some.inj H
      go_enter Tryd.func13, Tryd.ntmps13
      go_wp2_with (first | ((with_reducible refine gate_callee (f := 20) rfl ?_); refine goesL_ (some 9) rfl rfl Tryd.func20 (by kernel_rfl) rfl #[.string (⟨#[49, 48, 48, 48, 48, 48, 48, 48, 48, 48, 48, 48, 48, 48, 48, 48, 48, 48, 48, 48, 48, 48]⟩ : ByteArray), .string (⟨#[55]⟩ : ByteArray)] rfl mq ?_; (with_reducible refine (decimal_DivMod.calls (hT := HT.out.below bq) k (⟨#[49, 48, 48, 48, 48, 48, 48, 48, 48, 48, 48, 48, 48, 48, 48, 48, 48, 48, 48, 48, 48, 48]⟩ : ByteArray) (⟨#[55]⟩ : ByteArray) t281 t282 t283 _ A1.out).mono ?_); rintro e w42 ⟨rfl, hb⟩; refine ⟨_, rfl, ?_⟩; replace HB := Aside0.mk (below_step bq hb); (try clear hb); (try clear hb2); (try clear hk); (try clear hi)) | ((with_reducible refine gate_callee (f := 15) rfl ?_); refine goesL_ (some 14) rfl rfl Tryd.func15 (by kernel_rfl) rfl #[.string (⟨#[49, 56, 52, 52, 54, 55, 52, 52, 48, 55, 51, 55, 48, 57, 53, 53, 49, 54, 49, 54]⟩ : ByteArray)] rfl mq ?_; (with_reducible refine (decimal_Small.calls (hT := HT.out.below bq) (⟨#[49, 56, 52, 52, 54, 55, 52, 52, 48, 55, 51, 55, 48, 57, 53, 53, 49, 54, 49, 54]⟩ : ByteArray) t284 t285 _ A2.out).mono ?_); rintro e w43 ⟨rfl, hb⟩; refine ⟨_, rfl, ?_⟩; replace HB := Aside0.mk (below_step bq hb); (try clear hb); (try clear hb2); (try clear hk); (try clear hi)) | ((with_reducible refine gate_callee (f := 25) rfl ?_); refine goesL_ (some 18) rfl rfl Tryd.func25 (by kernel_rfl) rfl #[.string (⟨#[50]⟩ : ByteArray), .int .i64 64] rfl mq ?_; (with_reducible refine (decimal_Power.calls (hT := HT.out.below bq) k (⟨#[50]⟩ : ByteArray) 64 t286 t287 _ A3.out).mono ?_); rintro e w44 ⟨rfl, hb⟩; refine ⟨_, rfl, ?_⟩; replace HB := Aside0.mk (below_step bq hb); (try clear hb); (try clear hb2); (try clear hk); (try clear hi)))
      go_ret
      exact ⟨eq_, bq⟩
  · rw [if_neg c4] at H
    have c4b0 : (t283 == 0) = false := beq_eq_false_iff_ne.mpr c4
    have c4b1 : (t283 != 0) = true := bne_iff_ne.mpr c4
    obtain rfl := Option.some.inj H
    go_enter Tryd.func13, Tryd.ntmps13
    go_wp2_with (first | ((with_reducible refine gate_callee (f := 20) rfl ?_); refine goesL_ (some 9) rfl rfl Tryd.func20 (by kernel_rfl) rfl #[.string (⟨#[49, 48, 48, 48, 48, 48, 48, 48, 48, 48, 48, 48, 48, 48, 48, 48, 48, 48, 48, 48, 48, 48]⟩ : ByteArray), .string (⟨#[55]⟩ : ByteArray)] rfl mq ?_; (with_reducible refine (decimal_DivMod.calls (hT := HT.out.below bq) k (⟨#[49, 48, 48, 48, 48, 48, 48, 48, 48, 48, 48, 48, 48, 48, 48, 48, 48, 48, 48, 48, 48, 48]⟩ : ByteArray) (⟨#[55]⟩ : ByteArray) t281 t282 t283 _ A1.out).mono ?_); rintro e w45 ⟨rfl, hb⟩; refine ⟨_, rfl, ?_⟩; replace HB := Aside0.mk (below_step bq hb); (try clear hb); (try clear hb2); (try clear hk); (try clear hi)) | ((with_reducible refine gate_callee (f := 15) rfl ?_); refine goesL_ (some 14) rfl rfl Tryd.func15 (by kernel_rfl) rfl #[.string (⟨#[49, 56, 52, 52, 54, 55, 52, 52, 48, 55, 51, 55, 48, 57, 53, 53, 49, 54, 49, 54]⟩ : ByteArray)] rfl mq ?_; (with_reducible refine (decimal_Small.calls (hT := HT.out.below bq) (⟨#[49, 56, 52, 52, 54, 55, 52, 52, 48, 55, 51, 55, 48, 57, 53, 53, 49, 54, 49, 54]⟩ : ByteArray) t284 t285 _ A2.out).mono ?_); rintro e w46 ⟨rfl, hb⟩; refine ⟨_, rfl, ?_⟩; replace HB := Aside0.mk (below_step bq hb); (try clear hb); (try clear hb2); (try clear hk); (try clear hi)) | ((with_reducible refine gate_callee (f := 25) rfl ?_); refine goesL_ (some 18) rfl rfl Tryd.func25 (by kernel_rfl) rfl #[.string (⟨#[50]⟩ : ByteArray), .int .i64 64] rfl mq ?_; (with_reducible refine (decimal_Power.calls (hT := HT.out.below bq) k (⟨#[50]⟩ : ByteArray) 64 t286 t287 _ A3.out).mono ?_); rintro e w47 ⟨rfl, hb⟩; refine ⟨_, rfl, ?_⟩; replace HB := Aside0.mk (below_step bq hb); (try clear hb); (try clear hb2); (try clear hk); (try clear hi)))
    go_ret
    exact ⟨eq_, bq⟩
mutual
def schismalaw01_Make.l0 : Nat → List Int → List Int → Int → Option (ByteArray)
  | 0, _, _, _ => none
  | k + 1, x0, x3, x4 => if x4 < (x0.length : Int) then (schismalaw01_Make.j1 k x0 x3 x4 (decide (x4 < 120))) else (schismalaw01_Make.j1 k x0 x3 x4 false)
def schismalaw01_Make.j1 : Nat → List Int → List Int → Int → Bool → Option (ByteArray)
  | 0, _, _, _, _ => none
  | k + 1, x0, x3, x4, x13 => if x13 = true then (if 0 ≤ x4 then (if x4 < (x0.length : Int) then (if (Int.tmod (rd x0 x4) 10) > 0 then (if x3.length < 140737488355328 then (schismalaw01_Make.l0 k x0 (x3 ++ [(48 + (Int.tmod (rd x0 x4) 10)) % 256]) (wrap64 (x4 + 1))) else (none)) else (if (x3.length : Int) > 0 then (if x3.length < 140737488355328 then (schismalaw01_Make.l0 k x0 (x3 ++ [(48 + (Int.tmod (rd x0 x4) 10)) % 256]) (wrap64 (x4 + 1))) else (none)) else (schismalaw01_Make.l0 k x0 x3 (wrap64 (x4 + 1))))) else (none)) else (none)) else (if (x3.length : Int) = 0 then (some (⟨#[48]⟩ : ByteArray)) else (some (strOfNums x3)))
end
def schismalaw01_Make.f (k : Nat) (l0 : List Int) : Option (ByteArray) := schismalaw01_Make.l0 k l0 ([] : List Int) 0
theorem schismalaw01_Make.mono_l : ∀ k, (∀ y0 y1 y2, LeO (schismalaw01_Make.l0 k y0 y1 y2) (schismalaw01_Make.l0 (k + 1) y0 y1 y2)) ∧ (∀ y0 y1 y2 y3, LeO (schismalaw01_Make.j1 k y0 y1 y2 y3) (schismalaw01_Make.j1 (k + 1) y0 y1 y2 y3))
  | 0 => ⟨fun _ _ _ r h => by simp [schismalaw01_Make.l0] at h, fun _ _ _ _ r h => by simp [schismalaw01_Make.j1] at h⟩
  | k + 1 => by
    obtain ⟨ih0, ih1⟩ := schismalaw01_Make.mono_l k
    refine ⟨?_, ?_⟩
    · intro y0 y1 y2
      unfold schismalaw01_Make.l0
      repeat' first
      | (with_reducible exact ih0 _ _ _)
      | (with_reducible exact ih1 _ _ _ _)
      | (with_reducible exact LeO.refl _)
      | (with_reducible exact LeO.none _)
      | (with_reducible refine LeO.ite ?_ ?_)
      | (with_reducible refine LeO.bind ?_ (fun _ => ?_))
      | exact ih0 _ _ _
      | exact ih1 _ _ _ _
      | exact LeO.none _
      | refine LeO.ite ?_ ?_
      | refine LeO.bind ?_ (fun _ => ?_)
    · intro y0 y1 y2 y3
      unfold schismalaw01_Make.j1
      repeat' first
      | (with_reducible exact ih0 _ _ _)
      | (with_reducible exact ih1 _ _ _ _)
      | (with_reducible exact LeO.refl _)
      | (with_reducible exact LeO.none _)
      | (with_reducible refine LeO.ite ?_ ?_)
      | (with_reducible refine LeO.bind ?_ (fun _ => ?_))
      | exact ih0 _ _ _
      | exact ih1 _ _ _ _
      | exact LeO.none _
      | refine LeO.ite ?_ ?_
      | refine LeO.bind ?_ (fun _ => ?_)
theorem schismalaw01_Make.mono : ∀ a0 k, LeO (schismalaw01_Make.f k a0) (schismalaw01_Make.f (k + 1) a0) := by
  intro a0 k
  obtain ⟨ih0, ih1⟩ := schismalaw01_Make.mono_l k
  unfold schismalaw01_Make.f
  repeat' first
      | (with_reducible exact ih0 _ _ _)
      | (with_reducible exact ih1 _ _ _ _)
      | (with_reducible exact LeO.refl _)
      | (with_reducible exact LeO.none _)
      | (with_reducible refine LeO.ite ?_ ?_)
      | (with_reducible refine LeO.bind ?_ (fun _ => ?_))
      | exact ih0 _ _ _
      | exact ih1 _ _ _ _
      | exact LeO.none _
      | refine LeO.ite ?_ ?_
      | refine LeO.bind ?_ (fun _ => ?_)
set_option maxHeartbeats 8000000 in
set_option maxRecDepth 100000 in
theorem schismalaw01_Make.calls (k : Nat) (A0 : Option Addr) (c0 : Nat) (l0 : List Int) (r : ByteArray) (w : World) (hr0 : Kd.C (Kd.int .u8) w A0 l0.length l0) (hc0 : l0.length ≤ c0) (h : schismalaw01_Make.f k l0 = some r) :
    Calls Tryd.prog 16 #[.slice A0 l0.length c0] w fun e w' => e = .returned (.string r) ∧ Below w.heap.size w w' := by
  have HR0 := Aside0.mk hr0
  have HC0 := Aside0.mk hc0
  clear hr0 hc0
  have HB := Aside0.mk (Below.refl w.heap.size w)
  have H : (schismalaw01_Make.l0 k l0 ([] : List Int) 0) = some r := h
  clear h
  have H' := Aside0.mk H
  clear H
  go_enter Tryd.func16, Tryd.ntmps16
  go_wp2
  go_loopg [3, 4] k (fun kq v3 v4 w' => ∃ (x3_1 : List Int) (x4_1 : Int), v4 = .int .i64 x4_1 ∧ Aside0 (schismalaw01_Make.l0 kq l0 x3_1 x4_1 = some r) ∧ Aside0 (kq ≤ k) ∧ Aside0 (Kd.R (Kd.int .u8) 5 w' w.heap.size (fun _ => True) v3 x3_1) ∧ Aside0 (Below w.heap.size w w'))
  case atStart => exact ⟨(([] : List Int)), (0), (by first | rfl | (simp; done) | (simp [*]; done)), H', ⟨Nat.le_refl _⟩, ⟨by first | exact Kd.R_nil _ _ _ _ _ | exact Kd.N_nil _ _ _ _ _ | exact Kd.V_nil _ _ _ _ _ | exact Kd.Q_nil _ _ _ _ _ | exact Kd.S_nil _ _ _ _ _⟩, ⟨bq⟩⟩
  case round =>
    clear H'
    try clear c1
    obtain ⟨x3_1, x4_1, rfl, HA, HK1, HO_3, HB⟩ := hrel
    cases gk with
    | zero => exact absurd HA.out (by simp [schismalaw01_Make.l0])
    | succ k1 =>
      have H := HA.out
      clear HA
      simp only [schismalaw01_Make.l0] at H
      have HC2 := Aside0.mk H
      clear H
      go_upto_region 3 with (fail)
      go_cut [13] (fun v13 wc => ∃ (kq : Nat) (x13_1 : Bool), v13 = .bool x13_1 ∧ Aside0 (schismalaw01_Make.j1 kq l0 x3_1 x4_1 x13_1 = some r) ∧ Aside0 (kq ≤ k1) ∧ Aside0 (Kd.R (Kd.int .u8) 5 wc w.heap.size (fun _ => True) u3 x3_1) ∧ Aside0 (Below w.heap.size w wc))
      case first =>
        have H := HC2.out
        clear HC2
        by_cases c3 : x4_1 < (l0.length : Int)
        · rw [if_pos c3] at H
          have c3b0 : decide (x4_1 < (l0.length : Int)) = true := decide_eq_true c3
          clear c3
          (first | rw [c3b0] | (simp only [i64_w, i32_w]; rw [c3b0]) | skip)
          have H' := Aside0.mk H
          clear H
          go_wp2
          go_meet
          case rel => exact ⟨_, (decide (x4_1 < 120)), (by first | rfl | (simp; done) | (simp [*]; done)), H', ⟨by have := HK1.out; first | omega | exact Nat.le_refl _⟩, ⟨by (with_reducible repeat (first | apply Kd.R_alloc | apply Kd.R_drewN | apply Kd.R_drew)); exact HO_3.out⟩, ⟨bq⟩⟩
        · rw [if_neg c3] at H
          have c3b0 : decide (x4_1 < (l0.length : Int)) = false := decide_eq_false c3
          clear c3
          (first | rw [c3b0] | (simp only [i64_w, i32_w]; rw [c3b0]) | skip)
          have H' := Aside0.mk H
          clear H
          go_wp2
          go_meet
          case rel => exact ⟨_, (false), (by first | rfl | (simp; done) | (simp [*]; done)), H', ⟨by have := HK1.out; first | omega | exact Nat.le_refl _⟩, ⟨by (with_reducible repeat (first | apply Kd.R_alloc | apply Kd.R_drewN | apply Kd.R_drew)); exact HO_3.out⟩, ⟨bq⟩⟩
      case rest =>
        clear HC2
        try clear c1
        try clear p2
        try clear c3
        try clear c3b0
        obtain ⟨kq, x13_1, rfl, HA, HJ1, HO_3, HB⟩ := hcut
        cases kq with
        | zero => exact absurd HA.out (by simp [schismalaw01_Make.j1])
        | succ kj1 =>
          have H := HA.out
          clear HA
          simp only [schismalaw01_Make.j1] at H
          by_cases c4 : x13_1 = true
          · subst c4
            have H1 : (if 0 ≤ x4_1 then (if x4_1 < (l0.length : Int) then (if (Int.tmod (rd l0 x4_1) 10) > 0 then (if x3_1.length < 140737488355328 then (schismalaw01_Make.l0 kj1 l0 (x3_1 ++ [(48 + (Int.tmod (rd l0 x4_1) 10)) % 256]) (wrap64 (x4_1 + 1))) else (none)) else (if (x3_1.length : Int) > 0 then (if x3_1.length < 140737488355328 then (schismalaw01_Make.l0 kj1 l0 (x3_1 ++ [(48 + (Int.tmod (rd l0 x4_1) 10)) % 256]) (wrap64 (x4_1 + 1))) else (none)) else (schismalaw01_Make.l0 kj1 l0 x3_1 (wrap64 (x4_1 + 1))))) else (none)) else (none)) = some r := by rw [if_pos rfl] at H; exact H
            clear H
            have H := H1
            clear H1
            by_cases c5 : 0 ≤ x4_1
            · rw [if_pos c5] at H
              have c5b0 : decide (0 ≤ x4_1) = true := decide_eq_true c5
              clear c5
              by_cases c6 : x4_1 < (l0.length : Int)
              · rw [if_pos c6] at H
                have c6b0 : decide (x4_1 < (l0.length : Int)) = true := decide_eq_true c6
                clear c6
                by_cases c7 : (Int.tmod (rd l0 x4_1) 10) > 0
                · rw [if_pos c7] at H
                  have c7b0 : decide (0 < (Int.tmod (rd l0 x4_1) 10)) = true := decide_eq_true c7
                  clear c7
                  by_cases c8 : x3_1.length < 140737488355328
                  · rw [if_pos c8] at H
                    have LMc8 := Aside0.mk c8
                    clear c8
                    obtain ⟨y292, hy292⟩ : ∃ y_ : List Int, y_ = (x3_1 ++ [(48 + (Int.tmod (rd l0 x4_1) 10)) % 256]) := ⟨_, rfl⟩
                    replace H : (schismalaw01_Make.l0 kj1 l0 y292 (wrap64 (x4_1 + 1))) = some r := by first | (rw [hy292]; with_reducible exact H) | (have H2_ := (Option.bind_some _ _).symm.trans H; rw [hy292]; with_reducible exact H2_) | (have H2_ := (Option.bind_some _ _).symm.trans H; with_reducible exact H2_) | with_reducible exact H | (rw [hy292]; exact H) | exact H
                    have Ny292 := Aside0.mk hy292
                    clear hy292
                    have H' := Aside0.mk H
                    clear H
                    have p291 : 0 ≤ (x4_1 : Int) := of_decide_eq_true (by first | (with_reducible assumption) | assumption)
                    have q291 : x4_1 < (l0.length : Int) := of_decide_eq_true (by first | (with_reducible assumption) | assumption)
                    obtain ⟨ad291, e291, hx291_0⟩ := Kd.at_int HR0.out x4_1 p291 q291
                    cases e291
                    replace hx291_0 := (HB.out.cell (World.block_lt_of_cell? w _ hx291_0)).trans hx291_0
                    replace p291 := eq_true p291
                    replace q291 := eq_true q291
                    go_wp2_with (first | ((with_reducible refine gate_builtin (b := .append) (xs := #[.tmp 28, .tmp 31]) rfl ?_); (try (refine gate_guard (by rfl) ?_; dsimp only)); at_builtin; refine Kd.R_append (Kd.int .u8) (w0 := w) w.heap.size rfl (.tmp 28) (.tmp 31) 23 5 (.int .u8 0) 1 rfl Tryd.underlying23 info5 rfl (by decide) (by omega) u3 x3_1 ((48 + (Int.tmod (rd l0 x4_1) 10)) % 256) [.int .u8 ((48 + (Int.tmod (rd l0 x4_1) 10)) % 256)] (fun _ => True) (fun _ => False) rfl rfl ?aP (fun _ hk => hk.elim) ?aF ?aO ?aB ?aS ?aL ?_; (case aP => exact rfl); (case aB => exact bq); (case aF => exact (fun _ _ => trivial)); (case aO => exact (by (with_reducible repeat (first | apply Kd.R_alloc | apply Kd.R_drewN | apply Kd.R_drew)); exact HO_3.out)); (case aS => exact (below_size bq)); (case aL => have := LMc8.out; omega); intro v293 w9 ho hb hg hat; rw [← Ny292.out] at ho; have n0_ := Aside0.mk (hb); have n1_ := Aside0.mk (ho); clear HB; clear HO_3; have HB := n0_; have HO294 := n1_; clear n0_ n1_; clear ho hb hg hat))
                    go_roundg kj1
                    case measure => have := HK1.out; have := HJ1.out; omega
                    case rel => exact ⟨(y292), (wrap64 (x4_1 + 1)), (by first | rfl | (simp; done) | (simp [*]; done)), H', ⟨by have := HK1.out; have := HJ1.out; omega⟩, ⟨by (with_reducible repeat (first | apply Kd.R_alloc | apply Kd.R_drewN | apply Kd.R_drew)); exact HO294.out⟩, ⟨bq⟩⟩
                  · rw [if_neg c8] at H
                    exact absurd H (by simp)
                · rw [if_neg c7] at H
                  have c7b0 : decide (0 < (Int.tmod (rd l0 x4_1) 10)) = false := decide_eq_false c7
                  clear c7
                  by_cases c10 : (x3_1.length : Int) > 0
                  · rw [if_pos c10] at H
                    have c10b0 : decide (0 < (x3_1.length : Int)) = true := decide_eq_true c10
                    have c10b1 : decide (0 < x3_1.length) = true := decide_eq_true (by omega)
                    clear c10
                    by_cases c11 : x3_1.length < 140737488355328
                    · rw [if_pos c11] at H
                      have LMc11 := Aside0.mk c11
                      clear c11
                      obtain ⟨y295, hy295⟩ : ∃ y_ : List Int, y_ = (x3_1 ++ [(48 + (Int.tmod (rd l0 x4_1) 10)) % 256]) := ⟨_, rfl⟩
                      replace H : (schismalaw01_Make.l0 kj1 l0 y295 (wrap64 (x4_1 + 1))) = some r := by first | (rw [hy295]; with_reducible exact H) | (have H2_ := (Option.bind_some _ _).symm.trans H; rw [hy295]; with_reducible exact H2_) | (have H2_ := (Option.bind_some _ _).symm.trans H; with_reducible exact H2_) | with_reducible exact H | (rw [hy295]; exact H) | exact H
                      have Ny295 := Aside0.mk hy295
                      clear hy295
                      have H' := Aside0.mk H
                      clear H
                      have p291 : 0 ≤ (x4_1 : Int) := of_decide_eq_true (by first | (with_reducible assumption) | assumption)
                      have q291 : x4_1 < (l0.length : Int) := of_decide_eq_true (by first | (with_reducible assumption) | assumption)
                      obtain ⟨ad291, e291, hx291_0⟩ := Kd.at_int HR0.out x4_1 p291 q291
                      cases e291
                      replace hx291_0 := (HB.out.cell (World.block_lt_of_cell? w _ hx291_0)).trans hx291_0
                      replace p291 := eq_true p291
                      replace q291 := eq_true q291
                      obtain ⟨Ao12, co12, eo12⟩ := Kd.R_slice HO_3.out
                      subst eo12
                      go_wp2_with (first | ((with_reducible refine gate_builtin (b := .append) (xs := #[.tmp 28, .tmp 31]) rfl ?_); (try (refine gate_guard (by rfl) ?_; dsimp only)); at_builtin; refine Kd.R_append (Kd.int .u8) (w0 := w) w.heap.size rfl (.tmp 28) (.tmp 31) 23 5 (.int .u8 0) 1 rfl Tryd.underlying23 info5 rfl (by decide) (by omega) (.slice Ao12 x3_1.length co12) x3_1 ((48 + (Int.tmod (rd l0 x4_1) 10)) % 256) [.int .u8 ((48 + (Int.tmod (rd l0 x4_1) 10)) % 256)] (fun _ => True) (fun _ => False) rfl rfl ?aP (fun _ hk => hk.elim) ?aF ?aO ?aB ?aS ?aL ?_; (case aP => exact rfl); (case aB => exact bq); (case aF => exact (fun _ _ => trivial)); (case aO => exact (by (with_reducible repeat (first | apply Kd.R_alloc | apply Kd.R_drewN | apply Kd.R_drew)); exact HO_3.out)); (case aS => exact (below_size bq)); (case aL => have := LMc11.out; omega); intro v296 w13 ho hb hg hat; rw [← Ny295.out] at ho; have n0_ := Aside0.mk (hb); have n1_ := Aside0.mk (ho); clear HB; clear HO_3; have HB := n0_; have HO297 := n1_; clear n0_ n1_; clear ho hb hg hat))
                      go_roundg kj1
                      case measure => have := HK1.out; have := HJ1.out; omega
                      case rel => exact ⟨(y295), (wrap64 (x4_1 + 1)), (by first | rfl | (simp; done) | (simp [*]; done)), H', ⟨by have := HK1.out; have := HJ1.out; omega⟩, ⟨by (with_reducible repeat (first | apply Kd.R_alloc | apply Kd.R_drewN | apply Kd.R_drew)); exact HO297.out⟩, ⟨bq⟩⟩
                    · rw [if_neg c11] at H
                      exact absurd H (by simp)
                  · rw [if_neg c10] at H
                    have c10b0 : decide (0 < (x3_1.length : Int)) = false := decide_eq_false c10
                    have c10b1 : decide (0 < x3_1.length) = false := decide_eq_false (by omega)
                    clear c10
                    have H' := Aside0.mk H
                    clear H
                    have p291 : 0 ≤ (x4_1 : Int) := of_decide_eq_true (by first | (with_reducible assumption) | assumption)
                    have q291 : x4_1 < (l0.length : Int) := of_decide_eq_true (by first | (with_reducible assumption) | assumption)
                    obtain ⟨ad291, e291, hx291_0⟩ := Kd.at_int HR0.out x4_1 p291 q291
                    cases e291
                    replace hx291_0 := (HB.out.cell (World.block_lt_of_cell? w _ hx291_0)).trans hx291_0
                    replace p291 := eq_true p291
                    replace q291 := eq_true q291
                    obtain ⟨Ao14, co14, eo14⟩ := Kd.R_slice HO_3.out
                    subst eo14
                    go_wp2
                    go_roundg kj1
                    case measure => have := HK1.out; have := HJ1.out; omega
                    case rel => exact ⟨(x3_1), (wrap64 (x4_1 + 1)), (by first | rfl | (simp; done) | (simp [*]; done)), H', ⟨by have := HK1.out; have := HJ1.out; omega⟩, ⟨by (with_reducible repeat (first | apply Kd.R_alloc | apply Kd.R_drewN | apply Kd.R_drew)); exact HO_3.out⟩, ⟨bq⟩⟩
              · rw [if_neg c6] at H
                exact absurd H (by simp)
            · rw [if_neg c5] at H
              exact absurd H (by simp)
          · replace c4 := Bool.eq_false_iff.mpr c4
            subst c4
            have H1 : (if (x3_1.length : Int) = 0 then (some (⟨#[48]⟩ : ByteArray)) else (some (strOfNums x3_1))) = some r := by rw [if_neg (show ¬ (false = true) by decide)] at H; exact H
            clear H
            have H := H1
            clear H1
            by_cases c15 : (x3_1.length : Int) = 0
            · rw [if_pos c15] at H
              have c15b0 : ((x3_1.length : Int) == 0) = true := beq_iff_eq.mpr c15
              have c15b1 : ((x3_1.length : Int) != 0) = false := bne_eq_false_iff_eq.mpr c15
              clear c15
              obtain rfl := Option.some.inj H
              obtain ⟨Ao16, co16, eo16⟩ := Kd.R_slice HO_3.out
              subst eo16
              go_wp2
              go_ret
              exact ⟨eq_, bq⟩
            · rw [if_neg c15] at H
              have c15b0 : ((x3_1.length : Int) == 0) = false := beq_eq_false_iff_ne.mpr c15
              have c15b1 : ((x3_1.length : Int) != 0) = true := bne_iff_ne.mpr c15
              have c15b2 : ¬ (x3_1 = []) := fun h_ => c15 (by rw [h_]; rfl)
              obtain rfl := Option.some.inj H
              obtain ⟨Ao17, co17, eo17⟩ := Kd.R_slice HO_3.out
              subst eo17
              have hcv18 := own_string (P := Tryd.prog) Tryd.underlying23 Tryd.underlying5 Tryd.underlying26 (Kd.own_of_R HO_3.out)
              have hcv18z := hcv18
              try simp only [List.length_drop, List.length_take] at hcv18z
              go_wp2
              go_ret
              exact ⟨eq_, bq⟩
def schismaref01_Compare.f (a0 : ByteArray) (a1 : ByteArray) : Option (Int) := if (a0.size : Int) = (a1.size : Int) then (if a0.toList = a1.toList then (some 0) else (if (Op.bytesLess a0.toList a1.toList) = true then (some (-1)) else (some 1))) else (if (a0.size : Int) < (a1.size : Int) then (some (-1)) else (some 1))
set_option maxHeartbeats 8000000 in
set_option maxRecDepth 100000 in
theorem schismaref01_Compare.calls (a0 : ByteArray) (a1 : ByteArray) (r : Int) (w : World) (h : schismaref01_Compare.f a0 a1 = some r) :
    Calls Tryd.prog 22 #[.string a0, .string a1] w fun e w' => e = .returned (.int .i64 r) ∧ Drawn0 w w' := by
  have H : (if (a0.size : Int) = (a1.size : Int) then (if a0.toList = a1.toList then (some 0) else (if (Op.bytesLess a0.toList a1.toList) = true then (some (-1)) else (some 1))) else (if (a0.size : Int) < (a1.size : Int) then (some (-1)) else (some 1))) = some r := h
  clear h
  by_cases c3 : (a0.size : Int) = (a1.size : Int)
  · rw [if_pos c3] at H
    have c3b0 : ((a0.size : Int) == (a1.size : Int)) = true := beq_iff_eq.mpr c3
    have c3b1 : ((a0.size : Int) != (a1.size : Int)) = false := bne_eq_false_iff_eq.mpr c3
    have c3b2 : (a0.size == a1.size) = true := by first | simpa using c3 | (simp at c3 ⊢; omega)
    clear c3
    by_cases c4 : a0.toList = a1.toList
    · rw [if_pos c4] at H
      have c4b0 : (a0.toList == a1.toList) = true := beq_iff_eq.mpr c4
      have c4b1 : (a0.toList != a1.toList) = false := bne_eq_false_iff_eq.mpr c4
      clear c4
      obtain rfl := Option.some.inj H
      go_enter Tryd.func22, Tryd.ntmps22
      go_wp2
      go_ret
      exact ⟨by first | rfl | (simp; done) | (simp [wrap64]; done) | (simp [*]; done), by repeat (first | exact Drawn0.refl _ | apply Drawn0.step)⟩
    · rw [if_neg c4] at H
      have c4b0 : (a0.toList == a1.toList) = false := beq_eq_false_iff_ne.mpr c4
      have c4b1 : (a0.toList != a1.toList) = true := bne_iff_ne.mpr c4
      by_cases c5 : (Op.bytesLess a0.toList a1.toList) = true
      · rw [if_pos c5] at H
        have c5b0 : (Op.bytesLess a0.toList a1.toList) = true := c5
        clear c5
        obtain rfl := Option.some.inj H
        go_enter Tryd.func22, Tryd.ntmps22
        go_wp2
        go_ret
        exact ⟨by first | rfl | (simp; done) | (simp [wrap64]; done) | (simp [*]; done), by repeat (first | exact Drawn0.refl _ | apply Drawn0.step)⟩
      · rw [if_neg c5] at H
        have c5b0 : (Op.bytesLess a0.toList a1.toList) = false := by simpa using c5
        clear c5
        obtain rfl := Option.some.inj H
        go_enter Tryd.func22, Tryd.ntmps22
        go_wp2
        go_ret
        exact ⟨by first | rfl | (simp; done) | (simp [wrap64]; done) | (simp [*]; done), by repeat (first | exact Drawn0.refl _ | apply Drawn0.step)⟩
  · rw [if_neg c3] at H
    have c3b0 : ((a0.size : Int) == (a1.size : Int)) = false := beq_eq_false_iff_ne.mpr c3
    have c3b1 : ((a0.size : Int) != (a1.size : Int)) = true := bne_iff_ne.mpr c3
    have c3b2 : (a0.size == a1.size) = false := by first | simpa using c3 | (simp at c3 ⊢; omega)
    by_cases c6 : (a0.size : Int) < (a1.size : Int)
    · rw [if_pos c6] at H
      have c6b0 : decide ((a0.size : Int) < (a1.size : Int)) = true := decide_eq_true c6
      have c6b1 : decide (a0.size < a1.size) = true := decide_eq_true (Int.ofNat_lt.mp c6)
      clear c6
      obtain rfl := Option.some.inj H
      go_enter Tryd.func22, Tryd.ntmps22
      go_wp2
      go_ret
      exact ⟨by first | rfl | (simp; done) | (simp [wrap64]; done) | (simp [*]; done), by repeat (first | exact Drawn0.refl _ | apply Drawn0.step)⟩
    · rw [if_neg c6] at H
      have c6b0 : decide ((a0.size : Int) < (a1.size : Int)) = false := decide_eq_false c6
      have c6b1 : decide (a0.size < a1.size) = false := decide_eq_false (fun h => c6 (Int.ofNat_lt.mpr h))
      clear c6
      obtain rfl := Option.some.inj H
      go_enter Tryd.func22, Tryd.ntmps22
      go_wp2
      go_ret
      exact ⟨by first | rfl | (simp; done) | (simp [wrap64]; done) | (simp [*]; done), by repeat (first | exact Drawn0.refl _ | apply Drawn0.step)⟩
def schismaref01_quick.l0 : Nat → ByteArray → Int → Int → Option (Int × Bool)
  | 0, _, _, _ => none
  | k + 1, x0, x4, x5 => if x5 < (x0.size : Int) then (if 0 ≤ x5 then (schismaref01_quick.l0 k x0 (IntKind.u64.wrap ((IntKind.u64.wrap (x4 * 10)) + (((bt x0 x5) - 48) % 256))) (wrap64 (x5 + 1))) else (none)) else (some (x4, true))
def schismaref01_quick.f (k : Nat) (a0 : ByteArray) : Option (Int × Bool) := if (a0.size : Int) > 18 then (some (0, false)) else (schismaref01_quick.l0 k a0 0 0)
theorem schismaref01_quick.mono_l : ∀ k, (∀ y0 y1 y2, LeO (schismaref01_quick.l0 k y0 y1 y2) (schismaref01_quick.l0 (k + 1) y0 y1 y2))
  | 0 => fun _ _ _ r h => by simp [schismaref01_quick.l0] at h
  | k + 1 => by
    have ih0 := schismaref01_quick.mono_l k
    · intro y0 y1 y2
      unfold schismaref01_quick.l0
      repeat' first
      | (with_reducible exact ih0 _ _ _)
      | (with_reducible exact LeO.refl _)
      | (with_reducible exact LeO.none _)
      | (with_reducible refine LeO.ite ?_ ?_)
      | (with_reducible refine LeO.bind ?_ (fun _ => ?_))
      | exact ih0 _ _ _
      | exact LeO.none _
      | refine LeO.ite ?_ ?_
      | refine LeO.bind ?_ (fun _ => ?_)
theorem schismaref01_quick.mono : ∀ a0 k, LeO (schismaref01_quick.f k a0) (schismaref01_quick.f (k + 1) a0) := by
  intro a0 k
  have ih0 := schismaref01_quick.mono_l k
  unfold schismaref01_quick.f
  repeat' first
      | (with_reducible exact ih0 _ _ _)
      | (with_reducible exact LeO.refl _)
      | (with_reducible exact LeO.none _)
      | (with_reducible refine LeO.ite ?_ ?_)
      | (with_reducible refine LeO.bind ?_ (fun _ => ?_))
      | exact ih0 _ _ _
      | exact LeO.none _
      | refine LeO.ite ?_ ?_
      | refine LeO.bind ?_ (fun _ => ?_)
set_option maxHeartbeats 8000000 in
set_option maxRecDepth 100000 in
theorem schismaref01_quick.calls (k : Nat) (a0 : ByteArray) (r1 : Int) (r2 : Bool) (w : World) (h : schismaref01_quick.f k a0 = some (r1, r2)) :
    Calls Tryd.prog 43 #[.string a0] w fun e w' => e = .returned (.tuple #[.int .u64 r1, .bool r2]) ∧ Drawn0 w w' := by
  have H : (if (a0.size : Int) > 18 then (some (0, false)) else (schismaref01_quick.l0 k a0 0 0)) = some (r1, r2) := h
  clear h
  by_cases c2 : (a0.size : Int) > 18
  · rw [if_pos c2] at H
    have c2b0 : decide (18 < (a0.size : Int)) = true := decide_eq_true c2
    have c2b1 : decide (18 < a0.size) = true := decide_eq_true (by omega)
    clear c2
    simp only [Option.some.injEq, Prod.mk.injEq] at H
    obtain ⟨rfl, rfl⟩ := H
    go_enter Tryd.func43, Tryd.ntmps43
    go_wp2
    go_ret2
    exact ⟨by first | rfl | (simp; done) | (simp [wrap64]; done) | (simp [*]; done), by repeat (first | exact Drawn0.refl _ | apply Drawn0.step)⟩
  · rw [if_neg c2] at H
    have c2b0 : decide (18 < (a0.size : Int)) = false := decide_eq_false c2
    have c2b1 : decide (18 < a0.size) = false := decide_eq_false (by omega)
    clear c2
    have H' := Aside0.mk H
    clear H
    go_enter Tryd.func43, Tryd.ntmps43
    go_wp2
    go_loopg [4, 5] k (fun kq v4 v5 w' => ∃ (x4_1 : Int) (x5_1 : Int), v4 = .int .u64 x4_1 ∧ v5 = .int .i64 x5_1 ∧ Aside0 (schismaref01_quick.l0 kq a0 x4_1 x5_1 = some (r1, r2)) ∧ Aside0 (kq ≤ k) ∧ Drawn0 w w')
    case atStart => exact ⟨(0), (0), (by first | rfl | (simp; done) | (simp [*]; done)), (by first | rfl | (simp; done) | (simp [*]; done)), H', ⟨Nat.le_refl _⟩, by repeat (first | exact Drawn0.refl _ | apply Drawn0.step)⟩
    case round =>
      clear H'
      try clear c2
      try clear c2b0
      try clear c2b1
      try clear p2
      obtain ⟨x4_1, x5_1, rfl, rfl, HA, HK1, ⟨m1, rfl⟩⟩ := hrel
      cases gk with
      | zero => exact absurd HA.out (by simp [schismaref01_quick.l0])
      | succ k1 =>
        have H := HA.out
        clear HA
        simp only [schismaref01_quick.l0] at H
        by_cases c3 : x5_1 < (a0.size : Int)
        · rw [if_pos c3] at H
          have c3b0 : decide (x5_1 < (a0.size : Int)) = true := decide_eq_true c3
          clear c3
          by_cases c4 : 0 ≤ x5_1
          · rw [if_pos c4] at H
            have c4b0 : decide (0 ≤ x5_1) = true := decide_eq_true c4
            clear c4
            have H' := Aside0.mk H
            clear H
            have p5 : 0 ≤ (x5_1 : Int) := of_decide_eq_true (by first | (with_reducible assumption) | assumption)
            have q5 : x5_1 < (a0.size : Int) := of_decide_eq_true (by first | (with_reducible assumption) | assumption)
            have hx5 := bt_at a0 x5_1
            replace p5 := eq_true p5
            replace q5 := eq_true q5
            go_wp2
            go_roundg k1
            case measure => have := HK1.out; omega
            case rel => exact ⟨(IntKind.u64.wrap ((IntKind.u64.wrap (x4_1 * 10)) + (((bt a0 x5_1) - 48) % 256))), (wrap64 (x5_1 + 1)), (by first | rfl | (simp; done) | (simp [*]; done)), (by first | rfl | (simp; done) | (simp [*]; done)), H', ⟨by have := HK1.out; omega⟩, by repeat (first | exact Drawn0.refl _ | apply Drawn0.step)⟩
          · rw [if_neg c4] at H
            exact absurd H (by simp)
        · rw [if_neg c3] at H
          have c3b0 : decide (x5_1 < (a0.size : Int)) = false := decide_eq_false c3
          clear c3
          simp only [Option.some.injEq, Prod.mk.injEq] at H
          obtain ⟨rfl, rfl⟩ := H
          go_wp2
          go_ret2
          exact ⟨by first | rfl | (simp; done) | (simp [wrap64]; done) | (simp [*]; done), by repeat (first | exact Drawn0.refl _ | apply Drawn0.step)⟩
def schismaref01_digit.f (a0 : ByteArray) (a1 : Int) : Option (Int) := if a1 ≥ (a0.size : Int) then (some 0) else (if 0 ≤ (wrap64 ((wrap64 ((a0.size : Int) - 1)) - a1)) then (if (wrap64 ((wrap64 ((a0.size : Int) - 1)) - a1)) < (a0.size : Int) then (some (((bt a0 (wrap64 ((wrap64 ((a0.size : Int) - 1)) - a1))) - 48) % 256)) else (none)) else (none))
set_option maxHeartbeats 8000000 in
set_option maxRecDepth 100000 in
theorem schismaref01_digit.calls (a0 : ByteArray) (a1 : Int) (r : Int) (w : World) (h : schismaref01_digit.f a0 a1 = some r) :
    Calls Tryd.prog 50 #[.string a0, .int .i64 a1] w fun e w' => e = .returned (.int .i64 r) ∧ Drawn0 w w' := by
  have H : (if a1 ≥ (a0.size : Int) then (some 0) else (if 0 ≤ (wrap64 ((wrap64 ((a0.size : Int) - 1)) - a1)) then (if (wrap64 ((wrap64 ((a0.size : Int) - 1)) - a1)) < (a0.size : Int) then (some (((bt a0 (wrap64 ((wrap64 ((a0.size : Int) - 1)) - a1))) - 48) % 256)) else (none)) else (none))) = some r := h
  clear h
  by_cases c3 : a1 ≥ (a0.size : Int)
  · rw [if_pos c3] at H
    have c3b0 : decide ((a0.size : Int) ≤ a1) = true := decide_eq_true c3
    clear c3
    obtain rfl := Option.some.inj H
    go_enter Tryd.func50, Tryd.ntmps50
    go_wp2
    go_ret
    exact ⟨by first | rfl | (simp; done) | (simp [wrap64]; done) | (simp [*]; done), by repeat (first | exact Drawn0.refl _ | apply Drawn0.step)⟩
  · rw [if_neg c3] at H
    have c3b0 : decide ((a0.size : Int) ≤ a1) = false := decide_eq_false c3
    clear c3
    obtain ⟨ji4, hji4⟩ : ∃ j_ : Int, (wrap64 ((wrap64 ((a0.size : Int) - 1)) - a1)) = j_ := ⟨_, rfl⟩
    replace H : (if 0 ≤ (ji4) then (if (ji4) < (a0.size : Int) then (some (((bt a0 (ji4)) - 48) % 256)) else (none)) else (none)) = some r := by first | (rw [hji4] at H; exact H) | (simp only [hji4] at H ⊢; exact H)
    have hji4w : (IntKind.i64.wrap ((wrap64 ((a0.size : Int) - 1)) - a1)) = ji4 := (i64_w _).trans hji4
    by_cases c5 : 0 ≤ (ji4)
    · rw [if_pos c5] at H
      have c5b0 : decide (0 ≤ (ji4)) = true := decide_eq_true c5
      clear c5
      by_cases c6 : (ji4) < (a0.size : Int)
      · rw [if_pos c6] at H
        have c6b0 : decide ((ji4) < (a0.size : Int)) = true := decide_eq_true c6
        clear c6
        obtain rfl := Option.some.inj H
        have p7 : 0 ≤ ((ji4) : Int) := of_decide_eq_true (by first | (with_reducible assumption) | assumption)
        have q7 : (ji4) < (a0.size : Int) := of_decide_eq_true (by first | (with_reducible assumption) | assumption)
        have hx7 := bt_at a0 (ji4)
        replace p7 := eq_true p7
        replace q7 := eq_true q7
        go_enter Tryd.func50, Tryd.ntmps50
        go_wp2
        go_ret
        exact ⟨by first | rfl | (simp; done) | (simp only [← hji4] <;> (first | rfl | simp)) | (simp [*]; done), by repeat (first | exact Drawn0.refl _ | apply Drawn0.step)⟩
      · rw [if_neg c6] at H
        exact absurd H (by simp)
    · rw [if_neg c5] at H
      exact absurd H (by simp)
def schismaref01_trim.l0 : Nat → List Int → Int → Option (ByteArray)
  | 0, _, _ => none
  | k + 1, x0, x3 => if x3 < (wrap64 ((x0.length : Int) - 1)) then (if 0 ≤ x3 then (if x3 < (x0.length : Int) then (if (rd x0 x3) = 48 then (schismaref01_trim.l0 k x0 (wrap64 (x3 + 1))) else (if x3 ≤ (x0.length : Int) then (some (strOfNums (x0.drop (x3 : Int).toNat))) else (none))) else (none)) else (none)) else (if 0 ≤ x3 then (if x3 ≤ (x0.length : Int) then (some (strOfNums (x0.drop (x3 : Int).toNat))) else (none)) else (none))
def schismaref01_trim.f (k : Nat) (l0 : List Int) : Option (ByteArray) := schismaref01_trim.l0 k l0 0
theorem schismaref01_trim.mono_l : ∀ k, (∀ y0 y1, LeO (schismaref01_trim.l0 k y0 y1) (schismaref01_trim.l0 (k + 1) y0 y1))
  | 0 => fun _ _ r h => by simp [schismaref01_trim.l0] at h
  | k + 1 => by
    have ih0 := schismaref01_trim.mono_l k
    · intro y0 y1
      unfold schismaref01_trim.l0
      repeat' first
      | (with_reducible exact ih0 _ _)
      | (with_reducible exact LeO.refl _)
      | (with_reducible exact LeO.none _)
      | (with_reducible refine LeO.ite ?_ ?_)
      | (with_reducible refine LeO.bind ?_ (fun _ => ?_))
      | exact ih0 _ _
      | exact LeO.none _
      | refine LeO.ite ?_ ?_
      | refine LeO.bind ?_ (fun _ => ?_)
theorem schismaref01_trim.mono : ∀ a0 k, LeO (schismaref01_trim.f k a0) (schismaref01_trim.f (k + 1) a0) := by
  intro a0 k
  have ih0 := schismaref01_trim.mono_l k
  unfold schismaref01_trim.f
  repeat' first
      | (with_reducible exact ih0 _ _)
      | (with_reducible exact LeO.refl _)
      | (with_reducible exact LeO.none _)
      | (with_reducible refine LeO.ite ?_ ?_)
      | (with_reducible refine LeO.bind ?_ (fun _ => ?_))
      | exact ih0 _ _
      | exact LeO.none _
      | refine LeO.ite ?_ ?_
      | refine LeO.bind ?_ (fun _ => ?_)
set_option maxHeartbeats 8000000 in
set_option maxRecDepth 100000 in
theorem schismaref01_trim.calls (k : Nat) (A0 : Option Addr) (c0 : Nat) (l0 : List Int) (r : ByteArray) (w : World) (hr0 : Kd.C (Kd.int .u8) w A0 l0.length l0) (hc0 : l0.length ≤ c0) (h : schismaref01_trim.f k l0 = some r) :
    Calls Tryd.prog 51 #[.slice A0 l0.length c0] w fun e w' => e = .returned (.string r) ∧ Drawn0 w w' := by
  have HR0 := Aside0.mk hr0
  have HC0 := Aside0.mk hc0
  clear hr0 hc0
  have H : (schismaref01_trim.l0 k l0 0) = some r := h
  clear h
  have H' := Aside0.mk H
  clear H
  go_enter Tryd.func51, Tryd.ntmps51
  go_wp2
  go_loopg [3] k (fun kq v3 w' => ∃ (x3_1 : Int), v3 = .int .i64 x3_1 ∧ Aside0 (schismaref01_trim.l0 kq l0 x3_1 = some r) ∧ Aside0 (kq ≤ k) ∧ Drawn0 w w')
  case atStart => exact ⟨(0), (by first | rfl | (simp; done) | (simp [*]; done)), H', ⟨Nat.le_refl _⟩, by repeat (first | exact Drawn0.refl _ | apply Drawn0.step)⟩
  case round =>
    clear H'
    obtain ⟨x3_1, rfl, HA, HK1, ⟨m1, rfl⟩⟩ := hrel
    cases gk with
    | zero => exact absurd HA.out (by simp [schismaref01_trim.l0])
    | succ k1 =>
      have H := HA.out
      clear HA
      simp only [schismaref01_trim.l0] at H
      by_cases c2 : x3_1 < (wrap64 ((l0.length : Int) - 1))
      · rw [if_pos c2] at H
        have c2b0 : decide (x3_1 < (wrap64 ((l0.length : Int) - 1))) = true := decide_eq_true c2
        clear c2
        by_cases c3 : 0 ≤ x3_1
        · rw [if_pos c3] at H
          have c3b0 : decide (0 ≤ x3_1) = true := decide_eq_true c3
          clear c3
          by_cases c4 : x3_1 < (l0.length : Int)
          · rw [if_pos c4] at H
            have c4b0 : decide (x3_1 < (l0.length : Int)) = true := decide_eq_true c4
            clear c4
            by_cases c5 : (rd l0 x3_1) = 48
            · rw [if_pos c5] at H
              have c5b0 : ((rd l0 x3_1) == 48) = true := beq_iff_eq.mpr c5
              have c5b1 : ((rd l0 x3_1) != 48) = false := bne_eq_false_iff_eq.mpr c5
              clear c5
              have H' := Aside0.mk H
              clear H
              have p312 : 0 ≤ (x3_1 : Int) := of_decide_eq_true (by first | (with_reducible assumption) | assumption)
              have q312 : x3_1 < (l0.length : Int) := of_decide_eq_true (by first | (with_reducible assumption) | assumption)
              obtain ⟨ad312, e312, hx312_0⟩ := Kd.at_int HR0.out x3_1 p312 q312
              cases e312
              replace p312 := eq_true p312
              replace q312 := eq_true q312
              go_wp2
              go_roundg k1
              case measure => have := HK1.out; omega
              case rel => exact ⟨(wrap64 (x3_1 + 1)), (by first | rfl | (simp; done) | (simp [*]; done)), H', ⟨by have := HK1.out; omega⟩, by repeat (first | exact Drawn0.refl _ | apply Drawn0.step)⟩
            · rw [if_neg c5] at H
              have c5b0 : ((rd l0 x3_1) == 48) = false := beq_eq_false_iff_ne.mpr c5
              have c5b1 : ((rd l0 x3_1) != 48) = true := bne_iff_ne.mpr c5
              have c6b0 := eq_true (of_decide_eq_true (by first | (with_reducible assumption) | assumption) : 0 ≤ x3_1)
              by_cases c7 : x3_1 ≤ (l0.length : Int)
              · rw [if_pos c7] at H
                have c7b0 := eq_true c7
                have c7b1 : decide (x3_1 ≤ (l0.length : Int)) = true := decide_eq_true c7
                clear c7
                obtain rfl := Option.some.inj H
                have p312 : 0 ≤ (x3_1 : Int) := of_decide_eq_true (by first | (with_reducible assumption) | assumption)
                have q312 : x3_1 < (l0.length : Int) := of_decide_eq_true (by first | (with_reducible assumption) | assumption)
                obtain ⟨ad312, e312, hx312_0⟩ := Kd.at_int HR0.out x3_1 p312 q312
                cases e312
                replace p312 := eq_true p312
                replace q312 := eq_true q312
                obtain ⟨i08, hi08, _, hsz8, _⟩ := info_parts info5
                obtain ⟨A8, hcut8, hA8, hC8⟩ := print_drop_of (P := Tryd.prog) (Value.int .u8) 0 23 5 .i64 Tryd.underlying23 hi08 hsz8 (some ad312) c0 l0 x3_1 (of_decide_eq_true (by first | (with_reducible assumption) | assumption)) (of_decide_eq_true (by first | (with_reducible assumption) | assumption)) HC0.out
                have HR313 := Aside0.mk (Kd.C_of_reads (h1 := fun _ => rfl) (hA8 _ (Kd.reads_of_C HR0.out)))
                have HC313 := Aside0.mk hC8
                clear hA8 hC8 hi08 hsz8
                have hcv9 := Kd.C_string (P := Tryd.prog) (A := A8) (c := (c0 - x3_1.toNat)) Tryd.underlying23 Tryd.underlying5 Tryd.underlying26 HR313.out
                have hcv9z := hcv9
                try simp only [List.length_drop, List.length_take] at hcv9z
                have hcv9y := fun (m_ : Nat) => Kd.C_string (P := Tryd.prog) (A := A8) (c := (c0 - x3_1.toNat)) Tryd.underlying23 Tryd.underlying5 Tryd.underlying26 (Kd.C_drewN HR313.out m_)
                try simp only [List.length_drop, List.length_take] at hcv9y
                go_wp2
                go_ret
                exact ⟨by first | rfl | (simp; done) | (simp [wrap64]; done) | (simp [*]; done), by repeat (first | exact Drawn0.refl _ | apply Drawn0.step)⟩
              · rw [if_neg c7] at H
                exact absurd H (by simp)
          · rw [if_neg c4] at H
            exact absurd H (by simp)
        · rw [if_neg c3] at H
          exact absurd H (by simp)
      · rw [if_neg c2] at H
        have c2b0 : decide (x3_1 < (wrap64 ((l0.length : Int) - 1))) = false := decide_eq_false c2
        clear c2
        by_cases c10 : 0 ≤ x3_1
        · rw [if_pos c10] at H
          have c10b0 := eq_true c10
          have c10b1 : decide (0 ≤ x3_1) = true := decide_eq_true c10
          clear c10
          by_cases c11 : x3_1 ≤ (l0.length : Int)
          · rw [if_pos c11] at H
            have c11b0 := eq_true c11
            have c11b1 : decide (x3_1 ≤ (l0.length : Int)) = true := decide_eq_true c11
            clear c11
            obtain rfl := Option.some.inj H
            obtain ⟨i012, hi012, _, hsz12, _⟩ := info_parts info5
            obtain ⟨A12, hcut12, hA12, hC12⟩ := print_drop_of (P := Tryd.prog) (Value.int .u8) 0 23 5 .i64 Tryd.underlying23 hi012 hsz12 A0 c0 l0 x3_1 (of_decide_eq_true (by first | (with_reducible assumption) | assumption)) (of_decide_eq_true (by first | (with_reducible assumption) | assumption)) HC0.out
            have HR314 := Aside0.mk (Kd.C_of_reads (h1 := fun _ => rfl) (hA12 _ (Kd.reads_of_C HR0.out)))
            have HC314 := Aside0.mk hC12
            clear hA12 hC12 hi012 hsz12
            have hcv13 := Kd.C_string (P := Tryd.prog) (A := A12) (c := (c0 - x3_1.toNat)) Tryd.underlying23 Tryd.underlying5 Tryd.underlying26 HR314.out
            have hcv13z := hcv13
            try simp only [List.length_drop, List.length_take] at hcv13z
            have hcv13y := fun (m_ : Nat) => Kd.C_string (P := Tryd.prog) (A := A12) (c := (c0 - x3_1.toNat)) Tryd.underlying23 Tryd.underlying5 Tryd.underlying26 (Kd.C_drewN HR314.out m_)
            try simp only [List.length_drop, List.length_take] at hcv13y
            go_wp2
            go_ret
            exact ⟨by first | rfl | (simp; done) | (simp [wrap64]; done) | (simp [*]; done), by repeat (first | exact Drawn0.refl _ | apply Drawn0.step)⟩
          · rw [if_neg c11] at H
            exact absurd H (by simp)
        · rw [if_neg c10] at H
          exact absurd H (by simp)
mutual
def schismaref01_limbs.l0 : Nat → ByteArray → List Int → Int → Option (List Int)
  | 0, _, _, _ => none
  | k + 1, x0, x3, x4 => if x4 > 0 then (schismaref01_limbs.l1 k x0 x3 x4 0 (mx (wrap64 (x4 - 9)) 0)) else (some x3)
def schismaref01_limbs.l1 : Nat → ByteArray → List Int → Int → Int → Int → Option (List Int)
  | 0, _, _, _, _, _ => none
  | k + 1, x0, x3, x4, x5, x6 => if x6 < x4 then (if 0 ≤ x6 then (if x6 < (x0.size : Int) then (schismaref01_limbs.l1 k x0 x3 x4 (IntKind.u64.wrap ((IntKind.u64.wrap (x5 * 10)) + (((bt x0 x6) - 48) % 256))) (wrap64 (x6 + 1))) else (none)) else (none)) else (if x3.length < 17592186044416 then (schismaref01_limbs.l0 k x0 (x3 ++ [x5]) (wrap64 (x4 - 9))) else (none))
end
def schismaref01_limbs.f (k : Nat) (a0 : ByteArray) : Option (List Int) := schismaref01_limbs.l0 k a0 ([] : List Int) (a0.size : Int)
theorem schismaref01_limbs.mono_l : ∀ k, (∀ y0 y1 y2, LeO (schismaref01_limbs.l0 k y0 y1 y2) (schismaref01_limbs.l0 (k + 1) y0 y1 y2)) ∧ (∀ y0 y1 y2 y3 y4, LeO (schismaref01_limbs.l1 k y0 y1 y2 y3 y4) (schismaref01_limbs.l1 (k + 1) y0 y1 y2 y3 y4))
  | 0 => ⟨fun _ _ _ r h => by simp [schismaref01_limbs.l0] at h, fun _ _ _ _ _ r h => by simp [schismaref01_limbs.l1] at h⟩
  | k + 1 => by
    obtain ⟨ih0, ih1⟩ := schismaref01_limbs.mono_l k
    refine ⟨?_, ?_⟩
    · intro y0 y1 y2
      unfold schismaref01_limbs.l0
      repeat' first
      | (with_reducible exact ih0 _ _ _)
      | (with_reducible exact ih1 _ _ _ _ _)
      | (with_reducible exact LeO.refl _)
      | (with_reducible exact LeO.none _)
      | (with_reducible refine LeO.ite ?_ ?_)
      | (with_reducible refine LeO.bind ?_ (fun _ => ?_))
      | exact ih0 _ _ _
      | exact ih1 _ _ _ _ _
      | exact LeO.none _
      | refine LeO.ite ?_ ?_
      | refine LeO.bind ?_ (fun _ => ?_)
    · intro y0 y1 y2 y3 y4
      unfold schismaref01_limbs.l1
      repeat' first
      | (with_reducible exact ih0 _ _ _)
      | (with_reducible exact ih1 _ _ _ _ _)
      | (with_reducible exact LeO.refl _)
      | (with_reducible exact LeO.none _)
      | (with_reducible refine LeO.ite ?_ ?_)
      | (with_reducible refine LeO.bind ?_ (fun _ => ?_))
      | exact ih0 _ _ _
      | exact ih1 _ _ _ _ _
      | exact LeO.none _
      | refine LeO.ite ?_ ?_
      | refine LeO.bind ?_ (fun _ => ?_)
theorem schismaref01_limbs.mono : ∀ a0 k, LeO (schismaref01_limbs.f k a0) (schismaref01_limbs.f (k + 1) a0) := by
  intro a0 k
  obtain ⟨ih0, ih1⟩ := schismaref01_limbs.mono_l k
  unfold schismaref01_limbs.f
  repeat' first
      | (with_reducible exact ih0 _ _ _)
      | (with_reducible exact ih1 _ _ _ _ _)
      | (with_reducible exact LeO.refl _)
      | (with_reducible exact LeO.none _)
      | (with_reducible refine LeO.ite ?_ ?_)
      | (with_reducible refine LeO.bind ?_ (fun _ => ?_))
      | exact ih0 _ _ _
      | exact ih1 _ _ _ _ _
      | exact LeO.none _
      | refine LeO.ite ?_ ?_
      | refine LeO.bind ?_ (fun _ => ?_)
set_option maxHeartbeats 8000000 in
set_option maxRecDepth 100000 in
theorem schismaref01_limbs.calls (k : Nat) (a0 : ByteArray) (r : List Int) (w : World) (h : schismaref01_limbs.f k a0 = some r) :
    Calls Tryd.prog 52 #[.string a0] w fun e w' => ∃ v0_ : Value, e = .returned (v0_) ∧ Kd.R (Kd.int .u64) 22 w' w.heap.size (fun _ => True) v0_ r ∧ Below w.heap.size w w' := by
  have HB := Aside0.mk (Below.refl w.heap.size w)
  have H : (schismaref01_limbs.l0 k a0 ([] : List Int) (a0.size : Int)) = some r := h
  clear h
  have H' := Aside0.mk H
  clear H
  go_enter Tryd.func52, Tryd.ntmps52
  go_wp2
  go_loopg [3, 4] k (fun kq v3 v4 w' => ∃ (x3_1 : List Int) (x4_1 : Int), v4 = .int .i64 x4_1 ∧ Aside0 (schismaref01_limbs.l0 kq a0 x3_1 x4_1 = some r) ∧ Aside0 (kq ≤ k) ∧ Aside0 (Kd.R (Kd.int .u64) 22 w' w.heap.size (fun _ => True) v3 x3_1) ∧ Aside0 (Below w.heap.size w w'))
  case atStart => exact ⟨(([] : List Int)), ((a0.size : Int)), (by first | rfl | (simp; done) | (simp [*]; done)), H', ⟨Nat.le_refl _⟩, ⟨by first | exact Kd.R_nil _ _ _ _ _ | exact Kd.N_nil _ _ _ _ _ | exact Kd.V_nil _ _ _ _ _ | exact Kd.Q_nil _ _ _ _ _ | exact Kd.S_nil _ _ _ _ _⟩, ⟨bq⟩⟩
  case round =>
    clear H'
    obtain ⟨x3_1, x4_1, rfl, HA, HK1, HO_3, HB⟩ := hrel
    cases gk with
    | zero => exact absurd HA.out (by simp [schismaref01_limbs.l0])
    | succ k1 =>
      have H := HA.out
      clear HA
      simp only [schismaref01_limbs.l0] at H
      by_cases c2 : x4_1 > 0
      · rw [if_pos c2] at H
        have c2b0 : decide (0 < x4_1) = true := decide_eq_true c2
        clear c2
        obtain ⟨ji3, hji3⟩ : ∃ j_ : Int, (mx (wrap64 (x4_1 - 9)) 0) = j_ := ⟨_, rfl⟩
        replace H : (schismaref01_limbs.l1 k1 a0 x3_1 x4_1 0 ji3) = some r := by first | (rw [hji3] at H; exact H) | (simp only [hji3] at H ⊢; exact H)
        have hji3_ : (if (wrap64 (x4_1 - 9)) < 0 then 0 else (wrap64 (x4_1 - 9))) = ji3 := hji3
        have H' := Aside0.mk H
        clear H
        go_wp2
        go_loopg [5, 6] k1 (fun kq v5 v6 w' => ∃ (x5_2 : Int) (x6_2 : Int), v5 = .int .u64 x5_2 ∧ v6 = .int .i64 x6_2 ∧ Aside0 (schismaref01_limbs.l1 kq a0 x3_1 x4_1 x5_2 x6_2 = some r) ∧ Aside0 (kq ≤ k1) ∧ Aside0 (Kd.R (Kd.int .u64) 22 w' w.heap.size (fun _ => True) u3 x3_1) ∧ Aside0 (Below w.heap.size w w'))
        case atStart => exact ⟨(0), (ji3), (by first | rfl | (simp; done) | (simp [*]; done)), (by first | rfl | (simp; done) | (simp only [← hji3] <;> (first | rfl | simp)) | (simp [*]; done)), H', ⟨Nat.le_refl _⟩, ⟨by (with_reducible repeat (first | apply Kd.R_alloc | apply Kd.R_drewN | apply Kd.R_drew)); exact HO_3.out⟩, ⟨bq⟩⟩
        case round =>
          clear H'
          try clear c2
          try clear c2b0
          try clear p2
          obtain ⟨x5_2, x6_2, rfl, rfl, HA, HK2, HO_3, HB⟩ := hrel
          cases gk with
          | zero => exact absurd HA.out (by simp [schismaref01_limbs.l1])
          | succ k2 =>
            have H := HA.out
            clear HA
            simp only [schismaref01_limbs.l1] at H
            by_cases c4 : x6_2 < x4_1
            · rw [if_pos c4] at H
              have c4b0 : decide (x6_2 < x4_1) = true := decide_eq_true c4
              clear c4
              by_cases c5 : 0 ≤ x6_2
              · rw [if_pos c5] at H
                have c5b0 : decide (0 ≤ x6_2) = true := decide_eq_true c5
                clear c5
                by_cases c6 : x6_2 < (a0.size : Int)
                · rw [if_pos c6] at H
                  have c6b0 : decide (x6_2 < (a0.size : Int)) = true := decide_eq_true c6
                  clear c6
                  have H' := Aside0.mk H
                  clear H
                  have p7 : 0 ≤ (x6_2 : Int) := of_decide_eq_true (by first | (with_reducible assumption) | assumption)
                  have q7 : x6_2 < (a0.size : Int) := of_decide_eq_true (by first | (with_reducible assumption) | assumption)
                  have hx7 := bt_at a0 x6_2
                  replace p7 := eq_true p7
                  replace q7 := eq_true q7
                  go_wp2
                  go_roundg k2
                  case measure => have := HK1.out; have := HK2.out; omega
                  case rel => exact ⟨(IntKind.u64.wrap ((IntKind.u64.wrap (x5_2 * 10)) + (((bt a0 x6_2) - 48) % 256))), (wrap64 (x6_2 + 1)), (by first | rfl | (simp; done) | (simp [*]; done)), (by first | rfl | (simp; done) | (simp [*]; done)), H', ⟨by have := HK1.out; have := HK2.out; omega⟩, ⟨by (with_reducible repeat (first | apply Kd.R_alloc | apply Kd.R_drewN | apply Kd.R_drew)); exact HO_3.out⟩, ⟨bq⟩⟩
                · rw [if_neg c6] at H
                  exact absurd H (by simp)
              · rw [if_neg c5] at H
                exact absurd H (by simp)
            · rw [if_neg c4] at H
              have c4b0 : decide (x6_2 < x4_1) = false := decide_eq_false c4
              clear c4
              by_cases c8 : x3_1.length < 17592186044416
              · rw [if_pos c8] at H
                have LMc8 := Aside0.mk c8
                clear c8
                obtain ⟨y327, hy327⟩ : ∃ y_ : List Int, y_ = (x3_1 ++ [x5_2]) := ⟨_, rfl⟩
                replace H : (schismaref01_limbs.l0 k2 a0 y327 (wrap64 (x4_1 - 9))) = some r := by first | (rw [hy327]; with_reducible exact H) | (have H2_ := (Option.bind_some _ _).symm.trans H; rw [hy327]; with_reducible exact H2_) | (have H2_ := (Option.bind_some _ _).symm.trans H; with_reducible exact H2_) | with_reducible exact H | (rw [hy327]; exact H) | exact H
                have Ny327 := Aside0.mk hy327
                clear hy327
                have H' := Aside0.mk H
                clear H
                go_wp2_with (first | ((with_reducible refine gate_builtin (b := .append) (xs := #[.tmp 29, .tmp 31]) rfl ?_); at_builtin; refine Kd.R_append (Kd.int .u64) (w0 := w) w.heap.size rfl (.tmp 29) (.tmp 31) 61 22 (.int .u64 0) 8 rfl Tryd.underlying61 info22 rfl (by decide) (by omega) u3 x3_1 x5_2 [.int .u64 x5_2] (fun _ => True) (fun _ => False) rfl rfl ?aP (fun _ hk => hk.elim) ?aF ?aO ?aB ?aS ?aL ?_; (case aP => exact rfl); (case aB => exact bq); (case aF => exact (fun _ _ => trivial)); (case aO => exact (by (with_reducible repeat (first | apply Kd.R_alloc | apply Kd.R_drewN | apply Kd.R_drew)); exact HO_3.out)); (case aS => exact (below_size bq)); (case aL => have := LMc8.out; omega); intro v328 w9 ho hb hg hat; rw [← Ny327.out] at ho; have n0_ := Aside0.mk (hb); have n1_ := Aside0.mk (ho); clear HB; clear HO_3; have HB := n0_; have HO329 := n1_; clear n0_ n1_; clear ho hb hg hat))
                go_roundg k2
                case measure => have := HK1.out; have := HK2.out; omega
                case rel => exact ⟨(y327), (wrap64 (x4_1 - 9)), (by first | rfl | (simp; done) | (simp [*]; done)), H', ⟨by have := HK1.out; have := HK2.out; omega⟩, ⟨by (with_reducible repeat (first | apply Kd.R_alloc | apply Kd.R_drewN | apply Kd.R_drew)); exact HO329.out⟩, ⟨bq⟩⟩
              · rw [if_neg c8] at H
                exact absurd H (by simp)
      · rw [if_neg c2] at H
        have c2b0 : decide (0 < x4_1) = false := decide_eq_false c2
        clear c2
        obtain rfl := Option.some.inj H
        go_wp2
        go_ret
        exact ⟨_, eq_, by (with_reducible repeat (first | apply Kd.R_alloc | apply Kd.R_drewN | apply Kd.R_drew)); exact HO_3.out, bq⟩
mutual
def schismaref01_join.l0 : Nat → List Int → List Int → Int → Option (ByteArray)
  | 0, _, _, _ => none
  | k + 1, x0, x3, x4 => if x4 < (x0.length : Int) then (if 0 ≤ x4 then (schismaref01_join.l1 k x0 x3 x4 (rd x0 x4) 0) else (none)) else ((schismaref01_trim.f k x3).bind fun t334 => (some t334))
def schismaref01_join.l1 : Nat → List Int → List Int → Int → Int → Int → Option (ByteArray)
  | 0, _, _, _, _, _ => none
  | k + 1, x0, x3, x4, x5, x6 => if x6 < 9 then (if 0 ≤ (wrap64 ((wrap64 ((wrap64 ((x3.length : Int) - 1)) - (wrap64 (9 * x4)))) - x6)) then (if (wrap64 ((wrap64 ((wrap64 ((x3.length : Int) - 1)) - (wrap64 (9 * x4)))) - x6)) < (x3.length : Int) then (schismaref01_join.l1 k x0 (x3.set ((wrap64 ((wrap64 ((wrap64 ((x3.length : Int) - 1)) - (wrap64 (9 * x4)))) - x6)) : Int).toNat ((IntKind.u64.wrap (48 + (Int.tmod x5 10))) % 256)) x4 (IntKind.u64.wrap (Int.tdiv x5 10)) (wrap64 (x6 + 1))) else (none)) else (none)) else (schismaref01_join.l0 k x0 x3 (wrap64 (x4 + 1)))
end
def schismaref01_join.f (k : Nat) (l0 : List Int) : Option (ByteArray) := if 0 ≤ (wrap64 ((wrap64 (9 * (l0.length : Int))) + 1)) then (if (wrap64 ((wrap64 (9 * (l0.length : Int))) + 1) : Int).toNat ≤ 281474976710656 then ((some (List.replicate (wrap64 ((wrap64 (9 * (l0.length : Int))) + 1) : Int).toNat 0 : List Int)).bind fun y330 => (if 0 < (y330.length : Int) then (schismaref01_join.l0 k l0 (y330.set (0 : Int).toNat 48) 0) else (none))) else (none)) else (none)
theorem schismaref01_join.mono_l : ∀ k, (∀ y0 y1 y2, LeO (schismaref01_join.l0 k y0 y1 y2) (schismaref01_join.l0 (k + 1) y0 y1 y2)) ∧ (∀ y0 y1 y2 y3 y4, LeO (schismaref01_join.l1 k y0 y1 y2 y3 y4) (schismaref01_join.l1 (k + 1) y0 y1 y2 y3 y4))
  | 0 => ⟨fun _ _ _ r h => by simp [schismaref01_join.l0] at h, fun _ _ _ _ _ r h => by simp [schismaref01_join.l1] at h⟩
  | k + 1 => by
    obtain ⟨ih0, ih1⟩ := schismaref01_join.mono_l k
    refine ⟨?_, ?_⟩
    · intro y0 y1 y2
      unfold schismaref01_join.l0
      repeat' first
      | (with_reducible exact ih0 _ _ _)
      | (with_reducible exact ih1 _ _ _ _ _)
      | (with_reducible exact schismaref01_trim.mono _ _)
      | (with_reducible exact LeO.refl _)
      | (with_reducible exact LeO.none _)
      | (with_reducible refine LeO.ite ?_ ?_)
      | (with_reducible refine LeO.bind ?_ (fun _ => ?_))
      | exact ih0 _ _ _
      | exact ih1 _ _ _ _ _
      | exact schismaref01_trim.mono _ _
      | exact LeO.none _
      | refine LeO.ite ?_ ?_
      | refine LeO.bind ?_ (fun _ => ?_)
    · intro y0 y1 y2 y3 y4
      unfold schismaref01_join.l1
      repeat' first
      | (with_reducible exact ih0 _ _ _)
      | (with_reducible exact ih1 _ _ _ _ _)
      | (with_reducible exact schismaref01_trim.mono _ _)
      | (with_reducible exact LeO.refl _)
      | (with_reducible exact LeO.none _)
      | (with_reducible refine LeO.ite ?_ ?_)
      | (with_reducible refine LeO.bind ?_ (fun _ => ?_))
      | exact ih0 _ _ _
      | exact ih1 _ _ _ _ _
      | exact schismaref01_trim.mono _ _
      | exact LeO.none _
      | refine LeO.ite ?_ ?_
      | refine LeO.bind ?_ (fun _ => ?_)
theorem schismaref01_join.mono : ∀ a0 k, LeO (schismaref01_join.f k a0) (schismaref01_join.f (k + 1) a0) := by
  intro a0 k
  obtain ⟨ih0, ih1⟩ := schismaref01_join.mono_l k
  unfold schismaref01_join.f
  repeat' first
      | (with_reducible exact ih0 _ _ _)
      | (with_reducible exact ih1 _ _ _ _ _)
      | (with_reducible exact schismaref01_trim.mono _ _)
      | (with_reducible exact LeO.refl _)
      | (with_reducible exact LeO.none _)
      | (with_reducible refine LeO.ite ?_ ?_)
      | (with_reducible refine LeO.bind ?_ (fun _ => ?_))
      | exact ih0 _ _ _
      | exact ih1 _ _ _ _ _
      | exact schismaref01_trim.mono _ _
      | exact LeO.none _
      | refine LeO.ite ?_ ?_
      | refine LeO.bind ?_ (fun _ => ?_)
set_option maxHeartbeats 8000000 in
set_option maxRecDepth 100000 in
theorem schismaref01_join.calls (k : Nat) (A0 : Option Addr) (c0 : Nat) (l0 : List Int) (r : ByteArray) (w : World) (hr0 : Kd.C (Kd.int .u64) w A0 l0.length l0) (hc0 : l0.length ≤ c0) (h : schismaref01_join.f k l0 = some r) :
    Calls Tryd.prog 53 #[.slice A0 l0.length c0] w fun e w' => e = .returned (.string r) ∧ Below w.heap.size w w' := by
  have HR0 := Aside0.mk hr0
  have HC0 := Aside0.mk hc0
  clear hr0 hc0
  have HB := Aside0.mk (Below.refl w.heap.size w)
  have H : (if 0 ≤ (wrap64 ((wrap64 (9 * (l0.length : Int))) + 1)) then (if (wrap64 ((wrap64 (9 * (l0.length : Int))) + 1) : Int).toNat ≤ 281474976710656 then ((some (List.replicate (wrap64 ((wrap64 (9 * (l0.length : Int))) + 1) : Int).toNat 0 : List Int)).bind fun y330 => (if 0 < (y330.length : Int) then (schismaref01_join.l0 k l0 (y330.set (0 : Int).toNat 48) 0) else (none))) else (none)) else (none)) = some r := h
  clear h
  obtain ⟨ji2, hji2⟩ : ∃ j_ : Int, (wrap64 ((wrap64 (9 * (l0.length : Int))) + 1)) = j_ := ⟨_, rfl⟩
  replace H : (if 0 ≤ (ji2) then (if (ji2 : Int).toNat ≤ 281474976710656 then ((some (List.replicate (ji2 : Int).toNat 0 : List Int)).bind fun y330 => (if 0 < (y330.length : Int) then (schismaref01_join.l0 k l0 (y330.set (0 : Int).toNat 48) 0) else (none))) else (none)) else (none)) = some r := by first | (rw [hji2] at H; exact H) | (simp only [hji2] at H ⊢; exact H)
  have hji2w : (IntKind.i64.wrap ((wrap64 (9 * (l0.length : Int))) + 1)) = ji2 := (i64_w _).trans hji2
  by_cases c3 : 0 ≤ (ji2)
  · rw [if_pos c3] at H
    have c3b0 := eq_true c3
    have c3b1 : decide (0 ≤ (ji2)) = true := decide_eq_true c3
    clear c3
    by_cases c4 : (ji2 : Int).toNat ≤ 281474976710656
    · rw [if_pos c4] at H
      have c4b0 := eq_true c4
      have c4b1 : decide ((ji2 : Int).toNat ≤ 281474976710656) = true := decide_eq_true c4
      clear c4
      obtain ⟨y330, hy330⟩ : ∃ y_ : List Int, y_ = (List.replicate (ji2 : Int).toNat 0) := ⟨_, rfl⟩
      replace H : (if 0 < (y330.length : Int) then (schismaref01_join.l0 k l0 (y330.set (0 : Int).toNat 48) 0) else (none)) = some r := by first | (rw [hy330]; with_reducible exact H) | (have H2_ := (Option.bind_some _ _).symm.trans H; rw [hy330]; with_reducible exact H2_) | (have H2_ := (Option.bind_some _ _).symm.trans H; with_reducible exact H2_) | with_reducible exact H | (rw [hy330]; exact H) | exact H
      have Ny330 := Aside0.mk hy330
      clear hy330
      by_cases c5 : 0 < (y330.length : Int)
      · rw [if_pos c5] at H
        have c5b0 : decide (0 < (y330.length : Int)) = true := decide_eq_true c5
        have c5b1 : decide (0 < y330.length) = true := decide_eq_true (by omega)
        clear c5
        obtain ⟨y333, hy333⟩ : ∃ y_ : List Int, y_ = (y330.set (0 : Int).toNat 48) := ⟨_, rfl⟩
        replace H : (schismaref01_join.l0 k l0 y333 0) = some r := by first | (rw [hy333]; with_reducible exact H) | (have H2_ := (Option.bind_some _ _).symm.trans H; rw [hy333]; with_reducible exact H2_) | (have H2_ := (Option.bind_some _ _).symm.trans H; with_reducible exact H2_) | with_reducible exact H | (rw [hy333]; exact H) | exact H
        have Ny333 := Aside0.mk hy333
        clear hy333
        have H' := Aside0.mk H
        clear H
        go_enter Tryd.func53, Tryd.ntmps53
        go_wp2_with (first | ((with_reducible refine gate_dst (N := 11) rfl ?_); refine Kd.R_make (Kd.int .u8) _ 5 rfl (N := 11) rfl 23 _ _ rfl ji2 rfl rfl Tryd.underlying23 (.int .u8 0) 1 info5 rfl (by decide) (by omega) 0 (ok := fun _ => True) (okp := fun _ => True) rfl (fun _ hk => hk) trivial (of_decide_eq_true (by first | (with_reducible assumption) | assumption)) (Nat.le_trans (Nat.mul_le_mul_right _ (of_decide_eq_true (by first | (with_reducible assumption) | assumption) : ji2.toNat ≤ 281474976710656)) (by omega)) (Below.refl _ _) (Nat.le_refl _) ?_; intro v331 w7 ho8 hb hg_ hnew_; clear hg_ hnew_; (first | rw [← Ny330.out] at ho8 | (simp only [Int.reduceToNat] at ho8; rw [← Ny330.out] at ho8)); have n0_ := Aside0.mk (Kd.R_lower ho8 (below_size bq)); have n1_ := Aside0.mk (below_step bq hb); clear HB; have HO332 := n0_; have HB := n1_; clear n0_ n1_; clear hb ho8; have p6 : 0 ≤ (0 : Int) := (by omega); have q6 : (0 : Int) < ((y330.length : Int) : Int) := of_decide_eq_true (by first | (with_reducible assumption) | assumption); have qi6 : (0 < y330.length) = True := eq_true (by omega); obtain ⟨go6, co6, eo6, gb6, gl6, cl6, HG6⟩ := Kd.R_form HO332.out (by omega); (first | cases eo6 | (injection eo6 with ea_ en_ ec_; (first | subst ea_ | (injection ea_ with ea_; subst ea_)); subst ec_; clear en_)); have GB6 := Aside0.mk gb6; have GG6 := Aside0.mk HG6; clear gb6 gl6 HG6; obtain ⟨hx6_0, hf6_0⟩ := Kd.R_celln 0 HO332.out (0 : Int) p6 q6; (try rw [show ((0 : Int)).toNat = 0 from rfl] at hx6_0); (try simp only [Nat.reduceMul, Nat.zero_mul, Nat.zero_add, Nat.reduceAdd] at hx6_0); (try rw [show ((0 : Int)).toNat = 0 from rfl] at hf6_0); (try simp only [Nat.reduceMul, Nat.zero_mul, Nat.zero_add, Nat.reduceAdd] at hf6_0); replace p6 := eq_true p6; replace q6 := eq_true q6; obtain ⟨hy9_, hz9_⟩ := Kd.R_celln 0 HO332.out (0 : Int) (by omega) (of_decide_eq_true (by first | (with_reducible assumption) | assumption)); (try simp only [Int.reduceToNat, Int.toNat_zero, Int.toNat_ofNat, Nat.reduceMul, Nat.zero_mul, Nat.zero_add] at hy9_ hz9_); (try rw [show ((0 : Int)).toNat = 0 from rfl] at hy9_); (try rw [show ((0 : Int)).toNat = 0 from rfl] at hz9_); have HP9 := Kd.R_putg HO332.out (0 : Int) 48) | ((with_reducible refine gate_store (t := 5) (p := 13) rfl ?_); refine store_event (t := 5) (p := 13) (v := ?vo_w10) (w1 := (w7.setCell ⟨go6, (0 : Int).toNat, none⟩ (.int .u8 48))) ?hg ?ho ?hn ?hr ?_; (case ho => rfl); (case hg => rfl); (case hn => rfl); (case hr => first | (go_simp; done) | (go_simp; rfl)); intro w10 hw; have hg : w7.grownBy w10 (some go6) := (by rw [hw]; exact HP9.2); have hp_ : Kd.R (Kd.int .u8) 5 w10 w.heap.size (fun _ => True) (.slice (some ⟨go6, 0, none⟩) y330.length co6) y333 := (by rw [hw, Ny333.out]; exact HP9.1); clear HP9; have n0_ := Aside0.mk (hp_); have n1_ := Aside0.mk ((by rw [hw]; exact below_set (HB.out) GB6.out : Below w.heap.size w w10)); clear HO332; clear HB; have HO332 := n0_; have HB := n1_; clear n0_ n1_; clear hg hw hp_))
        go_loopg [4] k (fun kq v4 w' => ∃ (x3_1 : List Int) (x4_1 : Int), v4 = .int .i64 x4_1 ∧ Aside0 (schismaref01_join.l0 kq l0 x3_1 x4_1 = some r) ∧ Aside0 (kq ≤ k) ∧ Aside0 (Kd.R (Kd.int .u8) 5 w' w.heap.size (fun _ => True) (.slice (some ⟨go6, 0, none⟩) y330.length co6) x3_1) ∧ Aside0 (Below w.heap.size w w'))
        case atStart => exact ⟨(y333), (0), (by first | rfl | (simp; done) | (simp [*]; done)), H', ⟨Nat.le_refl _⟩, ⟨by (with_reducible repeat (first | apply Kd.R_alloc | apply Kd.R_drewN | apply Kd.R_drew)); exact HO332.out⟩, ⟨bq⟩⟩
        case round =>
          clear H'
          try clear p2
          try clear c3
          try clear c3b0
          try clear c3b1
          try clear c4
          try clear c4b0
          try clear c4b1
          try clear c5
          try clear c5b0
          try clear c5b1
          try clear p6
          try clear q6
          try clear hx6
          try clear qi6
          try clear hf6
          try clear hx6_0
          try clear p6
          try clear q6
          obtain ⟨x3_1, x4_1, rfl, HA, HK1, HO_3, HB⟩ := hrel
          have hl3_1 := (Kd.R_reads' HO_3.out).1
          rw [hl3_1] at HO_3
          (try simp only [hl3_1])
          cases gk with
          | zero => exact absurd HA.out (by simp [schismaref01_join.l0])
          | succ k1 =>
            have H := HA.out
            clear HA
            simp only [schismaref01_join.l0] at H
            by_cases c11 : x4_1 < (l0.length : Int)
            · rw [if_pos c11] at H
              have c11b0 : decide (x4_1 < (l0.length : Int)) = true := decide_eq_true c11
              clear c11
              by_cases c12 : 0 ≤ x4_1
              · rw [if_pos c12] at H
                have c12b0 : decide (0 ≤ x4_1) = true := decide_eq_true c12
                clear c12
                have H' := Aside0.mk H
                clear H
                have p335 : 0 ≤ (x4_1 : Int) := of_decide_eq_true (by first | (with_reducible assumption) | assumption)
                have q335 : x4_1 < (l0.length : Int) := of_decide_eq_true (by first | (with_reducible assumption) | assumption)
                obtain ⟨ad335, e335, hx335_0⟩ := Kd.at_int HR0.out x4_1 p335 q335
                cases e335
                replace hx335_0 := (HB.out.cell (World.block_lt_of_cell? w _ hx335_0)).trans hx335_0
                replace p335 := eq_true p335
                replace q335 := eq_true q335
                go_wp2
                go_loopg [5, 6] k1 (fun kq v5 v6 w' => ∃ (x3_2 : List Int) (x5_2 : Int) (x6_2 : Int), v5 = .int .u64 x5_2 ∧ v6 = .int .i64 x6_2 ∧ Aside0 (schismaref01_join.l1 kq l0 x3_2 x4_1 x5_2 x6_2 = some r) ∧ Aside0 (kq ≤ k1) ∧ Aside0 (Kd.R (Kd.int .u8) 5 w' w.heap.size (fun _ => True) (.slice (some ⟨go6, 0, none⟩) x3_1.length co6) x3_2) ∧ Aside0 (Below w.heap.size w w'))
                case atStart => exact ⟨(x3_1), (rd l0 x4_1), (0), (by first | rfl | (simp; done) | (simp [*]; done)), (by first | rfl | (simp; done) | (simp [*]; done)), H', ⟨Nat.le_refl _⟩, ⟨by (try simp only [hl3_1]); (with_reducible repeat (first | apply Kd.R_alloc | apply Kd.R_drewN | apply Kd.R_drew)); exact HO_3.out⟩, ⟨bq⟩⟩
                case round =>
                  clear H'
                  try clear c1
                  try clear p2
                  try clear c3
                  try clear c3b0
                  try clear c3b1
                  try clear p3
                  try clear q3
                  try clear hx3
                  try clear c4
                  try clear c4b0
                  try clear c4b1
                  try clear c5
                  try clear c5b0
                  try clear c5b1
                  try clear p6
                  try clear q6
                  try clear hx6
                  try clear qi6
                  try clear hf6
                  try clear c11
                  try clear c11b0
                  try clear c12
                  try clear c12b0
                  try clear hx335_0
                  try clear hx6_0
                  try clear p2
                  try clear p335
                  try clear p6
                  try clear q335
                  try clear q6
                  obtain ⟨x3_2, x5_2, x6_2, rfl, rfl, HA, HK2, HO_3, HB⟩ := hrel
                  have hl3_2 := (Kd.R_reads' HO_3.out).1
                  rw [hl3_2] at HO_3
                  (try simp only [hl3_2])
                  cases gk with
                  | zero => exact absurd HA.out (by simp [schismaref01_join.l1])
                  | succ k2 =>
                    have H := HA.out
                    clear HA
                    simp only [schismaref01_join.l1] at H
                    by_cases c13 : x6_2 < 9
                    · rw [if_pos c13] at H
                      have c13b0 : decide (x6_2 < 9) = true := decide_eq_true c13
                      clear c13
                      obtain ⟨ji14, hji14⟩ : ∃ j_ : Int, (wrap64 ((wrap64 ((wrap64 ((x3_2.length : Int) - 1)) - (wrap64 (9 * x4_1)))) - x6_2)) = j_ := ⟨_, rfl⟩
                      replace H : (if 0 ≤ (ji14) then (if (ji14) < (x3_2.length : Int) then (schismaref01_join.l1 k2 l0 (x3_2.set ((ji14) : Int).toNat ((IntKind.u64.wrap (48 + (Int.tmod x5_2 10))) % 256)) x4_1 (IntKind.u64.wrap (Int.tdiv x5_2 10)) (wrap64 (x6_2 + 1))) else (none)) else (none)) = some r := by first | (rw [hji14] at H; exact H) | (simp only [hji14] at H ⊢; exact H)
                      have hji14w : (IntKind.i64.wrap ((wrap64 ((wrap64 ((x3_2.length : Int) - 1)) - (wrap64 (9 * x4_1)))) - x6_2)) = ji14 := (i64_w _).trans hji14
                      by_cases c15 : 0 ≤ (ji14)
                      · rw [if_pos c15] at H
                        have c15b0 : decide (0 ≤ (ji14)) = true := decide_eq_true c15
                        clear c15
                        by_cases c16 : (ji14) < (x3_2.length : Int)
                        · rw [if_pos c16] at H
                          have c16b0 : decide ((ji14) < (x3_2.length : Int)) = true := decide_eq_true c16
                          have c16b0z3 := c16b0
                          try rw [hl3_1] at c16b0z3
                          clear c16
                          obtain ⟨y336, hy336⟩ : ∃ y_ : List Int, y_ = (x3_2.set ((ji14) : Int).toNat ((IntKind.u64.wrap (48 + (Int.tmod x5_2 10))) % 256)) := ⟨_, rfl⟩
                          replace H : (schismaref01_join.l1 k2 l0 y336 x4_1 (IntKind.u64.wrap (Int.tdiv x5_2 10)) (wrap64 (x6_2 + 1))) = some r := by first | (rw [hy336]; with_reducible exact H) | (have H2_ := (Option.bind_some _ _).symm.trans H; rw [hy336]; with_reducible exact H2_) | (have H2_ := (Option.bind_some _ _).symm.trans H; with_reducible exact H2_) | with_reducible exact H | (rw [hy336]; exact H) | exact H
                          have Ny336 := Aside0.mk hy336
                          clear hy336
                          have H' := Aside0.mk H
                          clear H
                          have p17 : 0 ≤ ((ji14) : Int) := of_decide_eq_true (by first | (with_reducible assumption) | assumption)
                          have q17 : ((ji14) : Int) < ((x3_2.length : Int) : Int) := of_decide_eq_true (by first | (with_reducible assumption) | assumption)
                          obtain ⟨hx17_0, hf17_0⟩ := Kd.R_celln 0 HO_3.out ((ji14) : Int) p17 q17
                          replace p17 := eq_true p17
                          replace q17 := eq_true q17
                          have HP18 := Kd.R_putg HO_3.out ((ji14) : Int) ((IntKind.u64.wrap (48 + (Int.tmod x5_2 10))) % 256)
                          go_wp2_with (first | ((with_reducible refine gate_store (t := 5) (p := 41) rfl ?_); refine store_event (t := 5) (p := 41) (v := ?vo_w19) (w1 := (wr.setCell ⟨go6, ((ji14) : Int).toNat, none⟩ (.int .u8 ((IntKind.u64.wrap (48 + (Int.tmod x5_2 10))) % 256)))) ?hg ?ho ?hn ?hr ?_; (case ho => rfl); (case hg => rfl); (case hn => rfl); (case hr => first | (go_simp; done) | (go_simp; rfl)); intro w19 hw; have hg : wr.grownBy w19 (some go6) := (by rw [hw]; exact HP18.2); have hp_ : Kd.R (Kd.int .u8) 5 w19 w.heap.size (fun _ => True) (.slice (some ⟨go6, 0, none⟩) x3_2.length co6) y336 := (by rw [hw, Ny336.out]; exact HP18.1); clear HP18; have n0_ := Aside0.mk (hp_); have n1_ := Aside0.mk ((by rw [hw]; exact below_set (HB.out) GB6.out : Below w.heap.size w w19)); clear HO_3; clear HB; have HO_3 := n0_; have HB := n1_; clear n0_ n1_; clear hg hw hp_))
                          (try simp only [← hl3_2])
                          go_roundg k2
                          case measure => have := HK1.out; have := HK2.out; omega
                          case rel => exact ⟨(y336), (IntKind.u64.wrap (Int.tdiv x5_2 10)), (wrap64 (x6_2 + 1)), (by first | rfl | (simp; done) | (simp [*]; done)), (by first | rfl | (simp; done) | (simp [*]; done)), H', ⟨by have := HK1.out; have := HK2.out; omega⟩, ⟨by (try simp only [hl3_1]); (try simp only [hl3_2]); (with_reducible repeat (first | apply Kd.R_alloc | apply Kd.R_drewN | apply Kd.R_drew)); exact HO_3.out⟩, ⟨bq⟩⟩
                        · rw [if_neg c16] at H
                          exact absurd H (by simp)
                      · rw [if_neg c15] at H
                        exact absurd H (by simp)
                    · rw [if_neg c13] at H
                      have c13b0 : decide (x6_2 < 9) = false := decide_eq_false c13
                      clear c13
                      have H' := Aside0.mk H
                      clear H
                      go_wp2
                      (try simp only [← hl3_1, ← hl3_2])
                      go_roundg k2
                      case measure => have := HK1.out; have := HK2.out; omega
                      case rel => exact ⟨(x3_2), (wrap64 (x4_1 + 1)), (by first | rfl | (simp; done) | (simp [*]; done)), H', ⟨by have := HK1.out; have := HK2.out; omega⟩, ⟨by (try simp only [hl3_1]); (try simp only [hl3_2]); (with_reducible repeat (first | apply Kd.R_alloc | apply Kd.R_drewN | apply Kd.R_drew)); exact HO_3.out⟩, ⟨bq⟩⟩
              · rw [if_neg c12] at H
                exact absurd H (by simp)
            · rw [if_neg c11] at H
              have c11b0 : decide (x4_1 < (l0.length : Int)) = false := decide_eq_false c11
              clear c11
              replace H := Option.bind_eq_some_iff.mp H
              obtain ⟨t334, A200, H⟩ := H
              replace H : (some t334) = some r := H
              have A20 := Aside0.mk A200
              clear A200
              obtain rfl := Option.some.inj H
              go_wp2_with (first | ((with_reducible refine gate_callee (f := 51) rfl ?_); refine goesL_ (some 45) rfl rfl Tryd.func51 (by kernel_rfl) rfl #[.slice (some ⟨go6, 0, none⟩) x3_1.length co6] rfl mq ?_; (with_reducible refine (schismaref01_trim.calls k1 _ _ x3_1 t334 _ ?side1 ?side2 A20.out).mono ?_); (case side1 => repeat (first | exact (Kd.R_reads' HO_3.out).2.2 | (with_reducible refine Kd.C_alloc ?_ _) | (with_reducible refine Kd.C_drewN ?_ _) | (with_reducible refine Kd.C_drew ?_))); (case side2 => exact (Kd.R_reads' HO_3.out).2.1); rintro e w' ⟨rfl, ⟨nd, rfl⟩⟩; refine ⟨_, rfl, ?_⟩))
              go_ret
              exact ⟨by first | rfl | (simp [errW_none, errW_some] <;> rfl) | (simp only [← hji2]; first | rfl | (simp [errW_none, errW_some] <;> rfl)) | (simp [*, errW_none, errW_some] <;> rfl), bq⟩
      · rw [if_neg c5] at H
        exact absurd H (by simp)
    · rw [if_neg c4] at H
      exact absurd H (by simp)
  · rw [if_neg c3] at H
    exact absurd H (by simp)
end Go.Proofs.YtcfddphiflmnlaaDoor.P
