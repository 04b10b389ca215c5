/- Functions of the program, as functions of Lean, and the walks that show that the code answers as they do: written by a program. Conditions: those of each theorem. -/
import Derived.Test.YtcfddphiflmnlaaDoorDecimalFormsF4
namespace Go.Proofs.YtcfddphiflmnlaaDoor.P
open Go.RowKit Go.Proofs.YtcfddphiflmnlaaDoorW.PrintWords Go.Proofs.YtcfddphiflmnlaaDoorW.PrintLast Go.Proofs.YtcfddphiflmnlaaDoorW.PrintMore
attribute [local go_sem] gtr_text max2_int min2_int max_two min_two max_three min_three max_four min_four
set_option linter.unusedVariables false
set_option linter.unusedSimpArgs false
def schismalaw01_known.f (k : Nat)  : Option (Bool) := (decimal_DivMod.f k (⟨#[49, 48, 48, 48, 48, 48, 48, 48, 48, 48, 48, 48, 48, 48, 48, 48, 48, 48, 48, 48, 48, 48]⟩ : ByteArray) (⟨#[55]⟩ : ByteArray)).bind fun bt281 => ((decimal_Small.f (⟨#[49, 56, 52, 52, 54, 55, 52, 52, 48, 55, 51, 55, 48, 57, 53, 53, 49, 54, 49, 54]⟩ : ByteArray)).bind fun bt284 => ((decimal_Power.f k (⟨#[50]⟩ : ByteArray) 64).bind fun bt286 => (if bt281.2.2 = 0 then (if bt281.1.toList = ([49, 52, 50, 56, 53, 55, 49, 52, 50, 56, 53, 55, 49, 52, 50, 56, 53, 55, 49, 52, 50] : List UInt8) then (if bt281.2.1.toList = ([54] : List UInt8) then (if bt284.2 = true then (some false) else (if bt286.2 = 0 then (if bt286.1.toList = ([49, 56, 52, 52, 54, 55, 52, 52, 48, 55, 51, 55, 48, 57, 53, 53, 49, 54, 49, 54] : List UInt8) then ((decimal_Bits.f k (⟨#[50, 53, 53]⟩ : ByteArray)).bind fun t288 => (if t288 = 8 then ((decimal_Bits.f k (⟨#[50, 53, 54]⟩ : ByteArray)).bind fun t289 => (if t289 = 9 then ((decimal_Canonical.f k (⟨#[48, 48, 55]⟩ : ByteArray)).bind fun t290 => (some (!t290))) else (some false))) else (some false))) else (some false)) else (some false))) else (some false)) else (some false)) else (some false))))
theorem schismalaw01_known.mono : ∀ k, LeO (schismalaw01_known.f k ) (schismalaw01_known.f (k + 1) ) := by
  intro  k
  unfold schismalaw01_known.f
  repeat' first
      | (with_reducible exact decimal_Bits.mono _ _)
      | (with_reducible exact decimal_Canonical.mono _ _)
      | (with_reducible exact decimal_DivMod.mono _ _ _)
      | (with_reducible exact decimal_Power.mono _ _ _)
      | (with_reducible exact LeO.refl _)
      | (with_reducible exact LeO.none _)
      | (with_reducible refine LeO.ite ?_ ?_)
      | (with_reducible refine LeO.bind ?_ (fun _ => ?_))
      | exact decimal_Bits.mono _ _
      | exact decimal_Canonical.mono _ _
      | exact decimal_DivMod.mono _ _ _
      | exact decimal_Power.mono _ _ _
      | exact LeO.none _
      | refine LeO.ite ?_ ?_
      | refine LeO.bind ?_ (fun _ => ?_)
set_option maxHeartbeats 8000000 in
set_option maxRecDepth 100000 in
theorem schismalaw01_known.calls (k : Nat)  (r : Bool) (w : World) (hT : Tab w) (h : schismalaw01_known.f k  = some r) :
    Calls Tryd.prog 13 #[] w fun e w' => e = .returned (.bool r) ∧ Below w.heap.size w w' := by
  have HT := Aside0.mk hT
  clear hT
  have HB := Aside0.mk (Below.refl w.heap.size w)
  have H : ((decimal_DivMod.f k (⟨#[49, 48, 48, 48, 48, 48, 48, 48, 48, 48, 48, 48, 48, 48, 48, 48, 48, 48, 48, 48, 48, 48]⟩ : ByteArray) (⟨#[55]⟩ : ByteArray)).bind fun bt281 => ((decimal_Small.f (⟨#[49, 56, 52, 52, 54, 55, 52, 52, 48, 55, 51, 55, 48, 57, 53, 53, 49, 54, 49, 54]⟩ : ByteArray)).bind fun bt284 => ((decimal_Power.f k (⟨#[50]⟩ : ByteArray) 64).bind fun bt286 => (if bt281.2.2 = 0 then (if bt281.1.toList = ([49, 52, 50, 56, 53, 55, 49, 52, 50, 56, 53, 55, 49, 52, 50, 56, 53, 55, 49, 52, 50] : List UInt8) then (if bt281.2.1.toList = ([54] : List UInt8) then (if bt284.2 = true then (some false) else (if bt286.2 = 0 then (if bt286.1.toList = ([49, 56, 52, 52, 54, 55, 52, 52, 48, 55, 51, 55, 48, 57, 53, 53, 49, 54, 49, 54] : List UInt8) then ((decimal_Bits.f k (⟨#[50, 53, 53]⟩ : ByteArray)).bind fun t288 => (if t288 = 8 then ((decimal_Bits.f k (⟨#[50, 53, 54]⟩ : ByteArray)).bind fun t289 => (if t289 = 9 then ((decimal_Canonical.f k (⟨#[48, 48, 55]⟩ : ByteArray)).bind fun t290 => (some (!t290))) else (some false))) else (some false))) else (some false)) else (some false))) else (some false)) else (some false)) else (some false))))) = some r := h
  clear h
  replace H := Option.bind_eq_some_iff.mp H
  obtain ⟨⟨t281, t282, t283⟩, A10, H⟩ := H
  replace H : ((decimal_Small.f (⟨#[49, 56, 52, 52, 54, 55, 52, 52, 48, 55, 51, 55, 48, 57, 53, 53, 49, 54, 49, 54]⟩ : ByteArray)).bind fun bt284 => ((decimal_Power.f k (⟨#[50]⟩ : ByteArray) 64).bind fun bt286 => (if t283 = 0 then (if t281.toList = ([49, 52, 50, 56, 53, 55, 49, 52, 50, 56, 53, 55, 49, 52, 50, 56, 53, 55, 49, 52, 50] : List UInt8) then (if t282.toList = ([54] : List UInt8) then (if bt284.2 = true then (some false) else (if bt286.2 = 0 then (if bt286.1.toList = ([49, 56, 52, 52, 54, 55, 52, 52, 48, 55, 51, 55, 48, 57, 53, 53, 49, 54, 49, 54] : List UInt8) then ((decimal_Bits.f k (⟨#[50, 53, 53]⟩ : ByteArray)).bind fun t288 => (if t288 = 8 then ((decimal_Bits.f k (⟨#[50, 53, 54]⟩ : ByteArray)).bind fun t289 => (if t289 = 9 then ((decimal_Canonical.f k (⟨#[48, 48, 55]⟩ : ByteArray)).bind fun t290 => (some (!t290))) else (some false))) else (some false))) else (some false)) else (some false))) else (some false)) else (some false)) else (some false)))) = some r := H
  have A1 := Aside0.mk A10
  clear A10
  replace H := Option.bind_eq_some_iff.mp H
  obtain ⟨⟨t284, t285⟩, A20, H⟩ := H
  replace H : ((decimal_Power.f k (⟨#[50]⟩ : ByteArray) 64).bind fun bt286 => (if t283 = 0 then (if t281.toList = ([49, 52, 50, 56, 53, 55, 49, 52, 50, 56, 53, 55, 49, 52, 50, 56, 53, 55, 49, 52, 50] : List UInt8) then (if t282.toList = ([54] : List UInt8) then (if t285 = true then (some false) else (if bt286.2 = 0 then (if bt286.1.toList = ([49, 56, 52, 52, 54, 55, 52, 52, 48, 55, 51, 55, 48, 57, 53, 53, 49, 54, 49, 54] : List UInt8) then ((decimal_Bits.f k (⟨#[50, 53, 53]⟩ : ByteArray)).bind fun t288 => (if t288 = 8 then ((decimal_Bits.f k (⟨#[50, 53, 54]⟩ : ByteArray)).bind fun t289 => (if t289 = 9 then ((decimal_Canonical.f k (⟨#[48, 48, 55]⟩ : ByteArray)).bind fun t290 => (some (!t290))) else (some false))) else (some false))) else (some false)) else (some false))) else (some false)) else (some false)) else (some false))) = some r := H
  have A2 := Aside0.mk A20
  clear A20
  replace H := Option.bind_eq_some_iff.mp H
  obtain ⟨⟨t286, t287⟩, A30, H⟩ := H
  replace H : (if t283 = 0 then (if t281.toList = ([49, 52, 50, 56, 53, 55, 49, 52, 50, 56, 53, 55, 49, 52, 50, 56, 53, 55, 49, 52, 50] : List UInt8) then (if t282.toList = ([54] : List UInt8) then (if t285 = true then (some false) else (if t287 = 0 then (if t286.toList = ([49, 56, 52, 52, 54, 55, 52, 52, 48, 55, 51, 55, 48, 57, 53, 53, 49, 54, 49, 54] : List UInt8) then ((decimal_Bits.f k (⟨#[50, 53, 53]⟩ : ByteArray)).bind fun t288 => (if t288 = 8 then ((decimal_Bits.f k (⟨#[50, 53, 54]⟩ : ByteArray)).bind fun t289 => (if t289 = 9 then ((decimal_Canonical.f k (⟨#[48, 48, 55]⟩ : ByteArray)).bind fun t290 => (some (!t290))) else (some false))) else (some false))) else (some false)) else (some false))) else (some false)) else (some false)) else (some false)) = some r := H
  have A3 := Aside0.mk A30
  clear A30
  by_cases c4 : t283 = 0
  · rw [if_pos c4] at H
    have c4b0 : (t283 == 0) = true := beq_iff_eq.mpr c4
    have c4b1 : (t283 != 0) = false := bne_eq_false_iff_eq.mpr c4
    clear c4
    by_cases c5 : t281.toList = ([49, 52, 50, 56, 53, 55, 49, 52, 50, 56, 53, 55, 49, 52, 50, 56, 53, 55, 49, 52, 50] : List UInt8)
    · rw [if_pos c5] at H
      have c5b0 : (t281.toList == ([49, 52, 50, 56, 53, 55, 49, 52, 50, 56, 53, 55, 49, 52, 50, 56, 53, 55, 49, 52, 50] : List UInt8)) = true := beq_iff_eq.mpr c5
      have c5b1 : (t281.toList != ([49, 52, 50, 56, 53, 55, 49, 52, 50, 56, 53, 55, 49, 52, 50, 56, 53, 55, 49, 52, 50] : List UInt8)) = false := bne_eq_false_iff_eq.mpr c5
      clear c5
      by_cases c6 : t282.toList = ([54] : List UInt8)
      · rw [if_pos c6] at H
        have c6b0 : (t282.toList == ([54] : List UInt8)) = true := beq_iff_eq.mpr c6
        have c6b1 : (t282.toList != ([54] : List UInt8)) = false := bne_eq_false_iff_eq.mpr c6
        clear c6
        by_cases c7 : t285 = true
        · subst c7
          have H1 : (some false) = some r := by rw [if_pos rfl] at H; exact H
          clear H
          have H := H1
          clear H1
          obtain rfl := Option.some.inj H
          go_enter Tryd.func13, Tryd.ntmps13
          go_wp2_with (first | ((with_reducible refine gate_callee (f := 20) rfl ?_); refine goesL_ (some 9) rfl rfl Tryd.func20 (by kernel_rfl) rfl #[.string (⟨#[49, 48, 48, 48, 48, 48, 48, 48, 48, 48, 48, 48, 48, 48, 48, 48, 48, 48, 48, 48, 48, 48]⟩ : ByteArray), .string (⟨#[55]⟩ : ByteArray)] rfl mq ?_; (with_reducible refine (decimal_DivMod.calls (hT := HT.out.below bq) k (⟨#[49, 48, 48, 48, 48, 48, 48, 48, 48, 48, 48, 48, 48, 48, 48, 48, 48, 48, 48, 48, 48, 48]⟩ : ByteArray) (⟨#[55]⟩ : ByteArray) t281 t282 t283 _ A1.out).mono ?_); rintro e w8 ⟨rfl, hb⟩; refine ⟨_, rfl, ?_⟩; replace HB := Aside0.mk (below_step bq hb); (try clear hb); (try clear hb2); (try clear hk); (try clear hi)) | ((with_reducible refine gate_callee (f := 15) rfl ?_); refine goesL_ (some 14) rfl rfl Tryd.func15 (by kernel_rfl) rfl #[.string (⟨#[49, 56, 52, 52, 54, 55, 52, 52, 48, 55, 51, 55, 48, 57, 53, 53, 49, 54, 49, 54]⟩ : ByteArray)] rfl mq ?_; (with_reducible refine (decimal_Small.calls (hT := HT.out.below bq) (⟨#[49, 56, 52, 52, 54, 55, 52, 52, 48, 55, 51, 55, 48, 57, 53, 53, 49, 54, 49, 54]⟩ : ByteArray) t284 true _ A2.out).mono ?_); rintro e w9 ⟨rfl, hb⟩; refine ⟨_, rfl, ?_⟩; replace HB := Aside0.mk (below_step bq hb); (try clear hb); (try clear hb2); (try clear hk); (try clear hi)) | ((with_reducible refine gate_callee (f := 25) rfl ?_); refine goesL_ (some 18) rfl rfl Tryd.func25 (by kernel_rfl) rfl #[.string (⟨#[50]⟩ : ByteArray), .int .i64 64] rfl mq ?_; (with_reducible refine (decimal_Power.calls (hT := HT.out.below bq) k (⟨#[50]⟩ : ByteArray) 64 t286 t287 _ A3.out).mono ?_); rintro e w10 ⟨rfl, hb⟩; refine ⟨_, rfl, ?_⟩; replace HB := Aside0.mk (below_step bq hb); (try clear hb); (try clear hb2); (try clear hk); (try clear hi)))
          go_ret
          exact ⟨eq_, bq⟩
        · replace c7 := Bool.eq_false_iff.mpr c7
          subst c7
          have H1 : (if t287 = 0 then (if t286.toList = ([49, 56, 52, 52, 54, 55, 52, 52, 48, 55, 51, 55, 48, 57, 53, 53, 49, 54, 49, 54] : List UInt8) then ((decimal_Bits.f k (⟨#[50, 53, 53]⟩ : ByteArray)).bind fun t288 => (if t288 = 8 then ((decimal_Bits.f k (⟨#[50, 53, 54]⟩ : ByteArray)).bind fun t289 => (if t289 = 9 then ((decimal_Canonical.f k (⟨#[48, 48, 55]⟩ : ByteArray)).bind fun t290 => (some (!t290))) else (some false))) else (some false))) else (some false)) else (some false)) = some r := by rw [if_neg (show ¬ (false = true) by decide)] at H; exact H
          clear H
          have H := H1
          clear H1
          by_cases c11 : t287 = 0
          · rw [if_pos c11] at H
            have c11b0 : (t287 == 0) = true := beq_iff_eq.mpr c11
            have c11b1 : (t287 != 0) = false := bne_eq_false_iff_eq.mpr c11
            clear c11
            by_cases c12 : t286.toList = ([49, 56, 52, 52, 54, 55, 52, 52, 48, 55, 51, 55, 48, 57, 53, 53, 49, 54, 49, 54] : List UInt8)
            · rw [if_pos c12] at H
              have c12b0 : (t286.toList == ([49, 56, 52, 52, 54, 55, 52, 52, 48, 55, 51, 55, 48, 57, 53, 53, 49, 54, 49, 54] : List UInt8)) = true := beq_iff_eq.mpr c12
              have c12b1 : (t286.toList != ([49, 56, 52, 52, 54, 55, 52, 52, 48, 55, 51, 55, 48, 57, 53, 53, 49, 54, 49, 54] : List UInt8)) = false := bne_eq_false_iff_eq.mpr c12
              clear c12
              replace H := Option.bind_eq_some_iff.mp H
              obtain ⟨t288, A130, H⟩ := H
              replace H : (if t288 = 8 then ((decimal_Bits.f k (⟨#[50, 53, 54]⟩ : ByteArray)).bind fun t289 => (if t289 = 9 then ((decimal_Canonical.f k (⟨#[48, 48, 55]⟩ : ByteArray)).bind fun t290 => (some (!t290))) else (some false))) else (some false)) = some r := H
              have A13 := Aside0.mk A130
              clear A130
              by_cases c14 : t288 = 8
              · rw [if_pos c14] at H
                have c14b0 : (t288 == 8) = true := beq_iff_eq.mpr c14
                have c14b1 : (t288 != 8) = false := bne_eq_false_iff_eq.mpr c14
                clear c14
                replace H := Option.bind_eq_some_iff.mp H
                obtain ⟨t289, A150, H⟩ := H
                replace H : (if t289 = 9 then ((decimal_Canonical.f k (⟨#[48, 48, 55]⟩ : ByteArray)).bind fun t290 => (some (!t290))) else (some false)) = some r := H
                have A15 := Aside0.mk A150
                clear A150
                by_cases c16 : t289 = 9
                · rw [if_pos c16] at H
                  have c16b0 : (t289 == 9) = true := beq_iff_eq.mpr c16
                  have c16b1 : (t289 != 9) = false := bne_eq_false_iff_eq.mpr c16
                  clear c16
                  replace H := Option.bind_eq_some_iff.mp H
                  obtain ⟨t290, A170, H⟩ := H
                  replace H : (some (!t290)) = some r := H
                  have A17 := Aside0.mk A170
                  clear A170
                  obtain rfl := Option.some.inj H
                  go_enter Tryd.func13, Tryd.ntmps13
                  go_wp2_with (first | ((with_reducible refine gate_callee (f := 20) rfl ?_); refine goesL_ (some 9) rfl rfl Tryd.func20 (by kernel_rfl) rfl #[.string (⟨#[49, 48, 48, 48, 48, 48, 48, 48, 48, 48, 48, 48, 48, 48, 48, 48, 48, 48, 48, 48, 48, 48]⟩ : ByteArray), .string (⟨#[55]⟩ : ByteArray)] rfl mq ?_; (with_reducible refine (decimal_DivMod.calls (hT := HT.out.below bq) k (⟨#[49, 48, 48, 48, 48, 48, 48, 48, 48, 48, 48, 48, 48, 48, 48, 48, 48, 48, 48, 48, 48, 48]⟩ : ByteArray) (⟨#[55]⟩ : ByteArray) t281 t282 t283 _ A1.out).mono ?_); rintro e w18 ⟨rfl, hb⟩; refine ⟨_, rfl, ?_⟩; replace HB := Aside0.mk (below_step bq hb); (try clear hb); (try clear hb2); (try clear hk); (try clear hi)) | ((with_reducible refine gate_callee (f := 15) rfl ?_); refine goesL_ (some 14) rfl rfl Tryd.func15 (by kernel_rfl) rfl #[.string (⟨#[49, 56, 52, 52, 54, 55, 52, 52, 48, 55, 51, 55, 48, 57, 53, 53, 49, 54, 49, 54]⟩ : ByteArray)] rfl mq ?_; (with_reducible refine (decimal_Small.calls (hT := HT.out.below bq) (⟨#[49, 56, 52, 52, 54, 55, 52, 52, 48, 55, 51, 55, 48, 57, 53, 53, 49, 54, 49, 54]⟩ : ByteArray) t284 false _ A2.out).mono ?_); rintro e w19 ⟨rfl, hb⟩; refine ⟨_, rfl, ?_⟩; replace HB := Aside0.mk (below_step bq hb); (try clear hb); (try clear hb2); (try clear hk); (try clear hi)) | ((with_reducible refine gate_callee (f := 25) rfl ?_); refine goesL_ (some 18) rfl rfl Tryd.func25 (by kernel_rfl) rfl #[.string (⟨#[50]⟩ : ByteArray), .int .i64 64] rfl mq ?_; (with_reducible refine (decimal_Power.calls (hT := HT.out.below bq) k (⟨#[50]⟩ : ByteArray) 64 t286 t287 _ A3.out).mono ?_); rintro e w20 ⟨rfl, hb⟩; refine ⟨_, rfl, ?_⟩; replace HB := Aside0.mk (below_step bq hb); (try clear hb); (try clear hb2); (try clear hk); (try clear hi)) | (go_at_call 31; (with_reducible refine (decimal_Bits.calls (hT := HT.out.below bq) k (⟨#[50, 53, 53]⟩ : ByteArray) t288 _ A13.out).mono ?_); rintro e w21 ⟨rfl, hb⟩; replace HB := Aside0.mk (below_step bq hb); (try clear hb); (try clear hb2); (try clear hk); (try clear hi)) | (go_at_call 31; (with_reducible refine (decimal_Bits.calls (hT := HT.out.below bq) k (⟨#[50, 53, 54]⟩ : ByteArray) t289 _ A15.out).mono ?_); rintro e w22 ⟨rfl, hb⟩; replace HB := Aside0.mk (below_step bq hb); (try clear hb); (try clear hb2); (try clear hk); (try clear hi)) | (go_at_call 28; (with_reducible refine (decimal_Canonical.calls k (⟨#[48, 48, 55]⟩ : ByteArray) t290 _ A17.out).mono ?_); rintro e w23 ⟨rfl, hb⟩; replace HB := Aside0.mk (below_step bq hb); (try clear hb); (try clear hb2); (try clear hk); (try clear hi)))
                  go_ret
                  exact ⟨eq_, bq⟩
                · rw [if_neg c16] at H
                  have c16b0 : (t289 == 9) = false := beq_eq_false_iff_ne.mpr c16
                  have c16b1 : (t289 != 9) = true := bne_iff_ne.mpr c16
                  obtain rfl := Option.some.inj H
                  go_enter Tryd.func13, Tryd.ntmps13
                  go_wp2_with (first | ((with_reducible refine gate_callee (f := 20) rfl ?_); refine goesL_ (some 9) rfl rfl Tryd.func20 (by kernel_rfl) rfl #[.string (⟨#[49, 48, 48, 48, 48, 48, 48, 48, 48, 48, 48, 48, 48, 48, 48, 48, 48, 48, 48, 48, 48, 48]⟩ : ByteArray), .string (⟨#[55]⟩ : ByteArray)] rfl mq ?_; (with_reducible refine (decimal_DivMod.calls (hT := HT.out.below bq) k (⟨#[49, 48, 48, 48, 48, 48, 48, 48, 48, 48, 48, 48, 48, 48, 48, 48, 48, 48, 48, 48, 48, 48]⟩ : ByteArray) (⟨#[55]⟩ : ByteArray) t281 t282 t283 _ A1.out).mono ?_); rintro e w24 ⟨rfl, hb⟩; refine ⟨_, rfl, ?_⟩; replace HB := Aside0.mk (below_step bq hb); (try clear hb); (try clear hb2); (try clear hk); (try clear hi)) | ((with_reducible refine gate_callee (f := 15) rfl ?_); refine goesL_ (some 14) rfl rfl Tryd.func15 (by kernel_rfl) rfl #[.string (⟨#[49, 56, 52, 52, 54, 55, 52, 52, 48, 55, 51, 55, 48, 57, 53, 53, 49, 54, 49, 54]⟩ : ByteArray)] rfl mq ?_; (with_reducible refine (decimal_Small.calls (hT := HT.out.below bq) (⟨#[49, 56, 52, 52, 54, 55, 52, 52, 48, 55, 51, 55, 48, 57, 53, 53, 49, 54, 49, 54]⟩ : ByteArray) t284 false _ A2.out).mono ?_); rintro e w25 ⟨rfl, hb⟩; refine ⟨_, rfl, ?_⟩; replace HB := Aside0.mk (below_step bq hb); (try clear hb); (try clear hb2); (try clear hk); (try clear hi)) | ((with_reducible refine gate_callee (f := 25) rfl ?_); refine goesL_ (some 18) rfl rfl Tryd.func25 (by kernel_rfl) rfl #[.string (⟨#[50]⟩ : ByteArray), .int .i64 64] rfl mq ?_; (with_reducible refine (decimal_Power.calls (hT := HT.out.below bq) k (⟨#[50]⟩ : ByteArray) 64 t286 t287 _ A3.out).mono ?_); rintro e w26 ⟨rfl, hb⟩; refine ⟨_, rfl, ?_⟩; replace HB := Aside0.mk (below_step bq hb); (try clear hb); (try clear hb2); (try clear hk); (try clear hi)) | (go_at_call 31; (with_reducible refine (decimal_Bits.calls (hT := HT.out.below bq) k (⟨#[50, 53, 53]⟩ : ByteArray) t288 _ A13.out).mono ?_); rintro e w27 ⟨rfl, hb⟩; replace HB := Aside0.mk (below_step bq hb); (try clear hb); (try clear hb2); (try clear hk); (try clear hi)) | (go_at_call 31; (with_reducible refine (decimal_Bits.calls (hT := HT.out.below bq) k (⟨#[50, 53, 54]⟩ : ByteArray) t289 _ A15.out).mono ?_); rintro e w28 ⟨rfl, hb⟩; replace HB := Aside0.mk (below_step bq hb); (try clear hb); (try clear hb2); (try clear hk); (try clear hi)))
                  go_ret
                  exact ⟨eq_, bq⟩
              · rw [if_neg c14] at H
                have c14b0 : (t288 == 8) = false := beq_eq_false_iff_ne.mpr c14
                have c14b1 : (t288 != 8) = true := bne_iff_ne.mpr c14
                obtain rfl := Option.some.inj H
                go_enter Tryd.func13, Tryd.ntmps13
                go_wp2_with (first | ((with_reducible refine gate_callee (f := 20) rfl ?_); refine goesL_ (some 9) rfl rfl Tryd.func20 (by kernel_rfl) rfl #[.string (⟨#[49, 48, 48, 48, 48, 48, 48, 48, 48, 48, 48, 48, 48, 48, 48, 48, 48, 48, 48, 48, 48, 48]⟩ : ByteArray), .string (⟨#[55]⟩ : ByteArray)] rfl mq ?_; (with_reducible refine (decimal_DivMod.calls (hT := HT.out.below bq) k (⟨#[49, 48, 48, 48, 48, 48, 48, 48, 48, 48, 48, 48, 48, 48, 48, 48, 48, 48, 48, 48, 48, 48]⟩ : ByteArray) (⟨#[55]⟩ : ByteArray) t281 t282 t283 _ A1.out).mono ?_); rintro e w29 ⟨rfl, hb⟩; refine ⟨_, rfl, ?_⟩; replace HB := Aside0.mk (below_step bq hb); (try clear hb); (try clear hb2); (try clear hk); (try clear hi)) | ((with_reducible refine gate_callee (f := 15) rfl ?_); refine goesL_ (some 14) rfl rfl Tryd.func15 (by kernel_rfl) rfl #[.string (⟨#[49, 56, 52, 52, 54, 55, 52, 52, 48, 55, 51, 55, 48, 57, 53, 53, 49, 54, 49, 54]⟩ : ByteArray)] rfl mq ?_; (with_reducible refine (decimal_Small.calls (hT := HT.out.below bq) (⟨#[49, 56, 52, 52, 54, 55, 52, 52, 48, 55, 51, 55, 48, 57, 53, 53, 49, 54, 49, 54]⟩ : ByteArray) t284 false _ A2.out).mono ?_); rintro e w30 ⟨rfl, hb⟩; refine ⟨_, rfl, ?_⟩; replace HB := Aside0.mk (below_step bq hb); (try clear hb); (try clear hb2); (try clear hk); (try clear hi)) | ((with_reducible refine gate_callee (f := 25) rfl ?_); refine goesL_ (some 18) rfl rfl Tryd.func25 (by kernel_rfl) rfl #[.string (⟨#[50]⟩ : ByteArray), .int .i64 64] rfl mq ?_; (with_reducible refine (decimal_Power.calls (hT := HT.out.below bq) k (⟨#[50]⟩ : ByteArray) 64 t286 t287 _ A3.out).mono ?_); rintro e w31 ⟨rfl, hb⟩; refine ⟨_, rfl, ?_⟩; replace HB := Aside0.mk (below_step bq hb); (try clear hb); (try clear hb2); (try clear hk); (try clear hi)) | (go_at_call 31; (with_reducible refine (decimal_Bits.calls (hT := HT.out.below bq) k (⟨#[50, 53, 53]⟩ : ByteArray) t288 _ A13.out).mono ?_); rintro e w32 ⟨rfl, hb⟩; replace HB := Aside0.mk (below_step bq hb); (try clear hb); (try clear hb2); (try clear hk); (try clear hi)))
                go_ret
                exact ⟨eq_, bq⟩
            · rw [if_neg c12] at H
              have c12b0 : (t286.toList == ([49, 56, 52, 52, 54, 55, 52, 52, 48, 55, 51, 55, 48, 57, 53, 53, 49, 54, 49, 54] : List UInt8)) = false := beq_eq_false_iff_ne.mpr c12
              have c12b1 : (t286.toList != ([49, 56, 52, 52, 54, 55, 52, 52, 48, 55, 51, 55, 48, 57, 53, 53, 49, 54, 49, 54] : List UInt8)) = true := bne_iff_ne.mpr c12
              obtain rfl := Option.some.inj H
              go_enter Tryd.func13, Tryd.ntmps13
              go_wp2_with (first | ((with_reducible refine gate_callee (f := 20) rfl ?_); refine goesL_ (some 9) rfl rfl Tryd.func20 (by kernel_rfl) rfl #[.string (⟨#[49, 48, 48, 48, 48, 48, 48, 48, 48, 48, 48, 48, 48, 48, 48, 48, 48, 48, 48, 48, 48, 48]⟩ : ByteArray), .string (⟨#[55]⟩ : ByteArray)] rfl mq ?_; (with_reducible refine (decimal_DivMod.calls (hT := HT.out.below bq) k (⟨#[49, 48, 48, 48, 48, 48, 48, 48, 48, 48, 48, 48, 48, 48, 48, 48, 48, 48, 48, 48, 48, 48]⟩ : ByteArray) (⟨#[55]⟩ : ByteArray) t281 t282 t283 _ A1.out).mono ?_); rintro e w33 ⟨rfl, hb⟩; refine ⟨_, rfl, ?_⟩; replace HB := Aside0.mk (below_step bq hb); (try clear hb); (try clear hb2); (try clear hk); (try clear hi)) | ((with_reducible refine gate_callee (f := 15) rfl ?_); refine goesL_ (some 14) rfl rfl Tryd.func15 (by kernel_rfl) rfl #[.string (⟨#[49, 56, 52, 52, 54, 55, 52, 52, 48, 55, 51, 55, 48, 57, 53, 53, 49, 54, 49, 54]⟩ : ByteArray)] rfl mq ?_; (with_reducible refine (decimal_Small.calls (hT := HT.out.below bq) (⟨#[49, 56, 52, 52, 54, 55, 52, 52, 48, 55, 51, 55, 48, 57, 53, 53, 49, 54, 49, 54]⟩ : ByteArray) t284 false _ A2.out).mono ?_); rintro e w34 ⟨rfl, hb⟩; refine ⟨_, rfl, ?_⟩; replace HB := Aside0.mk (below_step bq hb); (try clear hb); (try clear hb2); (try clear hk); (try clear hi)) | ((with_reducible refine gate_callee (f := 25) rfl ?_); refine goesL_ (some 18) rfl rfl Tryd.func25 (by kernel_rfl) rfl #[.string (⟨#[50]⟩ : ByteArray), .int .i64 64] rfl mq ?_; (with_reducible refine (decimal_Power.calls (hT := HT.out.below bq) k (⟨#[50]⟩ : ByteArray) 64 t286 t287 _ A3.out).mono ?_); rintro e w35 ⟨rfl, hb⟩; refine ⟨_, rfl, ?_⟩; replace HB := Aside0.mk (below_step bq hb); (try clear hb); (try clear hb2); (try clear hk); (try clear hi)))
              go_ret
              exact ⟨eq_, bq⟩
          · rw [if_neg c11] at H
            have c11b0 : (t287 == 0) = false := beq_eq_false_iff_ne.mpr c11
            have c11b1 : (t287 != 0) = true := bne_iff_ne.mpr c11
            obtain rfl := Option.some.inj H
            go_enter Tryd.func13, Tryd.ntmps13
            go_wp2_with (first | ((with_reducible refine gate_callee (f := 20) rfl ?_); refine goesL_ (some 9) rfl rfl Tryd.func20 (by kernel_rfl) rfl #[.string (⟨#[49, 48, 48, 48, 48, 48, 48, 48, 48, 48, 48, 48, 48, 48, 48, 48, 48, 48, 48, 48, 48, 48]⟩ : ByteArray), .string (⟨#[55]⟩ : ByteArray)] rfl mq ?_; (with_reducible refine (decimal_DivMod.calls (hT := HT.out.below bq) k (⟨#[49, 48, 48, 48, 48, 48, 48, 48, 48, 48, 48, 48, 48, 48, 48, 48, 48, 48, 48, 48, 48, 48]⟩ : ByteArray) (⟨#[55]⟩ : ByteArray) t281 t282 t283 _ A1.out).mono ?_); rintro e w36 ⟨rfl, hb⟩; refine ⟨_, rfl, ?_⟩; replace HB := Aside0.mk (below_step bq hb); (try clear hb); (try clear hb2); (try clear hk); (try clear hi)) | ((with_reducible refine gate_callee (f := 15) rfl ?_); refine goesL_ (some 14) rfl rfl Tryd.func15 (by kernel_rfl) rfl #[.string (⟨#[49, 56, 52, 52, 54, 55, 52, 52, 48, 55, 51, 55, 48, 57, 53, 53, 49, 54, 49, 54]⟩ : ByteArray)] rfl mq ?_; (with_reducible refine (decimal_Small.calls (hT := HT.out.below bq) (⟨#[49, 56, 52, 52, 54, 55, 52, 52, 48, 55, 51, 55, 48, 57, 53, 53, 49, 54, 49, 54]⟩ : ByteArray) t284 false _ A2.out).mono ?_); rintro e w37 ⟨rfl, hb⟩; refine ⟨_, rfl, ?_⟩; replace HB := Aside0.mk (below_step bq hb); (try clear hb); (try clear hb2); (try clear hk); (try clear hi)) | ((with_reducible refine gate_callee (f := 25) rfl ?_); refine goesL_ (some 18) rfl rfl Tryd.func25 (by kernel_rfl) rfl #[.string (⟨#[50]⟩ : ByteArray), .int .i64 64] rfl mq ?_; (with_reducible refine (decimal_Power.calls (hT := HT.out.below bq) k (⟨#[50]⟩ : ByteArray) 64 t286 t287 _ A3.out).mono ?_); rintro e w38 ⟨rfl, hb⟩; refine ⟨_, rfl, ?_⟩; replace HB := Aside0.mk (below_step bq hb); (try clear hb); (try clear hb2); (try clear hk); (try clear hi)))
            go_ret
            exact ⟨eq_, bq⟩
      · rw [if_neg c6] at H
        have c6b0 : (t282.toList == ([54] : List UInt8)) = false := beq_eq_false_iff_ne.mpr c6
        have c6b1 : (t282.toList != ([54] : List UInt8)) = true := bne_iff_ne.mpr c6
        obtain rfl := Option.some.inj H
        go_enter Tryd.func13, Tryd.ntmps13
        go_wp2_with (first | ((with_reducible refine gate_callee (f := 20) rfl ?_); refine goesL_ (some 9) rfl rfl Tryd.func20 (by kernel_rfl) rfl #[.string (⟨#[49, 48, 48, 48, 48, 48, 48, 48, 48, 48, 48, 48, 48, 48, 48, 48, 48, 48, 48, 48, 48, 48]⟩ : ByteArray), .string (⟨#[55]⟩ : ByteArray)] rfl mq ?_; (with_reducible refine (decimal_DivMod.calls (hT := HT.out.below bq) k (⟨#[49, 48, 48, 48, 48, 48, 48, 48, 48, 48, 48, 48, 48, 48, 48, 48, 48, 48, 48, 48, 48, 48]⟩ : ByteArray) (⟨#[55]⟩ : ByteArray) t281 t282 t283 _ A1.out).mono ?_); rintro e w39 ⟨rfl, hb⟩; refine ⟨_, rfl, ?_⟩; replace HB := Aside0.mk (below_step bq hb); (try clear hb); (try clear hb2); (try clear hk); (try clear hi)) | ((with_reducible refine gate_callee (f := 15) rfl ?_); refine goesL_ (some 14) rfl rfl Tryd.func15 (by kernel_rfl) rfl #[.string (⟨#[49, 56, 52, 52, 54, 55, 52, 52, 48, 55, 51, 55, 48, 57, 53, 53, 49, 54, 49, 54]⟩ : ByteArray)] rfl mq ?_; (with_reducible refine (decimal_Small.calls (hT := HT.out.below bq) (⟨#[49, 56, 52, 52, 54, 55, 52, 52, 48, 55, 51, 55, 48, 57, 53, 53, 49, 54, 49, 54]⟩ : ByteArray) t284 t285 _ A2.out).mono ?_); rintro e w40 ⟨rfl, hb⟩; refine ⟨_, rfl, ?_⟩; replace HB := Aside0.mk (below_step bq hb); (try clear hb); (try clear hb2); (try clear hk); (try clear hi)) | ((with_reducible refine gate_callee (f := 25) rfl ?_); refine goesL_ (some 18) rfl rfl Tryd.func25 (by kernel_rfl) rfl #[.string (⟨#[50]⟩ : ByteArray), .int .i64 64] rfl mq ?_; (with_reducible refine (decimal_Power.calls (hT := HT.out.below bq) k (⟨#[50]⟩ : ByteArray) 64 t286 t287 _ A3.out).mono ?_); rintro e w41 ⟨rfl, hb⟩; refine ⟨_, rfl, ?_⟩; replace HB := Aside0.mk (below_step bq hb); (try clear hb); (try clear hb2); (try clear hk); (try clear hi)))
        go_ret
        exact ⟨eq_, bq⟩
    · rw [if_neg c5] at H
      have c5b0 : (t281.toList == ([49, 52, 50, 56, 53, 55, 49, 52, 50, 56, 53, 55, 49, 52, 50, 56, 53, 55, 49, 52, 50] : List UInt8)) = false := beq_eq_false_iff_ne.mpr c5
      have c5b1 : (t281.toList != ([49, 52, 50, 56, 53, 55, 49, 52, 50, 56, 53, 55, 49, 52, 50, 56, 53, 55, 49, 52, 50] : List UInt8)) = true := bne_iff_ne.mpr c5
      obtain rfl := Option.some.inj H
      go_enter Tryd.func13, Tryd.ntmps13
      go_wp2_with (first | ((with_reducible refine gate_callee (f := 20) rfl ?_); refine goesL_ (some 9) rfl rfl Tryd.func20 (by kernel_rfl) rfl #[.string (⟨#[49, 48, 48, 48, 48, 48, 48, 48, 48, 48, 48, 48, 48, 48, 48, 48, 48, 48, 48, 48, 48, 48]⟩ : ByteArray), .string (⟨#[55]⟩ : ByteArray)] rfl mq ?_; (with_reducible refine (decimal_DivMod.calls (hT := HT.out.below bq) k (⟨#[49, 48, 48, 48, 48, 48, 48, 48, 48, 48, 48, 48, 48, 48, 48, 48, 48, 48, 48, 48, 48, 48]⟩ : ByteArray) (⟨#[55]⟩ : ByteArray) t281 t282 t283 _ A1.out).mono ?_); rintro e w42 ⟨rfl, hb⟩; refine ⟨_, rfl, ?_⟩; replace HB := Aside0.mk (below_step bq hb); (try clear hb); (try clear hb2); (try clear hk); (try clear hi)) | ((with_reducible refine gate_callee (f := 15) rfl ?_); refine goesL_ (some 14) rfl rfl Tryd.func15 (by kernel_rfl) rfl #[.string (⟨#[49, 56, 52, 52, 54, 55, 52, 52, 48, 55, 51, 55, 48, 57, 53, 53, 49, 54, 49, 54]⟩ : ByteArray)] rfl mq ?_; (with_reducible refine (decimal_Small.calls (hT := HT.out.below bq) (⟨#[49, 56, 52, 52, 54, 55, 52, 52, 48, 55, 51, 55, 48, 57, 53, 53, 49, 54, 49, 54]⟩ : ByteArray) t284 t285 _ A2.out).mono ?_); rintro e w43 ⟨rfl, hb⟩; refine ⟨_, rfl, ?_⟩; replace HB := Aside0.mk (below_step bq hb); (try clear hb); (try clear hb2); (try clear hk); (try clear hi)) | ((with_reducible refine gate_callee (f := 25) rfl ?_); refine goesL_ (some 18) rfl rfl Tryd.func25 (by kernel_rfl) rfl #[.string (⟨#[50]⟩ : ByteArray), .int .i64 64] rfl mq ?_; (with_reducible refine (decimal_Power.calls (hT := HT.out.below bq) k (⟨#[50]⟩ : ByteArray) 64 t286 t287 _ A3.out).mono ?_); rintro e w44 ⟨rfl, hb⟩; refine ⟨_, rfl, ?_⟩; replace HB := Aside0.mk (below_step bq hb); (try clear hb); (try clear hb2); (try clear hk); (try clear hi)))
      go_ret
      exact ⟨eq_, bq⟩
  · rw [if_neg c4] at H
    have c4b0 : (t283 == 0) = false := beq_eq_false_iff_ne.mpr c4
    have c4b1 : (t283 != 0) = true := bne_iff_ne.mpr c4
    obtain rfl := Option.some.inj H
    go_enter Tryd.func13, Tryd.ntmps13
    go_wp2_with (first | ((with_reducible refine gate_callee (f := 20) rfl ?_); refine goesL_ (some 9) rfl rfl Tryd.func20 (by kernel_rfl) rfl #[.string (⟨#[49, 48, 48, 48, 48, 48, 48, 48, 48, 48, 48, 48, 48, 48, 48, 48, 48, 48, 48, 48, 48, 48]⟩ : ByteArray), .string (⟨#[55]⟩ : ByteArray)] rfl mq ?_; (with_reducible refine (decimal_DivMod.calls (hT := HT.out.below bq) k (⟨#[49, 48, 48, 48, 48, 48, 48, 48, 48, 48, 48, 48, 48, 48, 48, 48, 48, 48, 48, 48, 48, 48]⟩ : ByteArray) (⟨#[55]⟩ : ByteArray) t281 t282 t283 _ A1.out).mono ?_); rintro e w45 ⟨rfl, hb⟩; refine ⟨_, rfl, ?_⟩; replace HB := Aside0.mk (below_step bq hb); (try clear hb); (try clear hb2); (try clear hk); (try clear hi)) | ((with_reducible refine gate_callee (f := 15) rfl ?_); refine goesL_ (some 14) rfl rfl Tryd.func15 (by kernel_rfl) rfl #[.string (⟨#[49, 56, 52, 52, 54, 55, 52, 52, 48, 55, 51, 55, 48, 57, 53, 53, 49, 54, 49, 54]⟩ : ByteArray)] rfl mq ?_; (with_reducible refine (decimal_Small.calls (hT := HT.out.below bq) (⟨#[49, 56, 52, 52, 54, 55, 52, 52, 48, 55, 51, 55, 48, 57, 53, 53, 49, 54, 49, 54]⟩ : ByteArray) t284 t285 _ A2.out).mono ?_); rintro e w46 ⟨rfl, hb⟩; refine ⟨_, rfl, ?_⟩; replace HB := Aside0.mk (below_step bq hb); (try clear hb); (try clear hb2); (try clear hk); (try clear hi)) | ((with_reducible refine gate_callee (f := 25) rfl ?_); refine goesL_ (some 18) rfl rfl Tryd.func25 (by kernel_rfl) rfl #[.string (⟨#[50]⟩ : ByteArray), .int .i64 64] rfl mq ?_; (with_reducible refine (decimal_Power.calls (hT := HT.out.below bq) k (⟨#[50]⟩ : ByteArray) 64 t286 t287 _ A3.out).mono ?_); rintro e w47 ⟨rfl, hb⟩; refine ⟨_, rfl, ?_⟩; replace HB := Aside0.mk (below_step bq hb); (try clear hb); (try clear hb2); (try clear hk); (try clear hi)))
    go_ret
    exact ⟨eq_, bq⟩
def schismaref01_Canonical.l0 : Nat → ByteArray → Int → Option (Bool)
  | 0, _, _ => none
  | k + 1, x0, x3 => if x3 < (x0.size : Int) then (if 0 ≤ x3 then (if (bt x0 x3) < 48 then (some false) else (if (bt x0 x3) > 57 then (some false) else (schismaref01_Canonical.l0 k x0 (wrap64 (x3 + 1))))) else (none)) else (if (x0.size : Int) = 1 then (some true) else (if (x0.size : Int) > 1 then (if 0 < (x0.size : Int) then (some ((bt x0 0) != 48)) else (none)) else (some false)))
def schismaref01_Canonical.f (k : Nat) (a0 : ByteArray) : Option (Bool) := schismaref01_Canonical.l0 k a0 0
theorem schismaref01_Canonical.mono_l : ∀ k, (∀ y0 y1, LeO (schismaref01_Canonical.l0 k y0 y1) (schismaref01_Canonical.l0 (k + 1) y0 y1))
  | 0 => fun _ _ r h => by simp [schismaref01_Canonical.l0] at h
  | k + 1 => by
    have ih0 := schismaref01_Canonical.mono_l k
    · intro y0 y1
      unfold schismaref01_Canonical.l0
      repeat' first
      | (with_reducible exact ih0 _ _)
      | (with_reducible exact LeO.refl _)
      | (with_reducible exact LeO.none _)
      | (with_reducible refine LeO.ite ?_ ?_)
      | (with_reducible refine LeO.bind ?_ (fun _ => ?_))
      | exact ih0 _ _
      | exact LeO.none _
      | refine LeO.ite ?_ ?_
      | refine LeO.bind ?_ (fun _ => ?_)
theorem schismaref01_Canonical.mono : ∀ a0 k, LeO (schismaref01_Canonical.f k a0) (schismaref01_Canonical.f (k + 1) a0) := by
  intro a0 k
  have ih0 := schismaref01_Canonical.mono_l k
  unfold schismaref01_Canonical.f
  repeat' first
      | (with_reducible exact ih0 _ _)
      | (with_reducible exact LeO.refl _)
      | (with_reducible exact LeO.none _)
      | (with_reducible refine LeO.ite ?_ ?_)
      | (with_reducible refine LeO.bind ?_ (fun _ => ?_))
      | exact ih0 _ _
      | exact LeO.none _
      | refine LeO.ite ?_ ?_
      | refine LeO.bind ?_ (fun _ => ?_)
set_option maxHeartbeats 8000000 in
set_option maxRecDepth 100000 in
theorem schismaref01_Canonical.calls (k : Nat) (a0 : ByteArray) (r : Bool) (w : World) (h : schismaref01_Canonical.f k a0 = some r) :
    Calls Tryd.prog 21 #[.string a0] w fun e w' => e = .returned (.bool r) ∧ Drawn0 w w' := by
  have H : (schismaref01_Canonical.l0 k a0 0) = some r := h
  clear h
  have H' := Aside0.mk H
  clear H
  go_enter Tryd.func21, Tryd.ntmps21
  go_wp2
  go_loopg [3] k (fun kq v3 w' => ∃ (x3_1 : Int), v3 = .int .i64 x3_1 ∧ Aside0 (schismaref01_Canonical.l0 kq a0 x3_1 = some r) ∧ Aside0 (kq ≤ k) ∧ Drawn0 w w')
  case atStart => exact ⟨(0), (by first | rfl | (simp; done) | (simp [*]; done)), H', ⟨Nat.le_refl _⟩, by repeat (first | exact Drawn0.refl _ | apply Drawn0.step)⟩
  case round =>
    clear H'
    obtain ⟨x3_1, rfl, HA, HK1, ⟨m1, rfl⟩⟩ := hrel
    cases gk with
    | zero => exact absurd HA.out (by simp [schismaref01_Canonical.l0])
    | succ k1 =>
      have H := HA.out
      clear HA
      simp only [schismaref01_Canonical.l0] at H
      by_cases c2 : x3_1 < (a0.size : Int)
      · rw [if_pos c2] at H
        have c2b0 : decide (x3_1 < (a0.size : Int)) = true := decide_eq_true c2
        clear c2
        by_cases c3 : 0 ≤ x3_1
        · rw [if_pos c3] at H
          have c3b0 : decide (0 ≤ x3_1) = true := decide_eq_true c3
          clear c3
          by_cases c5 : (bt a0 x3_1) < 48
          · rw [if_pos c5] at H
            have c5b0 : decide ((bt a0 x3_1) < 48) = true := decide_eq_true c5
            clear c5
            obtain rfl := Option.some.inj H
            have p4 : 0 ≤ (x3_1 : Int) := of_decide_eq_true (by first | (with_reducible assumption) | assumption)
            have q4 : x3_1 < (a0.size : Int) := of_decide_eq_true (by first | (with_reducible assumption) | assumption)
            have hx4 := bt_at a0 x3_1
            replace p4 := eq_true p4
            replace q4 := eq_true q4
            go_wp2
            go_ret
            exact ⟨by first | rfl | (simp; done) | (simp [wrap64]; done) | (simp [*]; done), by repeat (first | exact Drawn0.refl _ | apply Drawn0.step)⟩
          · rw [if_neg c5] at H
            have c5b0 : decide ((bt a0 x3_1) < 48) = false := decide_eq_false c5
            clear c5
            by_cases c7 : (bt a0 x3_1) > 57
            · rw [if_pos c7] at H
              have c7b0 : decide (57 < (bt a0 x3_1)) = true := decide_eq_true c7
              clear c7
              obtain rfl := Option.some.inj H
              have p4 : 0 ≤ (x3_1 : Int) := of_decide_eq_true (by first | (with_reducible assumption) | assumption)
              have q4 : x3_1 < (a0.size : Int) := of_decide_eq_true (by first | (with_reducible assumption) | assumption)
              have hx4 := bt_at a0 x3_1
              replace p4 := eq_true p4
              replace q4 := eq_true q4
              have p6 : 0 ≤ (x3_1 : Int) := of_decide_eq_true (by first | (with_reducible assumption) | assumption)
              have q6 : x3_1 < (a0.size : Int) := of_decide_eq_true (by first | (with_reducible assumption) | assumption)
              have hx6 := bt_at a0 x3_1
              replace p6 := eq_true p6
              replace q6 := eq_true q6
              go_wp2
              go_ret
              exact ⟨by first | rfl | (simp; done) | (simp [wrap64]; done) | (simp [*]; done), by repeat (first | exact Drawn0.refl _ | apply Drawn0.step)⟩
            · rw [if_neg c7] at H
              have c7b0 : decide (57 < (bt a0 x3_1)) = false := decide_eq_false c7
              clear c7
              have H' := Aside0.mk H
              clear H
              have p4 : 0 ≤ (x3_1 : Int) := of_decide_eq_true (by first | (with_reducible assumption) | assumption)
              have q4 : x3_1 < (a0.size : Int) := of_decide_eq_true (by first | (with_reducible assumption) | assumption)
              have hx4 := bt_at a0 x3_1
              replace p4 := eq_true p4
              replace q4 := eq_true q4
              have p6 : 0 ≤ (x3_1 : Int) := of_decide_eq_true (by first | (with_reducible assumption) | assumption)
              have q6 : x3_1 < (a0.size : Int) := of_decide_eq_true (by first | (with_reducible assumption) | assumption)
              have hx6 := bt_at a0 x3_1
              replace p6 := eq_true p6
              replace q6 := eq_true q6
              go_wp2
              go_roundg k1
              case measure => have := HK1.out; omega
              case rel => exact ⟨(wrap64 (x3_1 + 1)), (by first | rfl | (simp; done) | (simp [*]; done)), H', ⟨by have := HK1.out; omega⟩, by repeat (first | exact Drawn0.refl _ | apply Drawn0.step)⟩
        · rw [if_neg c3] at H
          exact absurd H (by simp)
      · rw [if_neg c2] at H
        have c2b0 : decide (x3_1 < (a0.size : Int)) = false := decide_eq_false c2
        clear c2
        by_cases c8 : (a0.size : Int) = 1
        · rw [if_pos c8] at H
          have c8b0 : ((a0.size : Int) == 1) = true := beq_iff_eq.mpr c8
          have c8b1 : ((a0.size : Int) != 1) = false := bne_eq_false_iff_eq.mpr c8
          clear c8
          obtain rfl := Option.some.inj H
          go_wp2
          go_ret
          exact ⟨by first | rfl | (simp; done) | (simp [wrap64]; done) | (simp [*]; done), by repeat (first | exact Drawn0.refl _ | apply Drawn0.step)⟩
        · rw [if_neg c8] at H
          have c8b0 : ((a0.size : Int) == 1) = false := beq_eq_false_iff_ne.mpr c8
          have c8b1 : ((a0.size : Int) != 1) = true := bne_iff_ne.mpr c8
          by_cases c9 : (a0.size : Int) > 1
          · rw [if_pos c9] at H
            have c9b0 : decide (1 < (a0.size : Int)) = true := decide_eq_true c9
            have c9b1 : decide (1 < a0.size) = true := decide_eq_true (by omega)
            clear c9
            by_cases c10 : 0 < (a0.size : Int)
            · rw [if_pos c10] at H
              have c10b0 : decide (0 < (a0.size : Int)) = true := decide_eq_true c10
              have c10b1 : decide (0 < a0.size) = true := decide_eq_true (by omega)
              clear c10
              obtain rfl := Option.some.inj H
              have p11 : 0 ≤ (0 : Int) := (by omega)
              have q11 : 0 < a0.size := (by have : (0 : Int) < (a0.size : Int) := of_decide_eq_true (by first | (with_reducible assumption) | assumption); omega)
              have hx11 : ∀ h : 0 < a0.size, ((a0[0]'h).toNat : Int) = bt a0 0 := bt_at a0 0
              clear p11
              have qi11 : (0 < (a0.size : Int)) = True := eq_true (of_decide_eq_true (by first | (with_reducible assumption) | assumption))
              replace q11 := eq_true q11
              go_wp2
              go_ret
              exact ⟨by first | rfl | (simp; done) | (simp [wrap64]; done) | (simp [*]; done), by repeat (first | exact Drawn0.refl _ | apply Drawn0.step)⟩
            · rw [if_neg c10] at H
              exact absurd H (by simp)
          · rw [if_neg c9] at H
            have c9b0 : decide (1 < (a0.size : Int)) = false := decide_eq_false c9
            have c9b1 : decide (1 < a0.size) = false := decide_eq_false (by omega)
            clear c9
            obtain rfl := Option.some.inj H
            go_wp2
            go_ret
            exact ⟨by first | rfl | (simp; done) | (simp [wrap64]; done) | (simp [*]; done), by repeat (first | exact Drawn0.refl _ | apply Drawn0.step)⟩
def decimal_Check.f (k : Nat) (a0 : ByteArray) : Option (Int) := (decimal_Canonical.f k a0).bind fun t379 => (if t379 = true then (if (a0.size : Int) > 400 then (some 2) else (some 0)) else (some 2))
theorem decimal_Check.mono : ∀ a0 k, LeO (decimal_Check.f k a0) (decimal_Check.f (k + 1) a0) := by
  intro a0 k
  unfold decimal_Check.f
  repeat' first
      | (with_reducible exact decimal_Canonical.mono _ _)
      | (with_reducible exact LeO.refl _)
      | (with_reducible exact LeO.none _)
      | (with_reducible refine LeO.ite ?_ ?_)
      | (with_reducible refine LeO.bind ?_ (fun _ => ?_))
      | exact decimal_Canonical.mono _ _
      | exact LeO.none _
      | refine LeO.ite ?_ ?_
      | refine LeO.bind ?_ (fun _ => ?_)
set_option maxHeartbeats 8000000 in
set_option maxRecDepth 100000 in
theorem decimal_Check.calls (k : Nat) (a0 : ByteArray) (r : Int) (w : World) (h : decimal_Check.f k a0 = some r) :
    Calls Tryd.prog 27 #[.string a0] w fun e w' => e = .returned (.int .i64 r) ∧ Below w.heap.size w w' := by
  have HB := Aside0.mk (Below.refl w.heap.size w)
  have H : ((decimal_Canonical.f k a0).bind fun t379 => (if t379 = true then (if (a0.size : Int) > 400 then (some 2) else (some 0)) else (some 2))) = some r := h
  clear h
  replace H := Option.bind_eq_some_iff.mp H
  obtain ⟨t379, A20, H⟩ := H
  replace H : (if t379 = true then (if (a0.size : Int) > 400 then (some 2) else (some 0)) else (some 2)) = some r := H
  have A2 := Aside0.mk A20
  clear A20
  by_cases c3 : t379 = true
  · subst c3
    have H1 : (if (a0.size : Int) > 400 then (some 2) else (some 0)) = some r := by rw [if_pos rfl] at H; exact H
    clear H
    have H := H1
    clear H1
    by_cases c4 : (a0.size : Int) > 400
    · rw [if_pos c4] at H
      have c4b0 : decide (400 < (a0.size : Int)) = true := decide_eq_true c4
      have c4b1 : decide (400 < a0.size) = true := decide_eq_true (by omega)
      clear c4
      obtain rfl := Option.some.inj H
      go_enter Tryd.func27, Tryd.ntmps27
      go_wp2_with (first | ((with_reducible refine gate_callee (f := 28) rfl ?_); refine goesL_ (some 4) rfl rfl Tryd.func28 (by kernel_rfl) rfl #[.string a0] rfl mq ?_; (with_reducible refine (decimal_Canonical.calls k a0 true _ A2.out).mono ?_); rintro e w5 ⟨rfl, hb⟩; refine ⟨_, rfl, ?_⟩; replace HB := Aside0.mk (below_step bq hb); (try clear hb); (try clear hb2); (try clear hk); (try clear hi)))
      go_ret
      exact ⟨eq_, bq⟩
    · rw [if_neg c4] at H
      have c4b0 : decide (400 < (a0.size : Int)) = false := decide_eq_false c4
      have c4b1 : decide (400 < a0.size) = false := decide_eq_false (by omega)
      clear c4
      obtain rfl := Option.some.inj H
      go_enter Tryd.func27, Tryd.ntmps27
      go_wp2_with (first | ((with_reducible refine gate_callee (f := 28) rfl ?_); refine goesL_ (some 4) rfl rfl Tryd.func28 (by kernel_rfl) rfl #[.string a0] rfl mq ?_; (with_reducible refine (decimal_Canonical.calls k a0 true _ A2.out).mono ?_); rintro e w6 ⟨rfl, hb⟩; refine ⟨_, rfl, ?_⟩; replace HB := Aside0.mk (below_step bq hb); (try clear hb); (try clear hb2); (try clear hk); (try clear hi)))
      go_ret
      exact ⟨eq_, bq⟩
  · replace c3 := Bool.eq_false_iff.mpr c3
    subst c3
    have H1 : (some 2) = some r := by rw [if_neg (show ¬ (false = true) by decide)] at H; exact H
    clear H
    have H := H1
    clear H1
    obtain rfl := Option.some.inj H
    go_enter Tryd.func27, Tryd.ntmps27
    go_wp2_with (first | ((with_reducible refine gate_callee (f := 28) rfl ?_); refine goesL_ (some 4) rfl rfl Tryd.func28 (by kernel_rfl) rfl #[.string a0] rfl mq ?_; (with_reducible refine (decimal_Canonical.calls k a0 false _ A2.out).mono ?_); rintro e w7 ⟨rfl, hb⟩; refine ⟨_, rfl, ?_⟩; replace HB := Aside0.mk (below_step bq hb); (try clear hb); (try clear hb2); (try clear hk); (try clear hi)))
    go_ret
    exact ⟨eq_, bq⟩
def schismalaw01_DecimalForms.j0 : Nat → ByteArray → Bool → Option (Bool)
  | 0, _, _ => none
  | k + 1, x0, x12 => if x12 = true then ((schismalaw01_known.f k).bind fun t381 => (some t381)) else ((schismaref01_Canonical.f k x0).bind fun t382 => ((decimal_Check.f k x0).bind fun t383 => ((decimal_Canonical.f k x0).bind fun t384 => (if (t384 != t382) = true then (some false) else (if t382 = true then (if (x0.size : Int) ≤ 400 then (some (t383 == 0)) else (some (t383 == 2))) else (some (t383 == 2)))))))
def schismalaw01_DecimalForms.f (k : Nat) (a0 : ByteArray) : Option (Bool) := (schismalaw01_known.f k).bind fun t380 => (if t380 = true then (schismalaw01_DecimalForms.j0 k a0 (decide ((a0.size : Int) > 500))) else (schismalaw01_DecimalForms.j0 k a0 true))
theorem schismalaw01_DecimalForms.mono_l : ∀ k, (∀ y0 y1, LeO (schismalaw01_DecimalForms.j0 k y0 y1) (schismalaw01_DecimalForms.j0 (k + 1) y0 y1))
  | 0 => fun _ _ r h => by simp [schismalaw01_DecimalForms.j0] at h
  | k + 1 => by
    have ih0 := schismalaw01_DecimalForms.mono_l k
    · intro y0 y1
      unfold schismalaw01_DecimalForms.j0
      repeat' first
      | (with_reducible exact ih0 _ _)
      | (with_reducible exact decimal_Canonical.mono _ _)
      | (with_reducible exact decimal_Check.mono _ _)
      | (with_reducible exact schismalaw01_known.mono _)
      | (with_reducible exact schismaref01_Canonical.mono _ _)
      | (with_reducible exact LeO.refl _)
      | (with_reducible exact LeO.none _)
      | (with_reducible refine LeO.ite ?_ ?_)
      | (with_reducible refine LeO.bind ?_ (fun _ => ?_))
      | exact ih0 _ _
      | exact decimal_Canonical.mono _ _
      | exact decimal_Check.mono _ _
      | exact schismalaw01_known.mono _
      | exact schismaref01_Canonical.mono _ _
      | exact LeO.none _
      | refine LeO.ite ?_ ?_
      | refine LeO.bind ?_ (fun _ => ?_)
theorem schismalaw01_DecimalForms.mono : ∀ a0 k, LeO (schismalaw01_DecimalForms.f k a0) (schismalaw01_DecimalForms.f (k + 1) a0) := by
  intro a0 k
  have ih0 := schismalaw01_DecimalForms.mono_l k
  unfold schismalaw01_DecimalForms.f
  repeat' first
      | (with_reducible exact ih0 _ _)
      | (with_reducible exact decimal_Canonical.mono _ _)
      | (with_reducible exact decimal_Check.mono _ _)
      | (with_reducible exact schismalaw01_known.mono _)
      | (with_reducible exact schismaref01_Canonical.mono _ _)
      | (with_reducible exact LeO.refl _)
      | (with_reducible exact LeO.none _)
      | (with_reducible refine LeO.ite ?_ ?_)
      | (with_reducible refine LeO.bind ?_ (fun _ => ?_))
      | exact ih0 _ _
      | exact decimal_Canonical.mono _ _
      | exact decimal_Check.mono _ _
      | exact schismalaw01_known.mono _
      | exact schismaref01_Canonical.mono _ _
      | exact LeO.none _
      | refine LeO.ite ?_ ?_
      | refine LeO.bind ?_ (fun _ => ?_)
set_option maxHeartbeats 8000000 in
set_option maxRecDepth 100000 in
theorem schismalaw01_DecimalForms.calls (k : Nat) (a0 : ByteArray) (r : Bool) (w : World) (hT : Tab w) (h : schismalaw01_DecimalForms.f k a0 = some r) :
    Calls Tryd.prog 6 #[.string a0] w fun e w' => e = .returned (.bool r) ∧ Below w.heap.size w w' := by
  have HT := Aside0.mk hT
  clear hT
  have HB := Aside0.mk (Below.refl w.heap.size w)
  have H : ((schismalaw01_known.f k).bind fun t380 => (if t380 = true then (schismalaw01_DecimalForms.j0 k a0 (decide ((a0.size : Int) > 500))) else (schismalaw01_DecimalForms.j0 k a0 true))) = some r := h
  clear h
  have HC2 := Aside0.mk H
  clear H
  go_enter Tryd.func6, Tryd.ntmps6
  go_upto_region 1 with (fail)
  go_cut [12] (fun v12 wc => ∃ (kq : Nat) (x12_1 : Bool), v12 = .bool x12_1 ∧ Aside0 (schismalaw01_DecimalForms.j0 kq a0 x12_1 = some r) ∧ Aside0 (kq ≤ k) ∧ Aside0 (Below w.heap.size w wc))
  case first =>
    have H := HC2.out
    clear HC2
    replace H := Option.bind_eq_some_iff.mp H
    obtain ⟨t380, A30, H⟩ := H
    replace H : (if t380 = true then (schismalaw01_DecimalForms.j0 k a0 (decide ((a0.size : Int) > 500))) else (schismalaw01_DecimalForms.j0 k a0 true)) = some r := H
    have A3 := Aside0.mk A30
    clear A30
    by_cases c4 : t380 = true
    · subst c4
      have H1 : (schismalaw01_DecimalForms.j0 k a0 (decide ((a0.size : Int) > 500))) = some r := by rw [if_pos rfl] at H; exact H
      clear H
      have H := H1
      clear H1
      have H' := Aside0.mk H
      clear H
      go_wp2_with (first | ((with_reducible refine gate_callee (f := 13) rfl ?_); refine goesL_ (some 6) rfl rfl Tryd.func13 (by kernel_rfl) rfl #[] rfl mq ?_; (with_reducible refine (schismalaw01_known.calls (hT := HT.out.below bq) k  true _ A3.out).mono ?_); rintro e w5 ⟨rfl, hb⟩; refine ⟨_, rfl, ?_⟩; replace HB := Aside0.mk (below_step bq hb); (try clear hb); (try clear hb2); (try clear hk); (try clear hi)))
      go_meet
      case rel => exact ⟨_, (decide ((a0.size : Int) > 500)), (by first | rfl | (simp; done) | (simp [*]; done)), H', ⟨by first | omega | exact Nat.le_refl _⟩, ⟨bq⟩⟩
    · replace c4 := Bool.eq_false_iff.mpr c4
      subst c4
      have H1 : (schismalaw01_DecimalForms.j0 k a0 true) = some r := by rw [if_neg (show ¬ (false = true) by decide)] at H; exact H
      clear H
      have H := H1
      clear H1
      have H' := Aside0.mk H
      clear H
      go_wp2_with (first | ((with_reducible refine gate_callee (f := 13) rfl ?_); refine goesL_ (some 6) rfl rfl Tryd.func13 (by kernel_rfl) rfl #[] rfl mq ?_; (with_reducible refine (schismalaw01_known.calls (hT := HT.out.below bq) k  false _ A3.out).mono ?_); rintro e w6 ⟨rfl, hb⟩; refine ⟨_, rfl, ?_⟩; replace HB := Aside0.mk (below_step bq hb); (try clear hb); (try clear hb2); (try clear hk); (try clear hi)))
      go_meet
      case rel => exact ⟨_, (true), (by first | rfl | (simp; done) | (simp [*]; done)), H', ⟨by first | omega | exact Nat.le_refl _⟩, ⟨bq⟩⟩
  case rest =>
    clear HC2
    try clear c1
    try clear p2
    try clear c4
    try clear c6
    obtain ⟨kq, x12_1, rfl, HA, HJ1, HB⟩ := hcut
    cases kq with
    | zero => exact absurd HA.out (by simp [schismalaw01_DecimalForms.j0])
    | succ kj1 =>
      have H := HA.out
      clear HA
      simp only [schismalaw01_DecimalForms.j0] at H
      by_cases c7 : x12_1 = true
      · subst c7
        have H1 : ((schismalaw01_known.f kj1).bind fun t381 => (some t381)) = some r := by rw [if_pos rfl] at H; exact H
        clear H
        have H := H1
        clear H1
        replace H := Option.bind_eq_some_iff.mp H
        obtain ⟨t381, A80, H⟩ := H
        replace H : (some t381) = some r := H
        have A8 := Aside0.mk A80
        clear A80
        obtain rfl := Option.some.inj H
        go_wp2_with (first | ((with_reducible refine gate_callee (f := 13) rfl ?_); refine goesL_ (some 13) rfl rfl Tryd.func13 (by kernel_rfl) rfl #[] rfl mq ?_; (with_reducible refine (schismalaw01_known.calls (hT := HT.out.below bq) kj1  t381 _ A8.out).mono ?_); rintro e w9 ⟨rfl, hb⟩; refine ⟨_, rfl, ?_⟩; replace HB := Aside0.mk (below_step bq hb); (try clear hb); (try clear hb2); (try clear hk); (try clear hi)))
        go_ret
        exact ⟨eq_, bq⟩
      · replace c7 := Bool.eq_false_iff.mpr c7
        subst c7
        have H1 : ((schismaref01_Canonical.f kj1 a0).bind fun t382 => ((decimal_Check.f kj1 a0).bind fun t383 => ((decimal_Canonical.f kj1 a0).bind fun t384 => (if (t384 != t382) = true then (some false) else (if t382 = true then (if (a0.size : Int) ≤ 400 then (some (t383 == 0)) else (some (t383 == 2))) else (some (t383 == 2))))))) = some r := by rw [if_neg (show ¬ (false = true) by decide)] at H; exact H
        clear H
        have H := H1
        clear H1
        replace H := Option.bind_eq_some_iff.mp H
        obtain ⟨t382, A100, H⟩ := H
        replace H : ((decimal_Check.f kj1 a0).bind fun t383 => ((decimal_Canonical.f kj1 a0).bind fun t384 => (if (t384 != t382) = true then (some false) else (if t382 = true then (if (a0.size : Int) ≤ 400 then (some (t383 == 0)) else (some (t383 == 2))) else (some (t383 == 2)))))) = some r := H
        have A10 := Aside0.mk A100
        clear A100
        replace H := Option.bind_eq_some_iff.mp H
        obtain ⟨t383, A110, H⟩ := H
        replace H : ((decimal_Canonical.f kj1 a0).bind fun t384 => (if (t384 != t382) = true then (some false) else (if t382 = true then (if (a0.size : Int) ≤ 400 then (some (t383 == 0)) else (some (t383 == 2))) else (some (t383 == 2))))) = some r := H
        have A11 := Aside0.mk A110
        clear A110
        replace H := Option.bind_eq_some_iff.mp H
        obtain ⟨t384, A120, H⟩ := H
        replace H : (if (t384 != t382) = true then (some false) else (if t382 = true then (if (a0.size : Int) ≤ 400 then (some (t383 == 0)) else (some (t383 == 2))) else (some (t383 == 2)))) = some r := H
        have A12 := Aside0.mk A120
        clear A120
        by_cases c13 : (t384 != t382) = true
        · rw [if_pos c13] at H
          have c13b0 : (t384 != t382) = true := c13
          (try (have c13b1 : decide (t384 = t382) = false := by simpa using c13))
          (try (have c13b2 : (t384 == t382) = false := by simpa using c13))
          (try (have c13b3 : ¬ (t384 = t382) := by simpa using c13))
          clear c13
          obtain rfl := Option.some.inj H
          go_wp2_with (first | ((with_reducible refine gate_callee (f := 21) rfl ?_); refine goesL_ (some 16) rfl rfl Tryd.func21 (by kernel_rfl) rfl #[.string a0] rfl mq ?_; (with_reducible refine (schismaref01_Canonical.calls kj1 a0 t382 _ A10.out).mono ?_); rintro e w' ⟨rfl, ⟨nd, rfl⟩⟩; refine ⟨_, rfl, ?_⟩) | ((with_reducible refine gate_callee (f := 27) rfl ?_); refine goesL_ (some 18) rfl rfl Tryd.func27 (by kernel_rfl) rfl #[.string a0] rfl mq ?_; (with_reducible refine (decimal_Check.calls kj1 a0 t383 _ A11.out).mono ?_); rintro e w14 ⟨rfl, hb⟩; refine ⟨_, rfl, ?_⟩; replace HB := Aside0.mk (below_step bq hb); (try clear hb); (try clear hb2); (try clear hk); (try clear hi)) | ((with_reducible refine gate_callee (f := 28) rfl ?_); refine goesL_ (some 20) rfl rfl Tryd.func28 (by kernel_rfl) rfl #[.string a0] rfl mq ?_; (with_reducible refine (decimal_Canonical.calls kj1 a0 t384 _ A12.out).mono ?_); rintro e w15 ⟨rfl, hb⟩; refine ⟨_, rfl, ?_⟩; replace HB := Aside0.mk (below_step bq hb); (try clear hb); (try clear hb2); (try clear hk); (try clear hi)))
          go_ret
          exact ⟨eq_, bq⟩
        · rw [if_neg c13] at H
          have c13b0 : (t384 != t382) = false := by simpa using c13
          (try (have c13b1 : decide (t384 = t382) = true := by simpa using c13))
          (try (have c13b2 : (t384 == t382) = true := by simpa using c13))
          clear c13
          by_cases c16 : t382 = true
          · subst c16
            have H1 : (if (a0.size : Int) ≤ 400 then (some (t383 == 0)) else (some (t383 == 2))) = some r := by rw [if_pos rfl] at H; exact H
            clear H
            have H := H1
            clear H1
            by_cases c17 : (a0.size : Int) ≤ 400
            · rw [if_pos c17] at H
              have c17b0 : decide ((a0.size : Int) ≤ 400) = true := decide_eq_true c17
              have c17b1 : decide (a0.size ≤ 400) = true := decide_eq_true (by omega)
              clear c17
              obtain rfl := Option.some.inj H
              go_wp2_with (first | ((with_reducible refine gate_callee (f := 21) rfl ?_); refine goesL_ (some 16) rfl rfl Tryd.func21 (by kernel_rfl) rfl #[.string a0] rfl mq ?_; (with_reducible refine (schismaref01_Canonical.calls kj1 a0 true _ A10.out).mono ?_); rintro e w' ⟨rfl, ⟨nd, rfl⟩⟩; refine ⟨_, rfl, ?_⟩) | ((with_reducible refine gate_callee (f := 27) rfl ?_); refine goesL_ (some 18) rfl rfl Tryd.func27 (by kernel_rfl) rfl #[.string a0] rfl mq ?_; (with_reducible refine (decimal_Check.calls kj1 a0 t383 _ A11.out).mono ?_); rintro e w18 ⟨rfl, hb⟩; refine ⟨_, rfl, ?_⟩; replace HB := Aside0.mk (below_step bq hb); (try clear hb); (try clear hb2); (try clear hk); (try clear hi)) | ((with_reducible refine gate_callee (f := 28) rfl ?_); refine goesL_ (some 20) rfl rfl Tryd.func28 (by kernel_rfl) rfl #[.string a0] rfl mq ?_; (with_reducible refine (decimal_Canonical.calls kj1 a0 t384 _ A12.out).mono ?_); rintro e w19 ⟨rfl, hb⟩; refine ⟨_, rfl, ?_⟩; replace HB := Aside0.mk (below_step bq hb); (try clear hb); (try clear hb2); (try clear hk); (try clear hi)))
              go_ret
              exact ⟨eq_, bq⟩
            · rw [if_neg c17] at H
              have c17b0 : decide ((a0.size : Int) ≤ 400) = false := decide_eq_false c17
              have c17b1 : decide (a0.size ≤ 400) = false := decide_eq_false (by omega)
              clear c17
              obtain rfl := Option.some.inj H
              go_wp2_with (first | ((with_reducible refine gate_callee (f := 21) rfl ?_); refine goesL_ (some 16) rfl rfl Tryd.func21 (by kernel_rfl) rfl #[.string a0] rfl mq ?_; (with_reducible refine (schismaref01_Canonical.calls kj1 a0 true _ A10.out).mono ?_); rintro e w' ⟨rfl, ⟨nd, rfl⟩⟩; refine ⟨_, rfl, ?_⟩) | ((with_reducible refine gate_callee (f := 27) rfl ?_); refine goesL_ (some 18) rfl rfl Tryd.func27 (by kernel_rfl) rfl #[.string a0] rfl mq ?_; (with_reducible refine (decimal_Check.calls kj1 a0 t383 _ A11.out).mono ?_); rintro e w20 ⟨rfl, hb⟩; refine ⟨_, rfl, ?_⟩; replace HB := Aside0.mk (below_step bq hb); (try clear hb); (try clear hb2); (try clear hk); (try clear hi)) | ((with_reducible refine gate_callee (f := 28) rfl ?_); refine goesL_ (some 20) rfl rfl Tryd.func28 (by kernel_rfl) rfl #[.string a0] rfl mq ?_; (with_reducible refine (decimal_Canonical.calls kj1 a0 t384 _ A12.out).mono ?_); rintro e w21 ⟨rfl, hb⟩; refine ⟨_, rfl, ?_⟩; replace HB := Aside0.mk (below_step bq hb); (try clear hb); (try clear hb2); (try clear hk); (try clear hi)))
              go_ret
              exact ⟨eq_, bq⟩
          · replace c16 := Bool.eq_false_iff.mpr c16
            subst c16
            have H1 : (some (t383 == 2)) = some r := by rw [if_neg (show ¬ (false = true) by decide)] at H; exact H
            clear H
            have H := H1
            clear H1
            obtain rfl := Option.some.inj H
            go_wp2_with (first | ((with_reducible refine gate_callee (f := 21) rfl ?_); refine goesL_ (some 16) rfl rfl Tryd.func21 (by kernel_rfl) rfl #[.string a0] rfl mq ?_; (with_reducible refine (schismaref01_Canonical.calls kj1 a0 false _ A10.out).mono ?_); rintro e w' ⟨rfl, ⟨nd, rfl⟩⟩; refine ⟨_, rfl, ?_⟩) | ((with_reducible refine gate_callee (f := 27) rfl ?_); refine goesL_ (some 18) rfl rfl Tryd.func27 (by kernel_rfl) rfl #[.string a0] rfl mq ?_; (with_reducible refine (decimal_Check.calls kj1 a0 t383 _ A11.out).mono ?_); rintro e w22 ⟨rfl, hb⟩; refine ⟨_, rfl, ?_⟩; replace HB := Aside0.mk (below_step bq hb); (try clear hb); (try clear hb2); (try clear hk); (try clear hi)) | ((with_reducible refine gate_callee (f := 28) rfl ?_); refine goesL_ (some 20) rfl rfl Tryd.func28 (by kernel_rfl) rfl #[.string a0] rfl mq ?_; (with_reducible refine (decimal_Canonical.calls kj1 a0 t384 _ A12.out).mono ?_); rintro e w23 ⟨rfl, hb⟩; refine ⟨_, rfl, ?_⟩; replace HB := Aside0.mk (below_step bq hb); (try clear hb); (try clear hb2); (try clear hk); (try clear hi)))
            go_ret
            exact ⟨eq_, bq⟩
def schismalaw01_DecimalForms.Pure : Prop := ∀ (a0 : ByteArray), a0.size ≤ 140737488351232 → ∃ k, schismalaw01_DecimalForms.f k a0 = some true
theorem schismalaw01_DecimalForms.walk (P : schismalaw01_DecimalForms.Pure) (a0 : ByteArray) (w : World) (w0 : a0.size ≤ 140737488351232) (hT : Tab w) :
    Calls Tryd.prog 6 #[.string a0] w fun e w' => e = .returned (.bool true) ∧ Below w.heap.size w w' := by
  obtain ⟨k, h⟩ := P a0 w0
  refine (schismalaw01_DecimalForms.calls (hT := hT) k a0 true w h).mono ?_
  rintro e w' ⟨rfl, hd⟩
  exact ⟨rfl, hd⟩
end Go.Proofs.YtcfddphiflmnlaaDoor.P
