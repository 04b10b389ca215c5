/- Functions of the program, as functions of Lean, and the walks that show that the code answers as they do: written by a program. Conditions: those of each theorem. -/
import Derived.Test.YtcfddphiflmnlaaDoorDecimalExponentsF4
namespace Go.Proofs.YtcfddphiflmnlaaDoor.P
open Go.RowKit Go.Proofs.YtcfddphiflmnlaaDoorW.PrintWords Go.Proofs.YtcfddphiflmnlaaDoorW.PrintLast Go.Proofs.YtcfddphiflmnlaaDoorW.PrintMore
attribute [local go_sem] gtr_text max2_int min2_int max_two min_two max_three min_three max_four min_four
set_option linter.unusedVariables false
set_option linter.unusedSimpArgs false
def schismalaw01_known.f (k : Nat)  : Option (Bool) := (decimal_DivMod.f k (⟨#[49, 48, 48, 48, 48, 48, 48, 48, 48, 48, 48, 48, 48, 48, 48, 48, 48, 48, 48, 48, 48, 48]⟩ : ByteArray) (⟨#[55]⟩ : ByteArray)).bind fun bt281 => ((decimal_Small.f (⟨#[49, 56, 52, 52, 54, 55, 52, 52, 48, 55, 51, 55, 48, 57, 53, 53, 49, 54, 49, 54]⟩ : ByteArray)).bind fun bt284 => ((decimal_Power.f k (⟨#[50]⟩ : ByteArray) 64).bind fun bt286 => (if bt281.2.2 = 0 then (if bt281.1.toList = ([49, 52, 50, 56, 53, 55, 49, 52, 50, 56, 53, 55, 49, 52, 50, 56, 53, 55, 49, 52, 50] : List UInt8) then (if bt281.2.1.toList = ([54] : List UInt8) then (if bt284.2 = true then (some false) else (if bt286.2 = 0 then (if bt286.1.toList = ([49, 56, 52, 52, 54, 55, 52, 52, 48, 55, 51, 55, 48, 57, 53, 53, 49, 54, 49, 54] : List UInt8) then ((decimal_Bits.f k (⟨#[50, 53, 53]⟩ : ByteArray)).bind fun t288 => (if t288 = 8 then ((decimal_Bits.f k (⟨#[50, 53, 54]⟩ : ByteArray)).bind fun t289 => (if t289 = 9 then ((decimal_Canonical.f k (⟨#[48, 48, 55]⟩ : ByteArray)).bind fun t290 => (some (!t290))) else (some false))) else (some false))) else (some false)) else (some false))) else (some false)) else (some false)) else (some false))))
theorem schismalaw01_known.mono : ∀ k, LeO (schismalaw01_known.f k ) (schismalaw01_known.f (k + 1) ) := by
  intro  k
  unfold schismalaw01_known.f
  repeat' first
      | (with_reducible exact decimal_Bits.mono _ _)
      | (with_reducible exact decimal_Canonical.mono _ _)
      | (with_reducible exact decimal_DivMod.mono _ _ _)
      | (with_reducible exact decimal_Power.mono _ _ _)
      | (with_reducible exact LeO.refl _)
      | (with_reducible exact LeO.none _)
      | (with_reducible refine LeO.ite ?_ ?_)
      | (with_reducible refine LeO.bind ?_ (fun _ => ?_))
      | exact decimal_Bits.mono _ _
      | exact decimal_Canonical.mono _ _
      | exact decimal_DivMod.mono _ _ _
      | exact decimal_Power.mono _ _ _
      | exact LeO.none _
      | refine LeO.ite ?_ ?_
      | refine LeO.bind ?_ (fun _ => ?_)
set_option maxHeartbeats 8000000 in
set_option maxRecDepth 100000 in
theorem schismalaw01_known.calls (k : Nat)  (r : Bool) (w : World) (hT : Tab w) (h : schismalaw01_known.f k  = some r) :
    Calls Tryd.prog 13 #[] w fun e w' => e = .returned (.bool r) ∧ Below w.heap.size w w' := by
  have HT := Aside0.mk hT
  clear hT
  have HB := Aside0.mk (Below.refl w.heap.size w)
  have H : ((decimal_DivMod.f k (⟨#[49, 48, 48, 48, 48, 48, 48, 48, 48, 48, 48, 48, 48, 48, 48, 48, 48, 48, 48, 48, 48, 48]⟩ : ByteArray) (⟨#[55]⟩ : ByteArray)).bind fun bt281 => ((decimal_Small.f (⟨#[49, 56, 52, 52, 54, 55, 52, 52, 48, 55, 51, 55, 48, 57, 53, 53, 49, 54, 49, 54]⟩ : ByteArray)).bind fun bt284 => ((decimal_Power.f k (⟨#[50]⟩ : ByteArray) 64).bind fun bt286 => (if bt281.2.2 = 0 then (if bt281.1.toList = ([49, 52, 50, 56, 53, 55, 49, 52, 50, 56, 53, 55, 49, 52, 50, 56, 53, 55, 49, 52, 50] : List UInt8) then (if bt281.2.1.toList = ([54] : List UInt8) then (if bt284.2 = true then (some false) else (if bt286.2 = 0 then (if bt286.1.toList = ([49, 56, 52, 52, 54, 55, 52, 52, 48, 55, 51, 55, 48, 57, 53, 53, 49, 54, 49, 54] : List UInt8) then ((decimal_Bits.f k (⟨#[50, 53, 53]⟩ : ByteArray)).bind fun t288 => (if t288 = 8 then ((decimal_Bits.f k (⟨#[50, 53, 54]⟩ : ByteArray)).bind fun t289 => (if t289 = 9 then ((decimal_Canonical.f k (⟨#[48, 48, 55]⟩ : ByteArray)).bind fun t290 => (some (!t290))) else (some false))) else (some false))) else (some false)) else (some false))) else (some false)) else (some false)) else (some false))))) = some r := h
  clear h
  replace H := Option.bind_eq_some_iff.mp H
  obtain ⟨⟨t281, t282, t283⟩, A10, H⟩ := H
  replace H : ((decimal_Small.f (⟨#[49, 56, 52, 52, 54, 55, 52, 52, 48, 55, 51, 55, 48, 57, 53, 53, 49, 54, 49, 54]⟩ : ByteArray)).bind fun bt284 => ((decimal_Power.f k (⟨#[50]⟩ : ByteArray) 64).bind fun bt286 => (if t283 = 0 then (if t281.toList = ([49, 52, 50, 56, 53, 55, 49, 52, 50, 56, 53, 55, 49, 52, 50, 56, 53, 55, 49, 52, 50] : List UInt8) then (if t282.toList = ([54] : List UInt8) then (if bt284.2 = true then (some false) else (if bt286.2 = 0 then (if bt286.1.toList = ([49, 56, 52, 52, 54, 55, 52, 52, 48, 55, 51, 55, 48, 57, 53, 53, 49, 54, 49, 54] : List UInt8) then ((decimal_Bits.f k (⟨#[50, 53, 53]⟩ : ByteArray)).bind fun t288 => (if t288 = 8 then ((decimal_Bits.f k (⟨#[50, 53, 54]⟩ : ByteArray)).bind fun t289 => (if t289 = 9 then ((decimal_Canonical.f k (⟨#[48, 48, 55]⟩ : ByteArray)).bind fun t290 => (some (!t290))) else (some false))) else (some false))) else (some false)) else (some false))) else (some false)) else (some false)) else (some false)))) = some r := H
  have A1 := Aside0.mk A10
  clear A10
  replace H := Option.bind_eq_some_iff.mp H
  obtain ⟨⟨t284, t285⟩, A20, H⟩ := H
  replace H : ((decimal_Power.f k (⟨#[50]⟩ : ByteArray) 64).bind fun bt286 => (if t283 = 0 then (if t281.toList = ([49, 52, 50, 56, 53, 55, 49, 52, 50, 56, 53, 55, 49, 52, 50, 56, 53, 55, 49, 52, 50] : List UInt8) then (if t282.toList = ([54] : List UInt8) then (if t285 = true then (some false) else (if bt286.2 = 0 then (if bt286.1.toList = ([49, 56, 52, 52, 54, 55, 52, 52, 48, 55, 51, 55, 48, 57, 53, 53, 49, 54, 49, 54] : List UInt8) then ((decimal_Bits.f k (⟨#[50, 53, 53]⟩ : ByteArray)).bind fun t288 => (if t288 = 8 then ((decimal_Bits.f k (⟨#[50, 53, 54]⟩ : ByteArray)).bind fun t289 => (if t289 = 9 then ((decimal_Canonical.f k (⟨#[48, 48, 55]⟩ : ByteArray)).bind fun t290 => (some (!t290))) else (some false))) else (some false))) else (some false)) else (some false))) else (some false)) else (some false)) else (some false))) = some r := H
  have A2 := Aside0.mk A20
  clear A20
  replace H := Option.bind_eq_some_iff.mp H
  obtain ⟨⟨t286, t287⟩, A30, H⟩ := H
  replace H : (if t283 = 0 then (if t281.toList = ([49, 52, 50, 56, 53, 55, 49, 52, 50, 56, 53, 55, 49, 52, 50, 56, 53, 55, 49, 52, 50] : List UInt8) then (if t282.toList = ([54] : List UInt8) then (if t285 = true then (some false) else (if t287 = 0 then (if t286.toList = ([49, 56, 52, 52, 54, 55, 52, 52, 48, 55, 51, 55, 48, 57, 53, 53, 49, 54, 49, 54] : List UInt8) then ((decimal_Bits.f k (⟨#[50, 53, 53]⟩ : ByteArray)).bind fun t288 => (if t288 = 8 then ((decimal_Bits.f k (⟨#[50, 53, 54]⟩ : ByteArray)).bind fun t289 => (if t289 = 9 then ((decimal_Canonical.f k (⟨#[48, 48, 55]⟩ : ByteArray)).bind fun t290 => (some (!t290))) else (some false))) else (some false))) else (some false)) else (some false))) else (some false)) else (some false)) else (some false)) = some r := H
  have A3 := Aside0.mk A30
  clear A30
  by_cases c4 : t283 = 0
  · rw [if_pos c4] at H
    have c4b0 : (t283 == 0) = true := beq_iff_eq.mpr c4
    have c4b1 : (t283 != 0) = false := bne_eq_false_iff_eq.mpr c4
    clear c4
    by_cases c5 : t281.toList = ([49, 52, 50, 56, 53, 55, 49, 52, 50, 56, 53, 55, 49, 52, 50, 56, 53, 55, 49, 52, 50] : List UInt8)
    · rw [if_pos c5] at H
      have c5b0 : (t281.toList == ([49, 52, 50, 56, 53, 55, 49, 52, 50, 56, 53, 55, 49, 52, 50, 56, 53, 55, 49, 52, 50] : List UInt8)) = true := beq_iff_eq.mpr c5
      have c5b1 : (t281.toList != ([49, 52, 50, 56, 53, 55, 49, 52, 50, 56, 53, 55, 49, 52, 50, 56, 53, 55, 49, 52, 50] : List UInt8)) = false := bne_eq_false_iff_eq.mpr c5
      clear c5
      by_cases c6 : t282.toList = ([54] : List UInt8)
      · rw [if_pos c6] at H
        have c6b0 : (t282.toList == ([54] : List UInt8)) = true := beq_iff_eq.mpr c6
        have c6b1 : (t282.toList != ([54] : List UInt8)) = false := bne_eq_false_iff_eq.mpr c6
        clear c6
        by_cases c7 : t285 = true
        · subst c7
          have H1 : (some false) = some r := by rw [if_pos rfl] at H; exact H
          clear H
          have H := H1
          clear H1
          obtain rfl := Option.some.inj H
          go_enter Tryd.func13, Tryd.ntmps13
          go_wp2_with (first | ((with_reducible refine gate_callee (f := 20) rfl ?_); refine goesL_ (some 9) rfl rfl Tryd.func20 (by kernel_rfl) rfl #[.string (⟨#[49, 48, 48, 48, 48, 48, 48, 48, 48, 48, 48, 48, 48, 48, 48, 48, 48, 48, 48, 48, 48, 48]⟩ : ByteArray), .string (⟨#[55]⟩ : ByteArray)] rfl mq ?_; (with_reducible refine (decimal_DivMod.calls (hT := HT.out.below bq) k (⟨#[49, 48, 48, 48, 48, 48, 48, 48, 48, 48, 48, 48, 48, 48, 48, 48, 48, 48, 48, 48, 48, 48]⟩ : ByteArray) (⟨#[55]⟩ : ByteArray) t281 t282 t283 _ A1.out).mono ?_); rintro e w8 ⟨rfl, hb⟩; refine ⟨_, rfl, ?_⟩; replace HB := Aside0.mk (below_step bq hb); (try clear hb); (try clear hb2); (try clear hk); (try clear hi)) | ((with_reducible refine gate_callee (f := 15) rfl ?_); refine goesL_ (some 14) rfl rfl Tryd.func15 (by kernel_rfl) rfl #[.string (⟨#[49, 56, 52, 52, 54, 55, 52, 52, 48, 55, 51, 55, 48, 57, 53, 53, 49, 54, 49, 54]⟩ : ByteArray)] rfl mq ?_; (with_reducible refine (decimal_Small.calls (hT := HT.out.below bq) (⟨#[49, 56, 52, 52, 54, 55, 52, 52, 48, 55, 51, 55, 48, 57, 53, 53, 49, 54, 49, 54]⟩ : ByteArray) t284 true _ A2.out).mono ?_); rintro e w9 ⟨rfl, hb⟩; refine ⟨_, rfl, ?_⟩; replace HB := Aside0.mk (below_step bq hb); (try clear hb); (try clear hb2); (try clear hk); (try clear hi)) | ((with_reducible refine gate_callee (f := 25) rfl ?_); refine goesL_ (some 18) rfl rfl Tryd.func25 (by kernel_rfl) rfl #[.string (⟨#[50]⟩ : ByteArray), .int .i64 64] rfl mq ?_; (with_reducible refine (decimal_Power.calls (hT := HT.out.below bq) k (⟨#[50]⟩ : ByteArray) 64 t286 t287 _ A3.out).mono ?_); rintro e w10 ⟨rfl, hb⟩; refine ⟨_, rfl, ?_⟩; replace HB := Aside0.mk (below_step bq hb); (try clear hb); (try clear hb2); (try clear hk); (try clear hi)))
          go_ret
          exact ⟨eq_, bq⟩
        · replace c7 := Bool.eq_false_iff.mpr c7
          subst c7
          have H1 : (if t287 = 0 then (if t286.toList = ([49, 56, 52, 52, 54, 55, 52, 52, 48, 55, 51, 55, 48, 57, 53, 53, 49, 54, 49, 54] : List UInt8) then ((decimal_Bits.f k (⟨#[50, 53, 53]⟩ : ByteArray)).bind fun t288 => (if t288 = 8 then ((decimal_Bits.f k (⟨#[50, 53, 54]⟩ : ByteArray)).bind fun t289 => (if t289 = 9 then ((decimal_Canonical.f k (⟨#[48, 48, 55]⟩ : ByteArray)).bind fun t290 => (some (!t290))) else (some false))) else (some false))) else (some false)) else (some false)) = some r := by rw [if_neg (show ¬ (false = true) by decide)] at H; exact H
          clear H
          have H := H1
          clear H1
          by_cases c11 : t287 = 0
          · rw [if_pos c11] at H
            have c11b0 : (t287 == 0) = true := beq_iff_eq.mpr c11
            have c11b1 : (t287 != 0) = false := bne_eq_false_iff_eq.mpr c11
            clear c11
            by_cases c12 : t286.toList = ([49, 56, 52, 52, 54, 55, 52, 52, 48, 55, 51, 55, 48, 57, 53, 53, 49, 54, 49, 54] : List UInt8)
            · rw [if_pos c12] at H
              have c12b0 : (t286.toList == ([49, 56, 52, 52, 54, 55, 52, 52, 48, 55, 51, 55, 48, 57, 53, 53, 49, 54, 49, 54] : List UInt8)) = true := beq_iff_eq.mpr c12
              have c12b1 : (t286.toList != ([49, 56, 52, 52, 54, 55, 52, 52, 48, 55, 51, 55, 48, 57, 53, 53, 49, 54, 49, 54] : List UInt8)) = false := bne_eq_false_iff_eq.mpr c12
              clear c12
              replace H := Option.bind_eq_some_iff.mp H
              obtain ⟨t288, A130, H⟩ := H
              replace H : (if t288 = 8 then ((decimal_Bits.f k (⟨#[50, 53, 54]⟩ : ByteArray)).bind fun t289 => (if t289 = 9 then ((decimal_Canonical.f k (⟨#[48, 48, 55]⟩ : ByteArray)).bind fun t290 => (some (!t290))) else (some false))) else (some false)) = some r := H
              have A13 := Aside0.mk A130
              clear A130
              by_cases c14 : t288 = 8
              · rw [if_pos c14] at H
                have c14b0 : (t288 == 8) = true := beq_iff_eq.mpr c14
                have c14b1 : (t288 != 8) = false := bne_eq_false_iff_eq.mpr c14
                clear c14
                replace H := Option.bind_eq_some_iff.mp H
                obtain ⟨t289, A150, H⟩ := H
                replace H : (if t289 = 9 then ((decimal_Canonical.f k (⟨#[48, 48, 55]⟩ : ByteArray)).bind fun t290 => (some (!t290))) else (some false)) = some r := H
                have A15 := Aside0.mk A150
                clear A150
                by_cases c16 : t289 = 9
                · rw [if_pos c16] at H
                  have c16b0 : (t289 == 9) = true := beq_iff_eq.mpr c16
                  have c16b1 : (t289 != 9) = false := bne_eq_false_iff_eq.mpr c16
                  clear c16
                  replace H := Option.bind_eq_some_iff.mp H
                  obtain ⟨t290, A170, H⟩ := H
                  replace H : (some (!t290)) = some r := H
                  have A17 := Aside0.mk A170
                  clear A170
                  obtain rfl := Option.some.inj H
                  go_enter Tryd.func13, Tryd.ntmps13
                  go_wp2_with (first | ((with_reducible refine gate_callee (f := 20) rfl ?_); refine goesL_ (some 9) rfl rfl Tryd.func20 (by kernel_rfl) rfl #[.string (⟨#[49, 48, 48, 48, 48, 48, 48, 48, 48, 48, 48, 48, 48, 48, 48, 48, 48, 48, 48, 48, 48, 48]⟩ : ByteArray), .string (⟨#[55]⟩ : ByteArray)] rfl mq ?_; (with_reducible refine (decimal_DivMod.calls (hT := HT.out.below bq) k (⟨#[49, 48, 48, 48, 48, 48, 48, 48, 48, 48, 48, 48, 48, 48, 48, 48, 48, 48, 48, 48, 48, 48]⟩ : ByteArray) (⟨#[55]⟩ : ByteArray) t281 t282 t283 _ A1.out).mono ?_); rintro e w18 ⟨rfl, hb⟩; refine ⟨_, rfl, ?_⟩; replace HB := Aside0.mk (below_step bq hb); (try clear hb); (try clear hb2); (try clear hk); (try clear hi)) | ((with_reducible refine gate_callee (f := 15) rfl ?_); refine goesL_ (some 14) rfl rfl Tryd.func15 (by kernel_rfl) rfl #[.string (⟨#[49, 56, 52, 52, 54, 55, 52, 52, 48, 55, 51, 55, 48, 57, 53, 53, 49, 54, 49, 54]⟩ : ByteArray)] rfl mq ?_; (with_reducible refine (decimal_Small.calls (hT := HT.out.below bq) (⟨#[49, 56, 52, 52, 54, 55, 52, 52, 48, 55, 51, 55, 48, 57, 53, 53, 49, 54, 49, 54]⟩ : ByteArray) t284 false _ A2.out).mono ?_); rintro e w19 ⟨rfl, hb⟩; refine ⟨_, rfl, ?_⟩; replace HB := Aside0.mk (below_step bq hb); (try clear hb); (try clear hb2); (try clear hk); (try clear hi)) | ((with_reducible refine gate_callee (f := 25) rfl ?_); refine goesL_ (some 18) rfl rfl Tryd.func25 (by kernel_rfl) rfl #[.string (⟨#[50]⟩ : ByteArray), .int .i64 64] rfl mq ?_; (with_reducible refine (decimal_Power.calls (hT := HT.out.below bq) k (⟨#[50]⟩ : ByteArray) 64 t286 t287 _ A3.out).mono ?_); rintro e w20 ⟨rfl, hb⟩; refine ⟨_, rfl, ?_⟩; replace HB := Aside0.mk (below_step bq hb); (try clear hb); (try clear hb2); (try clear hk); (try clear hi)) | (go_at_call 31; (with_reducible refine (decimal_Bits.calls (hT := HT.out.below bq) k (⟨#[50, 53, 53]⟩ : ByteArray) t288 _ A13.out).mono ?_); rintro e w21 ⟨rfl, hb⟩; replace HB := Aside0.mk (below_step bq hb); (try clear hb); (try clear hb2); (try clear hk); (try clear hi)) | (go_at_call 31; (with_reducible refine (decimal_Bits.calls (hT := HT.out.below bq) k (⟨#[50, 53, 54]⟩ : ByteArray) t289 _ A15.out).mono ?_); rintro e w22 ⟨rfl, hb⟩; replace HB := Aside0.mk (below_step bq hb); (try clear hb); (try clear hb2); (try clear hk); (try clear hi)) | (go_at_call 28; (with_reducible refine (decimal_Canonical.calls k (⟨#[48, 48, 55]⟩ : ByteArray) t290 _ A17.out).mono ?_); rintro e w23 ⟨rfl, hb⟩; replace HB := Aside0.mk (below_step bq hb); (try clear hb); (try clear hb2); (try clear hk); (try clear hi)))
                  go_ret
                  exact ⟨eq_, bq⟩
                · rw [if_neg c16] at H
                  have c16b0 : (t289 == 9) = false := beq_eq_false_iff_ne.mpr c16
                  have c16b1 : (t289 != 9) = true := bne_iff_ne.mpr c16
                  obtain rfl := Option.some.inj H
                  go_enter Tryd.func13, Tryd.ntmps13
                  go_wp2_with (first | ((with_reducible refine gate_callee (f := 20) rfl ?_); refine goesL_ (some 9) rfl rfl Tryd.func20 (by kernel_rfl) rfl #[.string (⟨#[49, 48, 48, 48, 48, 48, 48, 48, 48, 48, 48, 48, 48, 48, 48, 48, 48, 48, 48, 48, 48, 48]⟩ : ByteArray), .string (⟨#[55]⟩ : ByteArray)] rfl mq ?_; (with_reducible refine (decimal_DivMod.calls (hT := HT.out.below bq) k (⟨#[49, 48, 48, 48, 48, 48, 48, 48, 48, 48, 48, 48, 48, 48, 48, 48, 48, 48, 48, 48, 48, 48]⟩ : ByteArray) (⟨#[55]⟩ : ByteArray) t281 t282 t283 _ A1.out).mono ?_); rintro e w24 ⟨rfl, hb⟩; refine ⟨_, rfl, ?_⟩; replace HB := Aside0.mk (below_step bq hb); (try clear hb); (try clear hb2); (try clear hk); (try clear hi)) | ((with_reducible refine gate_callee (f := 15) rfl ?_); refine goesL_ (some 14) rfl rfl Tryd.func15 (by kernel_rfl) rfl #[.string (⟨#[49, 56, 52, 52, 54, 55, 52, 52, 48, 55, 51, 55, 48, 57, 53, 53, 49, 54, 49, 54]⟩ : ByteArray)] rfl mq ?_; (with_reducible refine (decimal_Small.calls (hT := HT.out.below bq) (⟨#[49, 56, 52, 52, 54, 55, 52, 52, 48, 55, 51, 55, 48, 57, 53, 53, 49, 54, 49, 54]⟩ : ByteArray) t284 false _ A2.out).mono ?_); rintro e w25 ⟨rfl, hb⟩; refine ⟨_, rfl, ?_⟩; replace HB := Aside0.mk (below_step bq hb); (try clear hb); (try clear hb2); (try clear hk); (try clear hi)) | ((with_reducible refine gate_callee (f := 25) rfl ?_); refine goesL_ (some 18) rfl rfl Tryd.func25 (by kernel_rfl) rfl #[.string (⟨#[50]⟩ : ByteArray), .int .i64 64] rfl mq ?_; (with_reducible refine (decimal_Power.calls (hT := HT.out.below bq) k (⟨#[50]⟩ : ByteArray) 64 t286 t287 _ A3.out).mono ?_); rintro e w26 ⟨rfl, hb⟩; refine ⟨_, rfl, ?_⟩; replace HB := Aside0.mk (below_step bq hb); (try clear hb); (try clear hb2); (try clear hk); (try clear hi)) | (go_at_call 31; (with_reducible refine (decimal_Bits.calls (hT := HT.out.below bq) k (⟨#[50, 53, 53]⟩ : ByteArray) t288 _ A13.out).mono ?_); rintro e w27 ⟨rfl, hb⟩; replace HB := Aside0.mk (below_step bq hb); (try clear hb); (try clear hb2); (try clear hk); (try clear hi)) | (go_at_call 31; (with_reducible refine (decimal_Bits.calls (hT := HT.out.below bq) k (⟨#[50, 53, 54]⟩ : ByteArray) t289 _ A15.out).mono ?_); rintro e w28 ⟨rfl, hb⟩; replace HB := Aside0.mk (below_step bq hb); (try clear hb); (try clear hb2); (try clear hk); (try clear hi)))
                  go_ret
                  exact ⟨eq_, bq⟩
              · rw [if_neg c14] at H
                have c14b0 : (t288 == 8) = false := beq_eq_false_iff_ne.mpr c14
                have c14b1 : (t288 != 8) = true := bne_iff_ne.mpr c14
                obtain rfl := Option.some.inj H
                go_enter Tryd.func13, Tryd.ntmps13
                go_wp2_with (first | ((with_reducible refine gate_callee (f := 20) rfl ?_); refine goesL_ (some 9) rfl rfl Tryd.func20 (by kernel_rfl) rfl #[.string (⟨#[49, 48, 48, 48, 48, 48, 48, 48, 48, 48, 48, 48, 48, 48, 48, 48, 48, 48, 48, 48, 48, 48]⟩ : ByteArray), .string (⟨#[55]⟩ : ByteArray)] rfl mq ?_; (with_reducible refine (decimal_DivMod.calls (hT := HT.out.below bq) k (⟨#[49, 48, 48, 48, 48, 48, 48, 48, 48, 48, 48, 48, 48, 48, 48, 48, 48, 48, 48, 48, 48, 48]⟩ : ByteArray) (⟨#[55]⟩ : ByteArray) t281 t282 t283 _ A1.out).mono ?_); rintro e w29 ⟨rfl, hb⟩; refine ⟨_, rfl, ?_⟩; replace HB := Aside0.mk (below_step bq hb); (try clear hb); (try clear hb2); (try clear hk); (try clear hi)) | ((with_reducible refine gate_callee (f := 15) rfl ?_); refine goesL_ (some 14) rfl rfl Tryd.func15 (by kernel_rfl) rfl #[.string (⟨#[49, 56, 52, 52, 54, 55, 52, 52, 48, 55, 51, 55, 48, 57, 53, 53, 49, 54, 49, 54]⟩ : ByteArray)] rfl mq ?_; (with_reducible refine (decimal_Small.calls (hT := HT.out.below bq) (⟨#[49, 56, 52, 52, 54, 55, 52, 52, 48, 55, 51, 55, 48, 57, 53, 53, 49, 54, 49, 54]⟩ : ByteArray) t284 false _ A2.out).mono ?_); rintro e w30 ⟨rfl, hb⟩; refine ⟨_, rfl, ?_⟩; replace HB := Aside0.mk (below_step bq hb); (try clear hb); (try clear hb2); (try clear hk); (try clear hi)) | ((with_reducible refine gate_callee (f := 25) rfl ?_); refine goesL_ (some 18) rfl rfl Tryd.func25 (by kernel_rfl) rfl #[.string (⟨#[50]⟩ : ByteArray), .int .i64 64] rfl mq ?_; (with_reducible refine (decimal_Power.calls (hT := HT.out.below bq) k (⟨#[50]⟩ : ByteArray) 64 t286 t287 _ A3.out).mono ?_); rintro e w31 ⟨rfl, hb⟩; refine ⟨_, rfl, ?_⟩; replace HB := Aside0.mk (below_step bq hb); (try clear hb); (try clear hb2); (try clear hk); (try clear hi)) | (go_at_call 31; (with_reducible refine (decimal_Bits.calls (hT := HT.out.below bq) k (⟨#[50, 53, 53]⟩ : ByteArray) t288 _ A13.out).mono ?_); rintro e w32 ⟨rfl, hb⟩; replace HB := Aside0.mk (below_step bq hb); (try clear hb); (try clear hb2); (try clear hk); (try clear hi)))
                go_ret
                exact ⟨eq_, bq⟩
            · rw [if_neg c12] at H
              have c12b0 : (t286.toList == ([49, 56, 52, 52, 54, 55, 52, 52, 48, 55, 51, 55, 48, 57, 53, 53, 49, 54, 49, 54] : List UInt8)) = false := beq_eq_false_iff_ne.mpr c12
              have c12b1 : (t286.toList != ([49, 56, 52, 52, 54, 55, 52, 52, 48, 55, 51, 55, 48, 57, 53, 53, 49, 54, 49, 54] : List UInt8)) = true := bne_iff_ne.mpr c12
              obtain rfl := Option.some.inj H
              go_enter Tryd.func13, Tryd.ntmps13
              go_wp2_with (first | ((with_reducible refine gate_callee (f := 20) rfl ?_); refine goesL_ (some 9) rfl rfl Tryd.func20 (by kernel_rfl) rfl #[.string (⟨#[49, 48, 48, 48, 48, 48, 48, 48, 48, 48, 48, 48, 48, 48, 48, 48, 48, 48, 48, 48, 48, 48]⟩ : ByteArray), .string (⟨#[55]⟩ : ByteArray)] rfl mq ?_; (with_reducible refine (decimal_DivMod.calls (hT := HT.out.below bq) k (⟨#[49, 48, 48, 48, 48, 48, 48, 48, 48, 48, 48, 48, 48, 48, 48, 48, 48, 48, 48, 48, 48, 48]⟩ : ByteArray) (⟨#[55]⟩ : ByteArray) t281 t282 t283 _ A1.out).mono ?_); rintro e w33 ⟨rfl, hb⟩; refine ⟨_, rfl, ?_⟩; replace HB := Aside0.mk (below_step bq hb); (try clear hb); (try clear hb2); (try clear hk); (try clear hi)) | ((with_reducible refine gate_callee (f := 15) rfl ?_); refine goesL_ (some 14) rfl rfl Tryd.func15 (by kernel_rfl) rfl #[.string (⟨#[49, 56, 52, 52, 54, 55, 52, 52, 48, 55, 51, 55, 48, 57, 53, 53, 49, 54, 49, 54]⟩ : ByteArray)] rfl mq ?_; (with_reducible refine (decimal_Small.calls (hT := HT.out.below bq) (⟨#[49, 56, 52, 52, 54, 55, 52, 52, 48, 55, 51, 55, 48, 57, 53, 53, 49, 54, 49, 54]⟩ : ByteArray) t284 false _ A2.out).mono ?_); rintro e w34 ⟨rfl, hb⟩; refine ⟨_, rfl, ?_⟩; replace HB := Aside0.mk (below_step bq hb); (try clear hb); (try clear hb2); (try clear hk); (try clear hi)) | ((with_reducible refine gate_callee (f := 25) rfl ?_); refine goesL_ (some 18) rfl rfl Tryd.func25 (by kernel_rfl) rfl #[.string (⟨#[50]⟩ : ByteArray), .int .i64 64] rfl mq ?_; (with_reducible refine (decimal_Power.calls (hT := HT.out.below bq) k (⟨#[50]⟩ : ByteArray) 64 t286 t287 _ A3.out).mono ?_); rintro e w35 ⟨rfl, hb⟩; refine ⟨_, rfl, ?_⟩; replace HB := Aside0.mk (below_step bq hb); (try clear hb); (try clear hb2); (try clear hk); (try clear hi)))
              go_ret
              exact ⟨eq_, bq⟩
          · rw [if_neg c11] at H
            have c11b0 : (t287 == 0) = false := beq_eq_false_iff_ne.mpr c11
            have c11b1 : (t287 != 0) = true := bne_iff_ne.mpr c11
            obtain rfl := Option.some.inj H
            go_enter Tryd.func13, Tryd.ntmps13
            go_wp2_with (first | ((with_reducible refine gate_callee (f := 20) rfl ?_); refine goesL_ (some 9) rfl rfl Tryd.func20 (by kernel_rfl) rfl #[.string (⟨#[49, 48, 48, 48, 48, 48, 48, 48, 48, 48, 48, 48, 48, 48, 48, 48, 48, 48, 48, 48, 48, 48]⟩ : ByteArray), .string (⟨#[55]⟩ : ByteArray)] rfl mq ?_; (with_reducible refine (decimal_DivMod.calls (hT := HT.out.below bq) k (⟨#[49, 48, 48, 48, 48, 48, 48, 48, 48, 48, 48, 48, 48, 48, 48, 48, 48, 48, 48, 48, 48, 48]⟩ : ByteArray) (⟨#[55]⟩ : ByteArray) t281 t282 t283 _ A1.out).mono ?_); rintro e w36 ⟨rfl, hb⟩; refine ⟨_, rfl, ?_⟩; replace HB := Aside0.mk (below_step bq hb); (try clear hb); (try clear hb2); (try clear hk); (try clear hi)) | ((with_reducible refine gate_callee (f := 15) rfl ?_); refine goesL_ (some 14) rfl rfl Tryd.func15 (by kernel_rfl) rfl #[.string (⟨#[49, 56, 52, 52, 54, 55, 52, 52, 48, 55, 51, 55, 48, 57, 53, 53, 49, 54, 49, 54]⟩ : ByteArray)] rfl mq ?_; (with_reducible refine (decimal_Small.calls (hT := HT.out.below bq) (⟨#[49, 56, 52, 52, 54, 55, 52, 52, 48, 55, 51, 55, 48, 57, 53, 53, 49, 54, 49, 54]⟩ : ByteArray) t284 false _ A2.out).mono ?_); rintro e w37 ⟨rfl, hb⟩; refine ⟨_, rfl, ?_⟩; replace HB := Aside0.mk (below_step bq hb); (try clear hb); (try clear hb2); (try clear hk); (try clear hi)) | ((with_reducible refine gate_callee (f := 25) rfl ?_); refine goesL_ (some 18) rfl rfl Tryd.func25 (by kernel_rfl) rfl #[.string (⟨#[50]⟩ : ByteArray), .int .i64 64] rfl mq ?_; (with_reducible refine (decimal_Power.calls (hT := HT.out.below bq) k (⟨#[50]⟩ : ByteArray) 64 t286 t287 _ A3.out).mono ?_); rintro e w38 ⟨rfl, hb⟩; refine ⟨_, rfl, ?_⟩; replace HB := Aside0.mk (below_step bq hb); (try clear hb); (try clear hb2); (try clear hk); (try clear hi)))
            go_ret
            exact ⟨eq_, bq⟩
      · rw [if_neg c6] at H
        have c6b0 : (t282.toList == ([54] : List UInt8)) = false := beq_eq_false_iff_ne.mpr c6
        have c6b1 : (t282.toList != ([54] : List UInt8)) = true := bne_iff_ne.mpr c6
        obtain rfl := Option.some.inj H
        go_enter Tryd.func13, Tryd.ntmps13
        go_wp2_with (first | ((with_reducible refine gate_callee (f := 20) rfl ?_); refine goesL_ (some 9) rfl rfl Tryd.func20 (by kernel_rfl) rfl #[.string (⟨#[49, 48, 48, 48, 48, 48, 48, 48, 48, 48, 48, 48, 48, 48, 48, 48, 48, 48, 48, 48, 48, 48]⟩ : ByteArray), .string (⟨#[55]⟩ : ByteArray)] rfl mq ?_; (with_reducible refine (decimal_DivMod.calls (hT := HT.out.below bq) k (⟨#[49, 48, 48, 48, 48, 48, 48, 48, 48, 48, 48, 48, 48, 48, 48, 48, 48, 48, 48, 48, 48, 48]⟩ : ByteArray) (⟨#[55]⟩ : ByteArray) t281 t282 t283 _ A1.out).mono ?_); rintro e w39 ⟨rfl, hb⟩; refine ⟨_, rfl, ?_⟩; replace HB := Aside0.mk (below_step bq hb); (try clear hb); (try clear hb2); (try clear hk); (try clear hi)) | ((with_reducible refine gate_callee (f := 15) rfl ?_); refine goesL_ (some 14) rfl rfl Tryd.func15 (by kernel_rfl) rfl #[.string (⟨#[49, 56, 52, 52, 54, 55, 52, 52, 48, 55, 51, 55, 48, 57, 53, 53, 49, 54, 49, 54]⟩ : ByteArray)] rfl mq ?_; (with_reducible refine (decimal_Small.calls (hT := HT.out.below bq) (⟨#[49, 56, 52, 52, 54, 55, 52, 52, 48, 55, 51, 55, 48, 57, 53, 53, 49, 54, 49, 54]⟩ : ByteArray) t284 t285 _ A2.out).mono ?_); rintro e w40 ⟨rfl, hb⟩; refine ⟨_, rfl, ?_⟩; replace HB := Aside0.mk (below_step bq hb); (try clear hb); (try clear hb2); (try clear hk); (try clear hi)) | ((with_reducible refine gate_callee (f := 25) rfl ?_); refine goesL_ (some 18) rfl rfl Tryd.func25 (by kernel_rfl) rfl #[.string (⟨#[50]⟩ : ByteArray), .int .i64 64] rfl mq ?_; (with_reducible refine (decimal_Power.calls (hT := HT.out.below bq) k (⟨#[50]⟩ : ByteArray) 64 t286 t287 _ A3.out).mono ?_); rintro e w41 ⟨rfl, hb⟩; refine ⟨_, rfl, ?_⟩; replace HB := Aside0.mk (below_step bq hb); (try clear hb); (try clear hb2); (try clear hk); (try clear hi)))
        go_ret
        exact ⟨eq_, bq⟩
    · rw [if_neg c5] at H
      have c5b0 : (t281.toList == ([49, 52, 50, 56, 53, 55, 49, 52, 50, 56, 53, 55, 49, 52, 50, 56, 53, 55, 49, 52, 50] : List UInt8)) = false := beq_eq_false_iff_ne.mpr c5
      have c5b1 : (t281.toList != ([49, 52, 50, 56, 53, 55, 49, 52, 50, 56, 53, 55, 49, 52, 50, 56, 53, 55, 49, 52, 50] : List UInt8)) = true := bne_iff_ne.mpr c5
      obtain rfl := Option.some.inj H
      go_enter Tryd.func13, Tryd.ntmps13
      go_wp2_with (first | ((with_reducible refine gate_callee (f := 20) rfl ?_); refine goesL_ (some 9) rfl rfl Tryd.func20 (by kernel_rfl) rfl #[.string (⟨#[49, 48, 48, 48, 48, 48, 48, 48, 48, 48, 48, 48, 48, 48, 48, 48, 48, 48, 48, 48, 48, 48]⟩ : ByteArray), .string (⟨#[55]⟩ : ByteArray)] rfl mq ?_; (with_reducible refine (decimal_DivMod.calls (hT := HT.out.below bq) k (⟨#[49, 48, 48, 48, 48, 48, 48, 48, 48, 48, 48, 48, 48, 48, 48, 48, 48, 48, 48, 48, 48, 48]⟩ : ByteArray) (⟨#[55]⟩ : ByteArray) t281 t282 t283 _ A1.out).mono ?_); rintro e w42 ⟨rfl, hb⟩; refine ⟨_, rfl, ?_⟩; replace HB := Aside0.mk (below_step bq hb); (try clear hb); (try clear hb2); (try clear hk); (try clear hi)) | ((with_reducible refine gate_callee (f := 15) rfl ?_); refine goesL_ (some 14) rfl rfl Tryd.func15 (by kernel_rfl) rfl #[.string (⟨#[49, 56, 52, 52, 54, 55, 52, 52, 48, 55, 51, 55, 48, 57, 53, 53, 49, 54, 49, 54]⟩ : ByteArray)] rfl mq ?_; (with_reducible refine (decimal_Small.calls (hT := HT.out.below bq) (⟨#[49, 56, 52, 52, 54, 55, 52, 52, 48, 55, 51, 55, 48, 57, 53, 53, 49, 54, 49, 54]⟩ : ByteArray) t284 t285 _ A2.out).mono ?_); rintro e w43 ⟨rfl, hb⟩; refine ⟨_, rfl, ?_⟩; replace HB := Aside0.mk (below_step bq hb); (try clear hb); (try clear hb2); (try clear hk); (try clear hi)) | ((with_reducible refine gate_callee (f := 25) rfl ?_); refine goesL_ (some 18) rfl rfl Tryd.func25 (by kernel_rfl) rfl #[.string (⟨#[50]⟩ : ByteArray), .int .i64 64] rfl mq ?_; (with_reducible refine (decimal_Power.calls (hT := HT.out.below bq) k (⟨#[50]⟩ : ByteArray) 64 t286 t287 _ A3.out).mono ?_); rintro e w44 ⟨rfl, hb⟩; refine ⟨_, rfl, ?_⟩; replace HB := Aside0.mk (below_step bq hb); (try clear hb); (try clear hb2); (try clear hk); (try clear hi)))
      go_ret
      exact ⟨eq_, bq⟩
  · rw [if_neg c4] at H
    have c4b0 : (t283 == 0) = false := beq_eq_false_iff_ne.mpr c4
    have c4b1 : (t283 != 0) = true := bne_iff_ne.mpr c4
    obtain rfl := Option.some.inj H
    go_enter Tryd.func13, Tryd.ntmps13
    go_wp2_with (first | ((with_reducible refine gate_callee (f := 20) rfl ?_); refine goesL_ (some 9) rfl rfl Tryd.func20 (by kernel_rfl) rfl #[.string (⟨#[49, 48, 48, 48, 48, 48, 48, 48, 48, 48, 48, 48, 48, 48, 48, 48, 48, 48, 48, 48, 48, 48]⟩ : ByteArray), .string (⟨#[55]⟩ : ByteArray)] rfl mq ?_; (with_reducible refine (decimal_DivMod.calls (hT := HT.out.below bq) k (⟨#[49, 48, 48, 48, 48, 48, 48, 48, 48, 48, 48, 48, 48, 48, 48, 48, 48, 48, 48, 48, 48, 48]⟩ : ByteArray) (⟨#[55]⟩ : ByteArray) t281 t282 t283 _ A1.out).mono ?_); rintro e w45 ⟨rfl, hb⟩; refine ⟨_, rfl, ?_⟩; replace HB := Aside0.mk (below_step bq hb); (try clear hb); (try clear hb2); (try clear hk); (try clear hi)) | ((with_reducible refine gate_callee (f := 15) rfl ?_); refine goesL_ (some 14) rfl rfl Tryd.func15 (by kernel_rfl) rfl #[.string (⟨#[49, 56, 52, 52, 54, 55, 52, 52, 48, 55, 51, 55, 48, 57, 53, 53, 49, 54, 49, 54]⟩ : ByteArray)] rfl mq ?_; (with_reducible refine (decimal_Small.calls (hT := HT.out.below bq) (⟨#[49, 56, 52, 52, 54, 55, 52, 52, 48, 55, 51, 55, 48, 57, 53, 53, 49, 54, 49, 54]⟩ : ByteArray) t284 t285 _ A2.out).mono ?_); rintro e w46 ⟨rfl, hb⟩; refine ⟨_, rfl, ?_⟩; replace HB := Aside0.mk (below_step bq hb); (try clear hb); (try clear hb2); (try clear hk); (try clear hi)) | ((with_reducible refine gate_callee (f := 25) rfl ?_); refine goesL_ (some 18) rfl rfl Tryd.func25 (by kernel_rfl) rfl #[.string (⟨#[50]⟩ : ByteArray), .int .i64 64] rfl mq ?_; (with_reducible refine (decimal_Power.calls (hT := HT.out.below bq) k (⟨#[50]⟩ : ByteArray) 64 t286 t287 _ A3.out).mono ?_); rintro e w47 ⟨rfl, hb⟩; refine ⟨_, rfl, ?_⟩; replace HB := Aside0.mk (below_step bq hb); (try clear hb); (try clear hb2); (try clear hk); (try clear hi)))
    go_ret
    exact ⟨eq_, bq⟩
mutual
def schismalaw01_Make.l0 : Nat → List Int → List Int → Int → Option (ByteArray)
  | 0, _, _, _ => none
  | k + 1, x0, x3, x4 => if x4 < (x0.length : Int) then (schismalaw01_Make.j1 k x0 x3 x4 (decide (x4 < 120))) else (schismalaw01_Make.j1 k x0 x3 x4 false)
def schismalaw01_Make.j1 : Nat → List Int → List Int → Int → Bool → Option (ByteArray)
  | 0, _, _, _, _ => none
  | k + 1, x0, x3, x4, x13 => if x13 = true then (if 0 ≤ x4 then (if x4 < (x0.length : Int) then (if (Int.tmod (rd x0 x4) 10) > 0 then (if x3.length < 140737488355328 then (schismalaw01_Make.l0 k x0 (x3 ++ [(48 + (Int.tmod (rd x0 x4) 10)) % 256]) (wrap64 (x4 + 1))) else (none)) else (if (x3.length : Int) > 0 then (if x3.length < 140737488355328 then (schismalaw01_Make.l0 k x0 (x3 ++ [(48 + (Int.tmod (rd x0 x4) 10)) % 256]) (wrap64 (x4 + 1))) else (none)) else (schismalaw01_Make.l0 k x0 x3 (wrap64 (x4 + 1))))) else (none)) else (none)) else (if (x3.length : Int) = 0 then (some (⟨#[48]⟩ : ByteArray)) else (some (strOfNums x3)))
end
def schismalaw01_Make.f (k : Nat) (l0 : List Int) : Option (ByteArray) := schismalaw01_Make.l0 k l0 ([] : List Int) 0
theorem schismalaw01_Make.mono_l : ∀ k, (∀ y0 y1 y2, LeO (schismalaw01_Make.l0 k y0 y1 y2) (schismalaw01_Make.l0 (k + 1) y0 y1 y2)) ∧ (∀ y0 y1 y2 y3, LeO (schismalaw01_Make.j1 k y0 y1 y2 y3) (schismalaw01_Make.j1 (k + 1) y0 y1 y2 y3))
  | 0 => ⟨fun _ _ _ r h => by simp [schismalaw01_Make.l0] at h, fun _ _ _ _ r h => by simp [schismalaw01_Make.j1] at h⟩
  | k + 1 => by
    obtain ⟨ih0, ih1⟩ := schismalaw01_Make.mono_l k
    refine ⟨?_, ?_⟩
    · intro y0 y1 y2
      unfold schismalaw01_Make.l0
      repeat' first
      | (with_reducible exact ih0 _ _ _)
      | (with_reducible exact ih1 _ _ _ _)
      | (with_reducible exact LeO.refl _)
      | (with_reducible exact LeO.none _)
      | (with_reducible refine LeO.ite ?_ ?_)
      | (with_reducible refine LeO.bind ?_ (fun _ => ?_))
      | exact ih0 _ _ _
      | exact ih1 _ _ _ _
      | exact LeO.none _
      | refine LeO.ite ?_ ?_
      | refine LeO.bind ?_ (fun _ => ?_)
    · intro y0 y1 y2 y3
      unfold schismalaw01_Make.j1
      repeat' first
      | (with_reducible exact ih0 _ _ _)
      | (with_reducible exact ih1 _ _ _ _)
      | (with_reducible exact LeO.refl _)
      | (with_reducible exact LeO.none _)
      | (with_reducible refine LeO.ite ?_ ?_)
      | (with_reducible refine LeO.bind ?_ (fun _ => ?_))
      | exact ih0 _ _ _
      | exact ih1 _ _ _ _
      | exact LeO.none _
      | refine LeO.ite ?_ ?_
      | refine LeO.bind ?_ (fun _ => ?_)
theorem schismalaw01_Make.mono : ∀ a0 k, LeO (schismalaw01_Make.f k a0) (schismalaw01_Make.f (k + 1) a0) := by
  intro a0 k
  obtain ⟨ih0, ih1⟩ := schismalaw01_Make.mono_l k
  unfold schismalaw01_Make.f
  repeat' first
      | (with_reducible exact ih0 _ _ _)
      | (with_reducible exact ih1 _ _ _ _)
      | (with_reducible exact LeO.refl _)
      | (with_reducible exact LeO.none _)
      | (with_reducible refine LeO.ite ?_ ?_)
      | (with_reducible refine LeO.bind ?_ (fun _ => ?_))
      | exact ih0 _ _ _
      | exact ih1 _ _ _ _
      | exact LeO.none _
      | refine LeO.ite ?_ ?_
      | refine LeO.bind ?_ (fun _ => ?_)
set_option maxHeartbeats 8000000 in
set_option maxRecDepth 100000 in
theorem schismalaw01_Make.calls (k : Nat) (A0 : Option Addr) (c0 : Nat) (l0 : List Int) (r : ByteArray) (w : World) (hr0 : Kd.C (Kd.int .u8) w A0 l0.length l0) (hc0 : l0.length ≤ c0) (h : schismalaw01_Make.f k l0 = some r) :
    Calls Tryd.prog 16 #[.slice A0 l0.length c0] w fun e w' => e = .returned (.string r) ∧ Below w.heap.size w w' := by
  have HR0 := Aside0.mk hr0
  have HC0 := Aside0.mk hc0
  clear hr0 hc0
  have HB := Aside0.mk (Below.refl w.heap.size w)
  have H : (schismalaw01_Make.l0 k l0 ([] : List Int) 0) = some r := h
  clear h
  have H' := Aside0.mk H
  clear H
  go_enter Tryd.func16, Tryd.ntmps16
  go_wp2
  go_loopg [3, 4] k (fun kq v3 v4 w' => ∃ (x3_1 : List Int) (x4_1 : Int), v4 = .int .i64 x4_1 ∧ Aside0 (schismalaw01_Make.l0 kq l0 x3_1 x4_1 = some r) ∧ Aside0 (kq ≤ k) ∧ Aside0 (Kd.R (Kd.int .u8) 5 w' w.heap.size (fun _ => True) v3 x3_1) ∧ Aside0 (Below w.heap.size w w'))
  case atStart => exact ⟨(([] : List Int)), (0), (by first | rfl | (simp; done) | (simp [*]; done)), H', ⟨Nat.le_refl _⟩, ⟨by first | exact Kd.R_nil _ _ _ _ _ | exact Kd.N_nil _ _ _ _ _ | exact Kd.V_nil _ _ _ _ _ | exact Kd.Q_nil _ _ _ _ _ | exact Kd.S_nil _ _ _ _ _⟩, ⟨bq⟩⟩
  case round =>
    clear H'
    try clear c1
    obtain ⟨x3_1, x4_1, rfl, HA, HK1, HO_3, HB⟩ := hrel
    cases gk with
    | zero => exact absurd HA.out (by simp [schismalaw01_Make.l0])
    | succ k1 =>
      have H := HA.out
      clear HA
      simp only [schismalaw01_Make.l0] at H
      have HC2 := Aside0.mk H
      clear H
      go_upto_region 3 with (fail)
      go_cut [13] (fun v13 wc => ∃ (kq : Nat) (x13_1 : Bool), v13 = .bool x13_1 ∧ Aside0 (schismalaw01_Make.j1 kq l0 x3_1 x4_1 x13_1 = some r) ∧ Aside0 (kq ≤ k1) ∧ Aside0 (Kd.R (Kd.int .u8) 5 wc w.heap.size (fun _ => True) u3 x3_1) ∧ Aside0 (Below w.heap.size w wc))
      case first =>
        have H := HC2.out
        clear HC2
        by_cases c3 : x4_1 < (l0.length : Int)
        · rw [if_pos c3] at H
          have c3b0 : decide (x4_1 < (l0.length : Int)) = true := decide_eq_true c3
          clear c3
          (first | rw [c3b0] | (simp only [i64_w, i32_w]; rw [c3b0]) | skip)
          have H' := Aside0.mk H
          clear H
          go_wp2
          go_meet
          case rel => exact ⟨_, (decide (x4_1 < 120)), (by first | rfl | (simp; done) | (simp [*]; done)), H', ⟨by have := HK1.out; first | omega | exact Nat.le_refl _⟩, ⟨by (with_reducible repeat (first | apply Kd.R_alloc | apply Kd.R_drewN | apply Kd.R_drew)); exact HO_3.out⟩, ⟨bq⟩⟩
        · rw [if_neg c3] at H
          have c3b0 : decide (x4_1 < (l0.length : Int)) = false := decide_eq_false c3
          clear c3
          (first | rw [c3b0] | (simp only [i64_w, i32_w]; rw [c3b0]) | skip)
          have H' := Aside0.mk H
          clear H
          go_wp2
          go_meet
          case rel => exact ⟨_, (false), (by first | rfl | (simp; done) | (simp [*]; done)), H', ⟨by have := HK1.out; first | omega | exact Nat.le_refl _⟩, ⟨by (with_reducible repeat (first | apply Kd.R_alloc | apply Kd.R_drewN | apply Kd.R_drew)); exact HO_3.out⟩, ⟨bq⟩⟩
      case rest =>
        clear HC2
        try clear c1
        try clear p2
        try clear c3
        try clear c3b0
        obtain ⟨kq, x13_1, rfl, HA, HJ1, HO_3, HB⟩ := hcut
        cases kq with
        | zero => exact absurd HA.out (by simp [schismalaw01_Make.j1])
        | succ kj1 =>
          have H := HA.out
          clear HA
          simp only [schismalaw01_Make.j1] at H
          by_cases c4 : x13_1 = true
          · subst c4
            have H1 : (if 0 ≤ x4_1 then (if x4_1 < (l0.length : Int) then (if (Int.tmod (rd l0 x4_1) 10) > 0 then (if x3_1.length < 140737488355328 then (schismalaw01_Make.l0 kj1 l0 (x3_1 ++ [(48 + (Int.tmod (rd l0 x4_1) 10)) % 256]) (wrap64 (x4_1 + 1))) else (none)) else (if (x3_1.length : Int) > 0 then (if x3_1.length < 140737488355328 then (schismalaw01_Make.l0 kj1 l0 (x3_1 ++ [(48 + (Int.tmod (rd l0 x4_1) 10)) % 256]) (wrap64 (x4_1 + 1))) else (none)) else (schismalaw01_Make.l0 kj1 l0 x3_1 (wrap64 (x4_1 + 1))))) else (none)) else (none)) = some r := by rw [if_pos rfl] at H; exact H
            clear H
            have H := H1
            clear H1
            by_cases c5 : 0 ≤ x4_1
            · rw [if_pos c5] at H
              have c5b0 : decide (0 ≤ x4_1) = true := decide_eq_true c5
              clear c5
              by_cases c6 : x4_1 < (l0.length : Int)
              · rw [if_pos c6] at H
                have c6b0 : decide (x4_1 < (l0.length : Int)) = true := decide_eq_true c6
                clear c6
                by_cases c7 : (Int.tmod (rd l0 x4_1) 10) > 0
                · rw [if_pos c7] at H
                  have c7b0 : decide (0 < (Int.tmod (rd l0 x4_1) 10)) = true := decide_eq_true c7
                  clear c7
                  by_cases c8 : x3_1.length < 140737488355328
                  · rw [if_pos c8] at H
                    have LMc8 := Aside0.mk c8
                    clear c8
                    obtain ⟨y292, hy292⟩ : ∃ y_ : List Int, y_ = (x3_1 ++ [(48 + (Int.tmod (rd l0 x4_1) 10)) % 256]) := ⟨_, rfl⟩
                    replace H : (schismalaw01_Make.l0 kj1 l0 y292 (wrap64 (x4_1 + 1))) = some r := by first | (rw [hy292]; with_reducible exact H) | (have H2_ := (Option.bind_some _ _).symm.trans H; rw [hy292]; with_reducible exact H2_) | (have H2_ := (Option.bind_some _ _).symm.trans H; with_reducible exact H2_) | with_reducible exact H | (rw [hy292]; exact H) | exact H
                    have Ny292 := Aside0.mk hy292
                    clear hy292
                    have H' := Aside0.mk H
                    clear H
                    have p291 : 0 ≤ (x4_1 : Int) := of_decide_eq_true (by first | (with_reducible assumption) | assumption)
                    have q291 : x4_1 < (l0.length : Int) := of_decide_eq_true (by first | (with_reducible assumption) | assumption)
                    obtain ⟨ad291, e291, hx291_0⟩ := Kd.at_int HR0.out x4_1 p291 q291
                    cases e291
                    replace hx291_0 := (HB.out.cell (World.block_lt_of_cell? w _ hx291_0)).trans hx291_0
                    replace p291 := eq_true p291
                    replace q291 := eq_true q291
                    go_wp2_with (first | ((with_reducible refine gate_builtin (b := .append) (xs := #[.tmp 28, .tmp 31]) rfl ?_); (try (refine gate_guard (by rfl) ?_; dsimp only)); at_builtin; refine Kd.R_append (Kd.int .u8) (w0 := w) w.heap.size rfl (.tmp 28) (.tmp 31) 23 5 (.int .u8 0) 1 rfl Tryd.underlying23 info5 rfl (by decide) (by omega) u3 x3_1 ((48 + (Int.tmod (rd l0 x4_1) 10)) % 256) [.int .u8 ((48 + (Int.tmod (rd l0 x4_1) 10)) % 256)] (fun _ => True) (fun _ => False) rfl rfl ?aP (fun _ hk => hk.elim) ?aF ?aO ?aB ?aS ?aL ?_; (case aP => exact rfl); (case aB => exact bq); (case aF => exact (fun _ _ => trivial)); (case aO => exact (by (with_reducible repeat (first | apply Kd.R_alloc | apply Kd.R_drewN | apply Kd.R_drew)); exact HO_3.out)); (case aS => exact (below_size bq)); (case aL => have := LMc8.out; omega); intro v293 w9 ho hb hg hat; rw [← Ny292.out] at ho; have n0_ := Aside0.mk (hb); have n1_ := Aside0.mk (ho); clear HB; clear HO_3; have HB := n0_; have HO294 := n1_; clear n0_ n1_; clear ho hb hg hat))
                    go_roundg kj1
                    case measure => have := HK1.out; have := HJ1.out; omega
                    case rel => exact ⟨(y292), (wrap64 (x4_1 + 1)), (by first | rfl | (simp; done) | (simp [*]; done)), H', ⟨by have := HK1.out; have := HJ1.out; omega⟩, ⟨by (with_reducible repeat (first | apply Kd.R_alloc | apply Kd.R_drewN | apply Kd.R_drew)); exact HO294.out⟩, ⟨bq⟩⟩
                  · rw [if_neg c8] at H
                    exact absurd H (by simp)
                · rw [if_neg c7] at H
                  have c7b0 : decide (0 < (Int.tmod (rd l0 x4_1) 10)) = false := decide_eq_false c7
                  clear c7
                  by_cases c10 : (x3_1.length : Int) > 0
                  · rw [if_pos c10] at H
                    have c10b0 : decide (0 < (x3_1.length : Int)) = true := decide_eq_true c10
                    have c10b1 : decide (0 < x3_1.length) = true := decide_eq_true (by omega)
                    clear c10
                    by_cases c11 : x3_1.length < 140737488355328
                    · rw [if_pos c11] at H
                      have LMc11 := Aside0.mk c11
                      clear c11
                      obtain ⟨y295, hy295⟩ : ∃ y_ : List Int, y_ = (x3_1 ++ [(48 + (Int.tmod (rd l0 x4_1) 10)) % 256]) := ⟨_, rfl⟩
                      replace H : (schismalaw01_Make.l0 kj1 l0 y295 (wrap64 (x4_1 + 1))) = some r := by first | (rw [hy295]; with_reducible exact H) | (have H2_ := (Option.bind_some _ _).symm.trans H; rw [hy295]; with_reducible exact H2_) | (have H2_ := (Option.bind_some _ _).symm.trans H; with_reducible exact H2_) | with_reducible exact H | (rw [hy295]; exact H) | exact H
                      have Ny295 := Aside0.mk hy295
                      clear hy295
                      have H' := Aside0.mk H
                      clear H
                      have p291 : 0 ≤ (x4_1 : Int) := of_decide_eq_true (by first | (with_reducible assumption) | assumption)
                      have q291 : x4_1 < (l0.length : Int) := of_decide_eq_true (by first | (with_reducible assumption) | assumption)
                      obtain ⟨ad291, e291, hx291_0⟩ := Kd.at_int HR0.out x4_1 p291 q291
                      cases e291
                      replace hx291_0 := (HB.out.cell (World.block_lt_of_cell? w _ hx291_0)).trans hx291_0
                      replace p291 := eq_true p291
                      replace q291 := eq_true q291
                      obtain ⟨Ao12, co12, eo12⟩ := Kd.R_slice HO_3.out
                      subst eo12
                      go_wp2_with (first | ((with_reducible refine gate_builtin (b := .append) (xs := #[.tmp 28, .tmp 31]) rfl ?_); (try (refine gate_guard (by rfl) ?_; dsimp only)); at_builtin; refine Kd.R_append (Kd.int .u8) (w0 := w) w.heap.size rfl (.tmp 28) (.tmp 31) 23 5 (.int .u8 0) 1 rfl Tryd.underlying23 info5 rfl (by decide) (by omega) (.slice Ao12 x3_1.length co12) x3_1 ((48 + (Int.tmod (rd l0 x4_1) 10)) % 256) [.int .u8 ((48 + (Int.tmod (rd l0 x4_1) 10)) % 256)] (fun _ => True) (fun _ => False) rfl rfl ?aP (fun _ hk => hk.elim) ?aF ?aO ?aB ?aS ?aL ?_; (case aP => exact rfl); (case aB => exact bq); (case aF => exact (fun _ _ => trivial)); (case aO => exact (by (with_reducible repeat (first | apply Kd.R_alloc | apply Kd.R_drewN | apply Kd.R_drew)); exact HO_3.out)); (case aS => exact (below_size bq)); (case aL => have := LMc11.out; omega); intro v296 w13 ho hb hg hat; rw [← Ny295.out] at ho; have n0_ := Aside0.mk (hb); have n1_ := Aside0.mk (ho); clear HB; clear HO_3; have HB := n0_; have HO297 := n1_; clear n0_ n1_; clear ho hb hg hat))
                      go_roundg kj1
                      case measure => have := HK1.out; have := HJ1.out; omega
                      case rel => exact ⟨(y295), (wrap64 (x4_1 + 1)), (by first | rfl | (simp; done) | (simp [*]; done)), H', ⟨by have := HK1.out; have := HJ1.out; omega⟩, ⟨by (with_reducible repeat (first | apply Kd.R_alloc | apply Kd.R_drewN | apply Kd.R_drew)); exact HO297.out⟩, ⟨bq⟩⟩
                    · rw [if_neg c11] at H
                      exact absurd H (by simp)
                  · rw [if_neg c10] at H
                    have c10b0 : decide (0 < (x3_1.length : Int)) = false := decide_eq_false c10
                    have c10b1 : decide (0 < x3_1.length) = false := decide_eq_false (by omega)
                    clear c10
                    have H' := Aside0.mk H
                    clear H
                    have p291 : 0 ≤ (x4_1 : Int) := of_decide_eq_true (by first | (with_reducible assumption) | assumption)
                    have q291 : x4_1 < (l0.length : Int) := of_decide_eq_true (by first | (with_reducible assumption) | assumption)
                    obtain ⟨ad291, e291, hx291_0⟩ := Kd.at_int HR0.out x4_1 p291 q291
                    cases e291
                    replace hx291_0 := (HB.out.cell (World.block_lt_of_cell? w _ hx291_0)).trans hx291_0
                    replace p291 := eq_true p291
                    replace q291 := eq_true q291
                    obtain ⟨Ao14, co14, eo14⟩ := Kd.R_slice HO_3.out
                    subst eo14
                    go_wp2
                    go_roundg kj1
                    case measure => have := HK1.out; have := HJ1.out; omega
                    case rel => exact ⟨(x3_1), (wrap64 (x4_1 + 1)), (by first | rfl | (simp; done) | (simp [*]; done)), H', ⟨by have := HK1.out; have := HJ1.out; omega⟩, ⟨by (with_reducible repeat (first | apply Kd.R_alloc | apply Kd.R_drewN | apply Kd.R_drew)); exact HO_3.out⟩, ⟨bq⟩⟩
              · rw [if_neg c6] at H
                exact absurd H (by simp)
            · rw [if_neg c5] at H
              exact absurd H (by simp)
          · replace c4 := Bool.eq_false_iff.mpr c4
            subst c4
            have H1 : (if (x3_1.length : Int) = 0 then (some (⟨#[48]⟩ : ByteArray)) else (some (strOfNums x3_1))) = some r := by rw [if_neg (show ¬ (false = true) by decide)] at H; exact H
            clear H
            have H := H1
            clear H1
            by_cases c15 : (x3_1.length : Int) = 0
            · rw [if_pos c15] at H
              have c15b0 : ((x3_1.length : Int) == 0) = true := beq_iff_eq.mpr c15
              have c15b1 : ((x3_1.length : Int) != 0) = false := bne_eq_false_iff_eq.mpr c15
              clear c15
              obtain rfl := Option.some.inj H
              obtain ⟨Ao16, co16, eo16⟩ := Kd.R_slice HO_3.out
              subst eo16
              go_wp2
              go_ret
              exact ⟨eq_, bq⟩
            · rw [if_neg c15] at H
              have c15b0 : ((x3_1.length : Int) == 0) = false := beq_eq_false_iff_ne.mpr c15
              have c15b1 : ((x3_1.length : Int) != 0) = true := bne_iff_ne.mpr c15
              have c15b2 : ¬ (x3_1 = []) := fun h_ => c15 (by rw [h_]; rfl)
              obtain rfl := Option.some.inj H
              obtain ⟨Ao17, co17, eo17⟩ := Kd.R_slice HO_3.out
              subst eo17
              have hcv18 := own_string (P := Tryd.prog) Tryd.underlying23 Tryd.underlying5 Tryd.underlying26 (Kd.own_of_R HO_3.out)
              have hcv18z := hcv18
              try simp only [List.length_drop, List.length_take] at hcv18z
              go_wp2
              go_ret
              exact ⟨eq_, bq⟩
def decimal_Compare.f (a0 : ByteArray) (a1 : ByteArray) : Option (Int) := if (a0.size : Int) = (a1.size : Int) then (if (Op.bytesLess a0.toList a1.toList) = true then (some (-1)) else (if (Op.bytesLess a1.toList a0.toList) = true then (some 1) else (some 0))) else (some (mn 1 (mx (-1) (wrap64 ((a0.size : Int) - (a1.size : Int))))))
set_option maxHeartbeats 8000000 in
set_option maxRecDepth 100000 in
theorem decimal_Compare.calls (a0 : ByteArray) (a1 : ByteArray) (r : Int) (w : World) (h : decimal_Compare.f a0 a1 = some r) :
    Calls Tryd.prog 30 #[.string a0, .string a1] w fun e w' => e = .returned (.int .i64 r) ∧ Below w.heap.size w w' := by
  have HB := Aside0.mk (Below.refl w.heap.size w)
  have H : (if (a0.size : Int) = (a1.size : Int) then (if (Op.bytesLess a0.toList a1.toList) = true then (some (-1)) else (if (Op.bytesLess a1.toList a0.toList) = true then (some 1) else (some 0))) else (some (mn 1 (mx (-1) (wrap64 ((a0.size : Int) - (a1.size : Int))))))) = some r := h
  clear h
  by_cases c3 : (a0.size : Int) = (a1.size : Int)
  · rw [if_pos c3] at H
    have c3b0 : ((a0.size : Int) == (a1.size : Int)) = true := beq_iff_eq.mpr c3
    have c3b1 : ((a0.size : Int) != (a1.size : Int)) = false := bne_eq_false_iff_eq.mpr c3
    have c3b2 : (a0.size == a1.size) = true := by first | simpa using c3 | (simp at c3 ⊢; omega)
    clear c3
    by_cases c4 : (Op.bytesLess a0.toList a1.toList) = true
    · rw [if_pos c4] at H
      have c4b0 : (Op.bytesLess a0.toList a1.toList) = true := c4
      clear c4
      obtain rfl := Option.some.inj H
      go_enter Tryd.func30, Tryd.ntmps30
      go_wp2
      go_ret
      exact ⟨eq_, bq⟩
    · rw [if_neg c4] at H
      have c4b0 : (Op.bytesLess a0.toList a1.toList) = false := by simpa using c4
      clear c4
      by_cases c5 : (Op.bytesLess a1.toList a0.toList) = true
      · rw [if_pos c5] at H
        have c5b0 : (Op.bytesLess a1.toList a0.toList) = true := c5
        clear c5
        obtain rfl := Option.some.inj H
        go_enter Tryd.func30, Tryd.ntmps30
        go_wp2
        go_ret
        exact ⟨eq_, bq⟩
      · rw [if_neg c5] at H
        have c5b0 : (Op.bytesLess a1.toList a0.toList) = false := by simpa using c5
        clear c5
        obtain rfl := Option.some.inj H
        go_enter Tryd.func30, Tryd.ntmps30
        go_wp2
        go_ret
        exact ⟨eq_, bq⟩
  · rw [if_neg c3] at H
    have c3b0 : ((a0.size : Int) == (a1.size : Int)) = false := beq_eq_false_iff_ne.mpr c3
    have c3b1 : ((a0.size : Int) != (a1.size : Int)) = true := bne_iff_ne.mpr c3
    have c3b2 : (a0.size == a1.size) = false := by first | simpa using c3 | (simp at c3 ⊢; omega)
    obtain ⟨ji6, hji6⟩ : ∃ j_ : Int, (mx (-1) (wrap64 ((a0.size : Int) - (a1.size : Int)))) = j_ := ⟨_, rfl⟩
    replace H : (some (mn 1 (ji6))) = some r := by first | (rw [hji6] at H; exact H) | (simp only [hji6] at H ⊢; exact H)
    have hji6_ : (if (-1) < (wrap64 ((a0.size : Int) - (a1.size : Int))) then (wrap64 ((a0.size : Int) - (a1.size : Int))) else (-1)) = ji6 := hji6
    obtain ⟨ji7, hji7⟩ : ∃ j_ : Int, (mn 1 (ji6)) = j_ := ⟨_, rfl⟩
    replace H : (some ji7) = some r := by first | (rw [hji7] at H; exact H) | (simp only [hji7] at H ⊢; exact H)
    have hji7_ : (if (ji6) < 1 then (ji6) else 1) = ji7 := hji7
    obtain rfl := Option.some.inj H
    go_enter Tryd.func30, Tryd.ntmps30
    go_wp2
    go_ret
    exact ⟨by first | rfl | (simp [errW_none, errW_some] <;> rfl) | (simp only [← hji6, ← hji7]; first | rfl | (simp [errW_none, errW_some] <;> rfl)) | (simp [*, errW_none, errW_some] <;> rfl), bq⟩
def decimal_Mul.f (k : Nat) (a0 : ByteArray) (a1 : ByteArray) : Option (ByteArray) := if (wrap64 ((a0.size : Int) + (a1.size : Int))) ≤ 18 then ((decimal_both.f k a0 a1).bind fun bt446 => ((decimal_Of.f (IntKind.u64.wrap (bt446.1 * bt446.2.1))).bind fun t449 => (some t449))) else ((decimal_cut.f k a0).bind fun t450 => ((decimal_cut.f k a1).bind fun t453 => ((decimal_pieces_times.f k t450 t453).bind fun t456 => ((decimal_pieces_text.f k t456).bind fun t459 => (some t459)))))
theorem decimal_Mul.mono : ∀ a0 a1 k, LeO (decimal_Mul.f k a0 a1) (decimal_Mul.f (k + 1) a0 a1) := by
  intro a0 a1 k
  unfold decimal_Mul.f
  repeat' first
      | (with_reducible exact decimal_both.mono _ _ _)
      | (with_reducible exact decimal_cut.mono _ _)
      | (with_reducible exact decimal_pieces_text.mono _ _)
      | (with_reducible exact decimal_pieces_times.mono _ _ _)
      | (with_reducible exact LeO.refl _)
      | (with_reducible exact LeO.none _)
      | (with_reducible refine LeO.ite ?_ ?_)
      | (with_reducible refine LeO.bind ?_ (fun _ => ?_))
      | exact decimal_both.mono _ _ _
      | exact decimal_cut.mono _ _
      | exact decimal_pieces_text.mono _ _
      | exact decimal_pieces_times.mono _ _ _
      | exact LeO.none _
      | refine LeO.ite ?_ ?_
      | refine LeO.bind ?_ (fun _ => ?_)
set_option maxHeartbeats 8000000 in
set_option maxRecDepth 100000 in
theorem decimal_Mul.calls (k : Nat) (a0 : ByteArray) (a1 : ByteArray) (r : ByteArray) (w : World) (hT : Tab w) (h : decimal_Mul.f k a0 a1 = some r) :
    Calls Tryd.prog 37 #[.string a0, .string a1] w fun e w' => e = .returned (.string r) ∧ Below w.heap.size w w' := by
  have HT := Aside0.mk hT
  clear hT
  have HB := Aside0.mk (Below.refl w.heap.size w)
  have H : (if (wrap64 ((a0.size : Int) + (a1.size : Int))) ≤ 18 then ((decimal_both.f k a0 a1).bind fun bt446 => ((decimal_Of.f (IntKind.u64.wrap (bt446.1 * bt446.2.1))).bind fun t449 => (some t449))) else ((decimal_cut.f k a0).bind fun t450 => ((decimal_cut.f k a1).bind fun t453 => ((decimal_pieces_times.f k t450 t453).bind fun t456 => ((decimal_pieces_text.f k t456).bind fun t459 => (some t459)))))) = some r := h
  clear h
  by_cases c3 : (wrap64 ((a0.size : Int) + (a1.size : Int))) ≤ 18
  · rw [if_pos c3] at H
    have c3b0 : decide ((wrap64 ((a0.size : Int) + (a1.size : Int))) ≤ 18) = true := decide_eq_true c3
    clear c3
    replace H := Option.bind_eq_some_iff.mp H
    obtain ⟨⟨t446, t447, t448⟩, A40, H⟩ := H
    replace H : ((decimal_Of.f (IntKind.u64.wrap (t446 * t447))).bind fun t449 => (some t449)) = some r := H
    have A4 := Aside0.mk A40
    clear A40
    replace H := Option.bind_eq_some_iff.mp H
    obtain ⟨t449, A50, H⟩ := H
    replace H : (some t449) = some r := H
    have A5 := Aside0.mk A50
    clear A50
    obtain rfl := Option.some.inj H
    go_enter Tryd.func37, Tryd.ntmps37
    go_wp2_with (first | ((with_reducible refine gate_callee (f := 44) rfl ?_); refine goesL_ (some 17) rfl rfl Tryd.func44 (by kernel_rfl) rfl #[.string a0, .string a1] rfl mq ?_; (with_reducible refine (decimal_both.calls (hT := HT.out.below bq) k a0 a1 t446 t447 t448 _ A4.out).mono ?_); rintro e w6 ⟨rfl, hb⟩; refine ⟨_, rfl, ?_⟩; replace HB := Aside0.mk (below_step bq hb); (try clear hb); (try clear hb2); (try clear hk); (try clear hi)) | ((with_reducible refine gate_callee (f := 14) rfl ?_); refine goesL_ (some 24) rfl rfl Tryd.func14 (by kernel_rfl) rfl #[.int .u64 (IntKind.u64.wrap (t446 * t447))] rfl mq ?_; (with_reducible refine (decimal_Of.calls (hT := HT.out.below bq) (IntKind.u64.wrap (t446 * t447)) t449 _ A5.out).mono ?_); rintro e w7 ⟨rfl, hb⟩; refine ⟨_, rfl, ?_⟩; replace HB := Aside0.mk (below_step bq hb); (try clear hb); (try clear hb2); (try clear hk); (try clear hi)))
    go_ret
    exact ⟨eq_, bq⟩
  · rw [if_neg c3] at H
    have c3b0 : decide ((wrap64 ((a0.size : Int) + (a1.size : Int))) ≤ 18) = false := decide_eq_false c3
    clear c3
    replace H := Option.bind_eq_some_iff.mp H
    obtain ⟨t450, A80, H⟩ := H
    replace H : ((decimal_cut.f k a1).bind fun t453 => ((decimal_pieces_times.f k t450 t453).bind fun t456 => ((decimal_pieces_text.f k t456).bind fun t459 => (some t459)))) = some r := H
    have A8 := Aside0.mk A80
    clear A80
    replace H := Option.bind_eq_some_iff.mp H
    obtain ⟨t453, A90, H⟩ := H
    replace H : ((decimal_pieces_times.f k t450 t453).bind fun t456 => ((decimal_pieces_text.f k t456).bind fun t459 => (some t459))) = some r := H
    have A9 := Aside0.mk A90
    clear A90
    replace H := Option.bind_eq_some_iff.mp H
    obtain ⟨t456, A100, H⟩ := H
    replace H : ((decimal_pieces_text.f k t456).bind fun t459 => (some t459)) = some r := H
    have A10 := Aside0.mk A100
    clear A100
    replace H := Option.bind_eq_some_iff.mp H
    obtain ⟨t459, A110, H⟩ := H
    replace H : (some t459) = some r := H
    have A11 := Aside0.mk A110
    clear A110
    obtain rfl := Option.some.inj H
    go_enter Tryd.func37, Tryd.ntmps37
    go_wp2_with (first | ((with_reducible refine gate_callee (f := 45) rfl ?_); refine goesL_ (some 26) rfl rfl Tryd.func45 (by kernel_rfl) rfl #[.string a0] rfl mq ?_; (with_reducible refine (decimal_cut.calls k a0 t450 _ A8.out).mono ?_); rintro e w12 ⟨v451, rfl, ho0, hb⟩; refine ⟨_, rfl, ?_⟩; have n0_ := Aside0.mk (Kd.R_lower ho0 (below_size bq)); have n1_ := Aside0.mk (below_step bq hb); clear HB; have HO452 := n0_; have HB := n1_; clear n0_ n1_; (try clear hb); (try clear hb2); (try clear hk); (try clear hi); (try clear ho0)) | ((with_reducible refine gate_callee (f := 45) rfl ?_); refine goesL_ (some 28) rfl rfl Tryd.func45 (by kernel_rfl) rfl #[.string a1] rfl mq ?_; (with_reducible refine (decimal_cut.calls k a1 t453 _ A9.out).mono ?_); rintro e w13 ⟨v454, rfl, ho0, hb⟩; refine ⟨_, rfl, ?_⟩; have n0_ := Aside0.mk (Kd.R_elder' (by (with_reducible repeat (first | apply Kd.R_alloc | apply Kd.R_drewN | apply Kd.R_drew)); exact HO452.out) (Kd.R_base ho0) hb); have n1_ := Aside0.mk (Kd.R_lower (Kd.R_new' ho0 (Kd.R_lt (by (with_reducible repeat (first | apply Kd.R_alloc | apply Kd.R_drewN | apply Kd.R_drew)); exact HO452.out))) (below_size bq)); have n2_ := Aside0.mk (below_step bq hb); clear HO452; clear HB; have HO452 := n0_; have HO455 := n1_; have HB := n2_; clear n0_ n1_ n2_; (try clear hb); (try clear hb2); (try clear hk); (try clear hi); (try clear ho0); obtain ⟨Ao14, co14, eo14⟩ := Kd.R_slice HO452.out; subst eo14; obtain ⟨Ao15, co15, eo15⟩ := Kd.R_slice HO455.out; subst eo15) | ((with_reducible refine gate_callee (f := 54) rfl ?_); refine goesL_ (some 29) rfl rfl Tryd.func54 (by kernel_rfl) rfl #[.slice Ao14 t450.length co14, .slice Ao15 t453.length co15] rfl mq ?_; (with_reducible refine (decimal_pieces_times.calls k _ _ t450 _ _ t453 t456 _ ?side1 ?side2 ?side3 ?side4 A10.out).mono ?_); (case side1 => repeat (first | exact (Kd.R_reads' HO452.out).2.2 | (with_reducible refine Kd.C_alloc ?_ _) | (with_reducible refine Kd.C_drewN ?_ _) | (with_reducible refine Kd.C_drew ?_))); (case side2 => exact (Kd.R_reads' HO452.out).2.1); (case side3 => repeat (first | exact (Kd.R_reads' HO455.out).2.2 | (with_reducible refine Kd.C_alloc ?_ _) | (with_reducible refine Kd.C_drewN ?_ _) | (with_reducible refine Kd.C_drew ?_))); (case side4 => exact (Kd.R_reads' HO455.out).2.1); rintro e w16 ⟨v457, rfl, ho0, hb⟩; refine ⟨_, rfl, ?_⟩; have n0_ := Aside0.mk (Kd.R_elder' (by (with_reducible repeat (first | apply Kd.R_alloc | apply Kd.R_drewN | apply Kd.R_drew)); exact HO452.out) (Kd.R_base ho0) hb); have n1_ := Aside0.mk (Kd.R_elder' (by (with_reducible repeat (first | apply Kd.R_alloc | apply Kd.R_drewN | apply Kd.R_drew)); exact HO455.out) (Kd.R_base ho0) hb); have n2_ := Aside0.mk (Kd.R_lower (Kd.R_new' (Kd.R_new' ho0 (Kd.R_lt (by (with_reducible repeat (first | apply Kd.R_alloc | apply Kd.R_drewN | apply Kd.R_drew)); exact HO452.out))) (Kd.R_lt (by (with_reducible repeat (first | apply Kd.R_alloc | apply Kd.R_drewN | apply Kd.R_drew)); exact HO455.out))) (below_size bq)); have n3_ := Aside0.mk (below_step bq hb); clear HO452; clear HO455; clear HB; have HO452 := n0_; have HO455 := n1_; have HO458 := n2_; have HB := n3_; clear n0_ n1_ n2_ n3_; (try clear hb); (try clear hb2); (try clear hk); (try clear hi); (try clear ho0); obtain ⟨Ao17, co17, eo17⟩ := Kd.R_slice HO458.out; subst eo17) | ((with_reducible refine gate_callee (f := 48) rfl ?_); refine goesL_ (some 30) rfl rfl Tryd.func48 (by kernel_rfl) rfl #[.slice Ao17 t456.length co17] rfl mq ?_; (with_reducible refine (decimal_pieces_text.calls k _ _ t456 t459 _ ?side1 ?side2 A11.out).mono ?_); (case side1 => repeat (first | exact (Kd.R_reads' HO458.out).2.2 | (with_reducible refine Kd.C_alloc ?_ _) | (with_reducible refine Kd.C_drewN ?_ _) | (with_reducible refine Kd.C_drew ?_))); (case side2 => exact (Kd.R_reads' HO458.out).2.1); rintro e w18 ⟨rfl, hb⟩; refine ⟨_, rfl, ?_⟩; have n0_ := Aside0.mk (Kd.R_below (by (with_reducible repeat (first | apply Kd.R_alloc | apply Kd.R_drewN | apply Kd.R_drew)); exact HO452.out) hb); have n1_ := Aside0.mk (Kd.R_below (by (with_reducible repeat (first | apply Kd.R_alloc | apply Kd.R_drewN | apply Kd.R_drew)); exact HO455.out) hb); have n2_ := Aside0.mk (Kd.R_below (by (with_reducible repeat (first | apply Kd.R_alloc | apply Kd.R_drewN | apply Kd.R_drew)); exact HO458.out) hb); have n3_ := Aside0.mk (below_step bq hb); clear HO452; clear HO455; clear HO458; clear HB; have HO452 := n0_; have HO455 := n1_; have HO458 := n2_; have HB := n3_; clear n0_ n1_ n2_ n3_; (try clear hb); (try clear hb2); (try clear hk); (try clear hi)))
    go_ret
    exact ⟨eq_, bq⟩
def decimal_Add.f (k : Nat) (a0 : ByteArray) (a1 : ByteArray) : Option (ByteArray) := (decimal_both.f k a0 a1).bind fun bt477 => (if bt477.2.2 = true then ((decimal_Of.f (IntKind.u64.wrap (bt477.1 + bt477.2.1))).bind fun t480 => (some t480)) else ((decimal_cut.f k a0).bind fun t481 => ((decimal_cut.f k a1).bind fun t484 => (if (t481.length : Int) < (t484.length : Int) then (if t484.length < 17592186044416 then ((some (t484 ++ [0] : List Int)).bind fun y487 => (if 0 ≤ (wrap64 ((wrap64 ((y487.length : Int) - 1)) - (t481.length : Int))) then (if t481.length + (wrap64 ((wrap64 ((y487.length : Int) - 1)) - (t481.length : Int)) : Int).toNat < 17592186044416 then ((decimal_pieces_back.f k y487 (t481 ++ List.replicate (wrap64 ((wrap64 ((y487.length : Int) - 1)) - (t481.length : Int)) : Int).toNat 0) 0).bind fun t493 => ((decimal_pieces_trim.f k t493).bind fun t494 => ((decimal_pieces_text.f k t494).bind fun t497 => (some t497)))) else (none)) else (none))) else (none)) else (if t481.length < 17592186044416 then ((some (t481 ++ [0] : List Int)).bind fun y498 => (if 0 ≤ (wrap64 ((wrap64 ((y498.length : Int) - 1)) - (t484.length : Int))) then (if t484.length + (wrap64 ((wrap64 ((y498.length : Int) - 1)) - (t484.length : Int)) : Int).toNat < 17592186044416 then ((decimal_pieces_back.f k y498 (t484 ++ List.replicate (wrap64 ((wrap64 ((y498.length : Int) - 1)) - (t484.length : Int)) : Int).toNat 0) 0).bind fun t504 => ((decimal_pieces_trim.f k t504).bind fun t505 => ((decimal_pieces_text.f k t505).bind fun t508 => (some t508)))) else (none)) else (none))) else (none))))))
theorem decimal_Add.mono : ∀ a0 a1 k, LeO (decimal_Add.f k a0 a1) (decimal_Add.f (k + 1) a0 a1) := by
  intro a0 a1 k
  unfold decimal_Add.f
  repeat' first
      | (with_reducible exact decimal_both.mono _ _ _)
      | (with_reducible exact decimal_cut.mono _ _)
      | (with_reducible exact decimal_pieces_back.mono _ _ _ _)
      | (with_reducible exact decimal_pieces_text.mono _ _)
      | (with_reducible exact decimal_pieces_trim.mono _ _)
      | (with_reducible exact LeO.refl _)
      | (with_reducible exact LeO.none _)
      | (with_reducible refine LeO.ite ?_ ?_)
      | (with_reducible refine LeO.bind ?_ (fun _ => ?_))
      | exact decimal_both.mono _ _ _
      | exact decimal_cut.mono _ _
      | exact decimal_pieces_back.mono _ _ _ _
      | exact decimal_pieces_text.mono _ _
      | exact decimal_pieces_trim.mono _ _
      | exact LeO.none _
      | refine LeO.ite ?_ ?_
      | refine LeO.bind ?_ (fun _ => ?_)
set_option maxHeartbeats 8000000 in
set_option maxRecDepth 100000 in
theorem decimal_Add.calls (k : Nat) (a0 : ByteArray) (a1 : ByteArray) (r : ByteArray) (w : World) (hT : Tab w) (h : decimal_Add.f k a0 a1 = some r) :
    Calls Tryd.prog 38 #[.string a0, .string a1] w fun e w' => e = .returned (.string r) ∧ Below w.heap.size w w' := by
  have HT := Aside0.mk hT
  clear hT
  have HB := Aside0.mk (Below.refl w.heap.size w)
  have H : ((decimal_both.f k a0 a1).bind fun bt477 => (if bt477.2.2 = true then ((decimal_Of.f (IntKind.u64.wrap (bt477.1 + bt477.2.1))).bind fun t480 => (some t480)) else ((decimal_cut.f k a0).bind fun t481 => ((decimal_cut.f k a1).bind fun t484 => (if (t481.length : Int) < (t484.length : Int) then (if t484.length < 17592186044416 then ((some (t484 ++ [0] : List Int)).bind fun y487 => (if 0 ≤ (wrap64 ((wrap64 ((y487.length : Int) - 1)) - (t481.length : Int))) then (if t481.length + (wrap64 ((wrap64 ((y487.length : Int) - 1)) - (t481.length : Int)) : Int).toNat < 17592186044416 then ((decimal_pieces_back.f k y487 (t481 ++ List.replicate (wrap64 ((wrap64 ((y487.length : Int) - 1)) - (t481.length : Int)) : Int).toNat 0) 0).bind fun t493 => ((decimal_pieces_trim.f k t493).bind fun t494 => ((decimal_pieces_text.f k t494).bind fun t497 => (some t497)))) else (none)) else (none))) else (none)) else (if t481.length < 17592186044416 then ((some (t481 ++ [0] : List Int)).bind fun y498 => (if 0 ≤ (wrap64 ((wrap64 ((y498.length : Int) - 1)) - (t484.length : Int))) then (if t484.length + (wrap64 ((wrap64 ((y498.length : Int) - 1)) - (t484.length : Int)) : Int).toNat < 17592186044416 then ((decimal_pieces_back.f k y498 (t484 ++ List.replicate (wrap64 ((wrap64 ((y498.length : Int) - 1)) - (t484.length : Int)) : Int).toNat 0) 0).bind fun t504 => ((decimal_pieces_trim.f k t504).bind fun t505 => ((decimal_pieces_text.f k t505).bind fun t508 => (some t508)))) else (none)) else (none))) else (none))))))) = some r := h
  clear h
  replace H := Option.bind_eq_some_iff.mp H
  obtain ⟨⟨t477, t478, t479⟩, A30, H⟩ := H
  replace H : (if t479 = true then ((decimal_Of.f (IntKind.u64.wrap (t477 + t478))).bind fun t480 => (some t480)) else ((decimal_cut.f k a0).bind fun t481 => ((decimal_cut.f k a1).bind fun t484 => (if (t481.length : Int) < (t484.length : Int) then (if t484.length < 17592186044416 then ((some (t484 ++ [0] : List Int)).bind fun y487 => (if 0 ≤ (wrap64 ((wrap64 ((y487.length : Int) - 1)) - (t481.length : Int))) then (if t481.length + (wrap64 ((wrap64 ((y487.length : Int) - 1)) - (t481.length : Int)) : Int).toNat < 17592186044416 then ((decimal_pieces_back.f k y487 (t481 ++ List.replicate (wrap64 ((wrap64 ((y487.length : Int) - 1)) - (t481.length : Int)) : Int).toNat 0) 0).bind fun t493 => ((decimal_pieces_trim.f k t493).bind fun t494 => ((decimal_pieces_text.f k t494).bind fun t497 => (some t497)))) else (none)) else (none))) else (none)) else (if t481.length < 17592186044416 then ((some (t481 ++ [0] : List Int)).bind fun y498 => (if 0 ≤ (wrap64 ((wrap64 ((y498.length : Int) - 1)) - (t484.length : Int))) then (if t484.length + (wrap64 ((wrap64 ((y498.length : Int) - 1)) - (t484.length : Int)) : Int).toNat < 17592186044416 then ((decimal_pieces_back.f k y498 (t484 ++ List.replicate (wrap64 ((wrap64 ((y498.length : Int) - 1)) - (t484.length : Int)) : Int).toNat 0) 0).bind fun t504 => ((decimal_pieces_trim.f k t504).bind fun t505 => ((decimal_pieces_text.f k t505).bind fun t508 => (some t508)))) else (none)) else (none))) else (none)))))) = some r := H
  have A3 := Aside0.mk A30
  clear A30
  by_cases c4 : t479 = true
  · subst c4
    have H1 : ((decimal_Of.f (IntKind.u64.wrap (t477 + t478))).bind fun t480 => (some t480)) = some r := by rw [if_pos rfl] at H; exact H
    clear H
    have H := H1
    clear H1
    replace H := Option.bind_eq_some_iff.mp H
    obtain ⟨t480, A50, H⟩ := H
    replace H : (some t480) = some r := H
    have A5 := Aside0.mk A50
    clear A50
    obtain rfl := Option.some.inj H
    go_enter Tryd.func38, Tryd.ntmps38
    go_wp2_with (first | ((with_reducible refine gate_callee (f := 44) rfl ?_); refine goesL_ (some 13) rfl rfl Tryd.func44 (by kernel_rfl) rfl #[.string a0, .string a1] rfl mq ?_; (with_reducible refine (decimal_both.calls (hT := HT.out.below bq) k a0 a1 t477 t478 true _ A3.out).mono ?_); rintro e w6 ⟨rfl, hb⟩; refine ⟨_, rfl, ?_⟩; replace HB := Aside0.mk (below_step bq hb); (try clear hb); (try clear hb2); (try clear hk); (try clear hi)) | ((with_reducible refine gate_callee (f := 14) rfl ?_); refine goesL_ (some 21) rfl rfl Tryd.func14 (by kernel_rfl) rfl #[.int .u64 (IntKind.u64.wrap (t477 + t478))] rfl mq ?_; (with_reducible refine (decimal_Of.calls (hT := HT.out.below bq) (IntKind.u64.wrap (t477 + t478)) t480 _ A5.out).mono ?_); rintro e w7 ⟨rfl, hb⟩; refine ⟨_, rfl, ?_⟩; replace HB := Aside0.mk (below_step bq hb); (try clear hb); (try clear hb2); (try clear hk); (try clear hi)))
    go_ret
    exact ⟨eq_, bq⟩
  · replace c4 := Bool.eq_false_iff.mpr c4
    subst c4
    have H1 : ((decimal_cut.f k a0).bind fun t481 => ((decimal_cut.f k a1).bind fun t484 => (if (t481.length : Int) < (t484.length : Int) then (if t484.length < 17592186044416 then ((some (t484 ++ [0] : List Int)).bind fun y487 => (if 0 ≤ (wrap64 ((wrap64 ((y487.length : Int) - 1)) - (t481.length : Int))) then (if t481.length + (wrap64 ((wrap64 ((y487.length : Int) - 1)) - (t481.length : Int)) : Int).toNat < 17592186044416 then ((decimal_pieces_back.f k y487 (t481 ++ List.replicate (wrap64 ((wrap64 ((y487.length : Int) - 1)) - (t481.length : Int)) : Int).toNat 0) 0).bind fun t493 => ((decimal_pieces_trim.f k t493).bind fun t494 => ((decimal_pieces_text.f k t494).bind fun t497 => (some t497)))) else (none)) else (none))) else (none)) else (if t481.length < 17592186044416 then ((some (t481 ++ [0] : List Int)).bind fun y498 => (if 0 ≤ (wrap64 ((wrap64 ((y498.length : Int) - 1)) - (t484.length : Int))) then (if t484.length + (wrap64 ((wrap64 ((y498.length : Int) - 1)) - (t484.length : Int)) : Int).toNat < 17592186044416 then ((decimal_pieces_back.f k y498 (t484 ++ List.replicate (wrap64 ((wrap64 ((y498.length : Int) - 1)) - (t484.length : Int)) : Int).toNat 0) 0).bind fun t504 => ((decimal_pieces_trim.f k t504).bind fun t505 => ((decimal_pieces_text.f k t505).bind fun t508 => (some t508)))) else (none)) else (none))) else (none))))) = some r := by rw [if_neg (show ¬ (false = true) by decide)] at H; exact H
    clear H
    have H := H1
    clear H1
    replace H := Option.bind_eq_some_iff.mp H
    obtain ⟨t481, A80, H⟩ := H
    replace H : ((decimal_cut.f k a1).bind fun t484 => (if (t481.length : Int) < (t484.length : Int) then (if t484.length < 17592186044416 then ((some (t484 ++ [0] : List Int)).bind fun y487 => (if 0 ≤ (wrap64 ((wrap64 ((y487.length : Int) - 1)) - (t481.length : Int))) then (if t481.length + (wrap64 ((wrap64 ((y487.length : Int) - 1)) - (t481.length : Int)) : Int).toNat < 17592186044416 then ((decimal_pieces_back.f k y487 (t481 ++ List.replicate (wrap64 ((wrap64 ((y487.length : Int) - 1)) - (t481.length : Int)) : Int).toNat 0) 0).bind fun t493 => ((decimal_pieces_trim.f k t493).bind fun t494 => ((decimal_pieces_text.f k t494).bind fun t497 => (some t497)))) else (none)) else (none))) else (none)) else (if t481.length < 17592186044416 then ((some (t481 ++ [0] : List Int)).bind fun y498 => (if 0 ≤ (wrap64 ((wrap64 ((y498.length : Int) - 1)) - (t484.length : Int))) then (if t484.length + (wrap64 ((wrap64 ((y498.length : Int) - 1)) - (t484.length : Int)) : Int).toNat < 17592186044416 then ((decimal_pieces_back.f k y498 (t484 ++ List.replicate (wrap64 ((wrap64 ((y498.length : Int) - 1)) - (t484.length : Int)) : Int).toNat 0) 0).bind fun t504 => ((decimal_pieces_trim.f k t504).bind fun t505 => ((decimal_pieces_text.f k t505).bind fun t508 => (some t508)))) else (none)) else (none))) else (none)))) = some r := H
    have A8 := Aside0.mk A80
    clear A80
    replace H := Option.bind_eq_some_iff.mp H
    obtain ⟨t484, A90, H⟩ := H
    replace H : (if (t481.length : Int) < (t484.length : Int) then (if t484.length < 17592186044416 then ((some (t484 ++ [0] : List Int)).bind fun y487 => (if 0 ≤ (wrap64 ((wrap64 ((y487.length : Int) - 1)) - (t481.length : Int))) then (if t481.length + (wrap64 ((wrap64 ((y487.length : Int) - 1)) - (t481.length : Int)) : Int).toNat < 17592186044416 then ((decimal_pieces_back.f k y487 (t481 ++ List.replicate (wrap64 ((wrap64 ((y487.length : Int) - 1)) - (t481.length : Int)) : Int).toNat 0) 0).bind fun t493 => ((decimal_pieces_trim.f k t493).bind fun t494 => ((decimal_pieces_text.f k t494).bind fun t497 => (some t497)))) else (none)) else (none))) else (none)) else (if t481.length < 17592186044416 then ((some (t481 ++ [0] : List Int)).bind fun y498 => (if 0 ≤ (wrap64 ((wrap64 ((y498.length : Int) - 1)) - (t484.length : Int))) then (if t484.length + (wrap64 ((wrap64 ((y498.length : Int) - 1)) - (t484.length : Int)) : Int).toNat < 17592186044416 then ((decimal_pieces_back.f k y498 (t484 ++ List.replicate (wrap64 ((wrap64 ((y498.length : Int) - 1)) - (t484.length : Int)) : Int).toNat 0) 0).bind fun t504 => ((decimal_pieces_trim.f k t504).bind fun t505 => ((decimal_pieces_text.f k t505).bind fun t508 => (some t508)))) else (none)) else (none))) else (none))) = some r := H
    have A9 := Aside0.mk A90
    clear A90
    by_cases c10 : (t481.length : Int) < (t484.length : Int)
    · rw [if_pos c10] at H
      have c10b0 : decide ((t481.length : Int) < (t484.length : Int)) = true := decide_eq_true c10
      have c10b1 : decide (t481.length < t484.length) = true := decide_eq_true (Int.ofNat_lt.mp c10)
      clear c10
      by_cases c11 : t484.length < 17592186044416
      · rw [if_pos c11] at H
        have LMc11 := Aside0.mk c11
        clear c11
        obtain ⟨y487, hy487⟩ : ∃ y_ : List Int, y_ = (t484 ++ [0]) := ⟨_, rfl⟩
        replace H : (if 0 ≤ (wrap64 ((wrap64 ((y487.length : Int) - 1)) - (t481.length : Int))) then (if t481.length + (wrap64 ((wrap64 ((y487.length : Int) - 1)) - (t481.length : Int)) : Int).toNat < 17592186044416 then ((decimal_pieces_back.f k y487 (t481 ++ List.replicate (wrap64 ((wrap64 ((y487.length : Int) - 1)) - (t481.length : Int)) : Int).toNat 0) 0).bind fun t493 => ((decimal_pieces_trim.f k t493).bind fun t494 => ((decimal_pieces_text.f k t494).bind fun t497 => (some t497)))) else (none)) else (none)) = some r := by first | (rw [hy487]; with_reducible exact H) | (have H2_ := (Option.bind_some _ _).symm.trans H; rw [hy487]; with_reducible exact H2_) | (have H2_ := (Option.bind_some _ _).symm.trans H; with_reducible exact H2_) | with_reducible exact H | (rw [hy487]; exact H) | exact H
        have Ny487 := Aside0.mk hy487
        clear hy487
        obtain ⟨ji12, hji12⟩ : ∃ j_ : Int, (wrap64 ((wrap64 ((y487.length : Int) - 1)) - (t481.length : Int))) = j_ := ⟨_, rfl⟩
        replace H : (if 0 ≤ (ji12) then (if t481.length + (ji12 : Int).toNat < 17592186044416 then ((decimal_pieces_back.f k y487 (t481 ++ List.replicate (ji12 : Int).toNat 0) 0).bind fun t493 => ((decimal_pieces_trim.f k t493).bind fun t494 => ((decimal_pieces_text.f k t494).bind fun t497 => (some t497)))) else (none)) else (none)) = some r := by first | (rw [hji12] at H; exact H) | (simp only [hji12] at H ⊢; exact H)
        (try rw [hji12] at A3)
        (try rw [hji12] at A8)
        (try rw [hji12] at A9)
        have hji12w : (IntKind.i64.wrap ((wrap64 ((y487.length : Int) - 1)) - (t481.length : Int))) = ji12 := (i64_w _).trans hji12
        by_cases c13 : 0 ≤ (ji12)
        · rw [if_pos c13] at H
          have c13b0 := eq_true c13
          have c13b1 : decide (0 ≤ (ji12)) = true := decide_eq_true c13
          clear c13
          by_cases c14 : t481.length + (ji12 : Int).toNat < 17592186044416
          · rw [if_pos c14] at H
            have LMc14 := Aside0.mk c14
            clear c14
            obtain ⟨y490, hy490⟩ : ∃ y_ : List Int, y_ = (t481 ++ List.replicate (ji12 : Int).toNat 0) := ⟨_, rfl⟩
            replace H : ((decimal_pieces_back.f k y487 y490 0).bind fun t493 => ((decimal_pieces_trim.f k t493).bind fun t494 => ((decimal_pieces_text.f k t494).bind fun t497 => (some t497)))) = some r := by first | (rw [hy490]; with_reducible exact H) | (have H2_ := (Option.bind_some _ _).symm.trans H; rw [hy490]; with_reducible exact H2_) | (have H2_ := (Option.bind_some _ _).symm.trans H; with_reducible exact H2_) | with_reducible exact H | (rw [hy490]; exact H) | exact H
            have Ny490 := Aside0.mk hy490
            clear hy490
            replace H := Option.bind_eq_some_iff.mp H
            obtain ⟨t493, A150, H⟩ := H
            replace H : ((decimal_pieces_trim.f k t493).bind fun t494 => ((decimal_pieces_text.f k t494).bind fun t497 => (some t497))) = some r := H
            have A15 := Aside0.mk A150
            clear A150
            replace H := Option.bind_eq_some_iff.mp H
            obtain ⟨t494, A160, H⟩ := H
            replace H : ((decimal_pieces_text.f k t494).bind fun t497 => (some t497)) = some r := H
            have A16 := Aside0.mk A160
            clear A160
            replace H := Option.bind_eq_some_iff.mp H
            obtain ⟨t497, A170, H⟩ := H
            replace H : (some t497) = some r := H
            have A17 := Aside0.mk A170
            clear A170
            obtain rfl := Option.some.inj H
            go_enter Tryd.func38, Tryd.ntmps38
            go_wp2_with (first | ((with_reducible refine gate_callee (f := 44) rfl ?_); refine goesL_ (some 13) rfl rfl Tryd.func44 (by kernel_rfl) rfl #[.string a0, .string a1] rfl mq ?_; (with_reducible refine (decimal_both.calls (hT := HT.out.below bq) k a0 a1 t477 t478 false _ A3.out).mono ?_); rintro e w18 ⟨rfl, hb⟩; refine ⟨_, rfl, ?_⟩; replace HB := Aside0.mk (below_step bq hb); (try clear hb); (try clear hb2); (try clear hk); (try clear hi)) | ((with_reducible refine gate_callee (f := 45) rfl ?_); refine goesL_ (some 23) rfl rfl Tryd.func45 (by kernel_rfl) rfl #[.string a0] rfl mq ?_; (with_reducible refine (decimal_cut.calls k a0 t481 _ A8.out).mono ?_); rintro e w19 ⟨v482, rfl, ho0, hb⟩; refine ⟨_, rfl, ?_⟩; have n0_ := Aside0.mk (Kd.R_lower ho0 (below_size bq)); have n1_ := Aside0.mk (below_step bq hb); clear HB; have HO483 := n0_; have HB := n1_; clear n0_ n1_; (try clear hb); (try clear hb2); (try clear hk); (try clear hi); (try clear ho0)) | ((with_reducible refine gate_callee (f := 45) rfl ?_); refine goesL_ (some 25) rfl rfl Tryd.func45 (by kernel_rfl) rfl #[.string a1] rfl mq ?_; (with_reducible refine (decimal_cut.calls k a1 t484 _ A9.out).mono ?_); rintro e w20 ⟨v485, rfl, ho0, hb⟩; refine ⟨_, rfl, ?_⟩; have n0_ := Aside0.mk (Kd.R_elder' (by (with_reducible repeat (first | apply Kd.R_alloc | apply Kd.R_drewN | apply Kd.R_drew)); exact HO483.out) (Kd.R_base ho0) hb); have n1_ := Aside0.mk (Kd.R_lower (Kd.R_new' ho0 (Kd.R_lt (by (with_reducible repeat (first | apply Kd.R_alloc | apply Kd.R_drewN | apply Kd.R_drew)); exact HO483.out))) (below_size bq)); have n2_ := Aside0.mk (below_step bq hb); clear HO483; clear HB; have HO483 := n0_; have HO486 := n1_; have HB := n2_; clear n0_ n1_ n2_; (try clear hb); (try clear hb2); (try clear hk); (try clear hi); (try clear ho0); obtain ⟨Ao21, co21, eo21⟩ := Kd.R_slice HO483.out; subst eo21; obtain ⟨Ao22, co22, eo22⟩ := Kd.R_slice HO486.out; subst eo22) | ((with_reducible refine gate_builtin (b := .append) (xs := #[.tmp 33, .tmp 34]) rfl ?_); at_builtin; refine Kd.R_append (Kd.int .u64) (w0 := w) w.heap.size rfl (.tmp 33) (.tmp 34) 62 22 (.int .u64 0) 8 rfl Tryd.underlying62 info22 rfl (by decide) (by omega) (.slice Ao22 t484.length co22) t484 0 [.int .u64 0] (fun k_ => some k_ ≠ (.slice Ao21 t481.length co21 : Value).ownBlock) (fun _ => False) rfl rfl ?aP (fun _ hk => hk.elim) ?aF ?aO ?aB ?aS ?aL ?_; (case aP => exact rfl); (case aB => exact bq); (case aF => exact (fun k_ hk => Kd.fresh' (Kd.R_lt (by (with_reducible repeat (first | apply Kd.R_alloc | apply Kd.R_drewN | apply Kd.R_drew)); exact HO483.out)) k_ hk)); (case aO => exact (by (with_reducible repeat (first | apply Kd.R_alloc | apply Kd.R_drewN | apply Kd.R_drew)); exact Kd.R_mono HO486.out (fun _ hk => hk.2))); (case aS => exact (below_size bq)); (case aL => have := LMc11.out; omega); intro v488 w23 ho hb hg hat; rw [← Ny487.out] at ho; have n0_ := Aside0.mk (Kd.R_after (ok := (fun _ => True)) (by (with_reducible repeat (first | apply Kd.R_alloc | apply Kd.R_drewN | apply Kd.R_drew)); exact HO483.out) hg hat); have n1_ := Aside0.mk (hb); have n2_ := Aside0.mk (ho); clear HO483; clear HB; clear HO486; have HO483 := n0_; have HB := n1_; have HO489 := n2_; clear n0_ n1_ n2_; clear ho hb hg hat; obtain ⟨Ao24, co24, eo24⟩ := Kd.R_slice HO489.out; subst eo24) | (at_builtin; refine Kd.R_append_zeros (Kd.int .u64) (w0 := w) w.heap.size rfl (.tmp 37) (.tmp 43) 62 3 22 (.int .u64 0) 8 rfl Tryd.underlying62 Tryd.underlying3 info22 rfl (by decide) (by omega) (.slice Ao21 t481.length co21) t481 0 (ji12 : Int) (fun k_ => some k_ ≠ (.slice Ao24 y487.length co24 : Value).ownBlock) rfl rfl rfl ?aF ?aO (of_decide_eq_true (by first | (with_reducible assumption) | assumption)) ?aB ?aS ?aL ?_; (case aB => exact bq); (case aF => exact (fun k_ hk => Kd.fresh' (Kd.R_lt (by (with_reducible repeat (first | apply Kd.R_alloc | apply Kd.R_drewN | apply Kd.R_drew)); exact HO489.out)) k_ hk)); (case aO => exact (by (with_reducible repeat (first | apply Kd.R_alloc | apply Kd.R_drewN | apply Kd.R_drew)); exact Kd.R_mono HO483.out (fun _ hk => hk.2))); (case aS => exact (below_size bq)); (case aL => have := LMc14.out; omega); intro v491 w25 ho hb hg hat; rw [← Ny490.out] at ho; have n0_ := Aside0.mk (Kd.R_after (ok := (fun _ => True)) (by (with_reducible repeat (first | apply Kd.R_alloc | apply Kd.R_drewN | apply Kd.R_drew)); exact Kd.R_mono HO489.out (fun _ hk => ⟨trivial, hk⟩)) hg hat); have n1_ := Aside0.mk (hb); have n2_ := Aside0.mk (ho); clear HO489; clear HB; clear HO483; have HO489 := n0_; have HB := n1_; have HO492 := n2_; clear n0_ n1_ n2_; clear ho hb hg hat; obtain ⟨Ao26, co26, eo26⟩ := Kd.R_slice HO492.out; subst eo26) | ((with_reducible refine gate_callee (f := 56) rfl ?_); refine goesL_ (some 45) rfl rfl Tryd.func56 (by kernel_rfl) rfl #[.slice Ao24 y487.length co24, .slice Ao26 y490.length co26, .int .i64 0] rfl mq ?_; (with_reducible refine (decimal_pieces_back.calls k (fun k_ => some k_ = (.slice Ao24 y487.length co24 : Value).ownBlock) (.slice Ao24 y487.length co24) y487 _ _ y490 0 t493 w _ ?side1 ?side2 ?side3 ?side4 A15.out).mono ?_); (case side1 => exact bq); (case side2 => exact Kd.R_tight rfl HO489.out); (case side3 => exact Kd.C_kept_own (HO492.out) (fun k_ hk_ hs_ => (hk_) hs_)); (case side4 => exact (Kd.R_reads' HO492.out).2.1); rintro e w27 ⟨rfl, hy0, hb, hkp⟩; refine ⟨_, rfl, ?_⟩; have n0_ := Aside0.mk (Kd.R_reok rfl hy0 (fun k_ e_ => HO489.out.1 k_ e_)); have n1_ := Aside0.mk (Kd.R_mono (ok' := fun k_ => some k_ ≠ (.slice Ao24 y487.length co24 : Value).ownBlock) (Kd.R_keptB (HO492.out) hkp (fun k_ hk_ hs_ => (hk_) hs_)) (fun k_ hk_ => hk_.1)); have n2_ := Aside0.mk (hb); clear HO489; clear HO492; clear HB; have HO489 := n0_; have HO492 := n1_; have HB := n2_; clear n0_ n1_ n2_; (try clear hb); (try clear hkp); (try clear hy0)) | ((with_reducible refine gate_callee (f := 57) rfl ?_); refine goesL_ (some 47) rfl rfl Tryd.func57 (by kernel_rfl) rfl #[.slice Ao24 y487.length co24] rfl mq ?_; (with_reducible refine (decimal_pieces_trim.calls k (fun k_ => some k_ = (.slice Ao24 y487.length co24 : Value).ownBlock) (.slice Ao24 y487.length co24) t493 t494 w _ ?side1 ?side2 A16.out).mono ?_); (case side1 => exact bq); (case side2 => exact Kd.R_tight rfl HO489.out); rintro e w28 ⟨v495, rfl, ho0, hb, hkp⟩; refine ⟨_, rfl, ?_⟩; have n0_ := Aside0.mk (Kd.R_mono (ok' := fun k_ => some k_ ≠ (v495 : Value).ownBlock) (Kd.R_keptB (HO492.out) hkp (fun k_ hk_ hs_ => (hk_) hs_)) (fun k_ hk_ => fun e_ => Or.elim (ho0.1 k_ e_.symm) (fun hs_ => hk_.2.1 hs_) (fun hn_ => Nat.not_le.2 hk_.2.2 hn_))); have n1_ := Aside0.mk (Kd.R_mono (ok' := fun k_ => some k_ ≠ (.slice Ao26 y490.length co26 : Value).ownBlock) ho0 (fun k_ hk_ => Or.elim hk_ (fun hs_ => fun e_ => (((HO492.out).1 k_ e_.symm)) hs_) (fun hn_ => (Kd.fresh' (Kd.R_lt (by (with_reducible repeat (first | apply Kd.R_alloc | apply Kd.R_drewN | apply Kd.R_drew)); exact HO492.out)) k_ hn_)))); have n2_ := Aside0.mk (hb); clear HO492; clear HB; clear HO489; have HO492 := n0_; have HO496 := n1_; have HB := n2_; clear n0_ n1_ n2_; (try clear hb); (try clear hkp); (try clear ho0); obtain ⟨Ao29, co29, eo29⟩ := Kd.R_slice HO496.out; subst eo29) | ((with_reducible refine gate_callee (f := 48) rfl ?_); refine goesL_ (some 48) rfl rfl Tryd.func48 (by kernel_rfl) rfl #[.slice Ao29 t494.length co29] rfl mq ?_; (with_reducible refine (decimal_pieces_text.calls k _ _ t494 t497 _ ?side1 ?side2 A17.out).mono ?_); (case side1 => repeat (first | exact (Kd.R_reads' HO496.out).2.2 | (with_reducible refine Kd.C_alloc ?_ _) | (with_reducible refine Kd.C_drewN ?_ _) | (with_reducible refine Kd.C_drew ?_))); (case side2 => exact (Kd.R_reads' HO496.out).2.1); rintro e w30 ⟨rfl, hb⟩; refine ⟨_, rfl, ?_⟩; have n0_ := Aside0.mk (Kd.R_below (by (with_reducible repeat (first | apply Kd.R_alloc | apply Kd.R_drewN | apply Kd.R_drew)); exact HO492.out) hb); have n1_ := Aside0.mk (Kd.R_below (by (with_reducible repeat (first | apply Kd.R_alloc | apply Kd.R_drewN | apply Kd.R_drew)); exact HO496.out) hb); have n2_ := Aside0.mk (below_step bq hb); clear HO492; clear HO496; clear HB; have HO492 := n0_; have HO496 := n1_; have HB := n2_; clear n0_ n1_ n2_; (try clear hb); (try clear hb2); (try clear hk); (try clear hi)))
            go_ret
            exact ⟨by first | rfl | (simp [errW_none, errW_some] <;> rfl) | (simp only [← hji12]; first | rfl | (simp [errW_none, errW_some] <;> rfl)) | (simp [*, errW_none, errW_some] <;> rfl), bq⟩
          · rw [if_neg c14] at H
            exact absurd H (by simp)
        · rw [if_neg c13] at H
          exact absurd H (by simp)
      · rw [if_neg c11] at H
        exact absurd H (by simp)
    · rw [if_neg c10] at H
      have c10b0 : decide ((t481.length : Int) < (t484.length : Int)) = false := decide_eq_false c10
      have c10b1 : decide (t481.length < t484.length) = false := decide_eq_false (fun h => c10 (Int.ofNat_lt.mpr h))
      clear c10
      by_cases c31 : t481.length < 17592186044416
      · rw [if_pos c31] at H
        have LMc31 := Aside0.mk c31
        clear c31
        obtain ⟨y498, hy498⟩ : ∃ y_ : List Int, y_ = (t481 ++ [0]) := ⟨_, rfl⟩
        replace H : (if 0 ≤ (wrap64 ((wrap64 ((y498.length : Int) - 1)) - (t484.length : Int))) then (if t484.length + (wrap64 ((wrap64 ((y498.length : Int) - 1)) - (t484.length : Int)) : Int).toNat < 17592186044416 then ((decimal_pieces_back.f k y498 (t484 ++ List.replicate (wrap64 ((wrap64 ((y498.length : Int) - 1)) - (t484.length : Int)) : Int).toNat 0) 0).bind fun t504 => ((decimal_pieces_trim.f k t504).bind fun t505 => ((decimal_pieces_text.f k t505).bind fun t508 => (some t508)))) else (none)) else (none)) = some r := by first | (rw [hy498]; with_reducible exact H) | (have H2_ := (Option.bind_some _ _).symm.trans H; rw [hy498]; with_reducible exact H2_) | (have H2_ := (Option.bind_some _ _).symm.trans H; with_reducible exact H2_) | with_reducible exact H | (rw [hy498]; exact H) | exact H
        have Ny498 := Aside0.mk hy498
        clear hy498
        obtain ⟨ji32, hji32⟩ : ∃ j_ : Int, (wrap64 ((wrap64 ((y498.length : Int) - 1)) - (t484.length : Int))) = j_ := ⟨_, rfl⟩
        replace H : (if 0 ≤ (ji32) then (if t484.length + (ji32 : Int).toNat < 17592186044416 then ((decimal_pieces_back.f k y498 (t484 ++ List.replicate (ji32 : Int).toNat 0) 0).bind fun t504 => ((decimal_pieces_trim.f k t504).bind fun t505 => ((decimal_pieces_text.f k t505).bind fun t508 => (some t508)))) else (none)) else (none)) = some r := by first | (rw [hji32] at H; exact H) | (simp only [hji32] at H ⊢; exact H)
        (try rw [hji32] at A3)
        (try rw [hji32] at A8)
        (try rw [hji32] at A9)
        have hji32w : (IntKind.i64.wrap ((wrap64 ((y498.length : Int) - 1)) - (t484.length : Int))) = ji32 := (i64_w _).trans hji32
        by_cases c33 : 0 ≤ (ji32)
        · rw [if_pos c33] at H
          have c33b0 := eq_true c33
          have c33b1 : decide (0 ≤ (ji32)) = true := decide_eq_true c33
          clear c33
          by_cases c34 : t484.length + (ji32 : Int).toNat < 17592186044416
          · rw [if_pos c34] at H
            have LMc34 := Aside0.mk c34
            clear c34
            obtain ⟨y501, hy501⟩ : ∃ y_ : List Int, y_ = (t484 ++ List.replicate (ji32 : Int).toNat 0) := ⟨_, rfl⟩
            replace H : ((decimal_pieces_back.f k y498 y501 0).bind fun t504 => ((decimal_pieces_trim.f k t504).bind fun t505 => ((decimal_pieces_text.f k t505).bind fun t508 => (some t508)))) = some r := by first | (rw [hy501]; with_reducible exact H) | (have H2_ := (Option.bind_some _ _).symm.trans H; rw [hy501]; with_reducible exact H2_) | (have H2_ := (Option.bind_some _ _).symm.trans H; with_reducible exact H2_) | with_reducible exact H | (rw [hy501]; exact H) | exact H
            have Ny501 := Aside0.mk hy501
            clear hy501
            replace H := Option.bind_eq_some_iff.mp H
            obtain ⟨t504, A350, H⟩ := H
            replace H : ((decimal_pieces_trim.f k t504).bind fun t505 => ((decimal_pieces_text.f k t505).bind fun t508 => (some t508))) = some r := H
            have A35 := Aside0.mk A350
            clear A350
            replace H := Option.bind_eq_some_iff.mp H
            obtain ⟨t505, A360, H⟩ := H
            replace H : ((decimal_pieces_text.f k t505).bind fun t508 => (some t508)) = some r := H
            have A36 := Aside0.mk A360
            clear A360
            replace H := Option.bind_eq_some_iff.mp H
            obtain ⟨t508, A370, H⟩ := H
            replace H : (some t508) = some r := H
            have A37 := Aside0.mk A370
            clear A370
            obtain rfl := Option.some.inj H
            go_enter Tryd.func38, Tryd.ntmps38
            go_wp2_with (first | ((with_reducible refine gate_callee (f := 44) rfl ?_); refine goesL_ (some 13) rfl rfl Tryd.func44 (by kernel_rfl) rfl #[.string a0, .string a1] rfl mq ?_; (with_reducible refine (decimal_both.calls (hT := HT.out.below bq) k a0 a1 t477 t478 false _ A3.out).mono ?_); rintro e w38 ⟨rfl, hb⟩; refine ⟨_, rfl, ?_⟩; replace HB := Aside0.mk (below_step bq hb); (try clear hb); (try clear hb2); (try clear hk); (try clear hi)) | ((with_reducible refine gate_callee (f := 45) rfl ?_); refine goesL_ (some 23) rfl rfl Tryd.func45 (by kernel_rfl) rfl #[.string a0] rfl mq ?_; (with_reducible refine (decimal_cut.calls k a0 t481 _ A8.out).mono ?_); rintro e w39 ⟨v482, rfl, ho0, hb⟩; refine ⟨_, rfl, ?_⟩; have n0_ := Aside0.mk (Kd.R_lower ho0 (below_size bq)); have n1_ := Aside0.mk (below_step bq hb); clear HB; have HO483 := n0_; have HB := n1_; clear n0_ n1_; (try clear hb); (try clear hb2); (try clear hk); (try clear hi); (try clear ho0)) | ((with_reducible refine gate_callee (f := 45) rfl ?_); refine goesL_ (some 25) rfl rfl Tryd.func45 (by kernel_rfl) rfl #[.string a1] rfl mq ?_; (with_reducible refine (decimal_cut.calls k a1 t484 _ A9.out).mono ?_); rintro e w40 ⟨v485, rfl, ho0, hb⟩; refine ⟨_, rfl, ?_⟩; have n0_ := Aside0.mk (Kd.R_elder' (by (with_reducible repeat (first | apply Kd.R_alloc | apply Kd.R_drewN | apply Kd.R_drew)); exact HO483.out) (Kd.R_base ho0) hb); have n1_ := Aside0.mk (Kd.R_lower (Kd.R_new' ho0 (Kd.R_lt (by (with_reducible repeat (first | apply Kd.R_alloc | apply Kd.R_drewN | apply Kd.R_drew)); exact HO483.out))) (below_size bq)); have n2_ := Aside0.mk (below_step bq hb); clear HO483; clear HB; have HO483 := n0_; have HO486 := n1_; have HB := n2_; clear n0_ n1_ n2_; (try clear hb); (try clear hb2); (try clear hk); (try clear hi); (try clear ho0); obtain ⟨Ao41, co41, eo41⟩ := Kd.R_slice HO483.out; subst eo41; obtain ⟨Ao42, co42, eo42⟩ := Kd.R_slice HO486.out; subst eo42) | ((with_reducible refine gate_builtin (b := .append) (xs := #[.tmp 33, .tmp 34]) rfl ?_); at_builtin; refine Kd.R_append (Kd.int .u64) (w0 := w) w.heap.size rfl (.tmp 33) (.tmp 34) 62 22 (.int .u64 0) 8 rfl Tryd.underlying62 info22 rfl (by decide) (by omega) (.slice Ao41 t481.length co41) t481 0 [.int .u64 0] (fun k_ => some k_ ≠ (.slice Ao42 t484.length co42 : Value).ownBlock) (fun _ => False) rfl rfl ?aP (fun _ hk => hk.elim) ?aF ?aO ?aB ?aS ?aL ?_; (case aP => exact rfl); (case aB => exact bq); (case aF => exact (fun k_ hk => Kd.fresh' (Kd.R_lt (by (with_reducible repeat (first | apply Kd.R_alloc | apply Kd.R_drewN | apply Kd.R_drew)); exact HO486.out)) k_ hk)); (case aO => exact (by (with_reducible repeat (first | apply Kd.R_alloc | apply Kd.R_drewN | apply Kd.R_drew)); exact Kd.R_mono HO483.out (fun _ hk => hk.2))); (case aS => exact (below_size bq)); (case aL => have := LMc31.out; omega); intro v499 w43 ho hb hg hat; rw [← Ny498.out] at ho; have n0_ := Aside0.mk (Kd.R_after (ok := (fun _ => True)) (by (with_reducible repeat (first | apply Kd.R_alloc | apply Kd.R_drewN | apply Kd.R_drew)); exact HO486.out) hg hat); have n1_ := Aside0.mk (hb); have n2_ := Aside0.mk (ho); clear HO486; clear HB; clear HO483; have HO486 := n0_; have HB := n1_; have HO500 := n2_; clear n0_ n1_ n2_; clear ho hb hg hat; obtain ⟨Ao44, co44, eo44⟩ := Kd.R_slice HO500.out; subst eo44) | (at_builtin; refine Kd.R_append_zeros (Kd.int .u64) (w0 := w) w.heap.size rfl (.tmp 37) (.tmp 43) 62 3 22 (.int .u64 0) 8 rfl Tryd.underlying62 Tryd.underlying3 info22 rfl (by decide) (by omega) (.slice Ao42 t484.length co42) t484 0 (ji32 : Int) (fun k_ => some k_ ≠ (.slice Ao44 y498.length co44 : Value).ownBlock) rfl rfl rfl ?aF ?aO (of_decide_eq_true (by first | (with_reducible assumption) | assumption)) ?aB ?aS ?aL ?_; (case aB => exact bq); (case aF => exact (fun k_ hk => Kd.fresh' (Kd.R_lt (by (with_reducible repeat (first | apply Kd.R_alloc | apply Kd.R_drewN | apply Kd.R_drew)); exact HO500.out)) k_ hk)); (case aO => exact (by (with_reducible repeat (first | apply Kd.R_alloc | apply Kd.R_drewN | apply Kd.R_drew)); exact Kd.R_mono HO486.out (fun _ hk => hk.2))); (case aS => exact (below_size bq)); (case aL => have := LMc34.out; omega); intro v502 w45 ho hb hg hat; rw [← Ny501.out] at ho; have n0_ := Aside0.mk (Kd.R_after (ok := (fun _ => True)) (by (with_reducible repeat (first | apply Kd.R_alloc | apply Kd.R_drewN | apply Kd.R_drew)); exact Kd.R_mono HO500.out (fun _ hk => ⟨trivial, hk⟩)) hg hat); have n1_ := Aside0.mk (hb); have n2_ := Aside0.mk (ho); clear HO500; clear HB; clear HO486; have HO500 := n0_; have HB := n1_; have HO503 := n2_; clear n0_ n1_ n2_; clear ho hb hg hat; obtain ⟨Ao46, co46, eo46⟩ := Kd.R_slice HO503.out; subst eo46) | ((with_reducible refine gate_callee (f := 56) rfl ?_); refine goesL_ (some 45) rfl rfl Tryd.func56 (by kernel_rfl) rfl #[.slice Ao44 y498.length co44, .slice Ao46 y501.length co46, .int .i64 0] rfl mq ?_; (with_reducible refine (decimal_pieces_back.calls k (fun k_ => some k_ = (.slice Ao44 y498.length co44 : Value).ownBlock) (.slice Ao44 y498.length co44) y498 _ _ y501 0 t504 w _ ?side1 ?side2 ?side3 ?side4 A35.out).mono ?_); (case side1 => exact bq); (case side2 => exact Kd.R_tight rfl HO500.out); (case side3 => exact Kd.C_kept_own (HO503.out) (fun k_ hk_ hs_ => (hk_) hs_)); (case side4 => exact (Kd.R_reads' HO503.out).2.1); rintro e w47 ⟨rfl, hy0, hb, hkp⟩; refine ⟨_, rfl, ?_⟩; have n0_ := Aside0.mk (Kd.R_reok rfl hy0 (fun k_ e_ => HO500.out.1 k_ e_)); have n1_ := Aside0.mk (Kd.R_mono (ok' := fun k_ => some k_ ≠ (.slice Ao44 y498.length co44 : Value).ownBlock) (Kd.R_keptB (HO503.out) hkp (fun k_ hk_ hs_ => (hk_) hs_)) (fun k_ hk_ => hk_.1)); have n2_ := Aside0.mk (hb); clear HO500; clear HO503; clear HB; have HO500 := n0_; have HO503 := n1_; have HB := n2_; clear n0_ n1_ n2_; (try clear hb); (try clear hkp); (try clear hy0)) | ((with_reducible refine gate_callee (f := 57) rfl ?_); refine goesL_ (some 47) rfl rfl Tryd.func57 (by kernel_rfl) rfl #[.slice Ao44 y498.length co44] rfl mq ?_; (with_reducible refine (decimal_pieces_trim.calls k (fun k_ => some k_ = (.slice Ao44 y498.length co44 : Value).ownBlock) (.slice Ao44 y498.length co44) t504 t505 w _ ?side1 ?side2 A36.out).mono ?_); (case side1 => exact bq); (case side2 => exact Kd.R_tight rfl HO500.out); rintro e w48 ⟨v506, rfl, ho0, hb, hkp⟩; refine ⟨_, rfl, ?_⟩; have n0_ := Aside0.mk (Kd.R_mono (ok' := fun k_ => some k_ ≠ (v506 : Value).ownBlock) (Kd.R_keptB (HO503.out) hkp (fun k_ hk_ hs_ => (hk_) hs_)) (fun k_ hk_ => fun e_ => Or.elim (ho0.1 k_ e_.symm) (fun hs_ => hk_.2.1 hs_) (fun hn_ => Nat.not_le.2 hk_.2.2 hn_))); have n1_ := Aside0.mk (Kd.R_mono (ok' := fun k_ => some k_ ≠ (.slice Ao46 y501.length co46 : Value).ownBlock) ho0 (fun k_ hk_ => Or.elim hk_ (fun hs_ => fun e_ => (((HO503.out).1 k_ e_.symm)) hs_) (fun hn_ => (Kd.fresh' (Kd.R_lt (by (with_reducible repeat (first | apply Kd.R_alloc | apply Kd.R_drewN | apply Kd.R_drew)); exact HO503.out)) k_ hn_)))); have n2_ := Aside0.mk (hb); clear HO503; clear HB; clear HO500; have HO503 := n0_; have HO507 := n1_; have HB := n2_; clear n0_ n1_ n2_; (try clear hb); (try clear hkp); (try clear ho0); obtain ⟨Ao49, co49, eo49⟩ := Kd.R_slice HO507.out; subst eo49) | ((with_reducible refine gate_callee (f := 48) rfl ?_); refine goesL_ (some 48) rfl rfl Tryd.func48 (by kernel_rfl) rfl #[.slice Ao49 t505.length co49] rfl mq ?_; (with_reducible refine (decimal_pieces_text.calls k _ _ t505 t508 _ ?side1 ?side2 A37.out).mono ?_); (case side1 => repeat (first | exact (Kd.R_reads' HO507.out).2.2 | (with_reducible refine Kd.C_alloc ?_ _) | (with_reducible refine Kd.C_drewN ?_ _) | (with_reducible refine Kd.C_drew ?_))); (case side2 => exact (Kd.R_reads' HO507.out).2.1); rintro e w50 ⟨rfl, hb⟩; refine ⟨_, rfl, ?_⟩; have n0_ := Aside0.mk (Kd.R_below (by (with_reducible repeat (first | apply Kd.R_alloc | apply Kd.R_drewN | apply Kd.R_drew)); exact HO503.out) hb); have n1_ := Aside0.mk (Kd.R_below (by (with_reducible repeat (first | apply Kd.R_alloc | apply Kd.R_drewN | apply Kd.R_drew)); exact HO507.out) hb); have n2_ := Aside0.mk (below_step bq hb); clear HO503; clear HO507; clear HB; have HO503 := n0_; have HO507 := n1_; have HB := n2_; clear n0_ n1_ n2_; (try clear hb); (try clear hb2); (try clear hk); (try clear hi)))
            go_ret
            exact ⟨by first | rfl | (simp [errW_none, errW_some] <;> rfl) | (simp only [← hji32]; first | rfl | (simp [errW_none, errW_some] <;> rfl)) | (simp [*, errW_none, errW_some] <;> rfl), bq⟩
          · rw [if_neg c34] at H
            exact absurd H (by simp)
        · rw [if_neg c33] at H
          exact absurd H (by simp)
      · rw [if_neg c31] at H
        exact absurd H (by simp)
end Go.Proofs.YtcfddphiflmnlaaDoor.P
