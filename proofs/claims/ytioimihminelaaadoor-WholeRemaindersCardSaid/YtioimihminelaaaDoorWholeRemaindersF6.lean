/- Functions of the program, as functions of Lean, and the walks that show that the code answers as they do: written by a program. Conditions: those of each theorem. -/
import Derived.Test.YtioimihminelaaaDoorWholeRemaindersF5
namespace Go.Proofs.YtioimihminelaaaDoor.P
open Go.RowKit Go.Proofs.YtioimihminelaaaDoorW.PrintWords Go.Proofs.YtioimihminelaaaDoorW.PrintLast Go.Proofs.YtioimihminelaaaDoorW.PrintMore
attribute [local go_sem] gtr_text max2_int min2_int max_two min_two max_three min_three max_four min_four
set_option linter.unusedVariables false
set_option linter.unusedSimpArgs false
def whole_Sum.l0 : Nat → ByteArray → List ByteArray → Int → Int → Option (ByteArray)
  | 0, _, _, _, _ => none
  | k + 1, x3, x6, x7, x8 => if x8 < x7 then (if 0 ≤ x8 then (if x8 < (x6.length : Int) then ((whole_Add.f k x3 (rdOf ByteArray.empty x6 x8)).bind fun t419 => (whole_Sum.l0 k t419 x6 x7 (wrap64 (x8 + 1)))) else (none)) else (none)) else (some x3)
def whole_Sum.f (k : Nat) (l0 : List ByteArray) : Option (ByteArray) := whole_Sum.l0 k (⟨#[48]⟩ : ByteArray) l0 (l0.length : Int) 0
theorem whole_Sum.mono_l : ∀ k, (∀ y0 y1 y2 y3, LeO (whole_Sum.l0 k y0 y1 y2 y3) (whole_Sum.l0 (k + 1) y0 y1 y2 y3))
  | 0 => fun _ _ _ _ r h => by simp [whole_Sum.l0] at h
  | k + 1 => by
    have ih0 := whole_Sum.mono_l k
    · intro y0 y1 y2 y3
      unfold whole_Sum.l0
      repeat' first
      | (with_reducible exact ih0 _ _ _ _)
      | (with_reducible exact whole_Add.mono _ _ _)
      | (with_reducible exact LeO.refl _)
      | (with_reducible exact LeO.none _)
      | (with_reducible refine LeO.ite ?_ ?_)
      | (with_reducible refine LeO.bind ?_ (fun _ => ?_))
      | exact ih0 _ _ _ _
      | exact whole_Add.mono _ _ _
      | exact LeO.none _
      | refine LeO.ite ?_ ?_
      | refine LeO.bind ?_ (fun _ => ?_)
theorem whole_Sum.mono : ∀ a0 k, LeO (whole_Sum.f k a0) (whole_Sum.f (k + 1) a0) := by
  intro a0 k
  have ih0 := whole_Sum.mono_l k
  unfold whole_Sum.f
  repeat' first
      | (with_reducible exact ih0 _ _ _ _)
      | (with_reducible exact whole_Add.mono _ _ _)
      | (with_reducible exact LeO.refl _)
      | (with_reducible exact LeO.none _)
      | (with_reducible refine LeO.ite ?_ ?_)
      | (with_reducible refine LeO.bind ?_ (fun _ => ?_))
      | exact ih0 _ _ _ _
      | exact whole_Add.mono _ _ _
      | exact LeO.none _
      | refine LeO.ite ?_ ?_
      | refine LeO.bind ?_ (fun _ => ?_)
set_option maxHeartbeats 8000000 in
set_option maxRecDepth 100000 in
theorem whole_Sum.calls (k : Nat) (A0 : Option Addr) (c0 : Nat) (l0 : List ByteArray) (r : ByteArray) (w : World) (hr0 : Kd.C Kd.string w A0 l0.length l0) (hc0 : l0.length ≤ c0) (hT : Tab w) (h : whole_Sum.f k l0 = some r) :
    Calls Tryd.prog 18 #[.slice A0 l0.length c0] w fun e w' => e = .returned (.string r) ∧ Below w.heap.size w w' := by
  have HT := Aside0.mk hT
  clear hT
  have HR0 := Aside0.mk hr0
  have HC0 := Aside0.mk hc0
  clear hr0 hc0
  have HB := Aside0.mk (Below.refl w.heap.size w)
  have H : (whole_Sum.l0 k (⟨#[48]⟩ : ByteArray) l0 (l0.length : Int) 0) = some r := h
  clear h
  have H' := Aside0.mk H
  clear H
  go_enter Tryd.func18, Tryd.ntmps18
  go_wp2
  go_loopg [3, 8] k (fun kq v3 v8 w' => ∃ (x3_1 : ByteArray) (x8_1 : Int), v3 = .string x3_1 ∧ v8 = .int .i64 x8_1 ∧ Aside0 (whole_Sum.l0 kq x3_1 l0 (l0.length : Int) x8_1 = some r) ∧ Aside0 (kq ≤ k) ∧ Aside0 (Below w.heap.size w w'))
  case atStart => exact ⟨((⟨#[48]⟩ : ByteArray)), (0), (by first | rfl | (simp; done) | (simp [*]; done)), (by first | rfl | (simp; done) | (simp [*]; done)), H', ⟨Nat.le_refl _⟩, ⟨bq⟩⟩
  case round =>
    clear H'
    try clear c1
    obtain ⟨x3_1, x8_1, rfl, rfl, HA, HK1, HB⟩ := hrel
    cases gk with
    | zero => exact absurd HA.out (by simp [whole_Sum.l0])
    | succ k1 =>
      have H := HA.out
      clear HA
      simp only [whole_Sum.l0] at H
      by_cases c2 : x8_1 < (l0.length : Int)
      · rw [if_pos c2] at H
        have c2b0 : decide (x8_1 < (l0.length : Int)) = true := decide_eq_true c2
        clear c2
        by_cases c3 : 0 ≤ x8_1
        · rw [if_pos c3] at H
          have c3b0 : decide (0 ≤ x8_1) = true := decide_eq_true c3
          clear c3
          by_cases c4 : x8_1 < (l0.length : Int)
          · rw [if_pos c4] at H
            have c4b0 : decide (x8_1 < (l0.length : Int)) = true := decide_eq_true c4
            clear c4
            replace H := Option.bind_eq_some_iff.mp H
            obtain ⟨t419, A50, H⟩ := H
            replace H : (whole_Sum.l0 k1 t419 l0 (l0.length : Int) (wrap64 (x8_1 + 1))) = some r := H
            have A5 := Aside0.mk A50
            clear A50
            have H' := Aside0.mk H
            clear H
            have p418 : 0 ≤ (x8_1 : Int) := of_decide_eq_true (by first | (with_reducible assumption) | assumption)
            have q418 : x8_1 < (l0.length : Int) := of_decide_eq_true (by first | (with_reducible assumption) | assumption)
            obtain ⟨ad418, e418, hx418_0⟩ := Kd.at_string HR0.out x8_1 p418 q418
            cases e418
            replace hx418_0 := (HB.out.cell (World.block_lt_of_cell? w _ hx418_0)).trans hx418_0
            replace p418 := eq_true p418
            replace q418 := eq_true q418
            go_wp2_with (first | ((with_reducible refine gate_callee (f := 8) rfl ?_); refine goesL_ (some 14) rfl rfl Tryd.func8 (by kernel_rfl) rfl #[.string x3_1, .string (rdOf ByteArray.empty l0 x8_1)] rfl mq ?_; (with_reducible refine (whole_Add.calls (hT := HT.out.below bq) k1 x3_1 (rdOf ByteArray.empty l0 x8_1) t419 _ A5.out).mono ?_); rintro e w6 ⟨rfl, hb⟩; refine ⟨_, rfl, ?_⟩; replace HB := Aside0.mk (below_step bq hb); (try clear hb); (try clear hb2); (try clear hk); (try clear hi)))
            go_roundg k1
            case measure => have := HK1.out; omega
            case rel => exact ⟨(t419), (wrap64 (x8_1 + 1)), (by first | rfl | (simp; done) | (simp [*]; done)), (by first | rfl | (simp; done) | (simp [*]; done)), H', ⟨by have := HK1.out; omega⟩, ⟨bq⟩⟩
          · rw [if_neg c4] at H
            exact absurd H (by simp)
        · rw [if_neg c3] at H
          exact absurd H (by simp)
      · rw [if_neg c2] at H
        have c2b0 : decide (x8_1 < (l0.length : Int)) = false := decide_eq_false c2
        clear c2
        obtain rfl := Option.some.inj H
        go_wp2
        go_ret
        exact ⟨eq_, bq⟩
def schismalaw02_known.f (k : Nat)  : Option (Bool) := (whole_DivMod.f k (⟨#[45, 55]⟩ : ByteArray) (⟨#[50]⟩ : ByteArray)).bind fun bt420 => ((whole_Bezout.f k (⟨#[45, 49, 50]⟩ : ByteArray) (⟨#[49, 56]⟩ : ByteArray)).bind fun bt423 => ((whole_Parse.f k (⟨#[45, 48, 48, 55]⟩ : ByteArray)).bind fun bt426 => ((whole_Parse.f k (⟨#[43, 49]⟩ : ByteArray)).bind fun bt428 => (if bt420.2.2 = 0 then (if bt420.1.toList = ([45, 52] : List UInt8) then (if bt420.2.1.toList = ([49] : List UInt8) then (if bt423.1.toList = ([54] : List UInt8) then (if bt423.2.1.toList = ([49] : List UInt8) then (if bt423.2.2.toList = ([49] : List UInt8) then (if bt426.2 = 0 then (if bt426.1.toList = ([45, 55] : List UInt8) then (if bt428.2 = 15 then ((whole_Lcm.f k (⟨#[45, 49, 50]⟩ : ByteArray) (⟨#[49, 56]⟩ : ByteArray)).bind fun t430 => (if t430.toList = ([51, 54] : List UInt8) then ((whole_Sum.f k (([(⟨#[49]⟩ : ByteArray), (⟨#[45, 51]⟩ : ByteArray)] : List ByteArray))).bind fun t434 => (some (t434.toList == ([45, 50] : List UInt8)))) else (some false))) else (some false)) else (some false)) else (some false)) else (some false)) else (some false)) else (some false)) else (some false)) else (some false)) else (some false)))))
theorem schismalaw02_known.mono : ∀ k, LeO (schismalaw02_known.f k ) (schismalaw02_known.f (k + 1) ) := by
  intro  k
  unfold schismalaw02_known.f
  repeat' first
      | (with_reducible exact whole_Bezout.mono _ _ _)
      | (with_reducible exact whole_DivMod.mono _ _ _)
      | (with_reducible exact whole_Lcm.mono _ _ _)
      | (with_reducible exact whole_Parse.mono _ _)
      | (with_reducible exact whole_Sum.mono _ _)
      | (with_reducible exact LeO.refl _)
      | (with_reducible exact LeO.none _)
      | (with_reducible refine LeO.ite ?_ ?_)
      | (with_reducible refine LeO.bind ?_ (fun _ => ?_))
      | exact whole_Bezout.mono _ _ _
      | exact whole_DivMod.mono _ _ _
      | exact whole_Lcm.mono _ _ _
      | exact whole_Parse.mono _ _
      | exact whole_Sum.mono _ _
      | exact LeO.none _
      | refine LeO.ite ?_ ?_
      | refine LeO.bind ?_ (fun _ => ?_)
set_option maxHeartbeats 8000000 in
set_option maxRecDepth 100000 in
theorem schismalaw02_known.calls (k : Nat)  (r : Bool) (w : World) (hT : Tab w) (h : schismalaw02_known.f k  = some r) :
    Calls Tryd.prog 5 #[] w fun e w' => e = .returned (.bool r) ∧ Below w.heap.size w w' := by
  have HT := Aside0.mk hT
  clear hT
  have HB := Aside0.mk (Below.refl w.heap.size w)
  have H : ((whole_DivMod.f k (⟨#[45, 55]⟩ : ByteArray) (⟨#[50]⟩ : ByteArray)).bind fun bt420 => ((whole_Bezout.f k (⟨#[45, 49, 50]⟩ : ByteArray) (⟨#[49, 56]⟩ : ByteArray)).bind fun bt423 => ((whole_Parse.f k (⟨#[45, 48, 48, 55]⟩ : ByteArray)).bind fun bt426 => ((whole_Parse.f k (⟨#[43, 49]⟩ : ByteArray)).bind fun bt428 => (if bt420.2.2 = 0 then (if bt420.1.toList = ([45, 52] : List UInt8) then (if bt420.2.1.toList = ([49] : List UInt8) then (if bt423.1.toList = ([54] : List UInt8) then (if bt423.2.1.toList = ([49] : List UInt8) then (if bt423.2.2.toList = ([49] : List UInt8) then (if bt426.2 = 0 then (if bt426.1.toList = ([45, 55] : List UInt8) then (if bt428.2 = 15 then ((whole_Lcm.f k (⟨#[45, 49, 50]⟩ : ByteArray) (⟨#[49, 56]⟩ : ByteArray)).bind fun t430 => (if t430.toList = ([51, 54] : List UInt8) then ((whole_Sum.f k (([(⟨#[49]⟩ : ByteArray), (⟨#[45, 51]⟩ : ByteArray)] : List ByteArray))).bind fun t434 => (some (t434.toList == ([45, 50] : List UInt8)))) else (some false))) else (some false)) else (some false)) else (some false)) else (some false)) else (some false)) else (some false)) else (some false)) else (some false)) else (some false)))))) = some r := h
  clear h
  replace H := Option.bind_eq_some_iff.mp H
  obtain ⟨⟨t420, t421, t422⟩, A10, H⟩ := H
  replace H : ((whole_Bezout.f k (⟨#[45, 49, 50]⟩ : ByteArray) (⟨#[49, 56]⟩ : ByteArray)).bind fun bt423 => ((whole_Parse.f k (⟨#[45, 48, 48, 55]⟩ : ByteArray)).bind fun bt426 => ((whole_Parse.f k (⟨#[43, 49]⟩ : ByteArray)).bind fun bt428 => (if t422 = 0 then (if t420.toList = ([45, 52] : List UInt8) then (if t421.toList = ([49] : List UInt8) then (if bt423.1.toList = ([54] : List UInt8) then (if bt423.2.1.toList = ([49] : List UInt8) then (if bt423.2.2.toList = ([49] : List UInt8) then (if bt426.2 = 0 then (if bt426.1.toList = ([45, 55] : List UInt8) then (if bt428.2 = 15 then ((whole_Lcm.f k (⟨#[45, 49, 50]⟩ : ByteArray) (⟨#[49, 56]⟩ : ByteArray)).bind fun t430 => (if t430.toList = ([51, 54] : List UInt8) then ((whole_Sum.f k (([(⟨#[49]⟩ : ByteArray), (⟨#[45, 51]⟩ : ByteArray)] : List ByteArray))).bind fun t434 => (some (t434.toList == ([45, 50] : List UInt8)))) else (some false))) else (some false)) else (some false)) else (some false)) else (some false)) else (some false)) else (some false)) else (some false)) else (some false)) else (some false))))) = some r := H
  have A1 := Aside0.mk A10
  clear A10
  replace H := Option.bind_eq_some_iff.mp H
  obtain ⟨⟨t423, t424, t425⟩, A20, H⟩ := H
  replace H : ((whole_Parse.f k (⟨#[45, 48, 48, 55]⟩ : ByteArray)).bind fun bt426 => ((whole_Parse.f k (⟨#[43, 49]⟩ : ByteArray)).bind fun bt428 => (if t422 = 0 then (if t420.toList = ([45, 52] : List UInt8) then (if t421.toList = ([49] : List UInt8) then (if t423.toList = ([54] : List UInt8) then (if t424.toList = ([49] : List UInt8) then (if t425.toList = ([49] : List UInt8) then (if bt426.2 = 0 then (if bt426.1.toList = ([45, 55] : List UInt8) then (if bt428.2 = 15 then ((whole_Lcm.f k (⟨#[45, 49, 50]⟩ : ByteArray) (⟨#[49, 56]⟩ : ByteArray)).bind fun t430 => (if t430.toList = ([51, 54] : List UInt8) then ((whole_Sum.f k (([(⟨#[49]⟩ : ByteArray), (⟨#[45, 51]⟩ : ByteArray)] : List ByteArray))).bind fun t434 => (some (t434.toList == ([45, 50] : List UInt8)))) else (some false))) else (some false)) else (some false)) else (some false)) else (some false)) else (some false)) else (some false)) else (some false)) else (some false)) else (some false)))) = some r := H
  have A2 := Aside0.mk A20
  clear A20
  replace H := Option.bind_eq_some_iff.mp H
  obtain ⟨⟨t426, t427⟩, A30, H⟩ := H
  replace H : ((whole_Parse.f k (⟨#[43, 49]⟩ : ByteArray)).bind fun bt428 => (if t422 = 0 then (if t420.toList = ([45, 52] : List UInt8) then (if t421.toList = ([49] : List UInt8) then (if t423.toList = ([54] : List UInt8) then (if t424.toList = ([49] : List UInt8) then (if t425.toList = ([49] : List UInt8) then (if t427 = 0 then (if t426.toList = ([45, 55] : List UInt8) then (if bt428.2 = 15 then ((whole_Lcm.f k (⟨#[45, 49, 50]⟩ : ByteArray) (⟨#[49, 56]⟩ : ByteArray)).bind fun t430 => (if t430.toList = ([51, 54] : List UInt8) then ((whole_Sum.f k (([(⟨#[49]⟩ : ByteArray), (⟨#[45, 51]⟩ : ByteArray)] : List ByteArray))).bind fun t434 => (some (t434.toList == ([45, 50] : List UInt8)))) else (some false))) else (some false)) else (some false)) else (some false)) else (some false)) else (some false)) else (some false)) else (some false)) else (some false)) else (some false))) = some r := H
  have A3 := Aside0.mk A30
  clear A30
  replace H := Option.bind_eq_some_iff.mp H
  obtain ⟨⟨t428, t429⟩, A40, H⟩ := H
  replace H : (if t422 = 0 then (if t420.toList = ([45, 52] : List UInt8) then (if t421.toList = ([49] : List UInt8) then (if t423.toList = ([54] : List UInt8) then (if t424.toList = ([49] : List UInt8) then (if t425.toList = ([49] : List UInt8) then (if t427 = 0 then (if t426.toList = ([45, 55] : List UInt8) then (if t429 = 15 then ((whole_Lcm.f k (⟨#[45, 49, 50]⟩ : ByteArray) (⟨#[49, 56]⟩ : ByteArray)).bind fun t430 => (if t430.toList = ([51, 54] : List UInt8) then ((whole_Sum.f k (([(⟨#[49]⟩ : ByteArray), (⟨#[45, 51]⟩ : ByteArray)] : List ByteArray))).bind fun t434 => (some (t434.toList == ([45, 50] : List UInt8)))) else (some false))) else (some false)) else (some false)) else (some false)) else (some false)) else (some false)) else (some false)) else (some false)) else (some false)) else (some false)) = some r := H
  have A4 := Aside0.mk A40
  clear A40
  by_cases c5 : t422 = 0
  · rw [if_pos c5] at H
    have c5b0 : (t422 == 0) = true := beq_iff_eq.mpr c5
    have c5b1 : (t422 != 0) = false := bne_eq_false_iff_eq.mpr c5
    clear c5
    by_cases c6 : t420.toList = ([45, 52] : List UInt8)
    · rw [if_pos c6] at H
      have c6b0 : (t420.toList == ([45, 52] : List UInt8)) = true := beq_iff_eq.mpr c6
      have c6b1 : (t420.toList != ([45, 52] : List UInt8)) = false := bne_eq_false_iff_eq.mpr c6
      clear c6
      by_cases c7 : t421.toList = ([49] : List UInt8)
      · rw [if_pos c7] at H
        have c7b0 : (t421.toList == ([49] : List UInt8)) = true := beq_iff_eq.mpr c7
        have c7b1 : (t421.toList != ([49] : List UInt8)) = false := bne_eq_false_iff_eq.mpr c7
        clear c7
        by_cases c8 : t423.toList = ([54] : List UInt8)
        · rw [if_pos c8] at H
          have c8b0 : (t423.toList == ([54] : List UInt8)) = true := beq_iff_eq.mpr c8
          have c8b1 : (t423.toList != ([54] : List UInt8)) = false := bne_eq_false_iff_eq.mpr c8
          clear c8
          by_cases c9 : t424.toList = ([49] : List UInt8)
          · rw [if_pos c9] at H
            have c9b0 : (t424.toList == ([49] : List UInt8)) = true := beq_iff_eq.mpr c9
            have c9b1 : (t424.toList != ([49] : List UInt8)) = false := bne_eq_false_iff_eq.mpr c9
            clear c9
            by_cases c10 : t425.toList = ([49] : List UInt8)
            · rw [if_pos c10] at H
              have c10b0 : (t425.toList == ([49] : List UInt8)) = true := beq_iff_eq.mpr c10
              have c10b1 : (t425.toList != ([49] : List UInt8)) = false := bne_eq_false_iff_eq.mpr c10
              clear c10
              by_cases c11 : t427 = 0
              · rw [if_pos c11] at H
                have c11b0 : (t427 == 0) = true := beq_iff_eq.mpr c11
                have c11b1 : (t427 != 0) = false := bne_eq_false_iff_eq.mpr c11
                clear c11
                by_cases c12 : t426.toList = ([45, 55] : List UInt8)
                · rw [if_pos c12] at H
                  have c12b0 : (t426.toList == ([45, 55] : List UInt8)) = true := beq_iff_eq.mpr c12
                  have c12b1 : (t426.toList != ([45, 55] : List UInt8)) = false := bne_eq_false_iff_eq.mpr c12
                  clear c12
                  by_cases c13 : t429 = 15
                  · rw [if_pos c13] at H
                    have c13b0 : (t429 == 15) = true := beq_iff_eq.mpr c13
                    have c13b1 : (t429 != 15) = false := bne_eq_false_iff_eq.mpr c13
                    clear c13
                    replace H := Option.bind_eq_some_iff.mp H
                    obtain ⟨t430, A140, H⟩ := H
                    replace H : (if t430.toList = ([51, 54] : List UInt8) then ((whole_Sum.f k (([(⟨#[49]⟩ : ByteArray), (⟨#[45, 51]⟩ : ByteArray)] : List ByteArray))).bind fun t434 => (some (t434.toList == ([45, 50] : List UInt8)))) else (some false)) = some r := H
                    have A14 := Aside0.mk A140
                    clear A140
                    by_cases c15 : t430.toList = ([51, 54] : List UInt8)
                    · rw [if_pos c15] at H
                      have c15b0 : (t430.toList == ([51, 54] : List UInt8)) = true := beq_iff_eq.mpr c15
                      have c15b1 : (t430.toList != ([51, 54] : List UInt8)) = false := bne_eq_false_iff_eq.mpr c15
                      clear c15
                      obtain ⟨y431, hy431⟩ : ∃ y_ : List ByteArray, y_ = (([(⟨#[49]⟩ : ByteArray), (⟨#[45, 51]⟩ : ByteArray)] : List ByteArray)) := ⟨_, rfl⟩
                      replace H : ((whole_Sum.f k y431).bind fun t434 => (some (t434.toList == ([45, 50] : List UInt8)))) = some r := by first | (rw [hy431]; with_reducible exact H) | (have H2_ := (Option.bind_some _ _).symm.trans H; rw [hy431]; with_reducible exact H2_) | (have H2_ := (Option.bind_some _ _).symm.trans H; with_reducible exact H2_) | with_reducible exact H | (rw [hy431]; exact H) | exact H
                      have Ny431 := Aside0.mk hy431
                      clear hy431
                      replace H := Option.bind_eq_some_iff.mp H
                      obtain ⟨t434, A160, H⟩ := H
                      replace H : (some (t434.toList == ([45, 50] : List UInt8))) = some r := H
                      have A16 := Aside0.mk A160
                      clear A160
                      obtain rfl := Option.some.inj H
                      go_enter Tryd.func5, Tryd.ntmps5
                      go_wp2_with (first | ((with_reducible refine gate_callee (f := 16) rfl ?_); refine goesL_ (some 12) rfl rfl Tryd.func16 (by kernel_rfl) rfl #[.string (⟨#[45, 55]⟩ : ByteArray), .string (⟨#[50]⟩ : ByteArray)] rfl mq ?_; (with_reducible refine (whole_DivMod.calls (hT := HT.out.below bq) k (⟨#[45, 55]⟩ : ByteArray) (⟨#[50]⟩ : ByteArray) t420 t421 t422 _ A1.out).mono ?_); rintro e w17 ⟨rfl, hb⟩; refine ⟨_, rfl, ?_⟩; replace HB := Aside0.mk (below_step bq hb); (try clear hb); (try clear hb2); (try clear hk); (try clear hi)) | ((with_reducible refine gate_callee (f := 15) rfl ?_); refine goesL_ (some 17) rfl rfl Tryd.func15 (by kernel_rfl) rfl #[.string (⟨#[45, 49, 50]⟩ : ByteArray), .string (⟨#[49, 56]⟩ : ByteArray)] rfl mq ?_; (with_reducible refine (whole_Bezout.calls (hT := HT.out.below bq) k (⟨#[45, 49, 50]⟩ : ByteArray) (⟨#[49, 56]⟩ : ByteArray) t423 t424 t425 _ A2.out).mono ?_); rintro e w18 ⟨rfl, hb⟩; refine ⟨_, rfl, ?_⟩; replace HB := Aside0.mk (below_step bq hb); (try clear hb); (try clear hb2); (try clear hk); (try clear hi)) | ((with_reducible refine gate_callee (f := 7) rfl ?_); refine goesL_ (some 22) rfl rfl Tryd.func7 (by kernel_rfl) rfl #[.string (⟨#[45, 48, 48, 55]⟩ : ByteArray)] rfl mq ?_; (with_reducible refine (whole_Parse.calls k (⟨#[45, 48, 48, 55]⟩ : ByteArray) t426 t427 _ A3.out).mono ?_); rintro e w19 ⟨rfl, hb⟩; refine ⟨_, rfl, ?_⟩; replace HB := Aside0.mk (below_step bq hb); (try clear hb); (try clear hb2); (try clear hk); (try clear hi)) | ((with_reducible refine gate_callee (f := 7) rfl ?_); refine goesL_ (some 26) rfl rfl Tryd.func7 (by kernel_rfl) rfl #[.string (⟨#[43, 49]⟩ : ByteArray)] rfl mq ?_; (with_reducible refine (whole_Parse.calls k (⟨#[43, 49]⟩ : ByteArray) t428 t429 _ A4.out).mono ?_); rintro e w20 ⟨rfl, hb⟩; refine ⟨_, rfl, ?_⟩; replace HB := Aside0.mk (below_step bq hb); (try clear hb); (try clear hb2); (try clear hk); (try clear hi)) | (go_at_call 13; (with_reducible refine (whole_Lcm.calls (hT := HT.out.below bq) k (⟨#[45, 49, 50]⟩ : ByteArray) (⟨#[49, 56]⟩ : ByteArray) t430 _ A14.out).mono ?_); rintro e w21 ⟨rfl, hb⟩; replace HB := Aside0.mk (below_step bq hb); (try clear hb); (try clear hb2); (try clear hk); (try clear hi)) | ((with_reducible refine gate_dst (N := 68) rfl ?_); (try (refine gate_guard (by rfl) ?_; dsimp only)); refine Kd.R_lit Kd.string _ 26 ?hg (N := 68) ?hd (xs := ([(⟨#[49]⟩ : ByteArray), (⟨#[45, 51]⟩ : ByteArray)] : List ByteArray)) (inner := [.string (⟨#[49]⟩ : ByteArray), .string (⟨#[45, 51]⟩ : ByteArray)]) (ok := fun _ => True) (okp := fun _ => True) ?hr ?hp (fun _ hk => hk) trivial (Below.refl _ _) (Nat.le_refl _) (by simp) ?_; (case hd => rfl); (case hg => rfl); (case hr => first | (go_simp; done) | (go_simp; rfl)); (case hp => exact (Reps.one (show Kd.M Kd.string _ _ _ (⟨#[49]⟩ : ByteArray) [.string (⟨#[49]⟩ : ByteArray)] from rfl) (Reps.one (show Kd.M Kd.string _ _ _ (⟨#[45, 51]⟩ : ByteArray) [.string (⟨#[45, 51]⟩ : ByteArray)] from rfl) (Reps.none _ _)))); intro v432 w22 ho23 hb hg_ hnew_; clear hg_ hnew_; (first | rw [← Ny431.out] at ho23 | (simp only [Int.reduceToNat] at ho23; rw [← Ny431.out] at ho23)); have n0_ := Aside0.mk (Kd.R_lower ho23 (below_size bq)); have n1_ := Aside0.mk (below_step bq hb); clear HB; have HO433 := n0_; have HB := n1_; clear n0_ n1_; clear hb ho23; obtain ⟨Ao24, co24, eo24⟩ := Kd.R_slice HO433.out; subst eo24) | (go_at_call 18; (with_reducible refine (whole_Sum.calls (hT := HT.out.below bq) k _ _ y431 t434 _ ?side1 ?side2 A16.out).mono ?_); (case side1 => repeat (first | exact (Kd.R_reads' HO433.out).2.2 | (with_reducible refine Kd.C_alloc ?_ _) | (with_reducible refine Kd.C_drewN ?_ _) | (with_reducible refine Kd.C_drew ?_))); (case side2 => exact (Kd.R_reads' HO433.out).2.1); rintro e w25 ⟨rfl, hb⟩; have n0_ := Aside0.mk (Kd.R_below (by (with_reducible repeat (first | apply Kd.R_alloc | apply Kd.R_drewN | apply Kd.R_drew)); exact HO433.out) hb); have n1_ := Aside0.mk (below_step bq hb); clear HO433; clear HB; have HO433 := n0_; have HB := n1_; clear n0_ n1_; (try clear hb); (try clear hb2); (try clear hk); (try clear hi)))
                      go_ret
                      exact ⟨eq_, bq⟩
                    · rw [if_neg c15] at H
                      have c15b0 : (t430.toList == ([51, 54] : List UInt8)) = false := beq_eq_false_iff_ne.mpr c15
                      have c15b1 : (t430.toList != ([51, 54] : List UInt8)) = true := bne_iff_ne.mpr c15
                      obtain rfl := Option.some.inj H
                      go_enter Tryd.func5, Tryd.ntmps5
                      go_wp2_with (first | ((with_reducible refine gate_callee (f := 16) rfl ?_); refine goesL_ (some 12) rfl rfl Tryd.func16 (by kernel_rfl) rfl #[.string (⟨#[45, 55]⟩ : ByteArray), .string (⟨#[50]⟩ : ByteArray)] rfl mq ?_; (with_reducible refine (whole_DivMod.calls (hT := HT.out.below bq) k (⟨#[45, 55]⟩ : ByteArray) (⟨#[50]⟩ : ByteArray) t420 t421 t422 _ A1.out).mono ?_); rintro e w26 ⟨rfl, hb⟩; refine ⟨_, rfl, ?_⟩; replace HB := Aside0.mk (below_step bq hb); (try clear hb); (try clear hb2); (try clear hk); (try clear hi)) | ((with_reducible refine gate_callee (f := 15) rfl ?_); refine goesL_ (some 17) rfl rfl Tryd.func15 (by kernel_rfl) rfl #[.string (⟨#[45, 49, 50]⟩ : ByteArray), .string (⟨#[49, 56]⟩ : ByteArray)] rfl mq ?_; (with_reducible refine (whole_Bezout.calls (hT := HT.out.below bq) k (⟨#[45, 49, 50]⟩ : ByteArray) (⟨#[49, 56]⟩ : ByteArray) t423 t424 t425 _ A2.out).mono ?_); rintro e w27 ⟨rfl, hb⟩; refine ⟨_, rfl, ?_⟩; replace HB := Aside0.mk (below_step bq hb); (try clear hb); (try clear hb2); (try clear hk); (try clear hi)) | ((with_reducible refine gate_callee (f := 7) rfl ?_); refine goesL_ (some 22) rfl rfl Tryd.func7 (by kernel_rfl) rfl #[.string (⟨#[45, 48, 48, 55]⟩ : ByteArray)] rfl mq ?_; (with_reducible refine (whole_Parse.calls k (⟨#[45, 48, 48, 55]⟩ : ByteArray) t426 t427 _ A3.out).mono ?_); rintro e w28 ⟨rfl, hb⟩; refine ⟨_, rfl, ?_⟩; replace HB := Aside0.mk (below_step bq hb); (try clear hb); (try clear hb2); (try clear hk); (try clear hi)) | ((with_reducible refine gate_callee (f := 7) rfl ?_); refine goesL_ (some 26) rfl rfl Tryd.func7 (by kernel_rfl) rfl #[.string (⟨#[43, 49]⟩ : ByteArray)] rfl mq ?_; (with_reducible refine (whole_Parse.calls k (⟨#[43, 49]⟩ : ByteArray) t428 t429 _ A4.out).mono ?_); rintro e w29 ⟨rfl, hb⟩; refine ⟨_, rfl, ?_⟩; replace HB := Aside0.mk (below_step bq hb); (try clear hb); (try clear hb2); (try clear hk); (try clear hi)) | (go_at_call 13; (with_reducible refine (whole_Lcm.calls (hT := HT.out.below bq) k (⟨#[45, 49, 50]⟩ : ByteArray) (⟨#[49, 56]⟩ : ByteArray) t430 _ A14.out).mono ?_); rintro e w30 ⟨rfl, hb⟩; replace HB := Aside0.mk (below_step bq hb); (try clear hb); (try clear hb2); (try clear hk); (try clear hi)))
                      go_ret
                      exact ⟨eq_, bq⟩
                  · rw [if_neg c13] at H
                    have c13b0 : (t429 == 15) = false := beq_eq_false_iff_ne.mpr c13
                    have c13b1 : (t429 != 15) = true := bne_iff_ne.mpr c13
                    obtain rfl := Option.some.inj H
                    go_enter Tryd.func5, Tryd.ntmps5
                    go_wp2_with (first | ((with_reducible refine gate_callee (f := 16) rfl ?_); refine goesL_ (some 12) rfl rfl Tryd.func16 (by kernel_rfl) rfl #[.string (⟨#[45, 55]⟩ : ByteArray), .string (⟨#[50]⟩ : ByteArray)] rfl mq ?_; (with_reducible refine (whole_DivMod.calls (hT := HT.out.below bq) k (⟨#[45, 55]⟩ : ByteArray) (⟨#[50]⟩ : ByteArray) t420 t421 t422 _ A1.out).mono ?_); rintro e w31 ⟨rfl, hb⟩; refine ⟨_, rfl, ?_⟩; replace HB := Aside0.mk (below_step bq hb); (try clear hb); (try clear hb2); (try clear hk); (try clear hi)) | ((with_reducible refine gate_callee (f := 15) rfl ?_); refine goesL_ (some 17) rfl rfl Tryd.func15 (by kernel_rfl) rfl #[.string (⟨#[45, 49, 50]⟩ : ByteArray), .string (⟨#[49, 56]⟩ : ByteArray)] rfl mq ?_; (with_reducible refine (whole_Bezout.calls (hT := HT.out.below bq) k (⟨#[45, 49, 50]⟩ : ByteArray) (⟨#[49, 56]⟩ : ByteArray) t423 t424 t425 _ A2.out).mono ?_); rintro e w32 ⟨rfl, hb⟩; refine ⟨_, rfl, ?_⟩; replace HB := Aside0.mk (below_step bq hb); (try clear hb); (try clear hb2); (try clear hk); (try clear hi)) | ((with_reducible refine gate_callee (f := 7) rfl ?_); refine goesL_ (some 22) rfl rfl Tryd.func7 (by kernel_rfl) rfl #[.string (⟨#[45, 48, 48, 55]⟩ : ByteArray)] rfl mq ?_; (with_reducible refine (whole_Parse.calls k (⟨#[45, 48, 48, 55]⟩ : ByteArray) t426 t427 _ A3.out).mono ?_); rintro e w33 ⟨rfl, hb⟩; refine ⟨_, rfl, ?_⟩; replace HB := Aside0.mk (below_step bq hb); (try clear hb); (try clear hb2); (try clear hk); (try clear hi)) | ((with_reducible refine gate_callee (f := 7) rfl ?_); refine goesL_ (some 26) rfl rfl Tryd.func7 (by kernel_rfl) rfl #[.string (⟨#[43, 49]⟩ : ByteArray)] rfl mq ?_; (with_reducible refine (whole_Parse.calls k (⟨#[43, 49]⟩ : ByteArray) t428 t429 _ A4.out).mono ?_); rintro e w34 ⟨rfl, hb⟩; refine ⟨_, rfl, ?_⟩; replace HB := Aside0.mk (below_step bq hb); (try clear hb); (try clear hb2); (try clear hk); (try clear hi)))
                    go_ret
                    exact ⟨eq_, bq⟩
                · rw [if_neg c12] at H
                  have c12b0 : (t426.toList == ([45, 55] : List UInt8)) = false := beq_eq_false_iff_ne.mpr c12
                  have c12b1 : (t426.toList != ([45, 55] : List UInt8)) = true := bne_iff_ne.mpr c12
                  obtain rfl := Option.some.inj H
                  go_enter Tryd.func5, Tryd.ntmps5
                  go_wp2_with (first | ((with_reducible refine gate_callee (f := 16) rfl ?_); refine goesL_ (some 12) rfl rfl Tryd.func16 (by kernel_rfl) rfl #[.string (⟨#[45, 55]⟩ : ByteArray), .string (⟨#[50]⟩ : ByteArray)] rfl mq ?_; (with_reducible refine (whole_DivMod.calls (hT := HT.out.below bq) k (⟨#[45, 55]⟩ : ByteArray) (⟨#[50]⟩ : ByteArray) t420 t421 t422 _ A1.out).mono ?_); rintro e w35 ⟨rfl, hb⟩; refine ⟨_, rfl, ?_⟩; replace HB := Aside0.mk (below_step bq hb); (try clear hb); (try clear hb2); (try clear hk); (try clear hi)) | ((with_reducible refine gate_callee (f := 15) rfl ?_); refine goesL_ (some 17) rfl rfl Tryd.func15 (by kernel_rfl) rfl #[.string (⟨#[45, 49, 50]⟩ : ByteArray), .string (⟨#[49, 56]⟩ : ByteArray)] rfl mq ?_; (with_reducible refine (whole_Bezout.calls (hT := HT.out.below bq) k (⟨#[45, 49, 50]⟩ : ByteArray) (⟨#[49, 56]⟩ : ByteArray) t423 t424 t425 _ A2.out).mono ?_); rintro e w36 ⟨rfl, hb⟩; refine ⟨_, rfl, ?_⟩; replace HB := Aside0.mk (below_step bq hb); (try clear hb); (try clear hb2); (try clear hk); (try clear hi)) | ((with_reducible refine gate_callee (f := 7) rfl ?_); refine goesL_ (some 22) rfl rfl Tryd.func7 (by kernel_rfl) rfl #[.string (⟨#[45, 48, 48, 55]⟩ : ByteArray)] rfl mq ?_; (with_reducible refine (whole_Parse.calls k (⟨#[45, 48, 48, 55]⟩ : ByteArray) t426 t427 _ A3.out).mono ?_); rintro e w37 ⟨rfl, hb⟩; refine ⟨_, rfl, ?_⟩; replace HB := Aside0.mk (below_step bq hb); (try clear hb); (try clear hb2); (try clear hk); (try clear hi)) | ((with_reducible refine gate_callee (f := 7) rfl ?_); refine goesL_ (some 26) rfl rfl Tryd.func7 (by kernel_rfl) rfl #[.string (⟨#[43, 49]⟩ : ByteArray)] rfl mq ?_; (with_reducible refine (whole_Parse.calls k (⟨#[43, 49]⟩ : ByteArray) t428 t429 _ A4.out).mono ?_); rintro e w38 ⟨rfl, hb⟩; refine ⟨_, rfl, ?_⟩; replace HB := Aside0.mk (below_step bq hb); (try clear hb); (try clear hb2); (try clear hk); (try clear hi)))
                  go_ret
                  exact ⟨eq_, bq⟩
              · rw [if_neg c11] at H
                have c11b0 : (t427 == 0) = false := beq_eq_false_iff_ne.mpr c11
                have c11b1 : (t427 != 0) = true := bne_iff_ne.mpr c11
                obtain rfl := Option.some.inj H
                go_enter Tryd.func5, Tryd.ntmps5
                go_wp2_with (first | ((with_reducible refine gate_callee (f := 16) rfl ?_); refine goesL_ (some 12) rfl rfl Tryd.func16 (by kernel_rfl) rfl #[.string (⟨#[45, 55]⟩ : ByteArray), .string (⟨#[50]⟩ : ByteArray)] rfl mq ?_; (with_reducible refine (whole_DivMod.calls (hT := HT.out.below bq) k (⟨#[45, 55]⟩ : ByteArray) (⟨#[50]⟩ : ByteArray) t420 t421 t422 _ A1.out).mono ?_); rintro e w39 ⟨rfl, hb⟩; refine ⟨_, rfl, ?_⟩; replace HB := Aside0.mk (below_step bq hb); (try clear hb); (try clear hb2); (try clear hk); (try clear hi)) | ((with_reducible refine gate_callee (f := 15) rfl ?_); refine goesL_ (some 17) rfl rfl Tryd.func15 (by kernel_rfl) rfl #[.string (⟨#[45, 49, 50]⟩ : ByteArray), .string (⟨#[49, 56]⟩ : ByteArray)] rfl mq ?_; (with_reducible refine (whole_Bezout.calls (hT := HT.out.below bq) k (⟨#[45, 49, 50]⟩ : ByteArray) (⟨#[49, 56]⟩ : ByteArray) t423 t424 t425 _ A2.out).mono ?_); rintro e w40 ⟨rfl, hb⟩; refine ⟨_, rfl, ?_⟩; replace HB := Aside0.mk (below_step bq hb); (try clear hb); (try clear hb2); (try clear hk); (try clear hi)) | ((with_reducible refine gate_callee (f := 7) rfl ?_); refine goesL_ (some 22) rfl rfl Tryd.func7 (by kernel_rfl) rfl #[.string (⟨#[45, 48, 48, 55]⟩ : ByteArray)] rfl mq ?_; (with_reducible refine (whole_Parse.calls k (⟨#[45, 48, 48, 55]⟩ : ByteArray) t426 t427 _ A3.out).mono ?_); rintro e w41 ⟨rfl, hb⟩; refine ⟨_, rfl, ?_⟩; replace HB := Aside0.mk (below_step bq hb); (try clear hb); (try clear hb2); (try clear hk); (try clear hi)) | ((with_reducible refine gate_callee (f := 7) rfl ?_); refine goesL_ (some 26) rfl rfl Tryd.func7 (by kernel_rfl) rfl #[.string (⟨#[43, 49]⟩ : ByteArray)] rfl mq ?_; (with_reducible refine (whole_Parse.calls k (⟨#[43, 49]⟩ : ByteArray) t428 t429 _ A4.out).mono ?_); rintro e w42 ⟨rfl, hb⟩; refine ⟨_, rfl, ?_⟩; replace HB := Aside0.mk (below_step bq hb); (try clear hb); (try clear hb2); (try clear hk); (try clear hi)))
                go_ret
                exact ⟨eq_, bq⟩
            · rw [if_neg c10] at H
              have c10b0 : (t425.toList == ([49] : List UInt8)) = false := beq_eq_false_iff_ne.mpr c10
              have c10b1 : (t425.toList != ([49] : List UInt8)) = true := bne_iff_ne.mpr c10
              obtain rfl := Option.some.inj H
              go_enter Tryd.func5, Tryd.ntmps5
              go_wp2_with (first | ((with_reducible refine gate_callee (f := 16) rfl ?_); refine goesL_ (some 12) rfl rfl Tryd.func16 (by kernel_rfl) rfl #[.string (⟨#[45, 55]⟩ : ByteArray), .string (⟨#[50]⟩ : ByteArray)] rfl mq ?_; (with_reducible refine (whole_DivMod.calls (hT := HT.out.below bq) k (⟨#[45, 55]⟩ : ByteArray) (⟨#[50]⟩ : ByteArray) t420 t421 t422 _ A1.out).mono ?_); rintro e w43 ⟨rfl, hb⟩; refine ⟨_, rfl, ?_⟩; replace HB := Aside0.mk (below_step bq hb); (try clear hb); (try clear hb2); (try clear hk); (try clear hi)) | ((with_reducible refine gate_callee (f := 15) rfl ?_); refine goesL_ (some 17) rfl rfl Tryd.func15 (by kernel_rfl) rfl #[.string (⟨#[45, 49, 50]⟩ : ByteArray), .string (⟨#[49, 56]⟩ : ByteArray)] rfl mq ?_; (with_reducible refine (whole_Bezout.calls (hT := HT.out.below bq) k (⟨#[45, 49, 50]⟩ : ByteArray) (⟨#[49, 56]⟩ : ByteArray) t423 t424 t425 _ A2.out).mono ?_); rintro e w44 ⟨rfl, hb⟩; refine ⟨_, rfl, ?_⟩; replace HB := Aside0.mk (below_step bq hb); (try clear hb); (try clear hb2); (try clear hk); (try clear hi)) | ((with_reducible refine gate_callee (f := 7) rfl ?_); refine goesL_ (some 22) rfl rfl Tryd.func7 (by kernel_rfl) rfl #[.string (⟨#[45, 48, 48, 55]⟩ : ByteArray)] rfl mq ?_; (with_reducible refine (whole_Parse.calls k (⟨#[45, 48, 48, 55]⟩ : ByteArray) t426 t427 _ A3.out).mono ?_); rintro e w45 ⟨rfl, hb⟩; refine ⟨_, rfl, ?_⟩; replace HB := Aside0.mk (below_step bq hb); (try clear hb); (try clear hb2); (try clear hk); (try clear hi)) | ((with_reducible refine gate_callee (f := 7) rfl ?_); refine goesL_ (some 26) rfl rfl Tryd.func7 (by kernel_rfl) rfl #[.string (⟨#[43, 49]⟩ : ByteArray)] rfl mq ?_; (with_reducible refine (whole_Parse.calls k (⟨#[43, 49]⟩ : ByteArray) t428 t429 _ A4.out).mono ?_); rintro e w46 ⟨rfl, hb⟩; refine ⟨_, rfl, ?_⟩; replace HB := Aside0.mk (below_step bq hb); (try clear hb); (try clear hb2); (try clear hk); (try clear hi)))
              go_ret
              exact ⟨eq_, bq⟩
          · rw [if_neg c9] at H
            have c9b0 : (t424.toList == ([49] : List UInt8)) = false := beq_eq_false_iff_ne.mpr c9
            have c9b1 : (t424.toList != ([49] : List UInt8)) = true := bne_iff_ne.mpr c9
            obtain rfl := Option.some.inj H
            go_enter Tryd.func5, Tryd.ntmps5
            go_wp2_with (first | ((with_reducible refine gate_callee (f := 16) rfl ?_); refine goesL_ (some 12) rfl rfl Tryd.func16 (by kernel_rfl) rfl #[.string (⟨#[45, 55]⟩ : ByteArray), .string (⟨#[50]⟩ : ByteArray)] rfl mq ?_; (with_reducible refine (whole_DivMod.calls (hT := HT.out.below bq) k (⟨#[45, 55]⟩ : ByteArray) (⟨#[50]⟩ : ByteArray) t420 t421 t422 _ A1.out).mono ?_); rintro e w47 ⟨rfl, hb⟩; refine ⟨_, rfl, ?_⟩; replace HB := Aside0.mk (below_step bq hb); (try clear hb); (try clear hb2); (try clear hk); (try clear hi)) | ((with_reducible refine gate_callee (f := 15) rfl ?_); refine goesL_ (some 17) rfl rfl Tryd.func15 (by kernel_rfl) rfl #[.string (⟨#[45, 49, 50]⟩ : ByteArray), .string (⟨#[49, 56]⟩ : ByteArray)] rfl mq ?_; (with_reducible refine (whole_Bezout.calls (hT := HT.out.below bq) k (⟨#[45, 49, 50]⟩ : ByteArray) (⟨#[49, 56]⟩ : ByteArray) t423 t424 t425 _ A2.out).mono ?_); rintro e w48 ⟨rfl, hb⟩; refine ⟨_, rfl, ?_⟩; replace HB := Aside0.mk (below_step bq hb); (try clear hb); (try clear hb2); (try clear hk); (try clear hi)) | ((with_reducible refine gate_callee (f := 7) rfl ?_); refine goesL_ (some 22) rfl rfl Tryd.func7 (by kernel_rfl) rfl #[.string (⟨#[45, 48, 48, 55]⟩ : ByteArray)] rfl mq ?_; (with_reducible refine (whole_Parse.calls k (⟨#[45, 48, 48, 55]⟩ : ByteArray) t426 t427 _ A3.out).mono ?_); rintro e w49 ⟨rfl, hb⟩; refine ⟨_, rfl, ?_⟩; replace HB := Aside0.mk (below_step bq hb); (try clear hb); (try clear hb2); (try clear hk); (try clear hi)) | ((with_reducible refine gate_callee (f := 7) rfl ?_); refine goesL_ (some 26) rfl rfl Tryd.func7 (by kernel_rfl) rfl #[.string (⟨#[43, 49]⟩ : ByteArray)] rfl mq ?_; (with_reducible refine (whole_Parse.calls k (⟨#[43, 49]⟩ : ByteArray) t428 t429 _ A4.out).mono ?_); rintro e w50 ⟨rfl, hb⟩; refine ⟨_, rfl, ?_⟩; replace HB := Aside0.mk (below_step bq hb); (try clear hb); (try clear hb2); (try clear hk); (try clear hi)))
            go_ret
            exact ⟨eq_, bq⟩
        · rw [if_neg c8] at H
          have c8b0 : (t423.toList == ([54] : List UInt8)) = false := beq_eq_false_iff_ne.mpr c8
          have c8b1 : (t423.toList != ([54] : List UInt8)) = true := bne_iff_ne.mpr c8
          obtain rfl := Option.some.inj H
          go_enter Tryd.func5, Tryd.ntmps5
          go_wp2_with (first | ((with_reducible refine gate_callee (f := 16) rfl ?_); refine goesL_ (some 12) rfl rfl Tryd.func16 (by kernel_rfl) rfl #[.string (⟨#[45, 55]⟩ : ByteArray), .string (⟨#[50]⟩ : ByteArray)] rfl mq ?_; (with_reducible refine (whole_DivMod.calls (hT := HT.out.below bq) k (⟨#[45, 55]⟩ : ByteArray) (⟨#[50]⟩ : ByteArray) t420 t421 t422 _ A1.out).mono ?_); rintro e w51 ⟨rfl, hb⟩; refine ⟨_, rfl, ?_⟩; replace HB := Aside0.mk (below_step bq hb); (try clear hb); (try clear hb2); (try clear hk); (try clear hi)) | ((with_reducible refine gate_callee (f := 15) rfl ?_); refine goesL_ (some 17) rfl rfl Tryd.func15 (by kernel_rfl) rfl #[.string (⟨#[45, 49, 50]⟩ : ByteArray), .string (⟨#[49, 56]⟩ : ByteArray)] rfl mq ?_; (with_reducible refine (whole_Bezout.calls (hT := HT.out.below bq) k (⟨#[45, 49, 50]⟩ : ByteArray) (⟨#[49, 56]⟩ : ByteArray) t423 t424 t425 _ A2.out).mono ?_); rintro e w52 ⟨rfl, hb⟩; refine ⟨_, rfl, ?_⟩; replace HB := Aside0.mk (below_step bq hb); (try clear hb); (try clear hb2); (try clear hk); (try clear hi)) | ((with_reducible refine gate_callee (f := 7) rfl ?_); refine goesL_ (some 22) rfl rfl Tryd.func7 (by kernel_rfl) rfl #[.string (⟨#[45, 48, 48, 55]⟩ : ByteArray)] rfl mq ?_; (with_reducible refine (whole_Parse.calls k (⟨#[45, 48, 48, 55]⟩ : ByteArray) t426 t427 _ A3.out).mono ?_); rintro e w53 ⟨rfl, hb⟩; refine ⟨_, rfl, ?_⟩; replace HB := Aside0.mk (below_step bq hb); (try clear hb); (try clear hb2); (try clear hk); (try clear hi)) | ((with_reducible refine gate_callee (f := 7) rfl ?_); refine goesL_ (some 26) rfl rfl Tryd.func7 (by kernel_rfl) rfl #[.string (⟨#[43, 49]⟩ : ByteArray)] rfl mq ?_; (with_reducible refine (whole_Parse.calls k (⟨#[43, 49]⟩ : ByteArray) t428 t429 _ A4.out).mono ?_); rintro e w54 ⟨rfl, hb⟩; refine ⟨_, rfl, ?_⟩; replace HB := Aside0.mk (below_step bq hb); (try clear hb); (try clear hb2); (try clear hk); (try clear hi)))
          go_ret
          exact ⟨eq_, bq⟩
      · rw [if_neg c7] at H
        have c7b0 : (t421.toList == ([49] : List UInt8)) = false := beq_eq_false_iff_ne.mpr c7
        have c7b1 : (t421.toList != ([49] : List UInt8)) = true := bne_iff_ne.mpr c7
        obtain rfl := Option.some.inj H
        go_enter Tryd.func5, Tryd.ntmps5
        go_wp2_with (first | ((with_reducible refine gate_callee (f := 16) rfl ?_); refine goesL_ (some 12) rfl rfl Tryd.func16 (by kernel_rfl) rfl #[.string (⟨#[45, 55]⟩ : ByteArray), .string (⟨#[50]⟩ : ByteArray)] rfl mq ?_; (with_reducible refine (whole_DivMod.calls (hT := HT.out.below bq) k (⟨#[45, 55]⟩ : ByteArray) (⟨#[50]⟩ : ByteArray) t420 t421 t422 _ A1.out).mono ?_); rintro e w55 ⟨rfl, hb⟩; refine ⟨_, rfl, ?_⟩; replace HB := Aside0.mk (below_step bq hb); (try clear hb); (try clear hb2); (try clear hk); (try clear hi)) | ((with_reducible refine gate_callee (f := 15) rfl ?_); refine goesL_ (some 17) rfl rfl Tryd.func15 (by kernel_rfl) rfl #[.string (⟨#[45, 49, 50]⟩ : ByteArray), .string (⟨#[49, 56]⟩ : ByteArray)] rfl mq ?_; (with_reducible refine (whole_Bezout.calls (hT := HT.out.below bq) k (⟨#[45, 49, 50]⟩ : ByteArray) (⟨#[49, 56]⟩ : ByteArray) t423 t424 t425 _ A2.out).mono ?_); rintro e w56 ⟨rfl, hb⟩; refine ⟨_, rfl, ?_⟩; replace HB := Aside0.mk (below_step bq hb); (try clear hb); (try clear hb2); (try clear hk); (try clear hi)) | ((with_reducible refine gate_callee (f := 7) rfl ?_); refine goesL_ (some 22) rfl rfl Tryd.func7 (by kernel_rfl) rfl #[.string (⟨#[45, 48, 48, 55]⟩ : ByteArray)] rfl mq ?_; (with_reducible refine (whole_Parse.calls k (⟨#[45, 48, 48, 55]⟩ : ByteArray) t426 t427 _ A3.out).mono ?_); rintro e w57 ⟨rfl, hb⟩; refine ⟨_, rfl, ?_⟩; replace HB := Aside0.mk (below_step bq hb); (try clear hb); (try clear hb2); (try clear hk); (try clear hi)) | ((with_reducible refine gate_callee (f := 7) rfl ?_); refine goesL_ (some 26) rfl rfl Tryd.func7 (by kernel_rfl) rfl #[.string (⟨#[43, 49]⟩ : ByteArray)] rfl mq ?_; (with_reducible refine (whole_Parse.calls k (⟨#[43, 49]⟩ : ByteArray) t428 t429 _ A4.out).mono ?_); rintro e w58 ⟨rfl, hb⟩; refine ⟨_, rfl, ?_⟩; replace HB := Aside0.mk (below_step bq hb); (try clear hb); (try clear hb2); (try clear hk); (try clear hi)))
        go_ret
        exact ⟨eq_, bq⟩
    · rw [if_neg c6] at H
      have c6b0 : (t420.toList == ([45, 52] : List UInt8)) = false := beq_eq_false_iff_ne.mpr c6
      have c6b1 : (t420.toList != ([45, 52] : List UInt8)) = true := bne_iff_ne.mpr c6
      obtain rfl := Option.some.inj H
      go_enter Tryd.func5, Tryd.ntmps5
      go_wp2_with (first | ((with_reducible refine gate_callee (f := 16) rfl ?_); refine goesL_ (some 12) rfl rfl Tryd.func16 (by kernel_rfl) rfl #[.string (⟨#[45, 55]⟩ : ByteArray), .string (⟨#[50]⟩ : ByteArray)] rfl mq ?_; (with_reducible refine (whole_DivMod.calls (hT := HT.out.below bq) k (⟨#[45, 55]⟩ : ByteArray) (⟨#[50]⟩ : ByteArray) t420 t421 t422 _ A1.out).mono ?_); rintro e w59 ⟨rfl, hb⟩; refine ⟨_, rfl, ?_⟩; replace HB := Aside0.mk (below_step bq hb); (try clear hb); (try clear hb2); (try clear hk); (try clear hi)) | ((with_reducible refine gate_callee (f := 15) rfl ?_); refine goesL_ (some 17) rfl rfl Tryd.func15 (by kernel_rfl) rfl #[.string (⟨#[45, 49, 50]⟩ : ByteArray), .string (⟨#[49, 56]⟩ : ByteArray)] rfl mq ?_; (with_reducible refine (whole_Bezout.calls (hT := HT.out.below bq) k (⟨#[45, 49, 50]⟩ : ByteArray) (⟨#[49, 56]⟩ : ByteArray) t423 t424 t425 _ A2.out).mono ?_); rintro e w60 ⟨rfl, hb⟩; refine ⟨_, rfl, ?_⟩; replace HB := Aside0.mk (below_step bq hb); (try clear hb); (try clear hb2); (try clear hk); (try clear hi)) | ((with_reducible refine gate_callee (f := 7) rfl ?_); refine goesL_ (some 22) rfl rfl Tryd.func7 (by kernel_rfl) rfl #[.string (⟨#[45, 48, 48, 55]⟩ : ByteArray)] rfl mq ?_; (with_reducible refine (whole_Parse.calls k (⟨#[45, 48, 48, 55]⟩ : ByteArray) t426 t427 _ A3.out).mono ?_); rintro e w61 ⟨rfl, hb⟩; refine ⟨_, rfl, ?_⟩; replace HB := Aside0.mk (below_step bq hb); (try clear hb); (try clear hb2); (try clear hk); (try clear hi)) | ((with_reducible refine gate_callee (f := 7) rfl ?_); refine goesL_ (some 26) rfl rfl Tryd.func7 (by kernel_rfl) rfl #[.string (⟨#[43, 49]⟩ : ByteArray)] rfl mq ?_; (with_reducible refine (whole_Parse.calls k (⟨#[43, 49]⟩ : ByteArray) t428 t429 _ A4.out).mono ?_); rintro e w62 ⟨rfl, hb⟩; refine ⟨_, rfl, ?_⟩; replace HB := Aside0.mk (below_step bq hb); (try clear hb); (try clear hb2); (try clear hk); (try clear hi)))
      go_ret
      exact ⟨eq_, bq⟩
  · rw [if_neg c5] at H
    have c5b0 : (t422 == 0) = false := beq_eq_false_iff_ne.mpr c5
    have c5b1 : (t422 != 0) = true := bne_iff_ne.mpr c5
    obtain rfl := Option.some.inj H
    go_enter Tryd.func5, Tryd.ntmps5
    go_wp2_with (first | ((with_reducible refine gate_callee (f := 16) rfl ?_); refine goesL_ (some 12) rfl rfl Tryd.func16 (by kernel_rfl) rfl #[.string (⟨#[45, 55]⟩ : ByteArray), .string (⟨#[50]⟩ : ByteArray)] rfl mq ?_; (with_reducible refine (whole_DivMod.calls (hT := HT.out.below bq) k (⟨#[45, 55]⟩ : ByteArray) (⟨#[50]⟩ : ByteArray) t420 t421 t422 _ A1.out).mono ?_); rintro e w63 ⟨rfl, hb⟩; refine ⟨_, rfl, ?_⟩; replace HB := Aside0.mk (below_step bq hb); (try clear hb); (try clear hb2); (try clear hk); (try clear hi)) | ((with_reducible refine gate_callee (f := 15) rfl ?_); refine goesL_ (some 17) rfl rfl Tryd.func15 (by kernel_rfl) rfl #[.string (⟨#[45, 49, 50]⟩ : ByteArray), .string (⟨#[49, 56]⟩ : ByteArray)] rfl mq ?_; (with_reducible refine (whole_Bezout.calls (hT := HT.out.below bq) k (⟨#[45, 49, 50]⟩ : ByteArray) (⟨#[49, 56]⟩ : ByteArray) t423 t424 t425 _ A2.out).mono ?_); rintro e w64 ⟨rfl, hb⟩; refine ⟨_, rfl, ?_⟩; replace HB := Aside0.mk (below_step bq hb); (try clear hb); (try clear hb2); (try clear hk); (try clear hi)) | ((with_reducible refine gate_callee (f := 7) rfl ?_); refine goesL_ (some 22) rfl rfl Tryd.func7 (by kernel_rfl) rfl #[.string (⟨#[45, 48, 48, 55]⟩ : ByteArray)] rfl mq ?_; (with_reducible refine (whole_Parse.calls k (⟨#[45, 48, 48, 55]⟩ : ByteArray) t426 t427 _ A3.out).mono ?_); rintro e w65 ⟨rfl, hb⟩; refine ⟨_, rfl, ?_⟩; replace HB := Aside0.mk (below_step bq hb); (try clear hb); (try clear hb2); (try clear hk); (try clear hi)) | ((with_reducible refine gate_callee (f := 7) rfl ?_); refine goesL_ (some 26) rfl rfl Tryd.func7 (by kernel_rfl) rfl #[.string (⟨#[43, 49]⟩ : ByteArray)] rfl mq ?_; (with_reducible refine (whole_Parse.calls k (⟨#[43, 49]⟩ : ByteArray) t428 t429 _ A4.out).mono ?_); rintro e w66 ⟨rfl, hb⟩; refine ⟨_, rfl, ?_⟩; replace HB := Aside0.mk (below_step bq hb); (try clear hb); (try clear hb2); (try clear hk); (try clear hi)))
    go_ret
    exact ⟨eq_, bq⟩
mutual
def schismaref02_Parse.j0 : Nat → ByteArray → Bool → Option (ByteArray × Int)
  | 0, _, _ => none
  | k + 1, x0, x4 => if x0.toList = ([] : List UInt8) then (some ((⟨#[]⟩ : ByteArray), 15)) else (schismaref02_Parse.l0 k x0 x4 0)
def schismaref02_Parse.l0 : Nat → ByteArray → Bool → Int → Option (ByteArray × Int)
  | 0, _, _, _ => none
  | k + 1, x0, x4, x5 => if x5 < (x0.size : Int) then (if 0 ≤ x5 then (if (bt x0 x5) < 48 then (some ((⟨#[]⟩ : ByteArray), 15)) else (if (bt x0 x5) > 57 then (some ((⟨#[]⟩ : ByteArray), 15)) else (schismaref02_Parse.l0 k x0 x4 (wrap64 (x5 + 1))))) else (none)) else (schismaref02_Parse.l1 k x0 x4)
def schismaref02_Parse.j3 : Nat → ByteArray → Bool → Option (ByteArray × Int)
  | 0, _, _ => none
  | k + 1, x0, x4 => if (x0.size : Int) > 400 then (some ((⟨#[]⟩ : ByteArray), 4)) else (if x4 = true then (if x0.toList = ([48] : List UInt8) then (some (x0, 0)) else (if 1 + x0.size ≤ 9223372036854775807 then (some ((⟨#[45]⟩ : ByteArray) ++ x0, 0)) else (none))) else (some (x0, 0)))
def schismaref02_Parse.l1 : Nat → ByteArray → Bool → Option (ByteArray × Int)
  | 0, _, _ => none
  | k + 1, x0, x4 => if (x0.size : Int) > 1 then (if 0 < (x0.size : Int) then (if (bt x0 0) = 48 then (if 1 ≤ (x0.size : Int) then (schismaref02_Parse.l1 k (x0.extract 1 x0.size) x4) else (none)) else (schismaref02_Parse.j3 k x0 x4)) else (none)) else (schismaref02_Parse.j3 k x0 x4)
end
def schismaref02_Parse.f (k : Nat) (a0 : ByteArray) : Option (ByteArray × Int) := if a0.toList = ([] : List UInt8) then (some ((⟨#[]⟩ : ByteArray), 13)) else (if 0 < (a0.size : Int) then (if (bt a0 0) = 45 then (if 1 ≤ (a0.size : Int) then (schismaref02_Parse.j0 k (a0.extract 1 a0.size) ((bt a0 0) == 45)) else (none)) else (schismaref02_Parse.j0 k a0 ((bt a0 0) == 45))) else (none))
theorem schismaref02_Parse.mono_l : ∀ k, (∀ y0 y1, LeO (schismaref02_Parse.j0 k y0 y1) (schismaref02_Parse.j0 (k + 1) y0 y1)) ∧ (∀ y0 y1 y2, LeO (schismaref02_Parse.l0 k y0 y1 y2) (schismaref02_Parse.l0 (k + 1) y0 y1 y2)) ∧ (∀ y0 y1, LeO (schismaref02_Parse.j3 k y0 y1) (schismaref02_Parse.j3 (k + 1) y0 y1)) ∧ (∀ y0 y1, LeO (schismaref02_Parse.l1 k y0 y1) (schismaref02_Parse.l1 (k + 1) y0 y1))
  | 0 => ⟨fun _ _ r h => by simp [schismaref02_Parse.j0] at h, fun _ _ _ r h => by simp [schismaref02_Parse.l0] at h, fun _ _ r h => by simp [schismaref02_Parse.j3] at h, fun _ _ r h => by simp [schismaref02_Parse.l1] at h⟩
  | k + 1 => by
    obtain ⟨ih0, ih1, ih2, ih3⟩ := schismaref02_Parse.mono_l k
    refine ⟨?_, ?_, ?_, ?_⟩
    · intro y0 y1
      unfold schismaref02_Parse.j0
      repeat' first
      | (with_reducible exact ih0 _ _)
      | (with_reducible exact ih1 _ _ _)
      | (with_reducible exact ih2 _ _)
      | (with_reducible exact ih3 _ _)
      | (with_reducible exact LeO.refl _)
      | (with_reducible exact LeO.none _)
      | (with_reducible refine LeO.ite ?_ ?_)
      | (with_reducible refine LeO.bind ?_ (fun _ => ?_))
      | exact ih0 _ _
      | exact ih1 _ _ _
      | exact ih2 _ _
      | exact ih3 _ _
      | exact LeO.none _
      | refine LeO.ite ?_ ?_
      | refine LeO.bind ?_ (fun _ => ?_)
    · intro y0 y1 y2
      unfold schismaref02_Parse.l0
      repeat' first
      | (with_reducible exact ih0 _ _)
      | (with_reducible exact ih1 _ _ _)
      | (with_reducible exact ih2 _ _)
      | (with_reducible exact ih3 _ _)
      | (with_reducible exact LeO.refl _)
      | (with_reducible exact LeO.none _)
      | (with_reducible refine LeO.ite ?_ ?_)
      | (with_reducible refine LeO.bind ?_ (fun _ => ?_))
      | exact ih0 _ _
      | exact ih1 _ _ _
      | exact ih2 _ _
      | exact ih3 _ _
      | exact LeO.none _
      | refine LeO.ite ?_ ?_
      | refine LeO.bind ?_ (fun _ => ?_)
    · intro y0 y1
      unfold schismaref02_Parse.j3
      repeat' first
      | (with_reducible exact ih0 _ _)
      | (with_reducible exact ih1 _ _ _)
      | (with_reducible exact ih2 _ _)
      | (with_reducible exact ih3 _ _)
      | (with_reducible exact LeO.refl _)
      | (with_reducible exact LeO.none _)
      | (with_reducible refine LeO.ite ?_ ?_)
      | (with_reducible refine LeO.bind ?_ (fun _ => ?_))
      | exact ih0 _ _
      | exact ih1 _ _ _
      | exact ih2 _ _
      | exact ih3 _ _
      | exact LeO.none _
      | refine LeO.ite ?_ ?_
      | refine LeO.bind ?_ (fun _ => ?_)
    · intro y0 y1
      unfold schismaref02_Parse.l1
      repeat' first
      | (with_reducible exact ih0 _ _)
      | (with_reducible exact ih1 _ _ _)
      | (with_reducible exact ih2 _ _)
      | (with_reducible exact ih3 _ _)
      | (with_reducible exact LeO.refl _)
      | (with_reducible exact LeO.none _)
      | (with_reducible refine LeO.ite ?_ ?_)
      | (with_reducible refine LeO.bind ?_ (fun _ => ?_))
      | exact ih0 _ _
      | exact ih1 _ _ _
      | exact ih2 _ _
      | exact ih3 _ _
      | exact LeO.none _
      | refine LeO.ite ?_ ?_
      | refine LeO.bind ?_ (fun _ => ?_)
theorem schismaref02_Parse.mono : ∀ a0 k, LeO (schismaref02_Parse.f k a0) (schismaref02_Parse.f (k + 1) a0) := by
  intro a0 k
  obtain ⟨ih0, ih1, ih2, ih3⟩ := schismaref02_Parse.mono_l k
  unfold schismaref02_Parse.f
  repeat' first
      | (with_reducible exact ih0 _ _)
      | (with_reducible exact ih1 _ _ _)
      | (with_reducible exact ih2 _ _)
      | (with_reducible exact ih3 _ _)
      | (with_reducible exact LeO.refl _)
      | (with_reducible exact LeO.none _)
      | (with_reducible refine LeO.ite ?_ ?_)
      | (with_reducible refine LeO.bind ?_ (fun _ => ?_))
      | exact ih0 _ _
      | exact ih1 _ _ _
      | exact ih2 _ _
      | exact ih3 _ _
      | exact LeO.none _
      | refine LeO.ite ?_ ?_
      | refine LeO.bind ?_ (fun _ => ?_)
set_option maxHeartbeats 8000000 in
set_option maxRecDepth 100000 in
theorem schismaref02_Parse.calls (k : Nat) (a0 : ByteArray) (r1 : ByteArray) (r2 : Int) (w : World) (h : schismaref02_Parse.f k a0 = some (r1, r2)) :
    Calls Tryd.prog 19 #[.string a0] w fun e w' => e = .returned (.tuple #[.string r1, .int .i64 r2]) ∧ Drawn0 w w' := by
  have H : (if a0.toList = ([] : List UInt8) then (some ((⟨#[]⟩ : ByteArray), 13)) else (if 0 < (a0.size : Int) then (if (bt a0 0) = 45 then (if 1 ≤ (a0.size : Int) then (schismaref02_Parse.j0 k (a0.extract 1 a0.size) ((bt a0 0) == 45)) else (none)) else (schismaref02_Parse.j0 k a0 ((bt a0 0) == 45))) else (none))) = some (r1, r2) := h
  clear h
  by_cases c2 : a0.toList = ([] : List UInt8)
  · rw [if_pos c2] at H
    have c2b0 : (a0.toList == ([] : List UInt8)) = true := beq_iff_eq.mpr c2
    have c2b1 : (a0.toList != ([] : List UInt8)) = false := bne_eq_false_iff_eq.mpr c2
    clear c2
    simp only [Option.some.injEq, Prod.mk.injEq] at H
    obtain ⟨rfl, rfl⟩ := H
    go_enter Tryd.func19, Tryd.ntmps19
    go_wp2
    go_ret2
    exact ⟨by first | rfl | (simp; done) | (simp [wrap64]; done) | (simp [*]; done), by repeat (first | exact Drawn0.refl _ | apply Drawn0.step)⟩
  · rw [if_neg c2] at H
    have c2b0 : (a0.toList == ([] : List UInt8)) = false := beq_eq_false_iff_ne.mpr c2
    have c2b1 : (a0.toList != ([] : List UInt8)) = true := bne_iff_ne.mpr c2
    by_cases c3 : 0 < (a0.size : Int)
    · rw [if_pos c3] at H
      have c3b0 : decide (0 < (a0.size : Int)) = true := decide_eq_true c3
      have c3b1 : decide (0 < a0.size) = true := decide_eq_true (by omega)
      clear c3
      have HC5 := Aside0.mk H
      clear H
      have p4 : 0 ≤ (0 : Int) := (by omega)
      have q4 : 0 < a0.size := (by have : (0 : Int) < (a0.size : Int) := of_decide_eq_true (by first | (with_reducible assumption) | assumption); omega)
      have hx4 : ∀ h : 0 < a0.size, ((a0[0]'h).toNat : Int) = bt a0 0 := bt_at a0 0
      clear p4
      have qi4 : (0 < (a0.size : Int)) = True := eq_true (of_decide_eq_true (by first | (with_reducible assumption) | assumption))
      replace q4 := eq_true q4
      go_enter Tryd.func19, Tryd.ntmps19
      go_upto_if 11 with (fail)
      go_cut [0] (fun v0 wc => ∃ (kq : Nat) (x0_4 : ByteArray), v0 = .string x0_4 ∧ Aside0 (schismaref02_Parse.j0 kq x0_4 ((bt a0 0) == 45) = some (r1, r2)) ∧ Aside0 (kq ≤ k) ∧ Drawn0 w wc)
      case first =>
        have H := HC5.out
        clear HC5
        by_cases c6 : (bt a0 0) = 45
        · rw [if_pos c6] at H
          have c6b0 : ((bt a0 0) == 45) = true := beq_iff_eq.mpr c6
          have c6b1 : ((bt a0 0) != 45) = false := bne_eq_false_iff_eq.mpr c6
          clear c6
          (first | rw [c6b0] | (simp only [i64_w, i32_w]; rw [c6b0]) | skip)
          try simp only [c6b0] at *
          by_cases c7 : 1 ≤ (a0.size : Int)
          · rw [if_pos c7] at H
            have c7b0 := eq_true c7
            have c7b1 : decide (1 ≤ (a0.size : Int)) = true := decide_eq_true c7
            clear c7
            have H' := Aside0.mk H
            clear H
            go_wp2
            go_meet
            case rel => exact ⟨_, (a0.extract 1 a0.size), (by first | rfl | (simp; done) | (simp [*]; done)), H', ⟨by first | omega | exact Nat.le_refl _⟩, by repeat (first | exact Drawn0.refl _ | apply Drawn0.step)⟩
          · rw [if_neg c7] at H
            exact absurd H (by simp)
        · rw [if_neg c6] at H
          have c6b0 : ((bt a0 0) == 45) = false := beq_eq_false_iff_ne.mpr c6
          have c6b1 : ((bt a0 0) != 45) = true := bne_iff_ne.mpr c6
          (first | rw [c6b0] | (simp only [i64_w, i32_w]; rw [c6b0]) | skip)
          try simp only [c6b0] at *
          have H' := Aside0.mk H
          clear H
          go_wp2
          go_meet
          case rel => exact ⟨_, (a0), (by first | rfl | (simp; done) | (simp [*]; done)), H', ⟨by first | omega | exact Nat.le_refl _⟩, by repeat (first | exact Drawn0.refl _ | apply Drawn0.step)⟩
      case rest =>
        clear HC5
        try clear c1
        try clear c2
        try clear c2b0
        try clear c2b1
        try clear p2
        try clear c3
        try clear c3b0
        try clear c3b1
        try clear p4
        try clear q4
        try clear hx4
        try clear qi4
        try clear c6
        try clear c6b0
        try clear c6b1
        try clear c7
        try clear c7b0
        try clear c7b1
        try clear p4
        try clear q4
        obtain ⟨kq, x0_4, rfl, HA, HJ4, ⟨mc4, rfl⟩⟩ := hcut
        cases kq with
        | zero => exact absurd HA.out (by simp [schismaref02_Parse.j0])
        | succ kj4 =>
          have H := HA.out
          clear HA
          simp only [schismaref02_Parse.j0] at H
          by_cases c8 : x0_4.toList = ([] : List UInt8)
          · rw [if_pos c8] at H
            have c8b0 : (x0_4.toList == ([] : List UInt8)) = true := beq_iff_eq.mpr c8
            have c8b1 : (x0_4.toList != ([] : List UInt8)) = false := bne_eq_false_iff_eq.mpr c8
            clear c8
            simp only [Option.some.injEq, Prod.mk.injEq] at H
            obtain ⟨rfl, rfl⟩ := H
            go_wp2
            go_ret2
            exact ⟨by first | rfl | (simp; done) | (simp [wrap64]; done) | (simp [*]; done), by repeat (first | exact Drawn0.refl _ | apply Drawn0.step)⟩
          · rw [if_neg c8] at H
            have c8b0 : (x0_4.toList == ([] : List UInt8)) = false := beq_eq_false_iff_ne.mpr c8
            have c8b1 : (x0_4.toList != ([] : List UInt8)) = true := bne_iff_ne.mpr c8
            have H' := Aside0.mk H
            clear H
            go_wp2
            go_loopg [5] kj4 (fun kq v5 w' => ∃ (x5_2 : Int), v5 = .int .i64 x5_2 ∧ Aside0 (schismaref02_Parse.l0 kq x0_4 ((bt a0 0) == 45) x5_2 = some (r1, r2)) ∧ Aside0 (kq ≤ kj4) ∧ Drawn0 w w')
            case atStart => exact ⟨(0), (by first | rfl | (simp; done) | (simp [*]; done)), H', ⟨Nat.le_refl _⟩, by repeat (first | exact Drawn0.refl _ | apply Drawn0.step)⟩
            case round =>
              clear H'
              try clear c1
              try clear c2
              try clear c2b0
              try clear c2b1
              try clear p2
              try clear c3
              try clear c3b0
              try clear c3b1
              try clear c4
              try clear p4
              try clear q4
              try clear hx4
              try clear qi4
              try clear c6
              try clear c6b0
              try clear c6b1
              try clear c7
              try clear c7b0
              try clear c7b1
              try clear c8
              try clear c8b0
              try clear c8b1
              try clear p2
              try clear p4
              try clear q4
              obtain ⟨x5_2, rfl, HA, HK2, ⟨m2, rfl⟩⟩ := hrel
              cases gk with
              | zero => exact absurd HA.out (by simp [schismaref02_Parse.l0])
              | succ k2 =>
                have H := HA.out
                clear HA
                simp only [schismaref02_Parse.l0] at H
                by_cases c9 : x5_2 < (x0_4.size : Int)
                · rw [if_pos c9] at H
                  have c9b0 : decide (x5_2 < (x0_4.size : Int)) = true := decide_eq_true c9
                  clear c9
                  by_cases c10 : 0 ≤ x5_2
                  · rw [if_pos c10] at H
                    have c10b0 : decide (0 ≤ x5_2) = true := decide_eq_true c10
                    clear c10
                    by_cases c12 : (bt x0_4 x5_2) < 48
                    · rw [if_pos c12] at H
                      have c12b0 : decide ((bt x0_4 x5_2) < 48) = true := decide_eq_true c12
                      clear c12
                      simp only [Option.some.injEq, Prod.mk.injEq] at H
                      obtain ⟨rfl, rfl⟩ := H
                      have p11 : 0 ≤ (x5_2 : Int) := of_decide_eq_true (by first | (with_reducible assumption) | assumption)
                      have q11 : x5_2 < (x0_4.size : Int) := of_decide_eq_true (by first | (with_reducible assumption) | assumption)
                      have hx11 := bt_at x0_4 x5_2
                      replace p11 := eq_true p11
                      replace q11 := eq_true q11
                      go_wp2
                      go_ret2
                      exact ⟨by first | rfl | (simp; done) | (simp [wrap64]; done) | (simp [*]; done), by repeat (first | exact Drawn0.refl _ | apply Drawn0.step)⟩
                    · rw [if_neg c12] at H
                      have c12b0 : decide ((bt x0_4 x5_2) < 48) = false := decide_eq_false c12
                      clear c12
                      by_cases c14 : (bt x0_4 x5_2) > 57
                      · rw [if_pos c14] at H
                        have c14b0 : decide (57 < (bt x0_4 x5_2)) = true := decide_eq_true c14
                        clear c14
                        simp only [Option.some.injEq, Prod.mk.injEq] at H
                        obtain ⟨rfl, rfl⟩ := H
                        have p11 : 0 ≤ (x5_2 : Int) := of_decide_eq_true (by first | (with_reducible assumption) | assumption)
                        have q11 : x5_2 < (x0_4.size : Int) := of_decide_eq_true (by first | (with_reducible assumption) | assumption)
                        have hx11 := bt_at x0_4 x5_2
                        replace p11 := eq_true p11
                        replace q11 := eq_true q11
                        have p13 : 0 ≤ (x5_2 : Int) := of_decide_eq_true (by first | (with_reducible assumption) | assumption)
                        have q13 : x5_2 < (x0_4.size : Int) := of_decide_eq_true (by first | (with_reducible assumption) | assumption)
                        have hx13 := bt_at x0_4 x5_2
                        replace p13 := eq_true p13
                        replace q13 := eq_true q13
                        go_wp2
                        go_ret2
                        exact ⟨by first | rfl | (simp; done) | (simp [wrap64]; done) | (simp [*]; done), by repeat (first | exact Drawn0.refl _ | apply Drawn0.step)⟩
                      · rw [if_neg c14] at H
                        have c14b0 : decide (57 < (bt x0_4 x5_2)) = false := decide_eq_false c14
                        clear c14
                        have H' := Aside0.mk H
                        clear H
                        have p11 : 0 ≤ (x5_2 : Int) := of_decide_eq_true (by first | (with_reducible assumption) | assumption)
                        have q11 : x5_2 < (x0_4.size : Int) := of_decide_eq_true (by first | (with_reducible assumption) | assumption)
                        have hx11 := bt_at x0_4 x5_2
                        replace p11 := eq_true p11
                        replace q11 := eq_true q11
                        have p13 : 0 ≤ (x5_2 : Int) := of_decide_eq_true (by first | (with_reducible assumption) | assumption)
                        have q13 : x5_2 < (x0_4.size : Int) := of_decide_eq_true (by first | (with_reducible assumption) | assumption)
                        have hx13 := bt_at x0_4 x5_2
                        replace p13 := eq_true p13
                        replace q13 := eq_true q13
                        go_wp2
                        go_roundg k2
                        case measure => have := HJ4.out; have := HK2.out; omega
                        case rel => exact ⟨(wrap64 (x5_2 + 1)), (by first | rfl | (simp; done) | (simp [*]; done)), H', ⟨by have := HJ4.out; have := HK2.out; omega⟩, by repeat (first | exact Drawn0.refl _ | apply Drawn0.step)⟩
                  · rw [if_neg c10] at H
                    exact absurd H (by simp)
                · rw [if_neg c9] at H
                  have c9b0 : decide (x5_2 < (x0_4.size : Int)) = false := decide_eq_false c9
                  clear c9
                  have HC15 := Aside0.mk H
                  clear H
                  go_upto_block 2 with (fail)
                  go_cut [0] (fun v0 wc => ∃ (kq : Nat) (x0_14 : ByteArray), v0 = .string x0_14 ∧ Aside0 (schismaref02_Parse.j3 kq x0_14 ((bt a0 0) == 45) = some (r1, r2)) ∧ Aside0 (kq ≤ k2) ∧ Drawn0 w wc)
                  case first =>
                    have H := HC15.out
                    clear HC15
                    have H' := Aside0.mk H
                    clear H
                    go_wp2
                    go_loopg [0] k2 (fun kq v0 w' => ∃ (x0_3 : ByteArray), v0 = .string x0_3 ∧ Aside0 (schismaref02_Parse.l1 kq x0_3 ((bt a0 0) == 45) = some (r1, r2)) ∧ Aside0 (kq ≤ k2) ∧ Drawn0 w w')
                    case atStart => exact ⟨(x0_4), (by first | rfl | (simp; done) | (simp [*]; done)), H', ⟨Nat.le_refl _⟩, by repeat (first | exact Drawn0.refl _ | apply Drawn0.step)⟩
                    case round =>
                      clear H'
                      try clear c1
                      try clear p1
                      try clear q1
                      try clear hx1
                      try clear c2
                      try clear c2b0
                      try clear c2b1
                      try clear p2
                      try clear c3
                      try clear c3b0
                      try clear c3b1
                      try clear c4
                      try clear p4
                      try clear q4
                      try clear hx4
                      try clear qi4
                      try clear c6
                      try clear c6b0
                      try clear c6b1
                      try clear p6
                      try clear c7
                      try clear c7b0
                      try clear c7b1
                      try clear c8
                      try clear c8b0
                      try clear c8b1
                      try clear c9
                      try clear c9b0
                      try clear c10
                      try clear c10b0
                      try clear p11
                      try clear q11
                      try clear hx11
                      try clear c12
                      try clear c12b0
                      try clear p13
                      try clear q13
                      try clear hx13
                      try clear c14
                      try clear c14b0
                      try clear p11
                      try clear p13
                      try clear p2
                      try clear p4
                      try clear q11
                      try clear q13
                      try clear q4
                      obtain ⟨x0_3, rfl, HA, HK3, ⟨m3, rfl⟩⟩ := hrel
                      cases gk with
                      | zero => exact absurd HA.out (by simp [schismaref02_Parse.l1])
                      | succ k3 =>
                        have H := HA.out
                        clear HA
                        simp only [schismaref02_Parse.l1] at H
                        by_cases c16 : (x0_3.size : Int) > 1
                        · rw [if_pos c16] at H
                          have c16b0 : decide (1 < (x0_3.size : Int)) = true := decide_eq_true c16
                          have c16b1 : decide (1 < x0_3.size) = true := decide_eq_true (by omega)
                          clear c16
                          (first | rw [c16b0] | (simp only [i64_w, i32_w]; rw [c16b0]) | skip)
                          by_cases c17 : 0 < (x0_3.size : Int)
                          · rw [if_pos c17] at H
                            have c17b0 : decide (0 < (x0_3.size : Int)) = true := decide_eq_true c17
                            have c17b1 : decide (0 < x0_3.size) = true := decide_eq_true (by omega)
                            clear c17
                            by_cases c19 : (bt x0_3 0) = 48
                            · rw [if_pos c19] at H
                              have c19b0 : ((bt x0_3 0) == 48) = true := beq_iff_eq.mpr c19
                              have c19b1 : ((bt x0_3 0) != 48) = false := bne_eq_false_iff_eq.mpr c19
                              clear c19
                              by_cases c20 : 1 ≤ (x0_3.size : Int)
                              · rw [if_pos c20] at H
                                have c20b0 := eq_true c20
                                have c20b1 : decide (1 ≤ (x0_3.size : Int)) = true := decide_eq_true c20
                                clear c20
                                have H' := Aside0.mk H
                                clear H
                                have p18 : 0 ≤ (0 : Int) := (by omega)
                                have q18 : 0 < x0_3.size := (by have : (0 : Int) < (x0_3.size : Int) := of_decide_eq_true (by first | (with_reducible assumption) | assumption); omega)
                                have hx18 : ∀ h : 0 < x0_3.size, ((x0_3[0]'h).toNat : Int) = bt x0_3 0 := bt_at x0_3 0
                                clear p18
                                have qi18 : (0 < (x0_3.size : Int)) = True := eq_true (of_decide_eq_true (by first | (with_reducible assumption) | assumption))
                                replace q18 := eq_true q18
                                go_wp2
                                go_roundg k3
                                case measure => have := HJ4.out; have := HK2.out; have := HK3.out; omega
                                case rel => exact ⟨(x0_3.extract 1 x0_3.size), (by first | rfl | (simp; done) | (simp [*]; done)), H', ⟨by have := HJ4.out; have := HK2.out; have := HK3.out; omega⟩, by repeat (first | exact Drawn0.refl _ | apply Drawn0.step)⟩
                              · rw [if_neg c20] at H
                                exact absurd H (by simp)
                            · rw [if_neg c19] at H
                              have c19b0 : ((bt x0_3 0) == 48) = false := beq_eq_false_iff_ne.mpr c19
                              have c19b1 : ((bt x0_3 0) != 48) = true := bne_iff_ne.mpr c19
                              have H' := Aside0.mk H
                              clear H
                              have p18 : 0 ≤ (0 : Int) := (by omega)
                              have q18 : 0 < x0_3.size := (by have : (0 : Int) < (x0_3.size : Int) := of_decide_eq_true (by first | (with_reducible assumption) | assumption); omega)
                              have hx18 : ∀ h : 0 < x0_3.size, ((x0_3[0]'h).toNat : Int) = bt x0_3 0 := bt_at x0_3 0
                              clear p18
                              have qi18 : (0 < (x0_3.size : Int)) = True := eq_true (of_decide_eq_true (by first | (with_reducible assumption) | assumption))
                              replace q18 := eq_true q18
                              go_wp2
                              go_meet
                              case rel => exact ⟨_, (x0_3), (by first | rfl | (simp; done) | (simp [*]; done)), H', ⟨by have := HJ4.out; have := HK2.out; have := HK3.out; first | omega | exact Nat.le_refl _⟩, by repeat (first | exact Drawn0.refl _ | apply Drawn0.step)⟩
                          · rw [if_neg c17] at H
                            exact absurd H (by simp)
                        · rw [if_neg c16] at H
                          have c16b0 : decide (1 < (x0_3.size : Int)) = false := decide_eq_false c16
                          have c16b1 : decide (1 < x0_3.size) = false := decide_eq_false (by omega)
                          clear c16
                          (first | rw [c16b0] | (simp only [i64_w, i32_w]; rw [c16b0]) | skip)
                          have H' := Aside0.mk H
                          clear H
                          go_wp2
                          go_meet
                          case rel => exact ⟨_, (x0_3), (by first | rfl | (simp; done) | (simp [*]; done)), H', ⟨by have := HJ4.out; have := HK2.out; have := HK3.out; first | omega | exact Nat.le_refl _⟩, by repeat (first | exact Drawn0.refl _ | apply Drawn0.step)⟩
                  case rest =>
                    clear HC15
                    try clear c1
                    try clear p1
                    try clear q1
                    try clear hx1
                    try clear qi1
                    try clear c2
                    try clear c2b0
                    try clear c2b1
                    try clear p2
                    try clear c3
                    try clear c3b0
                    try clear c3b1
                    try clear c4
                    try clear p4
                    try clear q4
                    try clear hx4
                    try clear qi4
                    try clear c6
                    try clear c6b0
                    try clear c6b1
                    try clear p6
                    try clear c7
                    try clear c7b0
                    try clear c7b1
                    try clear c8
                    try clear c8b0
                    try clear c8b1
                    try clear c9
                    try clear c9b0
                    try clear c10
                    try clear c10b0
                    try clear p11
                    try clear q11
                    try clear hx11
                    try clear c12
                    try clear c12b0
                    try clear p13
                    try clear q13
                    try clear hx13
                    try clear c14
                    try clear c14b0
                    try clear c16
                    try clear c16b0
                    try clear c16b1
                    try clear c17
                    try clear c17b0
                    try clear c17b1
                    try clear p18
                    try clear q18
                    try clear hx18
                    try clear qi18
                    try clear c19
                    try clear c19b0
                    try clear c19b1
                    try clear c20
                    try clear c20b0
                    try clear c20b1
                    try clear p1
                    try clear p11
                    try clear p13
                    try clear p18
                    try clear p2
                    try clear p4
                    try clear p6
                    try clear q1
                    try clear q11
                    try clear q13
                    try clear q18
                    try clear q4
                    obtain ⟨kq, x0_14, rfl, HA, HJ14, ⟨mc14, rfl⟩⟩ := hcut
                    cases kq with
                    | zero => exact absurd HA.out (by simp [schismaref02_Parse.j3])
                    | succ kj14 =>
                      have H := HA.out
                      clear HA
                      simp only [schismaref02_Parse.j3] at H
                      by_cases c21 : (x0_14.size : Int) > 400
                      · rw [if_pos c21] at H
                        have c21b0 : decide (400 < (x0_14.size : Int)) = true := decide_eq_true c21
                        have c21b1 : decide (400 < x0_14.size) = true := decide_eq_true (by omega)
                        clear c21
                        simp only [Option.some.injEq, Prod.mk.injEq] at H
                        obtain ⟨rfl, rfl⟩ := H
                        go_wp2
                        go_ret2
                        exact ⟨by first | rfl | (simp; done) | (simp [wrap64]; done) | (simp [*]; done), by repeat (first | exact Drawn0.refl _ | apply Drawn0.step)⟩
                      · rw [if_neg c21] at H
                        have c21b0 : decide (400 < (x0_14.size : Int)) = false := decide_eq_false c21
                        have c21b1 : decide (400 < x0_14.size) = false := decide_eq_false (by omega)
                        clear c21
                        by_cases c22 : ((bt a0 0) == 45) = true
                        · rw [if_pos c22] at H
                          have c22b0 : ((bt a0 0) == 45) = true := c22
                          (try (have c22b1 : decide ((bt a0 0) = 45) = true := by simpa using c22))
                          (try (have c22b2 : ((bt a0 0) == 45) = true := by simpa using c22))
                          clear c22
                          by_cases c23 : x0_14.toList = ([48] : List UInt8)
                          · rw [if_pos c23] at H
                            have c23b0 : (x0_14.toList == ([48] : List UInt8)) = true := beq_iff_eq.mpr c23
                            have c23b1 : (x0_14.toList != ([48] : List UInt8)) = false := bne_eq_false_iff_eq.mpr c23
                            clear c23
                            simp only [Option.some.injEq, Prod.mk.injEq] at H
                            obtain ⟨rfl, rfl⟩ := H
                            go_wp2
                            go_ret2
                            exact ⟨by first | rfl | (simp; done) | (simp [wrap64]; done) | (simp [*]; done), by repeat (first | exact Drawn0.refl _ | apply Drawn0.step)⟩
                          · rw [if_neg c23] at H
                            have c23b0 : (x0_14.toList == ([48] : List UInt8)) = false := beq_eq_false_iff_ne.mpr c23
                            have c23b1 : (x0_14.toList != ([48] : List UInt8)) = true := bne_iff_ne.mpr c23
                            by_cases c24 : 1 + x0_14.size ≤ 9223372036854775807
                            · rw [if_pos c24] at H
                              have c24b0 := eq_true c24
                              have c24b1 : decide (1 + x0_14.size ≤ 9223372036854775807) = true := decide_eq_true c24
                              try have c24b2 : (9223372036854775807 < 1 + x0_14.size) = False := eq_false (Nat.not_lt.2 c24)
                              simp only [Option.some.injEq, Prod.mk.injEq] at H
                              obtain ⟨rfl, rfl⟩ := H
                              go_wp2
                              go_ret2
                              exact ⟨by first | rfl | (simp; done) | (simp [wrap64]; done) | (simp [*]; done), by repeat (first | exact Drawn0.refl _ | apply Drawn0.step)⟩
                            · rw [if_neg c24] at H
                              exact absurd H (by simp)
                        · rw [if_neg c22] at H
                          have c22b0 : ((bt a0 0) == 45) = false := by simpa using c22
                          (try (have c22b1 : decide ((bt a0 0) = 45) = false := by simpa using c22))
                          (try (have c22b2 : ((bt a0 0) == 45) = false := by simpa using c22))
                          (try (have c22b3 : ¬ ((bt a0 0) = 45) := by simpa using c22))
                          clear c22
                          simp only [Option.some.injEq, Prod.mk.injEq] at H
                          obtain ⟨rfl, rfl⟩ := H
                          go_wp2
                          go_ret2
                          exact ⟨by first | rfl | (simp; done) | (simp [wrap64]; done) | (simp [*]; done), by repeat (first | exact Drawn0.refl _ | apply Drawn0.step)⟩
    · rw [if_neg c3] at H
      exact absurd H (by simp)
mutual
def schismalaw02_Make.j1 : Nat → ByteArray → Bool → List Int → Option (ByteArray)
  | 0, _, _, _ => none
  | k + 1, x5, x436000, x436001 => if x5.toList = ([] : List UInt8) then (if x436000 = true then (if 1 + 1 ≤ 9223372036854775807 then ((schismaref02_Parse.f k ((⟨#[45]⟩ : ByteArray) ++ (⟨#[48]⟩ : ByteArray))).bind fun bt440 => (some bt440.1)) else (none)) else ((schismaref02_Parse.f k (⟨#[48]⟩ : ByteArray)).bind fun bt442 => (some bt442.1))) else (if x436000 = true then (if 1 + x5.size ≤ 9223372036854775807 then ((schismaref02_Parse.f k ((⟨#[45]⟩ : ByteArray) ++ x5)).bind fun bt444 => (some bt444.1)) else (none)) else ((schismaref02_Parse.f k x5).bind fun bt446 => (some bt446.1)))
def schismalaw02_Make.l0 : Nat → Int → ByteArray → Int → Bool → List Int → Option (ByteArray)
  | 0, _, _, _, _, _ => none
  | k + 1, x1, x5, x6, x436000, x436001 => if x6 < (x436001.length : Int) then (if x6 < x1 then (if 0 ≤ x6 then ((some (([(48 + (Int.tmod (rd x436001 x6) 10)) % 256] : List Int) : List Int)).bind fun y437 => (if x5.size + (strOfNums y437).size ≤ 9223372036854775807 then (schismalaw02_Make.l0 k x1 (x5 ++ (strOfNums y437)) (wrap64 (x6 + 1)) x436000 x436001) else (none))) else (none)) else (schismalaw02_Make.j1 k x5 x436000 x436001)) else (schismalaw02_Make.j1 k x5 x436000 x436001)
end
def schismalaw02_Make.f (k : Nat) (a0_0 : Bool) (l0_1 : List Int) (a1 : Int) : Option (ByteArray) := schismalaw02_Make.l0 k a1 (⟨#[]⟩ : ByteArray) 0 a0_0 l0_1
theorem schismalaw02_Make.mono_l : ∀ k, (∀ y0 y1 y2, LeO (schismalaw02_Make.j1 k y0 y1 y2) (schismalaw02_Make.j1 (k + 1) y0 y1 y2)) ∧ (∀ y0 y1 y2 y3 y4, LeO (schismalaw02_Make.l0 k y0 y1 y2 y3 y4) (schismalaw02_Make.l0 (k + 1) y0 y1 y2 y3 y4))
  | 0 => ⟨fun _ _ _ r h => by simp [schismalaw02_Make.j1] at h, fun _ _ _ _ _ r h => by simp [schismalaw02_Make.l0] at h⟩
  | k + 1 => by
    obtain ⟨ih0, ih1⟩ := schismalaw02_Make.mono_l k
    refine ⟨?_, ?_⟩
    · intro y0 y1 y2
      unfold schismalaw02_Make.j1
      repeat' first
      | (with_reducible exact ih0 _ _ _)
      | (with_reducible exact ih1 _ _ _ _ _)
      | (with_reducible exact schismaref02_Parse.mono _ _)
      | (with_reducible exact LeO.refl _)
      | (with_reducible exact LeO.none _)
      | (with_reducible refine LeO.ite ?_ ?_)
      | (with_reducible refine LeO.bind ?_ (fun _ => ?_))
      | exact ih0 _ _ _
      | exact ih1 _ _ _ _ _
      | exact schismaref02_Parse.mono _ _
      | exact LeO.none _
      | refine LeO.ite ?_ ?_
      | refine LeO.bind ?_ (fun _ => ?_)
    · intro y0 y1 y2 y3 y4
      unfold schismalaw02_Make.l0
      repeat' first
      | (with_reducible exact ih0 _ _ _)
      | (with_reducible exact ih1 _ _ _ _ _)
      | (with_reducible exact schismaref02_Parse.mono _ _)
      | (with_reducible exact LeO.refl _)
      | (with_reducible exact LeO.none _)
      | (with_reducible refine LeO.ite ?_ ?_)
      | (with_reducible refine LeO.bind ?_ (fun _ => ?_))
      | exact ih0 _ _ _
      | exact ih1 _ _ _ _ _
      | exact schismaref02_Parse.mono _ _
      | exact LeO.none _
      | refine LeO.ite ?_ ?_
      | refine LeO.bind ?_ (fun _ => ?_)
theorem schismalaw02_Make.mono : ∀ a0 a1 a2 k, LeO (schismalaw02_Make.f k a0 a1 a2) (schismalaw02_Make.f (k + 1) a0 a1 a2) := by
  intro a0 a1 a2 k
  obtain ⟨ih0, ih1⟩ := schismalaw02_Make.mono_l k
  unfold schismalaw02_Make.f
  repeat' first
      | (with_reducible exact ih0 _ _ _)
      | (with_reducible exact ih1 _ _ _ _ _)
      | (with_reducible exact schismaref02_Parse.mono _ _)
      | (with_reducible exact LeO.refl _)
      | (with_reducible exact LeO.none _)
      | (with_reducible refine LeO.ite ?_ ?_)
      | (with_reducible refine LeO.bind ?_ (fun _ => ?_))
      | exact ih0 _ _ _
      | exact ih1 _ _ _ _ _
      | exact schismaref02_Parse.mono _ _
      | exact LeO.none _
      | refine LeO.ite ?_ ?_
      | refine LeO.bind ?_ (fun _ => ?_)
set_option maxHeartbeats 8000000 in
set_option maxRecDepth 100000 in
theorem schismalaw02_Make.calls (k : Nat) (a0_0 : Bool) (A0_1 : Option Addr) (c0_1 : Nat) (l0_1 : List Int) (a1 : Int) (r : ByteArray) (w : World) (hr0_1 : Kd.C (Kd.int .u8) w A0_1 l0_1.length l0_1) (hc0_1 : l0_1.length ≤ c0_1) (h : schismalaw02_Make.f k a0_0 l0_1 a1 = some r) :
    Calls Tryd.prog 6 #[.agg #[.bool a0_0, .slice A0_1 l0_1.length c0_1], .int .i64 a1] w fun e w' => e = .returned (.string r) ∧ Below w.heap.size w w' := by
  have hu24 := Tryd.underlying24
  have HR0_1 := Aside0.mk hr0_1
  have HC0_1 := Aside0.mk hc0_1
  clear hr0_1 hc0_1
  have HB := Aside0.mk (Below.refl w.heap.size w)
  have H : (schismalaw02_Make.l0 k a1 (⟨#[]⟩ : ByteArray) 0 a0_0 l0_1) = some r := h
  clear h
  have HC3 := Aside0.mk H
  clear H
  go_enter Tryd.func6, Tryd.ntmps6
  go_upto_block 0 with (first | ((with_reducible refine gate_dst (N := 2) rfl ?_); refine box_event ?hg (N := 2) ?hd (cs := #[.bool a0_0, .slice A0_1 l0_1.length c0_1]) (t := 24) ?hr ?_; (case hd => rfl); (case hg => rfl); (case hr => first | (go_simp; done) | (go_simp; rfl)); intro gb435 hg w4 hbox hb; have n0_ := Aside0.mk (below_step bq hb); have n1_ := Aside0.mk (hbox); have n2_ := Aside0.mk ((by rw [hg]; exact (below_size bq) : w.heap.size ≤ gb435)); have n3_ := Aside0.mk ((by rw [hg]; exact (below_size bq) : w.heap.size ≤ gb435)); clear HB; have HB := n0_; have BK435 := n1_; have GW435 := n2_; have GE435 := n3_; clear n0_ n1_ n2_ n3_; clear hb hbox hg))
  (try simp only [Act.put, List.setIfInBounds_toArray, List.set_cons_zero, List.set_cons_succ])
  go_cut [5] (fun v5 wc => ∃ (kq : Nat) (x5_2 : ByteArray), v5 = .string x5_2 ∧ Aside0 (schismalaw02_Make.j1 kq x5_2 a0_0 l0_1 = some r) ∧ Aside0 (kq ≤ k) ∧ Aside0 (wc.heap[gb435]? = some (.cells #[.bool a0_0, (.slice A0_1 l0_1.length c0_1)] 24 (0, 0))) ∧ Aside0 (Below w.heap.size w wc))
  case first =>
    have H := HC3.out
    clear HC3
    have H' := Aside0.mk H
    clear H
    go_wp2
    go_loopg [5, 6] k (fun kq v5 v6 w' => ∃ (x5_1 : ByteArray) (x6_1 : Int), v5 = .string x5_1 ∧ v6 = .int .i64 x6_1 ∧ Aside0 (schismalaw02_Make.l0 kq a1 x5_1 x6_1 a0_0 l0_1 = some r) ∧ Aside0 (kq ≤ k) ∧ Aside0 (w'.heap[gb435]? = some (.cells #[.bool a0_0, (.slice A0_1 l0_1.length c0_1)] 24 (0, 0))) ∧ Aside0 (Below w.heap.size w w'))
    case atStart => exact ⟨((⟨#[]⟩ : ByteArray)), (0), (by first | rfl | (simp; done) | (simp [*]; done)), (by first | rfl | (simp; done) | (simp [*]; done)), H', ⟨Nat.le_refl _⟩, ⟨by (with_reducible repeat (first | refine blk_drewN ?_ _ | refine blk_drew ?_ | refine blk_alloc ?_ _)); exact BK435.out⟩, ⟨by repeat (first | (with_reducible first | exact HB.out | apply below_alloc | apply pw_below_drewN | apply below_drew1 | refine below_set ?_ GE435.out) | exact HB.out)⟩⟩
    case round =>
      clear H'
      try clear p2
      obtain ⟨x5_1, x6_1, rfl, rfl, HA, HK1, BK435, HB⟩ := hrel
      cases gk with
      | zero => exact absurd HA.out (by simp [schismalaw02_Make.l0])
      | succ k1 =>
        have H := HA.out
        clear HA
        simp only [schismalaw02_Make.l0] at H
        by_cases c5 : x6_1 < (l0_1.length : Int)
        · rw [if_pos c5] at H
          have c5b0 : decide (x6_1 < (l0_1.length : Int)) = true := decide_eq_true c5
          clear c5
          (first | rw [c5b0] | (simp only [i64_w, i32_w]; rw [c5b0]) | skip)
          by_cases c6 : x6_1 < a1
          · rw [if_pos c6] at H
            have c6b0 : decide (x6_1 < a1) = true := decide_eq_true c6
            clear c6
            by_cases c7 : 0 ≤ x6_1
            · rw [if_pos c7] at H
              have c7b0 : decide (0 ≤ x6_1) = true := decide_eq_true c7
              clear c7
              obtain ⟨y437, hy437⟩ : ∃ y_ : List Int, y_ = (([(48 + (Int.tmod (rd l0_1 x6_1) 10)) % 256] : List Int)) := ⟨_, rfl⟩
              replace H : (if x5_1.size + (strOfNums y437).size ≤ 9223372036854775807 then (schismalaw02_Make.l0 k1 a1 (x5_1 ++ (strOfNums y437)) (wrap64 (x6_1 + 1)) a0_0 l0_1) else (none)) = some r := by first | (rw [hy437]; with_reducible exact H) | (have H2_ := (Option.bind_some _ _).symm.trans H; rw [hy437]; with_reducible exact H2_) | (have H2_ := (Option.bind_some _ _).symm.trans H; with_reducible exact H2_) | with_reducible exact H | (rw [hy437]; exact H) | exact H
              have Ny437 := Aside0.mk hy437
              clear hy437
              by_cases c8 : x5_1.size + (strOfNums y437).size ≤ 9223372036854775807
              · rw [if_pos c8] at H
                have c8b0 := eq_true c8
                have c8b1 : decide (x5_1.size + (strOfNums y437).size ≤ 9223372036854775807) = true := decide_eq_true c8
                try have c8b2 : (9223372036854775807 < x5_1.size + (strOfNums y437).size) = False := eq_false (Nat.not_lt.2 c8)
                have H' := Aside0.mk H
                clear H
                have hcz9_0 : wr.cell? ⟨gb435, 0, none⟩ = some (.bool a0_0) := (blk_cell BK435.out 0).trans rfl
                have hcz9_1 : wr.cell? ⟨gb435, 1, none⟩ = some (.slice A0_1 l0_1.length c0_1) := (blk_cell BK435.out 1).trans rfl
                have hfz9_0 := blk_frozen BK435.out 0
                have hfz9_1 := blk_frozen BK435.out 1
                have p436 : 0 ≤ (x6_1 : Int) := of_decide_eq_true (by first | (with_reducible assumption) | assumption)
                have q436 : x6_1 < (l0_1.length : Int) := of_decide_eq_true (by first | (with_reducible assumption) | assumption)
                obtain ⟨ad436, e436, hx436_0⟩ := Kd.at_int HR0_1.out x6_1 p436 q436
                cases e436
                replace hx436_0 := (HB.out.cell (World.block_lt_of_cell? w _ hx436_0)).trans hx436_0
                replace p436 := eq_true p436
                replace q436 := eq_true q436
                go_wp2_with (first | ((with_reducible refine gate_dst (N := 29) rfl ?_); refine Kd.R_lit (Kd.int .u8) _ 5 ?hg (N := 29) ?hd (xs := ([(48 + (Int.tmod (rd l0_1 x6_1) 10)) % 256] : List Int)) (inner := [.int .u8 ((48 + (Int.tmod (rd l0_1 x6_1) 10)) % 256)]) (ok := fun _ => True) (okp := fun _ => True) ?hr ?hp (fun _ hk => hk) trivial (Below.refl _ _) (Nat.le_refl _) (by simp) ?_; (case hd => rfl); (case hg => rfl); (case hr => first | (go_simp; done) | (go_simp; rfl)); (case hp => exact (Reps.one (show Kd.M (Kd.int .u8) _ _ _ ((48 + (Int.tmod (rd l0_1 x6_1) 10)) % 256) [.int .u8 ((48 + (Int.tmod (rd l0_1 x6_1) 10)) % 256)] from rfl) (Reps.none _ _))); intro v438 w10 ho11 hb hg_ hnew_; clear hg_ hnew_; (first | rw [← Ny437.out] at ho11 | (simp only [Int.reduceToNat] at ho11; rw [← Ny437.out] at ho11)); have n0_ := Aside0.mk (Kd.R_lower ho11 (below_size (by repeat (first | (with_reducible first | exact HB.out | apply below_alloc | apply pw_below_drewN | apply below_drew1 | refine below_set ?_ GE435.out) | exact HB.out)))); have n1_ := Aside0.mk (blk_below (g := gb435) (o := .cells #[.bool a0_0, .slice (some ad436) l0_1.length c0_1] 24 (0, 0)) (by (with_reducible repeat (first | refine blk_drewN ?_ _ | refine blk_drew ?_ | refine blk_alloc ?_ _)); exact BK435.out) hb); have n2_ := Aside0.mk (below_step (by repeat (first | (with_reducible first | exact HB.out | apply below_alloc | apply pw_below_drewN | apply below_drew1 | refine below_set ?_ GE435.out) | exact HB.out)) hb); clear BK435; clear HB; have HO439 := n0_; have BK435 := n1_; have HB := n2_; clear n0_ n1_ n2_; clear hb ho11; have hcv12 := own_string (P := Tryd.prog) Tryd.underlying22 Tryd.underlying5 Tryd.underlying9 (Kd.own_of_R HO439.out)))
                go_roundg k1
                case measure => have := HK1.out; omega
                case rel => exact ⟨(x5_1 ++ (strOfNums y437)), (wrap64 (x6_1 + 1)), (by first | rfl | (simp; done) | (simp [*]; done)), (by first | rfl | (simp; done) | (simp [*]; done)), H', ⟨by have := HK1.out; omega⟩, ⟨by (with_reducible repeat (first | refine blk_drewN ?_ _ | refine blk_drew ?_ | refine blk_alloc ?_ _)); exact BK435.out⟩, ⟨by repeat (first | (with_reducible first | exact HB.out | apply below_alloc | apply pw_below_drewN | apply below_drew1 | refine below_set ?_ GE435.out) | exact HB.out)⟩⟩
              · rw [if_neg c8] at H
                exact absurd H (by simp)
            · rw [if_neg c7] at H
              exact absurd H (by simp)
          · rw [if_neg c6] at H
            have c6b0 : decide (x6_1 < a1) = false := decide_eq_false c6
            clear c6
            have H' := Aside0.mk H
            clear H
            have hcz13_0 : wr.cell? ⟨gb435, 0, none⟩ = some (.bool a0_0) := (blk_cell BK435.out 0).trans rfl
            have hcz13_1 : wr.cell? ⟨gb435, 1, none⟩ = some (.slice A0_1 l0_1.length c0_1) := (blk_cell BK435.out 1).trans rfl
            have hfz13_0 := blk_frozen BK435.out 0
            have hfz13_1 := blk_frozen BK435.out 1
            go_wp2
            go_meet
            case rel => exact ⟨_, (x5_1), (by first | rfl | (simp; done) | (simp [*]; done)), H', ⟨by have := HK1.out; first | omega | exact Nat.le_refl _⟩, ⟨by (with_reducible repeat (first | refine blk_drewN ?_ _ | refine blk_drew ?_ | refine blk_alloc ?_ _)); exact BK435.out⟩, ⟨by repeat (first | (with_reducible first | exact HB.out | apply below_alloc | apply pw_below_drewN | apply below_drew1 | refine below_set ?_ GE435.out) | exact HB.out)⟩⟩
        · rw [if_neg c5] at H
          have c5b0 : decide (x6_1 < (l0_1.length : Int)) = false := decide_eq_false c5
          clear c5
          (first | rw [c5b0] | (simp only [i64_w, i32_w]; rw [c5b0]) | skip)
          have H' := Aside0.mk H
          clear H
          have hcz14_0 : wr.cell? ⟨gb435, 0, none⟩ = some (.bool a0_0) := (blk_cell BK435.out 0).trans rfl
          have hcz14_1 : wr.cell? ⟨gb435, 1, none⟩ = some (.slice A0_1 l0_1.length c0_1) := (blk_cell BK435.out 1).trans rfl
          have hfz14_0 := blk_frozen BK435.out 0
          have hfz14_1 := blk_frozen BK435.out 1
          go_wp2
          go_meet
          case rel => exact ⟨_, (x5_1), (by first | rfl | (simp; done) | (simp [*]; done)), H', ⟨by have := HK1.out; first | omega | exact Nat.le_refl _⟩, ⟨by (with_reducible repeat (first | refine blk_drewN ?_ _ | refine blk_drew ?_ | refine blk_alloc ?_ _)); exact BK435.out⟩, ⟨by repeat (first | (with_reducible first | exact HB.out | apply below_alloc | apply pw_below_drewN | apply below_drew1 | refine below_set ?_ GE435.out) | exact HB.out)⟩⟩
  case rest =>
    clear HC3
    try clear hcv1
    try clear p2
    try clear p4
    try clear q4
    try clear hx4
    try clear c5
    try clear c5b0
    try clear c6
    try clear c6b0
    try clear p6
    try clear c7
    try clear c7b0
    try clear c8
    try clear c8b0
    try clear c8b1
    try clear c8b2
    try clear hcv12
    try clear hcz13_0
    try clear hcz13_1
    try clear hcz14_0
    try clear hcz14_1
    try clear hcz9_0
    try clear hcz9_1
    try clear hfz13_0
    try clear hfz13_1
    try clear hfz14_0
    try clear hfz14_1
    try clear hfz9_0
    try clear hfz9_1
    try clear hx436_0
    try clear p2
    try clear p436
    try clear q436
    obtain ⟨kq, x5_2, rfl, HA, HJ2, BK435, HB⟩ := hcut
    cases kq with
    | zero => exact absurd HA.out (by simp [schismalaw02_Make.j1])
    | succ kj2 =>
      have H := HA.out
      clear HA
      simp only [schismalaw02_Make.j1] at H
      by_cases c15 : x5_2.toList = ([] : List UInt8)
      · rw [if_pos c15] at H
        have c15b0 : (x5_2.toList == ([] : List UInt8)) = true := beq_iff_eq.mpr c15
        have c15b1 : (x5_2.toList != ([] : List UInt8)) = false := bne_eq_false_iff_eq.mpr c15
        clear c15
        by_cases c16 : a0_0 = true
        · subst c16
          have H1 : (if 1 + 1 ≤ 9223372036854775807 then ((schismaref02_Parse.f kj2 ((⟨#[45]⟩ : ByteArray) ++ (⟨#[48]⟩ : ByteArray))).bind fun bt440 => (some bt440.1)) else (none)) = some r := by rw [if_pos rfl] at H; exact H
          clear H
          have H := H1
          clear H1
          by_cases c17 : 1 + 1 ≤ 9223372036854775807
          · rw [if_pos c17] at H
            have c17b0 := eq_true c17
            have c17b1 : decide (1 + 1 ≤ 9223372036854775807) = true := decide_eq_true c17
            try have c17b2 : (9223372036854775807 < 1 + 1) = False := eq_false (Nat.not_lt.2 c17)
            replace H := Option.bind_eq_some_iff.mp H
            obtain ⟨⟨t440, t441⟩, A180, H⟩ := H
            replace H : (some t440) = some r := H
            have A18 := Aside0.mk A180
            clear A180
            obtain rfl := Option.some.inj H
            have hcz19_0 : wc.cell? ⟨gb435, 0, none⟩ = some (.bool true) := (blk_cell BK435.out 0).trans rfl
            have hcz19_1 : wc.cell? ⟨gb435, 1, none⟩ = some (.slice A0_1 l0_1.length c0_1) := (blk_cell BK435.out 1).trans rfl
            have hfz19_0 := blk_frozen BK435.out 0
            have hfz19_1 := blk_frozen BK435.out 1
            go_wp2_with (first | ((with_reducible refine gate_callee (f := 19) rfl ?_); refine goesL_ (some 40) rfl rfl Tryd.func19 (by kernel_rfl) rfl #[.string ((⟨#[45]⟩ : ByteArray) ++ (⟨#[48]⟩ : ByteArray))] rfl mq ?_; (with_reducible refine (schismaref02_Parse.calls kj2 ((⟨#[45]⟩ : ByteArray) ++ (⟨#[48]⟩ : ByteArray)) t440 t441 _ A18.out).mono ?_); rintro e w' ⟨rfl, ⟨nd, rfl⟩⟩; refine ⟨_, rfl, ?_⟩))
            go_ret
            exact ⟨eq_, by repeat (first | (with_reducible first | exact HB.out | apply below_alloc | apply pw_below_drewN | apply below_drew1 | refine below_set ?_ GE435.out) | exact HB.out)⟩
          · rw [if_neg c17] at H
            exact absurd H (by simp)
        · replace c16 := Bool.eq_false_iff.mpr c16
          subst c16
          have H1 : ((schismaref02_Parse.f kj2 (⟨#[48]⟩ : ByteArray)).bind fun bt442 => (some bt442.1)) = some r := by rw [if_neg (show ¬ (false = true) by decide)] at H; exact H
          clear H
          have H := H1
          clear H1
          replace H := Option.bind_eq_some_iff.mp H
          obtain ⟨⟨t442, t443⟩, A200, H⟩ := H
          replace H : (some t442) = some r := H
          have A20 := Aside0.mk A200
          clear A200
          obtain rfl := Option.some.inj H
          have hcz21_0 : wc.cell? ⟨gb435, 0, none⟩ = some (.bool false) := (blk_cell BK435.out 0).trans rfl
          have hcz21_1 : wc.cell? ⟨gb435, 1, none⟩ = some (.slice A0_1 l0_1.length c0_1) := (blk_cell BK435.out 1).trans rfl
          have hfz21_0 := blk_frozen BK435.out 0
          have hfz21_1 := blk_frozen BK435.out 1
          go_wp2_with (first | ((with_reducible refine gate_callee (f := 19) rfl ?_); refine goesL_ (some 40) rfl rfl Tryd.func19 (by kernel_rfl) rfl #[.string (⟨#[48]⟩ : ByteArray)] rfl mq ?_; (with_reducible refine (schismaref02_Parse.calls kj2 (⟨#[48]⟩ : ByteArray) t442 t443 _ A20.out).mono ?_); rintro e w' ⟨rfl, ⟨nd, rfl⟩⟩; refine ⟨_, rfl, ?_⟩))
          go_ret
          exact ⟨eq_, by repeat (first | (with_reducible first | exact HB.out | apply below_alloc | apply pw_below_drewN | apply below_drew1 | refine below_set ?_ GE435.out) | exact HB.out)⟩
      · rw [if_neg c15] at H
        have c15b0 : (x5_2.toList == ([] : List UInt8)) = false := beq_eq_false_iff_ne.mpr c15
        have c15b1 : (x5_2.toList != ([] : List UInt8)) = true := bne_iff_ne.mpr c15
        by_cases c22 : a0_0 = true
        · subst c22
          have H1 : (if 1 + x5_2.size ≤ 9223372036854775807 then ((schismaref02_Parse.f kj2 ((⟨#[45]⟩ : ByteArray) ++ x5_2)).bind fun bt444 => (some bt444.1)) else (none)) = some r := by rw [if_pos rfl] at H; exact H
          clear H
          have H := H1
          clear H1
          by_cases c23 : 1 + x5_2.size ≤ 9223372036854775807
          · rw [if_pos c23] at H
            have c23b0 := eq_true c23
            have c23b1 : decide (1 + x5_2.size ≤ 9223372036854775807) = true := decide_eq_true c23
            try have c23b2 : (9223372036854775807 < 1 + x5_2.size) = False := eq_false (Nat.not_lt.2 c23)
            replace H := Option.bind_eq_some_iff.mp H
            obtain ⟨⟨t444, t445⟩, A240, H⟩ := H
            replace H : (some t444) = some r := H
            have A24 := Aside0.mk A240
            clear A240
            obtain rfl := Option.some.inj H
            have hcz25_0 : wc.cell? ⟨gb435, 0, none⟩ = some (.bool true) := (blk_cell BK435.out 0).trans rfl
            have hcz25_1 : wc.cell? ⟨gb435, 1, none⟩ = some (.slice A0_1 l0_1.length c0_1) := (blk_cell BK435.out 1).trans rfl
            have hfz25_0 := blk_frozen BK435.out 0
            have hfz25_1 := blk_frozen BK435.out 1
            go_wp2_with (first | ((with_reducible refine gate_callee (f := 19) rfl ?_); refine goesL_ (some 40) rfl rfl Tryd.func19 (by kernel_rfl) rfl #[.string ((⟨#[45]⟩ : ByteArray) ++ x5_2)] rfl mq ?_; (with_reducible refine (schismaref02_Parse.calls kj2 ((⟨#[45]⟩ : ByteArray) ++ x5_2) t444 t445 _ A24.out).mono ?_); rintro e w' ⟨rfl, ⟨nd, rfl⟩⟩; refine ⟨_, rfl, ?_⟩))
            go_ret
            exact ⟨eq_, by repeat (first | (with_reducible first | exact HB.out | apply below_alloc | apply pw_below_drewN | apply below_drew1 | refine below_set ?_ GE435.out) | exact HB.out)⟩
          · rw [if_neg c23] at H
            exact absurd H (by simp)
        · replace c22 := Bool.eq_false_iff.mpr c22
          subst c22
          have H1 : ((schismaref02_Parse.f kj2 x5_2).bind fun bt446 => (some bt446.1)) = some r := by rw [if_neg (show ¬ (false = true) by decide)] at H; exact H
          clear H
          have H := H1
          clear H1
          replace H := Option.bind_eq_some_iff.mp H
          obtain ⟨⟨t446, t447⟩, A260, H⟩ := H
          replace H : (some t446) = some r := H
          have A26 := Aside0.mk A260
          clear A260
          obtain rfl := Option.some.inj H
          have hcz27_0 : wc.cell? ⟨gb435, 0, none⟩ = some (.bool false) := (blk_cell BK435.out 0).trans rfl
          have hcz27_1 : wc.cell? ⟨gb435, 1, none⟩ = some (.slice A0_1 l0_1.length c0_1) := (blk_cell BK435.out 1).trans rfl
          have hfz27_0 := blk_frozen BK435.out 0
          have hfz27_1 := blk_frozen BK435.out 1
          go_wp2_with (first | ((with_reducible refine gate_callee (f := 19) rfl ?_); refine goesL_ (some 40) rfl rfl Tryd.func19 (by kernel_rfl) rfl #[.string x5_2] rfl mq ?_; (with_reducible refine (schismaref02_Parse.calls kj2 x5_2 t446 t447 _ A26.out).mono ?_); rintro e w' ⟨rfl, ⟨nd, rfl⟩⟩; refine ⟨_, rfl, ?_⟩))
          go_ret
          exact ⟨eq_, by repeat (first | (with_reducible first | exact HB.out | apply below_alloc | apply pw_below_drewN | apply below_drew1 | refine below_set ?_ GE435.out) | exact HB.out)⟩
def whole_Compare.f (a0 : ByteArray) (a1 : ByteArray) : Option (Int) := (whole_Sign.f a0).bind fun t448 => ((whole_Sign.f a1).bind fun t449 => (if t448 = t449 then ((whole_split.f a0).bind fun bt450 => ((whole_split.f a1).bind fun bt452 => (if bt450.1 = true then ((decimal_Compare.f bt452.2 bt450.2).bind fun t454 => (some t454)) else ((decimal_Compare.f bt450.2 bt452.2).bind fun t455 => (some t455))))) else (if t448 < t449 then (some (-1)) else (some 1))))
set_option maxHeartbeats 8000000 in
set_option maxRecDepth 100000 in
theorem whole_Compare.calls (a0 : ByteArray) (a1 : ByteArray) (r : Int) (w : World) (h : whole_Compare.f a0 a1 = some r) :
    Calls Tryd.prog 11 #[.string a0, .string a1] w fun e w' => e = .returned (.int .i64 r) ∧ Below w.heap.size w w' := by
  have HB := Aside0.mk (Below.refl w.heap.size w)
  have H : ((whole_Sign.f a0).bind fun t448 => ((whole_Sign.f a1).bind fun t449 => (if t448 = t449 then ((whole_split.f a0).bind fun bt450 => ((whole_split.f a1).bind fun bt452 => (if bt450.1 = true then ((decimal_Compare.f bt452.2 bt450.2).bind fun t454 => (some t454)) else ((decimal_Compare.f bt450.2 bt452.2).bind fun t455 => (some t455))))) else (if t448 < t449 then (some (-1)) else (some 1))))) = some r := h
  clear h
  replace H := Option.bind_eq_some_iff.mp H
  obtain ⟨t448, A30, H⟩ := H
  replace H : ((whole_Sign.f a1).bind fun t449 => (if t448 = t449 then ((whole_split.f a0).bind fun bt450 => ((whole_split.f a1).bind fun bt452 => (if bt450.1 = true then ((decimal_Compare.f bt452.2 bt450.2).bind fun t454 => (some t454)) else ((decimal_Compare.f bt450.2 bt452.2).bind fun t455 => (some t455))))) else (if t448 < t449 then (some (-1)) else (some 1)))) = some r := H
  have A3 := Aside0.mk A30
  clear A30
  replace H := Option.bind_eq_some_iff.mp H
  obtain ⟨t449, A40, H⟩ := H
  replace H : (if t448 = t449 then ((whole_split.f a0).bind fun bt450 => ((whole_split.f a1).bind fun bt452 => (if bt450.1 = true then ((decimal_Compare.f bt452.2 bt450.2).bind fun t454 => (some t454)) else ((decimal_Compare.f bt450.2 bt452.2).bind fun t455 => (some t455))))) else (if t448 < t449 then (some (-1)) else (some 1))) = some r := H
  have A4 := Aside0.mk A40
  clear A40
  by_cases c5 : t448 = t449
  · rw [if_pos c5] at H
    have c5b0 : (t448 == t449) = true := beq_iff_eq.mpr c5
    have c5b1 : (t448 != t449) = false := bne_eq_false_iff_eq.mpr c5
    clear c5
    replace H := Option.bind_eq_some_iff.mp H
    obtain ⟨⟨t450, t451⟩, A60, H⟩ := H
    replace H : ((whole_split.f a1).bind fun bt452 => (if t450 = true then ((decimal_Compare.f bt452.2 t451).bind fun t454 => (some t454)) else ((decimal_Compare.f t451 bt452.2).bind fun t455 => (some t455)))) = some r := H
    have A6 := Aside0.mk A60
    clear A60
    replace H := Option.bind_eq_some_iff.mp H
    obtain ⟨⟨t452, t453⟩, A70, H⟩ := H
    replace H : (if t450 = true then ((decimal_Compare.f t453 t451).bind fun t454 => (some t454)) else ((decimal_Compare.f t451 t453).bind fun t455 => (some t455))) = some r := H
    have A7 := Aside0.mk A70
    clear A70
    by_cases c8 : t450 = true
    · subst c8
      have H1 : ((decimal_Compare.f t453 t451).bind fun t454 => (some t454)) = some r := by rw [if_pos rfl] at H; exact H
      clear H
      have H := H1
      clear H1
      replace H := Option.bind_eq_some_iff.mp H
      obtain ⟨t454, A90, H⟩ := H
      replace H : (some t454) = some r := H
      have A9 := Aside0.mk A90
      clear A90
      obtain rfl := Option.some.inj H
      go_enter Tryd.func11, Tryd.ntmps11
      go_wp2_with (first | ((with_reducible refine gate_callee (f := 17) rfl ?_); refine goesL_ (some 12) rfl rfl Tryd.func17 (by kernel_rfl) rfl #[.string a0] rfl mq ?_; (with_reducible refine (whole_Sign.calls a0 t448 _ A3.out).mono ?_); rintro e w' ⟨rfl, ⟨nd, rfl⟩⟩; refine ⟨_, rfl, ?_⟩) | ((with_reducible refine gate_callee (f := 17) rfl ?_); refine goesL_ (some 14) rfl rfl Tryd.func17 (by kernel_rfl) rfl #[.string a1] rfl mq ?_; (with_reducible refine (whole_Sign.calls a1 t449 _ A4.out).mono ?_); rintro e w' ⟨rfl, ⟨nd, rfl⟩⟩; refine ⟨_, rfl, ?_⟩) | ((with_reducible refine gate_callee (f := 25) rfl ?_); refine goesL_ (some 23) rfl rfl Tryd.func25 (by kernel_rfl) rfl #[.string a0] rfl mq ?_; (with_reducible refine (whole_split.calls a0 true t451 _ A6.out).mono ?_); rintro e w' ⟨rfl, ⟨nd, rfl⟩⟩; refine ⟨_, rfl, ?_⟩) | ((with_reducible refine gate_callee (f := 25) rfl ?_); refine goesL_ (some 28) rfl rfl Tryd.func25 (by kernel_rfl) rfl #[.string a1] rfl mq ?_; (with_reducible refine (whole_split.calls a1 t452 t453 _ A7.out).mono ?_); rintro e w' ⟨rfl, ⟨nd, rfl⟩⟩; refine ⟨_, rfl, ?_⟩) | ((with_reducible refine gate_callee (f := 27) rfl ?_); refine goesL_ (some 36) rfl rfl Tryd.func27 (by kernel_rfl) rfl #[.string t453, .string t451] rfl mq ?_; (with_reducible refine (decimal_Compare.calls t453 t451 t454 _ A9.out).mono ?_); rintro e w10 ⟨rfl, hb⟩; refine ⟨_, rfl, ?_⟩; replace HB := Aside0.mk (below_step bq hb); (try clear hb); (try clear hb2); (try clear hk); (try clear hi)))
      go_ret
      exact ⟨eq_, bq⟩
    · replace c8 := Bool.eq_false_iff.mpr c8
      subst c8
      have H1 : ((decimal_Compare.f t451 t453).bind fun t455 => (some t455)) = some r := by rw [if_neg (show ¬ (false = true) by decide)] at H; exact H
      clear H
      have H := H1
      clear H1
      replace H := Option.bind_eq_some_iff.mp H
      obtain ⟨t455, A110, H⟩ := H
      replace H : (some t455) = some r := H
      have A11 := Aside0.mk A110
      clear A110
      obtain rfl := Option.some.inj H
      go_enter Tryd.func11, Tryd.ntmps11
      go_wp2_with (first | ((with_reducible refine gate_callee (f := 17) rfl ?_); refine goesL_ (some 12) rfl rfl Tryd.func17 (by kernel_rfl) rfl #[.string a0] rfl mq ?_; (with_reducible refine (whole_Sign.calls a0 t448 _ A3.out).mono ?_); rintro e w' ⟨rfl, ⟨nd, rfl⟩⟩; refine ⟨_, rfl, ?_⟩) | ((with_reducible refine gate_callee (f := 17) rfl ?_); refine goesL_ (some 14) rfl rfl Tryd.func17 (by kernel_rfl) rfl #[.string a1] rfl mq ?_; (with_reducible refine (whole_Sign.calls a1 t449 _ A4.out).mono ?_); rintro e w' ⟨rfl, ⟨nd, rfl⟩⟩; refine ⟨_, rfl, ?_⟩) | ((with_reducible refine gate_callee (f := 25) rfl ?_); refine goesL_ (some 23) rfl rfl Tryd.func25 (by kernel_rfl) rfl #[.string a0] rfl mq ?_; (with_reducible refine (whole_split.calls a0 false t451 _ A6.out).mono ?_); rintro e w' ⟨rfl, ⟨nd, rfl⟩⟩; refine ⟨_, rfl, ?_⟩) | ((with_reducible refine gate_callee (f := 25) rfl ?_); refine goesL_ (some 28) rfl rfl Tryd.func25 (by kernel_rfl) rfl #[.string a1] rfl mq ?_; (with_reducible refine (whole_split.calls a1 t452 t453 _ A7.out).mono ?_); rintro e w' ⟨rfl, ⟨nd, rfl⟩⟩; refine ⟨_, rfl, ?_⟩) | ((with_reducible refine gate_callee (f := 27) rfl ?_); refine goesL_ (some 36) rfl rfl Tryd.func27 (by kernel_rfl) rfl #[.string t451, .string t453] rfl mq ?_; (with_reducible refine (decimal_Compare.calls t451 t453 t455 _ A11.out).mono ?_); rintro e w12 ⟨rfl, hb⟩; refine ⟨_, rfl, ?_⟩; replace HB := Aside0.mk (below_step bq hb); (try clear hb); (try clear hb2); (try clear hk); (try clear hi)))
      go_ret
      exact ⟨eq_, bq⟩
  · rw [if_neg c5] at H
    have c5b0 : (t448 == t449) = false := beq_eq_false_iff_ne.mpr c5
    have c5b1 : (t448 != t449) = true := bne_iff_ne.mpr c5
    by_cases c13 : t448 < t449
    · rw [if_pos c13] at H
      have c13b0 : decide (t448 < t449) = true := decide_eq_true c13
      clear c13
      obtain rfl := Option.some.inj H
      go_enter Tryd.func11, Tryd.ntmps11
      go_wp2_with (first | ((with_reducible refine gate_callee (f := 17) rfl ?_); refine goesL_ (some 12) rfl rfl Tryd.func17 (by kernel_rfl) rfl #[.string a0] rfl mq ?_; (with_reducible refine (whole_Sign.calls a0 t448 _ A3.out).mono ?_); rintro e w' ⟨rfl, ⟨nd, rfl⟩⟩; refine ⟨_, rfl, ?_⟩) | ((with_reducible refine gate_callee (f := 17) rfl ?_); refine goesL_ (some 14) rfl rfl Tryd.func17 (by kernel_rfl) rfl #[.string a1] rfl mq ?_; (with_reducible refine (whole_Sign.calls a1 t449 _ A4.out).mono ?_); rintro e w' ⟨rfl, ⟨nd, rfl⟩⟩; refine ⟨_, rfl, ?_⟩))
      go_ret
      exact ⟨eq_, bq⟩
    · rw [if_neg c13] at H
      have c13b0 : decide (t448 < t449) = false := decide_eq_false c13
      clear c13
      obtain rfl := Option.some.inj H
      go_enter Tryd.func11, Tryd.ntmps11
      go_wp2_with (first | ((with_reducible refine gate_callee (f := 17) rfl ?_); refine goesL_ (some 12) rfl rfl Tryd.func17 (by kernel_rfl) rfl #[.string a0] rfl mq ?_; (with_reducible refine (whole_Sign.calls a0 t448 _ A3.out).mono ?_); rintro e w' ⟨rfl, ⟨nd, rfl⟩⟩; refine ⟨_, rfl, ?_⟩) | ((with_reducible refine gate_callee (f := 17) rfl ?_); refine goesL_ (some 14) rfl rfl Tryd.func17 (by kernel_rfl) rfl #[.string a1] rfl mq ?_; (with_reducible refine (whole_Sign.calls a1 t449 _ A4.out).mono ?_); rintro e w' ⟨rfl, ⟨nd, rfl⟩⟩; refine ⟨_, rfl, ?_⟩))
      go_ret
      exact ⟨eq_, bq⟩
def whole_gcd.l0 : Nat → Int → Int → Option (Int)
  | 0, _, _ => none
  | k + 1, x0, x1 => if x1 = 0 then (some x0) else (whole_gcd.l0 k x1 (Int.tmod x0 x1))
def whole_gcd.f (k : Nat) (a0 : Int) (a1 : Int) : Option (Int) := whole_gcd.l0 k a0 a1
theorem whole_gcd.mono_l : ∀ k, (∀ y0 y1, LeO (whole_gcd.l0 k y0 y1) (whole_gcd.l0 (k + 1) y0 y1))
  | 0 => fun _ _ r h => by simp [whole_gcd.l0] at h
  | k + 1 => by
    have ih0 := whole_gcd.mono_l k
    · intro y0 y1
      unfold whole_gcd.l0
      repeat' first
      | (with_reducible exact ih0 _ _)
      | (with_reducible exact LeO.refl _)
      | (with_reducible exact LeO.none _)
      | (with_reducible refine LeO.ite ?_ ?_)
      | (with_reducible refine LeO.bind ?_ (fun _ => ?_))
      | exact ih0 _ _
      | exact LeO.none _
      | refine LeO.ite ?_ ?_
      | refine LeO.bind ?_ (fun _ => ?_)
theorem whole_gcd.mono : ∀ a0 a1 k, LeO (whole_gcd.f k a0 a1) (whole_gcd.f (k + 1) a0 a1) := by
  intro a0 a1 k
  have ih0 := whole_gcd.mono_l k
  unfold whole_gcd.f
  repeat' first
      | (with_reducible exact ih0 _ _)
      | (with_reducible exact LeO.refl _)
      | (with_reducible exact LeO.none _)
      | (with_reducible refine LeO.ite ?_ ?_)
      | (with_reducible refine LeO.bind ?_ (fun _ => ?_))
      | exact ih0 _ _
      | exact LeO.none _
      | refine LeO.ite ?_ ?_
      | refine LeO.bind ?_ (fun _ => ?_)
set_option maxHeartbeats 8000000 in
set_option maxRecDepth 100000 in
theorem whole_gcd.calls (k : Nat) (a0 : Int) (a1 : Int) (r : Int) (w : World) (h : whole_gcd.f k a0 a1 = some r) :
    Calls Tryd.prog 31 #[.int .i64 a0, .int .i64 a1] w fun e w' => e = .returned (.int .i64 r) ∧ Drawn0 w w' := by
  have H : (whole_gcd.l0 k a0 a1) = some r := h
  clear h
  have H' := Aside0.mk H
  clear H
  go_enter Tryd.func31, Tryd.ntmps31
  go_wp2
  repeat (go_quiet (fail); try go_wp2)
  go_loopg [0, 1] k (fun kq v0 v1 w' => ∃ (x0_1 : Int) (x1_1 : Int), v0 = .int .i64 x0_1 ∧ v1 = .int .i64 x1_1 ∧ Aside0 (whole_gcd.l0 kq x0_1 x1_1 = some r) ∧ Aside0 (kq ≤ k) ∧ Drawn0 w w')
  case atStart => exact ⟨(a0), (a1), (by first | rfl | (simp; done) | (simp [*]; done)), (by first | rfl | (simp; done) | (simp [*]; done)), H', ⟨Nat.le_refl _⟩, by repeat (first | exact Drawn0.refl _ | apply Drawn0.step)⟩
  case round =>
    clear H'
    try clear p2
    obtain ⟨x0_1, x1_1, rfl, rfl, HA, HK1, ⟨m1, rfl⟩⟩ := hrel
    cases gk with
    | zero => exact absurd HA.out (by simp [whole_gcd.l0])
    | succ k1 =>
      have H := HA.out
      clear HA
      simp only [whole_gcd.l0] at H
      by_cases c3 : x1_1 = 0
      · rw [if_pos c3] at H
        have c3b0 : (x1_1 == 0) = true := beq_iff_eq.mpr c3
        have c3b1 : (x1_1 != 0) = false := bne_eq_false_iff_eq.mpr c3
        clear c3
        obtain rfl := Option.some.inj H
        go_wp2
        repeat (go_quiet (fail); try go_wp2)
        go_ret
        exact ⟨by first | rfl | (simp; done) | (simp [wrap64]; done) | (simp [*]; done), by repeat (first | exact Drawn0.refl _ | apply Drawn0.step)⟩
      · rw [if_neg c3] at H
        have c3b0 : (x1_1 == 0) = false := beq_eq_false_iff_ne.mpr c3
        have c3b1 : (x1_1 != 0) = true := bne_iff_ne.mpr c3
        have H' := Aside0.mk H
        clear H
        go_wp2
        repeat (go_quiet (fail); try go_wp2)
        go_roundg k1
        case measure => have := HK1.out; omega
        case rel => exact ⟨(x1_1), (Int.tmod x0_1 x1_1), (by first | rfl | (simp; done) | (simp [*]; done)), (by first | rfl | (simp; done) | (simp [*]; done)), H', ⟨by have := HK1.out; omega⟩, by repeat (first | exact Drawn0.refl _ | apply Drawn0.step)⟩
end Go.Proofs.YtioimihminelaaaDoor.P
