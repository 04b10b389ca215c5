/- Functions of the program, as functions of Lean, and the walks that show that the code answers as they do: written by a program. Conditions: those of each theorem. -/
import Derived.Test.YtcfddphiflmnlaaDoorDecimalExponentsF5
namespace Go.Proofs.YtcfddphiflmnlaaDoor.P
open Go.RowKit Go.Proofs.YtcfddphiflmnlaaDoorW.PrintWords Go.Proofs.YtcfddphiflmnlaaDoorW.PrintLast Go.Proofs.YtcfddphiflmnlaaDoorW.PrintMore
attribute [local go_sem] gtr_text max2_int min2_int max_two min_two max_three min_three max_four min_four
set_option linter.unusedVariables false
set_option linter.unusedSimpArgs false
mutual
def schismalaw01_DecimalExponents.j0 : Nat → List Int → Int → Int → Bool → Option (Bool)
  | 0, _, _, _, _ => none
  | k + 1, x0, x1, x2, x25 => if x25 = true then ((schismalaw01_known.f k).bind fun t510 => (some t510)) else ((schismalaw01_Make.f k x0).bind fun t511 => ((decimal_Power.f k t511 (wrap64 (Int.tmod x1 16))).bind fun bt512 => ((decimal_Power.f k t511 (wrap64 (Int.tmod x2 16))).bind fun bt514 => ((decimal_Power.f k t511 (wrap64 ((wrap64 (Int.tmod x1 16)) + (wrap64 (Int.tmod x2 16))))).bind fun bt516 => (if bt512.2 = 0 then (if bt514.2 = 0 then (if bt516.2 = 0 then ((decimal_Mul.f k bt512.1 bt514.1).bind fun t518 => (schismalaw01_DecimalExponents.j1 k bt516.1 (t518.toList != bt516.1.toList))) else (schismalaw01_DecimalExponents.j1 k bt516.1 true)) else (schismalaw01_DecimalExponents.j1 k bt516.1 true)) else (schismalaw01_DecimalExponents.j1 k bt516.1 true))))))
def schismalaw01_DecimalExponents.j1 : Nat → ByteArray → Bool → Option (Bool)
  | 0, _, _ => none
  | k + 1, x14, x71 => if x71 = true then (some false) else ((decimal_Bits.f k x14).bind fun t519 => (if x14.toList = ([48] : List UInt8) then (some (t519 == 0)) else (if t519 < 1 then (schismalaw01_DecimalExponents.j2 k x14 t519 true) else (schismalaw01_DecimalExponents.j2 k x14 t519 (decide (t519 > 2000))))))
def schismalaw01_DecimalExponents.j2 : Nat → ByteArray → Int → Bool → Option (Bool)
  | 0, _, _, _ => none
  | k + 1, x14, x16, x83 => if x83 = true then (some false) else ((decimal_Power.f k (⟨#[50]⟩ : ByteArray) (wrap64 (x16 - 1))).bind fun bt520 => (if bt520.2 = 0 then ((decimal_Compare.f bt520.1 x14).bind fun t522 => (if t522 ≤ 0 then ((decimal_Add.f k bt520.1 bt520.1).bind fun t523 => ((decimal_Compare.f x14 t523).bind fun t524 => (some (decide (t524 < 0))))) else (some false))) else (some false)))
end
def schismalaw01_DecimalExponents.f (k : Nat) (l0 : List Int) (a1 : Int) (a2 : Int) : Option (Bool) := (schismalaw01_known.f k).bind fun t509 => (if t509 = true then (schismalaw01_DecimalExponents.j0 k l0 a1 a2 (decide ((l0.length : Int) > 10))) else (schismalaw01_DecimalExponents.j0 k l0 a1 a2 true))
theorem schismalaw01_DecimalExponents.mono_l : ∀ k, (∀ y0 y1 y2 y3, LeO (schismalaw01_DecimalExponents.j0 k y0 y1 y2 y3) (schismalaw01_DecimalExponents.j0 (k + 1) y0 y1 y2 y3)) ∧ (∀ y0 y1, LeO (schismalaw01_DecimalExponents.j1 k y0 y1) (schismalaw01_DecimalExponents.j1 (k + 1) y0 y1)) ∧ (∀ y0 y1 y2, LeO (schismalaw01_DecimalExponents.j2 k y0 y1 y2) (schismalaw01_DecimalExponents.j2 (k + 1) y0 y1 y2))
  | 0 => ⟨fun _ _ _ _ r h => by simp [schismalaw01_DecimalExponents.j0] at h, fun _ _ r h => by simp [schismalaw01_DecimalExponents.j1] at h, fun _ _ _ r h => by simp [schismalaw01_DecimalExponents.j2] at h⟩
  | k + 1 => by
    obtain ⟨ih0, ih1, ih2⟩ := schismalaw01_DecimalExponents.mono_l k
    refine ⟨?_, ?_, ?_⟩
    · intro y0 y1 y2 y3
      unfold schismalaw01_DecimalExponents.j0
      repeat' first
      | (with_reducible exact ih0 _ _ _ _)
      | (with_reducible exact ih1 _ _)
      | (with_reducible exact ih2 _ _ _)
      | (with_reducible exact decimal_Add.mono _ _ _)
      | (with_reducible exact decimal_Bits.mono _ _)
      | (with_reducible exact decimal_Mul.mono _ _ _)
      | (with_reducible exact decimal_Power.mono _ _ _)
      | (with_reducible exact schismalaw01_Make.mono _ _)
      | (with_reducible exact schismalaw01_known.mono _)
      | (with_reducible exact LeO.refl _)
      | (with_reducible exact LeO.none _)
      | (with_reducible refine LeO.ite ?_ ?_)
      | (with_reducible refine LeO.bind ?_ (fun _ => ?_))
      | exact ih0 _ _ _ _
      | exact ih1 _ _
      | exact ih2 _ _ _
      | exact decimal_Add.mono _ _ _
      | exact decimal_Bits.mono _ _
      | exact decimal_Mul.mono _ _ _
      | exact decimal_Power.mono _ _ _
      | exact schismalaw01_Make.mono _ _
      | exact schismalaw01_known.mono _
      | exact LeO.none _
      | refine LeO.ite ?_ ?_
      | refine LeO.bind ?_ (fun _ => ?_)
    · intro y0 y1
      unfold schismalaw01_DecimalExponents.j1
      repeat' first
      | (with_reducible exact ih0 _ _ _ _)
      | (with_reducible exact ih1 _ _)
      | (with_reducible exact ih2 _ _ _)
      | (with_reducible exact decimal_Add.mono _ _ _)
      | (with_reducible exact decimal_Bits.mono _ _)
      | (with_reducible exact decimal_Mul.mono _ _ _)
      | (with_reducible exact decimal_Power.mono _ _ _)
      | (with_reducible exact schismalaw01_Make.mono _ _)
      | (with_reducible exact schismalaw01_known.mono _)
      | (with_reducible exact LeO.refl _)
      | (with_reducible exact LeO.none _)
      | (with_reducible refine LeO.ite ?_ ?_)
      | (with_reducible refine LeO.bind ?_ (fun _ => ?_))
      | exact ih0 _ _ _ _
      | exact ih1 _ _
      | exact ih2 _ _ _
      | exact decimal_Add.mono _ _ _
      | exact decimal_Bits.mono _ _
      | exact decimal_Mul.mono _ _ _
      | exact decimal_Power.mono _ _ _
      | exact schismalaw01_Make.mono _ _
      | exact schismalaw01_known.mono _
      | exact LeO.none _
      | refine LeO.ite ?_ ?_
      | refine LeO.bind ?_ (fun _ => ?_)
    · intro y0 y1 y2
      unfold schismalaw01_DecimalExponents.j2
      repeat' first
      | (with_reducible exact ih0 _ _ _ _)
      | (with_reducible exact ih1 _ _)
      | (with_reducible exact ih2 _ _ _)
      | (with_reducible exact decimal_Add.mono _ _ _)
      | (with_reducible exact decimal_Bits.mono _ _)
      | (with_reducible exact decimal_Mul.mono _ _ _)
      | (with_reducible exact decimal_Power.mono _ _ _)
      | (with_reducible exact schismalaw01_Make.mono _ _)
      | (with_reducible exact schismalaw01_known.mono _)
      | (with_reducible exact LeO.refl _)
      | (with_reducible exact LeO.none _)
      | (with_reducible refine LeO.ite ?_ ?_)
      | (with_reducible refine LeO.bind ?_ (fun _ => ?_))
      | exact ih0 _ _ _ _
      | exact ih1 _ _
      | exact ih2 _ _ _
      | exact decimal_Add.mono _ _ _
      | exact decimal_Bits.mono _ _
      | exact decimal_Mul.mono _ _ _
      | exact decimal_Power.mono _ _ _
      | exact schismalaw01_Make.mono _ _
      | exact schismalaw01_known.mono _
      | exact LeO.none _
      | refine LeO.ite ?_ ?_
      | refine LeO.bind ?_ (fun _ => ?_)
theorem schismalaw01_DecimalExponents.mono : ∀ a0 a1 a2 k, LeO (schismalaw01_DecimalExponents.f k a0 a1 a2) (schismalaw01_DecimalExponents.f (k + 1) a0 a1 a2) := by
  intro a0 a1 a2 k
  obtain ⟨ih0, ih1, ih2⟩ := schismalaw01_DecimalExponents.mono_l k
  unfold schismalaw01_DecimalExponents.f
  repeat' first
      | (with_reducible exact ih0 _ _ _ _)
      | (with_reducible exact ih1 _ _)
      | (with_reducible exact ih2 _ _ _)
      | (with_reducible exact decimal_Add.mono _ _ _)
      | (with_reducible exact decimal_Bits.mono _ _)
      | (with_reducible exact decimal_Mul.mono _ _ _)
      | (with_reducible exact decimal_Power.mono _ _ _)
      | (with_reducible exact schismalaw01_Make.mono _ _)
      | (with_reducible exact schismalaw01_known.mono _)
      | (with_reducible exact LeO.refl _)
      | (with_reducible exact LeO.none _)
      | (with_reducible refine LeO.ite ?_ ?_)
      | (with_reducible refine LeO.bind ?_ (fun _ => ?_))
      | exact ih0 _ _ _ _
      | exact ih1 _ _
      | exact ih2 _ _ _
      | exact decimal_Add.mono _ _ _
      | exact decimal_Bits.mono _ _
      | exact decimal_Mul.mono _ _ _
      | exact decimal_Power.mono _ _ _
      | exact schismalaw01_Make.mono _ _
      | exact schismalaw01_known.mono _
      | exact LeO.none _
      | refine LeO.ite ?_ ?_
      | refine LeO.bind ?_ (fun _ => ?_)
set_option maxHeartbeats 8000000 in
set_option maxRecDepth 100000 in
theorem schismalaw01_DecimalExponents.calls (k : Nat) (A0 : Option Addr) (c0 : Nat) (l0 : List Int) (a1 : Int) (a2 : Int) (r : Bool) (w : World) (hr0 : Kd.C (Kd.int .u8) w A0 l0.length l0) (hc0 : l0.length ≤ c0) (hT : Tab w) (h : schismalaw01_DecimalExponents.f k l0 a1 a2 = some r) :
    Calls Tryd.prog 10 #[.slice A0 l0.length c0, .int .u8 a1, .int .u8 a2] w fun e w' => e = .returned (.bool r) ∧ Below w.heap.size w w' := by
  have HT := Aside0.mk hT
  clear hT
  have HR0 := Aside0.mk hr0
  have HC0 := Aside0.mk hc0
  clear hr0 hc0
  have HB := Aside0.mk (Below.refl w.heap.size w)
  have H : ((schismalaw01_known.f k).bind fun t509 => (if t509 = true then (schismalaw01_DecimalExponents.j0 k l0 a1 a2 (decide ((l0.length : Int) > 10))) else (schismalaw01_DecimalExponents.j0 k l0 a1 a2 true))) = some r := h
  clear h
  have HC4 := Aside0.mk H
  clear H
  go_enter Tryd.func10, Tryd.ntmps10
  go_upto_region 1 with (fail)
  go_cut [25] (fun v25 wc => ∃ (kq : Nat) (x25_3 : Bool), v25 = .bool x25_3 ∧ Aside0 (schismalaw01_DecimalExponents.j0 kq l0 a1 a2 x25_3 = some r) ∧ Aside0 (kq ≤ k) ∧ Aside0 (Below w.heap.size w wc))
  case first =>
    have H := HC4.out
    clear HC4
    replace H := Option.bind_eq_some_iff.mp H
    obtain ⟨t509, A50, H⟩ := H
    replace H : (if t509 = true then (schismalaw01_DecimalExponents.j0 k l0 a1 a2 (decide ((l0.length : Int) > 10))) else (schismalaw01_DecimalExponents.j0 k l0 a1 a2 true)) = some r := H
    have A5 := Aside0.mk A50
    clear A50
    by_cases c6 : t509 = true
    · subst c6
      have H1 : (schismalaw01_DecimalExponents.j0 k l0 a1 a2 (decide ((l0.length : Int) > 10))) = some r := by rw [if_pos rfl] at H; exact H
      clear H
      have H := H1
      clear H1
      have H' := Aside0.mk H
      clear H
      go_wp2_with (first | ((with_reducible refine gate_callee (f := 13) rfl ?_); refine goesL_ (some 19) rfl rfl Tryd.func13 (by kernel_rfl) rfl #[] rfl mq ?_; (with_reducible refine (schismalaw01_known.calls (hT := HT.out.below bq) k  true _ A5.out).mono ?_); rintro e w7 ⟨rfl, hb⟩; refine ⟨_, rfl, ?_⟩; replace HB := Aside0.mk (below_step bq hb); (try clear hb); (try clear hb2); (try clear hk); (try clear hi)))
      go_meet
      case rel => exact ⟨_, (decide ((l0.length : Int) > 10)), (by first | rfl | (simp; done) | (simp [*]; done)), H', ⟨by first | omega | exact Nat.le_refl _⟩, ⟨bq⟩⟩
    · replace c6 := Bool.eq_false_iff.mpr c6
      subst c6
      have H1 : (schismalaw01_DecimalExponents.j0 k l0 a1 a2 true) = some r := by rw [if_neg (show ¬ (false = true) by decide)] at H; exact H
      clear H
      have H := H1
      clear H1
      have H' := Aside0.mk H
      clear H
      go_wp2_with (first | ((with_reducible refine gate_callee (f := 13) rfl ?_); refine goesL_ (some 19) rfl rfl Tryd.func13 (by kernel_rfl) rfl #[] rfl mq ?_; (with_reducible refine (schismalaw01_known.calls (hT := HT.out.below bq) k  false _ A5.out).mono ?_); rintro e w8 ⟨rfl, hb⟩; refine ⟨_, rfl, ?_⟩; replace HB := Aside0.mk (below_step bq hb); (try clear hb); (try clear hb2); (try clear hk); (try clear hi)))
      go_meet
      case rel => exact ⟨_, (true), (by first | rfl | (simp; done) | (simp [*]; done)), H', ⟨by first | omega | exact Nat.le_refl _⟩, ⟨bq⟩⟩
  case rest =>
    clear HC4
    try clear c1
    try clear p2
    try clear c6
    obtain ⟨kq, x25_3, rfl, HA, HJ3, HB⟩ := hcut
    cases kq with
    | zero => exact absurd HA.out (by simp [schismalaw01_DecimalExponents.j0])
    | succ kj3 =>
      have H := HA.out
      clear HA
      simp only [schismalaw01_DecimalExponents.j0] at H
      by_cases c9 : x25_3 = true
      · subst c9
        have H1 : ((schismalaw01_known.f kj3).bind fun t510 => (some t510)) = some r := by rw [if_pos rfl] at H; exact H
        clear H
        have H := H1
        clear H1
        replace H := Option.bind_eq_some_iff.mp H
        obtain ⟨t510, A100, H⟩ := H
        replace H : (some t510) = some r := H
        have A10 := Aside0.mk A100
        clear A100
        obtain rfl := Option.some.inj H
        go_wp2_with (first | ((with_reducible refine gate_callee (f := 13) rfl ?_); refine goesL_ (some 26) rfl rfl Tryd.func13 (by kernel_rfl) rfl #[] rfl mq ?_; (with_reducible refine (schismalaw01_known.calls (hT := HT.out.below bq) kj3  t510 _ A10.out).mono ?_); rintro e w11 ⟨rfl, hb⟩; refine ⟨_, rfl, ?_⟩; replace HB := Aside0.mk (below_step bq hb); (try clear hb); (try clear hb2); (try clear hk); (try clear hi)))
        go_ret
        exact ⟨eq_, bq⟩
      · replace c9 := Bool.eq_false_iff.mpr c9
        subst c9
        have H1 : ((schismalaw01_Make.f kj3 l0).bind fun t511 => ((decimal_Power.f kj3 t511 (wrap64 (Int.tmod a1 16))).bind fun bt512 => ((decimal_Power.f kj3 t511 (wrap64 (Int.tmod a2 16))).bind fun bt514 => ((decimal_Power.f kj3 t511 (wrap64 ((wrap64 (Int.tmod a1 16)) + (wrap64 (Int.tmod a2 16))))).bind fun bt516 => (if bt512.2 = 0 then (if bt514.2 = 0 then (if bt516.2 = 0 then ((decimal_Mul.f kj3 bt512.1 bt514.1).bind fun t518 => (schismalaw01_DecimalExponents.j1 kj3 bt516.1 (t518.toList != bt516.1.toList))) else (schismalaw01_DecimalExponents.j1 kj3 bt516.1 true)) else (schismalaw01_DecimalExponents.j1 kj3 bt516.1 true)) else (schismalaw01_DecimalExponents.j1 kj3 bt516.1 true)))))) = some r := by rw [if_neg (show ¬ (false = true) by decide)] at H; exact H
        clear H
        have H := H1
        clear H1
        replace H := Option.bind_eq_some_iff.mp H
        obtain ⟨t511, A120, H⟩ := H
        replace H : ((decimal_Power.f kj3 t511 (wrap64 (Int.tmod a1 16))).bind fun bt512 => ((decimal_Power.f kj3 t511 (wrap64 (Int.tmod a2 16))).bind fun bt514 => ((decimal_Power.f kj3 t511 (wrap64 ((wrap64 (Int.tmod a1 16)) + (wrap64 (Int.tmod a2 16))))).bind fun bt516 => (if bt512.2 = 0 then (if bt514.2 = 0 then (if bt516.2 = 0 then ((decimal_Mul.f kj3 bt512.1 bt514.1).bind fun t518 => (schismalaw01_DecimalExponents.j1 kj3 bt516.1 (t518.toList != bt516.1.toList))) else (schismalaw01_DecimalExponents.j1 kj3 bt516.1 true)) else (schismalaw01_DecimalExponents.j1 kj3 bt516.1 true)) else (schismalaw01_DecimalExponents.j1 kj3 bt516.1 true))))) = some r := H
        have A12 := Aside0.mk A120
        clear A120
        replace H := Option.bind_eq_some_iff.mp H
        obtain ⟨⟨t512, t513⟩, A130, H⟩ := H
        replace H : ((decimal_Power.f kj3 t511 (wrap64 (Int.tmod a2 16))).bind fun bt514 => ((decimal_Power.f kj3 t511 (wrap64 ((wrap64 (Int.tmod a1 16)) + (wrap64 (Int.tmod a2 16))))).bind fun bt516 => (if t513 = 0 then (if bt514.2 = 0 then (if bt516.2 = 0 then ((decimal_Mul.f kj3 t512 bt514.1).bind fun t518 => (schismalaw01_DecimalExponents.j1 kj3 bt516.1 (t518.toList != bt516.1.toList))) else (schismalaw01_DecimalExponents.j1 kj3 bt516.1 true)) else (schismalaw01_DecimalExponents.j1 kj3 bt516.1 true)) else (schismalaw01_DecimalExponents.j1 kj3 bt516.1 true)))) = some r := H
        have A13 := Aside0.mk A130
        clear A130
        replace H := Option.bind_eq_some_iff.mp H
        obtain ⟨⟨t514, t515⟩, A140, H⟩ := H
        replace H : ((decimal_Power.f kj3 t511 (wrap64 ((wrap64 (Int.tmod a1 16)) + (wrap64 (Int.tmod a2 16))))).bind fun bt516 => (if t513 = 0 then (if t515 = 0 then (if bt516.2 = 0 then ((decimal_Mul.f kj3 t512 t514).bind fun t518 => (schismalaw01_DecimalExponents.j1 kj3 bt516.1 (t518.toList != bt516.1.toList))) else (schismalaw01_DecimalExponents.j1 kj3 bt516.1 true)) else (schismalaw01_DecimalExponents.j1 kj3 bt516.1 true)) else (schismalaw01_DecimalExponents.j1 kj3 bt516.1 true))) = some r := H
        have A14 := Aside0.mk A140
        clear A140
        replace H := Option.bind_eq_some_iff.mp H
        obtain ⟨⟨t516, t517⟩, A150, H⟩ := H
        replace H : (if t513 = 0 then (if t515 = 0 then (if t517 = 0 then ((decimal_Mul.f kj3 t512 t514).bind fun t518 => (schismalaw01_DecimalExponents.j1 kj3 t516 (t518.toList != t516.toList))) else (schismalaw01_DecimalExponents.j1 kj3 t516 true)) else (schismalaw01_DecimalExponents.j1 kj3 t516 true)) else (schismalaw01_DecimalExponents.j1 kj3 t516 true)) = some r := H
        have A15 := Aside0.mk A150
        clear A150
        have HC16 := Aside0.mk H
        clear H
        go_upto_region 7 with (first | ((with_reducible refine gate_callee (f := 16) rfl ?_); refine goesL_ (some 28) rfl rfl Tryd.func16 (by kernel_rfl) rfl #[.slice A0 l0.length c0] rfl mq ?_; (with_reducible refine (schismalaw01_Make.calls kj3 _ _ l0 t511 _ ?side1 ?side2 A12.out).mono ?_); (case side1 => repeat (first | exact (Kd.C_below HR0.out HB.out) | (with_reducible refine Kd.C_alloc ?_ _) | (with_reducible refine Kd.C_drewN ?_ _) | (with_reducible refine Kd.C_drew ?_))); (case side2 => exact HC0.out); rintro e w17 ⟨rfl, hb⟩; refine ⟨_, rfl, ?_⟩; replace HB := Aside0.mk (below_step bq hb); (try clear hb); (try clear hb2); (try clear hk); (try clear hi)) | ((with_reducible refine gate_callee (f := 25) rfl ?_); refine goesL_ (some 38) rfl rfl Tryd.func25 (by kernel_rfl) rfl #[.string t511, .int .i64 (wrap64 (Int.tmod a1 16))] rfl mq ?_; (with_reducible refine (decimal_Power.calls (hT := HT.out.below bq) kj3 t511 (wrap64 (Int.tmod a1 16)) t512 t513 _ A13.out).mono ?_); rintro e w18 ⟨rfl, hb⟩; refine ⟨_, rfl, ?_⟩; replace HB := Aside0.mk (below_step bq hb); (try clear hb); (try clear hb2); (try clear hk); (try clear hi)) | ((with_reducible refine gate_callee (f := 25) rfl ?_); refine goesL_ (some 44) rfl rfl Tryd.func25 (by kernel_rfl) rfl #[.string t511, .int .i64 (wrap64 (Int.tmod a2 16))] rfl mq ?_; (with_reducible refine (decimal_Power.calls (hT := HT.out.below bq) kj3 t511 (wrap64 (Int.tmod a2 16)) t514 t515 _ A14.out).mono ?_); rintro e w19 ⟨rfl, hb⟩; refine ⟨_, rfl, ?_⟩; replace HB := Aside0.mk (below_step bq hb); (try clear hb); (try clear hb2); (try clear hk); (try clear hi)) | ((with_reducible refine gate_callee (f := 25) rfl ?_); refine goesL_ (some 52) rfl rfl Tryd.func25 (by kernel_rfl) rfl #[.string t511, .int .i64 (wrap64 ((wrap64 (Int.tmod a1 16)) + (wrap64 (Int.tmod a2 16))))] rfl mq ?_; (with_reducible refine (decimal_Power.calls (hT := HT.out.below bq) kj3 t511 (wrap64 ((wrap64 (Int.tmod a1 16)) + (wrap64 (Int.tmod a2 16)))) t516 t517 _ A15.out).mono ?_); rintro e w20 ⟨rfl, hb⟩; refine ⟨_, rfl, ?_⟩; replace HB := Aside0.mk (below_step bq hb); (try clear hb); (try clear hb2); (try clear hk); (try clear hi)))
        (try simp only [Act.put, List.setIfInBounds_toArray, List.set_cons_zero, List.set_cons_succ])
        go_cut [71] (fun v71 wc => ∃ (kq : Nat) (x71_15 : Bool), v71 = .bool x71_15 ∧ Aside0 (schismalaw01_DecimalExponents.j1 kq t516 x71_15 = some r) ∧ Aside0 (kq ≤ kj3) ∧ Aside0 (Below w.heap.size w wc))
        case first =>
          have H := HC16.out
          clear HC16
          by_cases c21 : t513 = 0
          · rw [if_pos c21] at H
            have c21b0 : (t513 == 0) = true := beq_iff_eq.mpr c21
            have c21b1 : (t513 != 0) = false := bne_eq_false_iff_eq.mpr c21
            clear c21
            (first | rw [c21b0] | (simp only [i64_w, i32_w]; rw [c21b0]) | skip)
            by_cases c22 : t515 = 0
            · rw [if_pos c22] at H
              have c22b0 : (t515 == 0) = true := beq_iff_eq.mpr c22
              have c22b1 : (t515 != 0) = false := bne_eq_false_iff_eq.mpr c22
              clear c22
              by_cases c23 : t517 = 0
              · rw [if_pos c23] at H
                have c23b0 : (t517 == 0) = true := beq_iff_eq.mpr c23
                have c23b1 : (t517 != 0) = false := bne_eq_false_iff_eq.mpr c23
                clear c23
                replace H := Option.bind_eq_some_iff.mp H
                obtain ⟨t518, A240, H⟩ := H
                replace H : (schismalaw01_DecimalExponents.j1 kj3 t516 (t518.toList != t516.toList)) = some r := H
                have A24 := Aside0.mk A240
                clear A240
                have H' := Aside0.mk H
                clear H
                go_wp2_with (first | (go_at_call 37; (with_reducible refine (decimal_Mul.calls (hT := HT.out.below bq) kj3 t512 t514 t518 _ A24.out).mono ?_); rintro e w25 ⟨rfl, hb⟩; replace HB := Aside0.mk (below_step bq hb); (try clear hb); (try clear hb2); (try clear hk); (try clear hi)))
                go_meet
                case rel => exact ⟨_, ((t518.toList != t516.toList)), (by first | rfl | (simp; done) | (simp [*]; done)), H', ⟨by have := HJ3.out; first | omega | exact Nat.le_refl _⟩, ⟨bq⟩⟩
              · rw [if_neg c23] at H
                have c23b0 : (t517 == 0) = false := beq_eq_false_iff_ne.mpr c23
                have c23b1 : (t517 != 0) = true := bne_iff_ne.mpr c23
                have H' := Aside0.mk H
                clear H
                go_wp2
                go_meet
                case rel => exact ⟨_, (true), (by first | rfl | (simp; done) | (simp [*]; done)), H', ⟨by have := HJ3.out; first | omega | exact Nat.le_refl _⟩, ⟨bq⟩⟩
            · rw [if_neg c22] at H
              have c22b0 : (t515 == 0) = false := beq_eq_false_iff_ne.mpr c22
              have c22b1 : (t515 != 0) = true := bne_iff_ne.mpr c22
              have H' := Aside0.mk H
              clear H
              go_wp2
              go_meet
              case rel => exact ⟨_, (true), (by first | rfl | (simp; done) | (simp [*]; done)), H', ⟨by have := HJ3.out; first | omega | exact Nat.le_refl _⟩, ⟨bq⟩⟩
          · rw [if_neg c21] at H
            have c21b0 : (t513 == 0) = false := beq_eq_false_iff_ne.mpr c21
            have c21b1 : (t513 != 0) = true := bne_iff_ne.mpr c21
            (first | rw [c21b0] | (simp only [i64_w, i32_w]; rw [c21b0]) | skip)
            have H' := Aside0.mk H
            clear H
            go_wp2
            go_meet
            case rel => exact ⟨_, (true), (by first | rfl | (simp; done) | (simp [*]; done)), H', ⟨by have := HJ3.out; first | omega | exact Nat.le_refl _⟩, ⟨bq⟩⟩
        case rest =>
          clear HC16
          try clear c1
          try clear c2
          try clear p2
          try clear c6
          try clear p6
          try clear c9
          try clear c10
          try clear c13
          try clear c16
          try clear c21
          try clear c21b0
          try clear c21b1
          try clear c22
          try clear c22b0
          try clear c22b1
          try clear c23
          try clear c23b0
          try clear c23b1
          try clear c25
          try clear p2
          obtain ⟨kq, x71_15, rfl, HA, HJ15, HB⟩ := hcut
          cases kq with
          | zero => exact absurd HA.out (by simp [schismalaw01_DecimalExponents.j1])
          | succ kj15 =>
            have H := HA.out
            clear HA
            simp only [schismalaw01_DecimalExponents.j1] at H
            by_cases c26 : x71_15 = true
            · subst c26
              have H1 : (some false) = some r := by rw [if_pos rfl] at H; exact H
              clear H
              have H := H1
              clear H1
              obtain rfl := Option.some.inj H
              go_wp2
              go_ret
              exact ⟨eq_, bq⟩
            · replace c26 := Bool.eq_false_iff.mpr c26
              subst c26
              have H1 : ((decimal_Bits.f kj15 t516).bind fun t519 => (if t516.toList = ([48] : List UInt8) then (some (t519 == 0)) else (if t519 < 1 then (schismalaw01_DecimalExponents.j2 kj15 t516 t519 true) else (schismalaw01_DecimalExponents.j2 kj15 t516 t519 (decide (t519 > 2000)))))) = some r := by rw [if_neg (show ¬ (false = true) by decide)] at H; exact H
              clear H
              have H := H1
              clear H1
              replace H := Option.bind_eq_some_iff.mp H
              obtain ⟨t519, A270, H⟩ := H
              replace H : (if t516.toList = ([48] : List UInt8) then (some (t519 == 0)) else (if t519 < 1 then (schismalaw01_DecimalExponents.j2 kj15 t516 t519 true) else (schismalaw01_DecimalExponents.j2 kj15 t516 t519 (decide (t519 > 2000))))) = some r := H
              have A27 := Aside0.mk A270
              clear A270
              by_cases c28 : t516.toList = ([48] : List UInt8)
              · rw [if_pos c28] at H
                have c28b0 : (t516.toList == ([48] : List UInt8)) = true := beq_iff_eq.mpr c28
                have c28b1 : (t516.toList != ([48] : List UInt8)) = false := bne_eq_false_iff_eq.mpr c28
                clear c28
                obtain rfl := Option.some.inj H
                go_wp2_with (first | ((with_reducible refine gate_callee (f := 31) rfl ?_); refine goesL_ (some 73) rfl rfl Tryd.func31 (by kernel_rfl) rfl #[.string t516] rfl mq ?_; (with_reducible refine (decimal_Bits.calls (hT := HT.out.below bq) kj15 t516 t519 _ A27.out).mono ?_); rintro e w29 ⟨rfl, hb⟩; refine ⟨_, rfl, ?_⟩; replace HB := Aside0.mk (below_step bq hb); (try clear hb); (try clear hb2); (try clear hk); (try clear hi)))
                go_ret
                exact ⟨eq_, bq⟩
              · rw [if_neg c28] at H
                have c28b0 : (t516.toList == ([48] : List UInt8)) = false := beq_eq_false_iff_ne.mpr c28
                have c28b1 : (t516.toList != ([48] : List UInt8)) = true := bne_iff_ne.mpr c28
                have HC30 := Aside0.mk H
                clear H
                go_upto_region 12 with (first | ((with_reducible refine gate_callee (f := 31) rfl ?_); refine goesL_ (some 73) rfl rfl Tryd.func31 (by kernel_rfl) rfl #[.string t516] rfl mq ?_; (with_reducible refine (decimal_Bits.calls (hT := HT.out.below bq) kj15 t516 t519 _ A27.out).mono ?_); rintro e w31 ⟨rfl, hb⟩; refine ⟨_, rfl, ?_⟩; replace HB := Aside0.mk (below_step bq hb); (try clear hb); (try clear hb2); (try clear hk); (try clear hi)))
                (try simp only [Act.put, List.setIfInBounds_toArray, List.set_cons_zero, List.set_cons_succ])
                go_cut [83] (fun v83 wc => ∃ (kq : Nat) (x83_29 : Bool), v83 = .bool x83_29 ∧ Aside0 (schismalaw01_DecimalExponents.j2 kq t516 t519 x83_29 = some r) ∧ Aside0 (kq ≤ kj15) ∧ Aside0 (Below w.heap.size w wc))
                case first =>
                  have H := HC30.out
                  clear HC30
                  by_cases c32 : t519 < 1
                  · rw [if_pos c32] at H
                    have c32b0 : decide (t519 < 1) = true := decide_eq_true c32
                    clear c32
                    (first | rw [c32b0] | (simp only [i64_w, i32_w]; rw [c32b0]) | skip)
                    have H' := Aside0.mk H
                    clear H
                    go_wp2
                    go_meet
                    case rel => exact ⟨_, (true), (by first | rfl | (simp; done) | (simp [*]; done)), H', ⟨by have := HJ3.out; have := HJ15.out; first | omega | exact Nat.le_refl _⟩, ⟨bq⟩⟩
                  · rw [if_neg c32] at H
                    have c32b0 : decide (t519 < 1) = false := decide_eq_false c32
                    clear c32
                    (first | rw [c32b0] | (simp only [i64_w, i32_w]; rw [c32b0]) | skip)
                    have H' := Aside0.mk H
                    clear H
                    go_wp2
                    go_meet
                    case rel => exact ⟨_, (decide (t519 > 2000)), (by first | rfl | (simp; done) | (simp [*]; done)), H', ⟨by have := HJ3.out; have := HJ15.out; first | omega | exact Nat.le_refl _⟩, ⟨bq⟩⟩
                case rest =>
                  clear HC30
                  try clear c1
                  try clear c2
                  try clear p2
                  try clear c3
                  try clear c6
                  try clear p6
                  try clear c9
                  try clear c10
                  try clear c13
                  try clear c16
                  try clear c21
                  try clear c21b0
                  try clear c21b1
                  try clear c22
                  try clear c22b0
                  try clear c22b1
                  try clear c23
                  try clear c23b0
                  try clear c23b1
                  try clear c25
                  try clear c26
                  try clear c28
                  try clear c28b0
                  try clear c28b1
                  try clear c31
                  try clear c32
                  try clear c32b0
                  try clear p2
                  try clear p6
                  obtain ⟨kq, x83_29, rfl, HA, HJ29, HB⟩ := hcut
                  cases kq with
                  | zero => exact absurd HA.out (by simp [schismalaw01_DecimalExponents.j2])
                  | succ kj29 =>
                    have H := HA.out
                    clear HA
                    simp only [schismalaw01_DecimalExponents.j2] at H
                    by_cases c33 : x83_29 = true
                    · subst c33
                      have H1 : (some false) = some r := by rw [if_pos rfl] at H; exact H
                      clear H
                      have H := H1
                      clear H1
                      obtain rfl := Option.some.inj H
                      go_wp2
                      go_ret
                      exact ⟨eq_, bq⟩
                    · replace c33 := Bool.eq_false_iff.mpr c33
                      subst c33
                      have H1 : ((decimal_Power.f kj29 (⟨#[50]⟩ : ByteArray) (wrap64 (t519 - 1))).bind fun bt520 => (if bt520.2 = 0 then ((decimal_Compare.f bt520.1 t516).bind fun t522 => (if t522 ≤ 0 then ((decimal_Add.f kj29 bt520.1 bt520.1).bind fun t523 => ((decimal_Compare.f t516 t523).bind fun t524 => (some (decide (t524 < 0))))) else (some false))) else (some false))) = some r := by rw [if_neg (show ¬ (false = true) by decide)] at H; exact H
                      clear H
                      have H := H1
                      clear H1
                      replace H := Option.bind_eq_some_iff.mp H
                      obtain ⟨⟨t520, t521⟩, A340, H⟩ := H
                      replace H : (if t521 = 0 then ((decimal_Compare.f t520 t516).bind fun t522 => (if t522 ≤ 0 then ((decimal_Add.f kj29 t520 t520).bind fun t523 => ((decimal_Compare.f t516 t523).bind fun t524 => (some (decide (t524 < 0))))) else (some false))) else (some false)) = some r := H
                      have A34 := Aside0.mk A340
                      clear A340
                      by_cases c35 : t521 = 0
                      · rw [if_pos c35] at H
                        have c35b0 : (t521 == 0) = true := beq_iff_eq.mpr c35
                        have c35b1 : (t521 != 0) = false := bne_eq_false_iff_eq.mpr c35
                        clear c35
                        replace H := Option.bind_eq_some_iff.mp H
                        obtain ⟨t522, A360, H⟩ := H
                        replace H : (if t522 ≤ 0 then ((decimal_Add.f kj29 t520 t520).bind fun t523 => ((decimal_Compare.f t516 t523).bind fun t524 => (some (decide (t524 < 0))))) else (some false)) = some r := H
                        have A36 := Aside0.mk A360
                        clear A360
                        by_cases c37 : t522 ≤ 0
                        · rw [if_pos c37] at H
                          have c37b0 : decide (t522 ≤ 0) = true := decide_eq_true c37
                          clear c37
                          replace H := Option.bind_eq_some_iff.mp H
                          obtain ⟨t523, A380, H⟩ := H
                          replace H : ((decimal_Compare.f t516 t523).bind fun t524 => (some (decide (t524 < 0)))) = some r := H
                          have A38 := Aside0.mk A380
                          clear A380
                          replace H := Option.bind_eq_some_iff.mp H
                          obtain ⟨t524, A390, H⟩ := H
                          replace H : (some (decide (t524 < 0))) = some r := H
                          have A39 := Aside0.mk A390
                          clear A390
                          obtain rfl := Option.some.inj H
                          go_wp2_with (first | ((with_reducible refine gate_callee (f := 25) rfl ?_); refine goesL_ (some 87) rfl rfl Tryd.func25 (by kernel_rfl) rfl #[.string (⟨#[50]⟩ : ByteArray), .int .i64 (wrap64 (t519 - 1))] rfl mq ?_; (with_reducible refine (decimal_Power.calls (hT := HT.out.below bq) kj29 (⟨#[50]⟩ : ByteArray) (wrap64 (t519 - 1)) t520 t521 _ A34.out).mono ?_); rintro e w40 ⟨rfl, hb⟩; refine ⟨_, rfl, ?_⟩; replace HB := Aside0.mk (below_step bq hb); (try clear hb); (try clear hb2); (try clear hk); (try clear hi)) | (go_at_call 30; (with_reducible refine (decimal_Compare.calls t520 t516 t522 _ A36.out).mono ?_); rintro e w41 ⟨rfl, hb⟩; replace HB := Aside0.mk (below_step bq hb); (try clear hb); (try clear hb2); (try clear hk); (try clear hi)) | (go_at_call 38; (with_reducible refine (decimal_Add.calls (hT := HT.out.below bq) kj29 t520 t520 t523 _ A38.out).mono ?_); rintro e w42 ⟨rfl, hb⟩; replace HB := Aside0.mk (below_step bq hb); (try clear hb); (try clear hb2); (try clear hk); (try clear hi)) | (go_at_call 30; (with_reducible refine (decimal_Compare.calls t516 t523 t524 _ A39.out).mono ?_); rintro e w43 ⟨rfl, hb⟩; replace HB := Aside0.mk (below_step bq hb); (try clear hb); (try clear hb2); (try clear hk); (try clear hi)))
                          go_ret
                          exact ⟨eq_, bq⟩
                        · rw [if_neg c37] at H
                          have c37b0 : decide (t522 ≤ 0) = false := decide_eq_false c37
                          clear c37
                          obtain rfl := Option.some.inj H
                          go_wp2_with (first | ((with_reducible refine gate_callee (f := 25) rfl ?_); refine goesL_ (some 87) rfl rfl Tryd.func25 (by kernel_rfl) rfl #[.string (⟨#[50]⟩ : ByteArray), .int .i64 (wrap64 (t519 - 1))] rfl mq ?_; (with_reducible refine (decimal_Power.calls (hT := HT.out.below bq) kj29 (⟨#[50]⟩ : ByteArray) (wrap64 (t519 - 1)) t520 t521 _ A34.out).mono ?_); rintro e w44 ⟨rfl, hb⟩; refine ⟨_, rfl, ?_⟩; replace HB := Aside0.mk (below_step bq hb); (try clear hb); (try clear hb2); (try clear hk); (try clear hi)) | (go_at_call 30; (with_reducible refine (decimal_Compare.calls t520 t516 t522 _ A36.out).mono ?_); rintro e w45 ⟨rfl, hb⟩; replace HB := Aside0.mk (below_step bq hb); (try clear hb); (try clear hb2); (try clear hk); (try clear hi)))
                          go_ret
                          exact ⟨eq_, bq⟩
                      · rw [if_neg c35] at H
                        have c35b0 : (t521 == 0) = false := beq_eq_false_iff_ne.mpr c35
                        have c35b1 : (t521 != 0) = true := bne_iff_ne.mpr c35
                        obtain rfl := Option.some.inj H
                        go_wp2_with (first | ((with_reducible refine gate_callee (f := 25) rfl ?_); refine goesL_ (some 87) rfl rfl Tryd.func25 (by kernel_rfl) rfl #[.string (⟨#[50]⟩ : ByteArray), .int .i64 (wrap64 (t519 - 1))] rfl mq ?_; (with_reducible refine (decimal_Power.calls (hT := HT.out.below bq) kj29 (⟨#[50]⟩ : ByteArray) (wrap64 (t519 - 1)) t520 t521 _ A34.out).mono ?_); rintro e w46 ⟨rfl, hb⟩; refine ⟨_, rfl, ?_⟩; replace HB := Aside0.mk (below_step bq hb); (try clear hb); (try clear hb2); (try clear hk); (try clear hi)))
                        go_ret
                        exact ⟨eq_, bq⟩
def schismalaw01_DecimalExponents.Pure : Prop := ∀ (l0 : List Int) (a1 : Int) (a2 : Int), l0.length ≤ maxLen → l0.length * 1 ≤ 140737488351232 → (∀ x ∈ l0, (Lit.int .u8 x).wf = true) → (Lit.int .u8 a1).wf = true → (Lit.int .u8 a2).wf = true → ∃ k, schismalaw01_DecimalExponents.f k l0 a1 a2 = some true
theorem schismalaw01_DecimalExponents.walk (P : schismalaw01_DecimalExponents.Pure) (a0 : Option Addr) (len0 cap0 : Nat) (z0 : List Int) (a1 : Int) (a2 : Int) (w : World) (w0 : (a0 = none ∧ len0 = 0 ∧ cap0 = 0 ∧ z0 = []) ∨ ∃ x, a0 = some x ∧ len0 ≤ cap0 ∧ cap0 ≤ maxLen ∧ z0.length = cap0 ∧ (∀ i, i < z0.length → w.cell? (x.add i) = some (.int .u8 (z0.getD i 0))) ∧ ∀ n ∈ z0, (Lit.int .u8 n).wf = true) (y0 : len0 * 1 ≤ 140737488351232) (w1 : (Lit.int .u8 a1).wf = true) (w2 : (Lit.int .u8 a2).wf = true) (hT : Tab w) :
    Calls Tryd.prog 10 #[.slice a0 len0 cap0, .int .u8 a1, .int .u8 a2] w fun e w' => e = .returned (.bool true) ∧ Below w.heap.size w w' := by
  obtain ⟨l0, rfl, hr0, hm0, hw0, hc0⟩ := ReadsInt.ofRowC w0
  obtain ⟨k, h⟩ := P l0 a1 a2 hm0 y0 hw0 w1 w2
  refine (schismalaw01_DecimalExponents.calls (hT := hT) k _ _ l0 a1 a2 true w (Kd.C_of_reads (d := (0 : Int)) (h1 := fun _ => rfl) hr0) hc0 h).mono ?_
  rintro e w' ⟨rfl, hd⟩
  exact ⟨rfl, hd⟩
end Go.Proofs.YtcfddphiflmnlaaDoor.P
