/- Functions of the program, as functions of Lean, and the walks that show that the code answers as they do: written by a program. Conditions: those of each theorem. -/
import Derived.Test.YtioimihminelaaaDoorWholeRemaindersF6
namespace Go.Proofs.YtioimihminelaaaDoor.P
open Go.RowKit Go.Proofs.YtioimihminelaaaDoorW.PrintWords Go.Proofs.YtioimihminelaaaDoorW.PrintLast Go.Proofs.YtioimihminelaaaDoorW.PrintMore
attribute [local go_sem] gtr_text max2_int min2_int max_two min_two max_three min_three max_four min_four
set_option linter.unusedVariables false
set_option linter.unusedSimpArgs false
def whole_Gcd.f (k : Nat) (a0 : ByteArray) (a1 : ByteArray) : Option (ByteArray) := (whole_Abs.f a0).bind fun t456 => ((whole_Abs.f a1).bind fun t457 => ((whole_little.f t456 18).bind fun bt458 => (if bt458.2 = true then ((whole_little.f t457 18).bind fun bt460 => (if bt460.2 = true then ((whole_gcd.f k bt458.1 bt460.1).bind fun t462 => ((whole_Of.f t462).bind fun t463 => (some t463))) else ((decimal_Gcd.f k t456 t457).bind fun t464 => (some t464)))) else ((decimal_Gcd.f k t456 t457).bind fun t465 => (some t465)))))
theorem whole_Gcd.mono : ∀ a0 a1 k, LeO (whole_Gcd.f k a0 a1) (whole_Gcd.f (k + 1) a0 a1) := by
  intro a0 a1 k
  unfold whole_Gcd.f
  repeat' first
      | (with_reducible exact decimal_Gcd.mono _ _ _)
      | (with_reducible exact whole_gcd.mono _ _ _)
      | (with_reducible exact LeO.refl _)
      | (with_reducible exact LeO.none _)
      | (with_reducible refine LeO.ite ?_ ?_)
      | (with_reducible refine LeO.bind ?_ (fun _ => ?_))
      | exact decimal_Gcd.mono _ _ _
      | exact whole_gcd.mono _ _ _
      | exact LeO.none _
      | refine LeO.ite ?_ ?_
      | refine LeO.bind ?_ (fun _ => ?_)
set_option maxHeartbeats 8000000 in
set_option maxRecDepth 100000 in
theorem whole_Gcd.calls (k : Nat) (a0 : ByteArray) (a1 : ByteArray) (r : ByteArray) (w : World) (hT : Tab w) (h : whole_Gcd.f k a0 a1 = some r) :
    Calls Tryd.prog 12 #[.string a0, .string a1] w fun e w' => e = .returned (.string r) ∧ Below w.heap.size w w' := by
  have HT := Aside0.mk hT
  clear hT
  have HB := Aside0.mk (Below.refl w.heap.size w)
  have H : ((whole_Abs.f a0).bind fun t456 => ((whole_Abs.f a1).bind fun t457 => ((whole_little.f t456 18).bind fun bt458 => (if bt458.2 = true then ((whole_little.f t457 18).bind fun bt460 => (if bt460.2 = true then ((whole_gcd.f k bt458.1 bt460.1).bind fun t462 => ((whole_Of.f t462).bind fun t463 => (some t463))) else ((decimal_Gcd.f k t456 t457).bind fun t464 => (some t464)))) else ((decimal_Gcd.f k t456 t457).bind fun t465 => (some t465)))))) = some r := h
  clear h
  replace H := Option.bind_eq_some_iff.mp H
  obtain ⟨t456, A30, H⟩ := H
  replace H : ((whole_Abs.f a1).bind fun t457 => ((whole_little.f t456 18).bind fun bt458 => (if bt458.2 = true then ((whole_little.f t457 18).bind fun bt460 => (if bt460.2 = true then ((whole_gcd.f k bt458.1 bt460.1).bind fun t462 => ((whole_Of.f t462).bind fun t463 => (some t463))) else ((decimal_Gcd.f k t456 t457).bind fun t464 => (some t464)))) else ((decimal_Gcd.f k t456 t457).bind fun t465 => (some t465))))) = some r := H
  have A3 := Aside0.mk A30
  clear A30
  replace H := Option.bind_eq_some_iff.mp H
  obtain ⟨t457, A40, H⟩ := H
  replace H : ((whole_little.f t456 18).bind fun bt458 => (if bt458.2 = true then ((whole_little.f t457 18).bind fun bt460 => (if bt460.2 = true then ((whole_gcd.f k bt458.1 bt460.1).bind fun t462 => ((whole_Of.f t462).bind fun t463 => (some t463))) else ((decimal_Gcd.f k t456 t457).bind fun t464 => (some t464)))) else ((decimal_Gcd.f k t456 t457).bind fun t465 => (some t465)))) = some r := H
  have A4 := Aside0.mk A40
  clear A40
  replace H := Option.bind_eq_some_iff.mp H
  obtain ⟨⟨t458, t459⟩, A50, H⟩ := H
  replace H : (if t459 = true then ((whole_little.f t457 18).bind fun bt460 => (if bt460.2 = true then ((whole_gcd.f k t458 bt460.1).bind fun t462 => ((whole_Of.f t462).bind fun t463 => (some t463))) else ((decimal_Gcd.f k t456 t457).bind fun t464 => (some t464)))) else ((decimal_Gcd.f k t456 t457).bind fun t465 => (some t465))) = some r := H
  have A5 := Aside0.mk A50
  clear A50
  by_cases c6 : t459 = true
  · subst c6
    have H1 : ((whole_little.f t457 18).bind fun bt460 => (if bt460.2 = true then ((whole_gcd.f k t458 bt460.1).bind fun t462 => ((whole_Of.f t462).bind fun t463 => (some t463))) else ((decimal_Gcd.f k t456 t457).bind fun t464 => (some t464)))) = some r := by rw [if_pos rfl] at H; exact H
    clear H
    have H := H1
    clear H1
    replace H := Option.bind_eq_some_iff.mp H
    obtain ⟨⟨t460, t461⟩, A70, H⟩ := H
    replace H : (if t461 = true then ((whole_gcd.f k t458 t460).bind fun t462 => ((whole_Of.f t462).bind fun t463 => (some t463))) else ((decimal_Gcd.f k t456 t457).bind fun t464 => (some t464))) = some r := H
    have A7 := Aside0.mk A70
    clear A70
    by_cases c8 : t461 = true
    · subst c8
      have H1 : ((whole_gcd.f k t458 t460).bind fun t462 => ((whole_Of.f t462).bind fun t463 => (some t463))) = some r := by rw [if_pos rfl] at H; exact H
      clear H
      have H := H1
      clear H1
      replace H := Option.bind_eq_some_iff.mp H
      obtain ⟨t462, A90, H⟩ := H
      replace H : ((whole_Of.f t462).bind fun t463 => (some t463)) = some r := H
      have A9 := Aside0.mk A90
      clear A90
      replace H := Option.bind_eq_some_iff.mp H
      obtain ⟨t463, A100, H⟩ := H
      replace H : (some t463) = some r := H
      have A10 := Aside0.mk A100
      clear A100
      obtain rfl := Option.some.inj H
      go_enter Tryd.func12, Tryd.ntmps12
      go_wp2_with (first | ((with_reducible refine gate_callee (f := 14) rfl ?_); refine goesL_ (some 12) rfl rfl Tryd.func14 (by kernel_rfl) rfl #[.string a0] rfl mq ?_; (with_reducible refine (whole_Abs.calls a0 t456 _ A3.out).mono ?_); rintro e w' ⟨rfl, ⟨nd, rfl⟩⟩; refine ⟨_, rfl, ?_⟩) | ((with_reducible refine gate_callee (f := 14) rfl ?_); refine goesL_ (some 14) rfl rfl Tryd.func14 (by kernel_rfl) rfl #[.string a1] rfl mq ?_; (with_reducible refine (whole_Abs.calls a1 t457 _ A4.out).mono ?_); rintro e w' ⟨rfl, ⟨nd, rfl⟩⟩; refine ⟨_, rfl, ?_⟩) | ((with_reducible refine gate_callee (f := 23) rfl ?_); refine goesL_ (some 17) rfl rfl Tryd.func23 (by kernel_rfl) rfl #[.string t456, .int .i64 18] rfl mq ?_; (with_reducible refine (whole_little.calls t456 18 t458 true _ A5.out).mono ?_); rintro e w11 ⟨rfl, hb⟩; refine ⟨_, rfl, ?_⟩; replace HB := Aside0.mk (below_step bq hb); (try clear hb); (try clear hb2); (try clear hk); (try clear hi)) | ((with_reducible refine gate_callee (f := 23) rfl ?_); refine goesL_ (some 23) rfl rfl Tryd.func23 (by kernel_rfl) rfl #[.string t457, .int .i64 18] rfl mq ?_; (with_reducible refine (whole_little.calls t457 18 t460 true _ A7.out).mono ?_); rintro e w12 ⟨rfl, hb⟩; refine ⟨_, rfl, ?_⟩; replace HB := Aside0.mk (below_step bq hb); (try clear hb); (try clear hb2); (try clear hk); (try clear hi)) | ((with_reducible refine gate_callee (f := 31) rfl ?_); refine goesL_ (some 29) rfl rfl Tryd.func31 (by kernel_rfl) rfl #[.int .i64 t458, .int .i64 t460] rfl mq ?_; (with_reducible refine (whole_gcd.calls k t458 t460 t462 _ A9.out).mono ?_); rintro e w' ⟨rfl, ⟨nd, rfl⟩⟩; refine ⟨_, rfl, ?_⟩) | ((with_reducible refine gate_callee (f := 24) rfl ?_); refine goesL_ (some 30) rfl rfl Tryd.func24 (by kernel_rfl) rfl #[.int .i64 t462] rfl mq ?_; (with_reducible refine (whole_Of.calls (hT := HT.out.below bq) t462 t463 _ A10.out).mono ?_); rintro e w13 ⟨rfl, hb⟩; refine ⟨_, rfl, ?_⟩; replace HB := Aside0.mk (below_step bq hb); (try clear hb); (try clear hb2); (try clear hk); (try clear hi)))
      go_ret
      exact ⟨eq_, bq⟩
    · replace c8 := Bool.eq_false_iff.mpr c8
      subst c8
      have H1 : ((decimal_Gcd.f k t456 t457).bind fun t464 => (some t464)) = some r := by rw [if_neg (show ¬ (false = true) by decide)] at H; exact H
      clear H
      have H := H1
      clear H1
      replace H := Option.bind_eq_some_iff.mp H
      obtain ⟨t464, A140, H⟩ := H
      replace H : (some t464) = some r := H
      have A14 := Aside0.mk A140
      clear A140
      obtain rfl := Option.some.inj H
      go_enter Tryd.func12, Tryd.ntmps12
      go_wp2_with (first | ((with_reducible refine gate_callee (f := 14) rfl ?_); refine goesL_ (some 12) rfl rfl Tryd.func14 (by kernel_rfl) rfl #[.string a0] rfl mq ?_; (with_reducible refine (whole_Abs.calls a0 t456 _ A3.out).mono ?_); rintro e w' ⟨rfl, ⟨nd, rfl⟩⟩; refine ⟨_, rfl, ?_⟩) | ((with_reducible refine gate_callee (f := 14) rfl ?_); refine goesL_ (some 14) rfl rfl Tryd.func14 (by kernel_rfl) rfl #[.string a1] rfl mq ?_; (with_reducible refine (whole_Abs.calls a1 t457 _ A4.out).mono ?_); rintro e w' ⟨rfl, ⟨nd, rfl⟩⟩; refine ⟨_, rfl, ?_⟩) | ((with_reducible refine gate_callee (f := 23) rfl ?_); refine goesL_ (some 17) rfl rfl Tryd.func23 (by kernel_rfl) rfl #[.string t456, .int .i64 18] rfl mq ?_; (with_reducible refine (whole_little.calls t456 18 t458 true _ A5.out).mono ?_); rintro e w15 ⟨rfl, hb⟩; refine ⟨_, rfl, ?_⟩; replace HB := Aside0.mk (below_step bq hb); (try clear hb); (try clear hb2); (try clear hk); (try clear hi)) | ((with_reducible refine gate_callee (f := 23) rfl ?_); refine goesL_ (some 23) rfl rfl Tryd.func23 (by kernel_rfl) rfl #[.string t457, .int .i64 18] rfl mq ?_; (with_reducible refine (whole_little.calls t457 18 t460 false _ A7.out).mono ?_); rintro e w16 ⟨rfl, hb⟩; refine ⟨_, rfl, ?_⟩; replace HB := Aside0.mk (below_step bq hb); (try clear hb); (try clear hb2); (try clear hk); (try clear hi)) | ((with_reducible refine gate_callee (f := 32) rfl ?_); refine goesL_ (some 33) rfl rfl Tryd.func32 (by kernel_rfl) rfl #[.string t456, .string t457] rfl mq ?_; (with_reducible refine (decimal_Gcd.calls (hT := HT.out.below bq) k t456 t457 t464 _ A14.out).mono ?_); rintro e w17 ⟨rfl, hb⟩; refine ⟨_, rfl, ?_⟩; replace HB := Aside0.mk (below_step bq hb); (try clear hb); (try clear hb2); (try clear hk); (try clear hi)))
      go_ret
      exact ⟨eq_, bq⟩
  · replace c6 := Bool.eq_false_iff.mpr c6
    subst c6
    have H1 : ((decimal_Gcd.f k t456 t457).bind fun t465 => (some t465)) = some r := by rw [if_neg (show ¬ (false = true) by decide)] at H; exact H
    clear H
    have H := H1
    clear H1
    replace H := Option.bind_eq_some_iff.mp H
    obtain ⟨t465, A180, H⟩ := H
    replace H : (some t465) = some r := H
    have A18 := Aside0.mk A180
    clear A180
    obtain rfl := Option.some.inj H
    go_enter Tryd.func12, Tryd.ntmps12
    go_wp2_with (first | ((with_reducible refine gate_callee (f := 14) rfl ?_); refine goesL_ (some 12) rfl rfl Tryd.func14 (by kernel_rfl) rfl #[.string a0] rfl mq ?_; (with_reducible refine (whole_Abs.calls a0 t456 _ A3.out).mono ?_); rintro e w' ⟨rfl, ⟨nd, rfl⟩⟩; refine ⟨_, rfl, ?_⟩) | ((with_reducible refine gate_callee (f := 14) rfl ?_); refine goesL_ (some 14) rfl rfl Tryd.func14 (by kernel_rfl) rfl #[.string a1] rfl mq ?_; (with_reducible refine (whole_Abs.calls a1 t457 _ A4.out).mono ?_); rintro e w' ⟨rfl, ⟨nd, rfl⟩⟩; refine ⟨_, rfl, ?_⟩) | ((with_reducible refine gate_callee (f := 23) rfl ?_); refine goesL_ (some 17) rfl rfl Tryd.func23 (by kernel_rfl) rfl #[.string t456, .int .i64 18] rfl mq ?_; (with_reducible refine (whole_little.calls t456 18 t458 false _ A5.out).mono ?_); rintro e w19 ⟨rfl, hb⟩; refine ⟨_, rfl, ?_⟩; replace HB := Aside0.mk (below_step bq hb); (try clear hb); (try clear hb2); (try clear hk); (try clear hi)) | ((with_reducible refine gate_callee (f := 32) rfl ?_); refine goesL_ (some 33) rfl rfl Tryd.func32 (by kernel_rfl) rfl #[.string t456, .string t457] rfl mq ?_; (with_reducible refine (decimal_Gcd.calls (hT := HT.out.below bq) k t456 t457 t465 _ A18.out).mono ?_); rintro e w20 ⟨rfl, hb⟩; refine ⟨_, rfl, ?_⟩; replace HB := Aside0.mk (below_step bq hb); (try clear hb); (try clear hb2); (try clear hk); (try clear hi)))
    go_ret
    exact ⟨eq_, bq⟩
mutual
def schismalaw02_WholeRemainders.j0 : Nat → ByteArray → ByteArray → Bool → Option (Bool)
  | 0, _, _, _ => none
  | k + 1, x5, x6, x41 => if x41 = true then (some false) else (if x6.toList = ([48] : List UInt8) then (some true) else ((whole_DivMod.f k x5 x6).bind fun bt507 => (if bt507.2.2 = 0 then ((whole_Mul.f k x6 bt507.1).bind fun t510 => ((whole_Add.f k t510 bt507.2.1).bind fun t511 => (schismalaw02_WholeRemainders.j1 k x6 bt507.2.1 (t511.toList != x5.toList)))) else (schismalaw02_WholeRemainders.j1 k x6 bt507.2.1 true))))
def schismalaw02_WholeRemainders.j1 : Nat → ByteArray → ByteArray → Bool → Option (Bool)
  | 0, _, _, _ => none
  | k + 1, x6, x11, x61 => if x61 = true then (some false) else (if x11.toList = ([48] : List UInt8) then (some true) else ((whole_Sign.f x11).bind fun t512 => ((whole_Sign.f x6).bind fun t513 => (if t512 = t513 then ((whole_Abs.f x11).bind fun t514 => ((whole_Abs.f x6).bind fun t515 => ((whole_Compare.f t514 t515).bind fun t516 => (some (decide (t516 < 0)))))) else (some false)))))
end
def schismalaw02_WholeRemainders.f (k : Nat) (a0_0 : Bool) (l0_1 : List Int) (a1_0 : Bool) (l1_1 : List Int) : Option (Bool) := (schismalaw02_known.f k).bind fun t497 => (if t497 = true then ((schismalaw02_Make.f k a0_0 l0_1 30).bind fun t498 => ((schismalaw02_Make.f k a1_0 l1_1 30).bind fun t499 => ((whole_Bezout.f k t498 t499).bind fun bt500 => ((whole_Mul.f k t498 bt500.2.1).bind fun t503 => ((whole_Mul.f k t499 bt500.2.2).bind fun t504 => ((whole_Add.f k t503 t504).bind fun t505 => (if t505.toList = bt500.1.toList then ((whole_Gcd.f k t498 t499).bind fun t506 => (schismalaw02_WholeRemainders.j0 k t498 t499 (bt500.1.toList != t506.toList))) else (schismalaw02_WholeRemainders.j0 k t498 t499 true)))))))) else (some false))
theorem schismalaw02_WholeRemainders.mono_l : ∀ k, (∀ y0 y1 y2, LeO (schismalaw02_WholeRemainders.j0 k y0 y1 y2) (schismalaw02_WholeRemainders.j0 (k + 1) y0 y1 y2)) ∧ (∀ y0 y1 y2, LeO (schismalaw02_WholeRemainders.j1 k y0 y1 y2) (schismalaw02_WholeRemainders.j1 (k + 1) y0 y1 y2))
  | 0 => ⟨fun _ _ _ r h => by simp [schismalaw02_WholeRemainders.j0] at h, fun _ _ _ r h => by simp [schismalaw02_WholeRemainders.j1] at h⟩
  | k + 1 => by
    obtain ⟨ih0, ih1⟩ := schismalaw02_WholeRemainders.mono_l k
    refine ⟨?_, ?_⟩
    · intro y0 y1 y2
      unfold schismalaw02_WholeRemainders.j0
      repeat' first
      | (with_reducible exact ih0 _ _ _)
      | (with_reducible exact ih1 _ _ _)
      | (with_reducible exact schismalaw02_Make.mono _ _ _ _)
      | (with_reducible exact schismalaw02_known.mono _)
      | (with_reducible exact whole_Add.mono _ _ _)
      | (with_reducible exact whole_Bezout.mono _ _ _)
      | (with_reducible exact whole_DivMod.mono _ _ _)
      | (with_reducible exact whole_Gcd.mono _ _ _)
      | (with_reducible exact whole_Mul.mono _ _ _)
      | (with_reducible exact LeO.refl _)
      | (with_reducible exact LeO.none _)
      | (with_reducible refine LeO.ite ?_ ?_)
      | (with_reducible refine LeO.bind ?_ (fun _ => ?_))
      | exact ih0 _ _ _
      | exact ih1 _ _ _
      | exact schismalaw02_Make.mono _ _ _ _
      | exact schismalaw02_known.mono _
      | exact whole_Add.mono _ _ _
      | exact whole_Bezout.mono _ _ _
      | exact whole_DivMod.mono _ _ _
      | exact whole_Gcd.mono _ _ _
      | exact whole_Mul.mono _ _ _
      | exact LeO.none _
      | refine LeO.ite ?_ ?_
      | refine LeO.bind ?_ (fun _ => ?_)
    · intro y0 y1 y2
      unfold schismalaw02_WholeRemainders.j1
      repeat' first
      | (with_reducible exact ih0 _ _ _)
      | (with_reducible exact ih1 _ _ _)
      | (with_reducible exact schismalaw02_Make.mono _ _ _ _)
      | (with_reducible exact schismalaw02_known.mono _)
      | (with_reducible exact whole_Add.mono _ _ _)
      | (with_reducible exact whole_Bezout.mono _ _ _)
      | (with_reducible exact whole_DivMod.mono _ _ _)
      | (with_reducible exact whole_Gcd.mono _ _ _)
      | (with_reducible exact whole_Mul.mono _ _ _)
      | (with_reducible exact LeO.refl _)
      | (with_reducible exact LeO.none _)
      | (with_reducible refine LeO.ite ?_ ?_)
      | (with_reducible refine LeO.bind ?_ (fun _ => ?_))
      | exact ih0 _ _ _
      | exact ih1 _ _ _
      | exact schismalaw02_Make.mono _ _ _ _
      | exact schismalaw02_known.mono _
      | exact whole_Add.mono _ _ _
      | exact whole_Bezout.mono _ _ _
      | exact whole_DivMod.mono _ _ _
      | exact whole_Gcd.mono _ _ _
      | exact whole_Mul.mono _ _ _
      | exact LeO.none _
      | refine LeO.ite ?_ ?_
      | refine LeO.bind ?_ (fun _ => ?_)
theorem schismalaw02_WholeRemainders.mono : ∀ a0 a1 a2 a3 k, LeO (schismalaw02_WholeRemainders.f k a0 a1 a2 a3) (schismalaw02_WholeRemainders.f (k + 1) a0 a1 a2 a3) := by
  intro a0 a1 a2 a3 k
  obtain ⟨ih0, ih1⟩ := schismalaw02_WholeRemainders.mono_l k
  unfold schismalaw02_WholeRemainders.f
  repeat' first
      | (with_reducible exact ih0 _ _ _)
      | (with_reducible exact ih1 _ _ _)
      | (with_reducible exact schismalaw02_Make.mono _ _ _ _)
      | (with_reducible exact schismalaw02_known.mono _)
      | (with_reducible exact whole_Add.mono _ _ _)
      | (with_reducible exact whole_Bezout.mono _ _ _)
      | (with_reducible exact whole_DivMod.mono _ _ _)
      | (with_reducible exact whole_Gcd.mono _ _ _)
      | (with_reducible exact whole_Mul.mono _ _ _)
      | (with_reducible exact LeO.refl _)
      | (with_reducible exact LeO.none _)
      | (with_reducible refine LeO.ite ?_ ?_)
      | (with_reducible refine LeO.bind ?_ (fun _ => ?_))
      | exact ih0 _ _ _
      | exact ih1 _ _ _
      | exact schismalaw02_Make.mono _ _ _ _
      | exact schismalaw02_known.mono _
      | exact whole_Add.mono _ _ _
      | exact whole_Bezout.mono _ _ _
      | exact whole_DivMod.mono _ _ _
      | exact whole_Gcd.mono _ _ _
      | exact whole_Mul.mono _ _ _
      | exact LeO.none _
      | refine LeO.ite ?_ ?_
      | refine LeO.bind ?_ (fun _ => ?_)
set_option maxHeartbeats 8000000 in
set_option maxRecDepth 100000 in
theorem schismalaw02_WholeRemainders.calls (k : Nat) (a0_0 : Bool) (A0_1 : Option Addr) (c0_1 : Nat) (l0_1 : List Int) (a1_0 : Bool) (A1_1 : Option Addr) (c1_1 : Nat) (l1_1 : List Int) (r : Bool) (w : World) (hr0_1 : Kd.C (Kd.int .u8) w A0_1 l0_1.length l0_1) (hc0_1 : l0_1.length ≤ c0_1) (hr1_1 : Kd.C (Kd.int .u8) w A1_1 l1_1.length l1_1) (hc1_1 : l1_1.length ≤ c1_1) (hT : Tab w) (h : schismalaw02_WholeRemainders.f k a0_0 l0_1 a1_0 l1_1 = some r) :
    Calls Tryd.prog 4 #[.agg #[.bool a0_0, .slice A0_1 l0_1.length c0_1], .agg #[.bool a1_0, .slice A1_1 l1_1.length c1_1]] w fun e w' => e = .returned (.bool r) ∧ Below w.heap.size w w' := by
  have HT := Aside0.mk hT
  clear hT
  have hu24 := Tryd.underlying24
  have HR0_1 := Aside0.mk hr0_1
  have HC0_1 := Aside0.mk hc0_1
  clear hr0_1 hc0_1
  have HR1_1 := Aside0.mk hr1_1
  have HC1_1 := Aside0.mk hc1_1
  clear hr1_1 hc1_1
  have HB := Aside0.mk (Below.refl w.heap.size w)
  have H : ((schismalaw02_known.f k).bind fun t497 => (if t497 = true then ((schismalaw02_Make.f k a0_0 l0_1 30).bind fun t498 => ((schismalaw02_Make.f k a1_0 l1_1 30).bind fun t499 => ((whole_Bezout.f k t498 t499).bind fun bt500 => ((whole_Mul.f k t498 bt500.2.1).bind fun t503 => ((whole_Mul.f k t499 bt500.2.2).bind fun t504 => ((whole_Add.f k t503 t504).bind fun t505 => (if t505.toList = bt500.1.toList then ((whole_Gcd.f k t498 t499).bind fun t506 => (schismalaw02_WholeRemainders.j0 k t498 t499 (bt500.1.toList != t506.toList))) else (schismalaw02_WholeRemainders.j0 k t498 t499 true)))))))) else (some false))) = some r := h
  clear h
  replace H := Option.bind_eq_some_iff.mp H
  obtain ⟨t497, A30, H⟩ := H
  replace H : (if t497 = true then ((schismalaw02_Make.f k a0_0 l0_1 30).bind fun t498 => ((schismalaw02_Make.f k a1_0 l1_1 30).bind fun t499 => ((whole_Bezout.f k t498 t499).bind fun bt500 => ((whole_Mul.f k t498 bt500.2.1).bind fun t503 => ((whole_Mul.f k t499 bt500.2.2).bind fun t504 => ((whole_Add.f k t503 t504).bind fun t505 => (if t505.toList = bt500.1.toList then ((whole_Gcd.f k t498 t499).bind fun t506 => (schismalaw02_WholeRemainders.j0 k t498 t499 (bt500.1.toList != t506.toList))) else (schismalaw02_WholeRemainders.j0 k t498 t499 true)))))))) else (some false)) = some r := H
  have A3 := Aside0.mk A30
  clear A30
  by_cases c4 : t497 = true
  · subst c4
    have H1 : ((schismalaw02_Make.f k a0_0 l0_1 30).bind fun t498 => ((schismalaw02_Make.f k a1_0 l1_1 30).bind fun t499 => ((whole_Bezout.f k t498 t499).bind fun bt500 => ((whole_Mul.f k t498 bt500.2.1).bind fun t503 => ((whole_Mul.f k t499 bt500.2.2).bind fun t504 => ((whole_Add.f k t503 t504).bind fun t505 => (if t505.toList = bt500.1.toList then ((whole_Gcd.f k t498 t499).bind fun t506 => (schismalaw02_WholeRemainders.j0 k t498 t499 (bt500.1.toList != t506.toList))) else (schismalaw02_WholeRemainders.j0 k t498 t499 true)))))))) = some r := by rw [if_pos rfl] at H; exact H
    clear H
    have H := H1
    clear H1
    replace H := Option.bind_eq_some_iff.mp H
    obtain ⟨t498, A50, H⟩ := H
    replace H : ((schismalaw02_Make.f k a1_0 l1_1 30).bind fun t499 => ((whole_Bezout.f k t498 t499).bind fun bt500 => ((whole_Mul.f k t498 bt500.2.1).bind fun t503 => ((whole_Mul.f k t499 bt500.2.2).bind fun t504 => ((whole_Add.f k t503 t504).bind fun t505 => (if t505.toList = bt500.1.toList then ((whole_Gcd.f k t498 t499).bind fun t506 => (schismalaw02_WholeRemainders.j0 k t498 t499 (bt500.1.toList != t506.toList))) else (schismalaw02_WholeRemainders.j0 k t498 t499 true))))))) = some r := H
    have A5 := Aside0.mk A50
    clear A50
    replace H := Option.bind_eq_some_iff.mp H
    obtain ⟨t499, A60, H⟩ := H
    replace H : ((whole_Bezout.f k t498 t499).bind fun bt500 => ((whole_Mul.f k t498 bt500.2.1).bind fun t503 => ((whole_Mul.f k t499 bt500.2.2).bind fun t504 => ((whole_Add.f k t503 t504).bind fun t505 => (if t505.toList = bt500.1.toList then ((whole_Gcd.f k t498 t499).bind fun t506 => (schismalaw02_WholeRemainders.j0 k t498 t499 (bt500.1.toList != t506.toList))) else (schismalaw02_WholeRemainders.j0 k t498 t499 true)))))) = some r := H
    have A6 := Aside0.mk A60
    clear A60
    replace H := Option.bind_eq_some_iff.mp H
    obtain ⟨⟨t500, t501, t502⟩, A70, H⟩ := H
    replace H : ((whole_Mul.f k t498 t501).bind fun t503 => ((whole_Mul.f k t499 t502).bind fun t504 => ((whole_Add.f k t503 t504).bind fun t505 => (if t505.toList = t500.toList then ((whole_Gcd.f k t498 t499).bind fun t506 => (schismalaw02_WholeRemainders.j0 k t498 t499 (t500.toList != t506.toList))) else (schismalaw02_WholeRemainders.j0 k t498 t499 true))))) = some r := H
    have A7 := Aside0.mk A70
    clear A70
    have HC8 := Aside0.mk H
    clear H
    go_enter Tryd.func4, Tryd.ntmps4
    try go_wp2_with (first | ((with_reducible refine gate_dst (N := 2) rfl ?_); refine box_event ?hg (N := 2) ?hd (cs := #[.bool a0_0, .slice A0_1 l0_1.length c0_1]) (t := 24) ?hr ?_; (case hd => rfl); (case hg => rfl); (case hr => first | (go_simp; done) | (go_simp; rfl)); intro gb495 hg w9 hbox hb; have n0_ := Aside0.mk (below_step bq hb); have n1_ := Aside0.mk (hbox); have n2_ := Aside0.mk ((by rw [hg]; exact (below_size bq) : w.heap.size ≤ gb495)); have n3_ := Aside0.mk ((by rw [hg]; exact (below_size bq) : w.heap.size ≤ gb495)); clear HB; have HB := n0_; have BK495 := n1_; have GW495 := n2_; have GE495 := n3_; clear n0_ n1_ n2_ n3_; clear hb hbox hg) | ((with_reducible refine gate_dst (N := 3) rfl ?_); refine box_event ?hg (N := 3) ?hd (cs := #[.bool a1_0, .slice A1_1 l1_1.length c1_1]) (t := 24) ?hr ?_; (case hd => rfl); (case hg => rfl); (case hr => first | (go_simp; done) | (go_simp; rfl)); intro gb496 hg w10 hbox hb; have n0_ := Aside0.mk (blk_below (g := gb495) (o := .cells #[.bool a0_0, .slice A0_1 l0_1.length c0_1] 24 (0, 0)) (by (with_reducible repeat (first | refine blk_drewN ?_ _ | refine blk_drew ?_ | refine blk_alloc ?_ _)); exact BK495.out) hb); have n1_ := Aside0.mk (below_step (by repeat (first | (with_reducible first | exact HB.out | apply below_alloc | apply pw_below_drewN | apply below_drew1 | refine below_set ?_ GE495.out) | exact HB.out)) hb); have n2_ := Aside0.mk (hbox); have n3_ := Aside0.mk ((by rw [hg]; exact (below_size (by repeat (first | (with_reducible first | exact HB.out | apply below_alloc | apply pw_below_drewN | apply below_drew1 | refine below_set ?_ GE495.out) | exact HB.out))) : w.heap.size ≤ gb496)); have n4_ := Aside0.mk ((by rw [hg]; exact (below_size (by repeat (first | (with_reducible first | exact HB.out | apply below_alloc | apply pw_below_drewN | apply below_drew1 | refine below_set ?_ GE495.out) | exact HB.out))) : w.heap.size ≤ gb496)); have n5_ := Aside0.mk ((by rw [hg]; exact Nat.ne_of_lt (blk_lt (g := gb495) (o := .cells #[.bool a0_0, .slice A0_1 l0_1.length c0_1] 24 (0, 0)) (by (with_reducible repeat (first | refine blk_drewN ?_ _ | refine blk_drew ?_ | refine blk_alloc ?_ _)); exact BK495.out)) : gb495 ≠ gb496)); have n6_ := Aside0.mk ((by rw [hg]; exact Nat.ne_of_gt (blk_lt (g := gb495) (o := .cells #[.bool a0_0, .slice A0_1 l0_1.length c0_1] 24 (0, 0)) (by (with_reducible repeat (first | refine blk_drewN ?_ _ | refine blk_drew ?_ | refine blk_alloc ?_ _)); exact BK495.out)) : gb496 ≠ gb495)); clear BK495; clear HB; have BK495 := n0_; have HB := n1_; have BK496 := n2_; have GW496 := n3_; have GE496 := n4_; have NB495_496 := n5_; have NB496_495 := n6_; clear n0_ n1_ n2_ n3_ n4_ n5_ n6_; clear hb hbox hg) | ((with_reducible refine gate_callee (f := 5) rfl ?_); refine goesL_ (some 13) rfl rfl Tryd.func5 (by kernel_rfl) rfl #[] rfl mq ?_; (with_reducible refine (schismalaw02_known.calls (hT := HT.out.below bq) k  true _ A3.out).mono ?_); rintro e w11 ⟨rfl, hb⟩; refine ⟨_, rfl, ?_⟩; have n0_ := Aside0.mk (blk_below (g := gb495) (o := .cells #[.bool a0_0, .slice A0_1 l0_1.length c0_1] 24 (0, 0)) (by (with_reducible repeat (first | refine blk_drewN ?_ _ | refine blk_drew ?_ | refine blk_alloc ?_ _)); exact BK495.out) hb); have n1_ := Aside0.mk (blk_below (g := gb496) (o := .cells #[.bool a1_0, .slice A1_1 l1_1.length c1_1] 24 (0, 0)) (by (with_reducible repeat (first | refine blk_drewN ?_ _ | refine blk_drew ?_ | refine blk_alloc ?_ _)); exact BK496.out) hb); have n2_ := Aside0.mk (below_step (by repeat (first | (with_reducible first | exact HB.out | apply below_alloc | apply pw_below_drewN | apply below_drew1 | refine below_set ?_ GE495.out | refine below_set ?_ GE496.out) | exact HB.out)) hb); clear BK495; clear BK496; clear HB; have BK495 := n0_; have BK496 := n1_; have HB := n2_; clear n0_ n1_ n2_; (try clear hb); (try clear hb2); (try clear hk); (try clear hi)))
    have n0_ := Aside0.mk (blk_drew BK495.out)
    have n1_ := Aside0.mk (blk_drew BK496.out)
    have n2_ := Aside0.mk (below_drew1 HB.out)
    clear BK495
    clear BK496
    clear HB
    have BK495 := n0_
    have BK496 := n1_
    have HB := n2_
    clear n0_ n1_ n2_
    refine start_ (n := 6) (S := fun w' => w'.cell? ⟨gb495, 0, none⟩ = some (.bool a0_0) ∧ w'.cell? ⟨gb495, 1, none⟩ = some (.slice A0_1 l0_1.length c0_1) ∧ w'.cell? ⟨gb496, 0, none⟩ = some (.bool a1_0) ∧ w'.cell? ⟨gb496, 1, none⟩ = some (.slice A1_1 l1_1.length c1_1)) (ds := []) #[false, false, false, false, false, false] (by kernel_rfl) rfl rfl ⟨(blk_cell BK495.out 0).trans rfl, (blk_cell BK495.out 1).trans rfl, (blk_cell BK496.out 0).trans rfl, (blk_cell BK496.out 1).trans rfl⟩ (fun hHeld => ?_)
    generalize w11.drew = w12 at BK495 BK496 HB hHeld ⊢
    refine take_ (i := 0) (N := some 15) (v := ?_) (a' := ?_) #[true, false, false, false, false, false] rfl rfl (by kernel_rfl) (fun _ _ _ h => h) (Or.inl ⟨by rfl, ?_⟩) hHeld ?_ ?_
    rotate_left
    · rintro w' ⟨s0, s1, s2, s3⟩
      go_simp
      with_reducible rfl
    rotate_left
    · simp only [Act.put, List.setIfInBounds_toArray, List.set_cons_zero, List.set_cons_succ, i64_w, i32_w]
      rfl
    refine take_ (i := 2) (N := some 17) (v := ?_) (a' := ?_) #[true, false, true, false, false, false] rfl rfl (by kernel_rfl) (fun _ _ _ h => h) (Or.inl ⟨by rfl, ?_⟩) hHeld ?_ ?_
    rotate_left
    · rintro w' ⟨s0, s1, s2, s3⟩
      go_simp
      with_reducible rfl
    rotate_left
    · simp only [Act.put, List.setIfInBounds_toArray, List.set_cons_zero, List.set_cons_succ, i64_w, i32_w]
      rfl
    refine one_ (i := 1) (N := some 16) #[true, true, true, false, false, false] rfl rfl (by kernel_rfl) (by decide) (fun K hK => ?_)
    refine goes_ Tryd.func6 (by kernel_rfl) rfl #[.agg #[.bool a0_0, .slice A0_1 l0_1.length c0_1], .int .i64 30] (by rfl) rfl rfl mq ?_
    with_reducible refine (schismalaw02_Make.calls k a0_0 _ _ l0_1 30 t498 _ ?side1 ?side2 A5.out).mono ?_
    (case side1 => repeat (first | exact (Kd.C_below HR0_1.out HB.out) | (with_reducible refine Kd.C_alloc ?_ _) | (with_reducible refine Kd.C_drewN ?_ _) | (with_reducible refine Kd.C_drew ?_)))
    (case side2 => exact HC0_1.out)
    rintro e w13 ⟨rfl, hb⟩
    refine ⟨_, rfl, ?_⟩
    have n0_ := Aside0.mk (blk_below (g := gb495) (o := .cells #[.bool a0_0, .slice A0_1 l0_1.length c0_1] 24 (0, 0)) (by (with_reducible repeat (first | refine blk_drewN ?_ _ | refine blk_drew ?_ | refine blk_alloc ?_ _)); exact BK495.out) hb)
    have n1_ := Aside0.mk (blk_below (g := gb496) (o := .cells #[.bool a1_0, .slice A1_1 l1_1.length c1_1] 24 (0, 0)) (by (with_reducible repeat (first | refine blk_drewN ?_ _ | refine blk_drew ?_ | refine blk_alloc ?_ _)); exact BK496.out) hb)
    have n2_ := Aside0.mk (below_step (by repeat (first | (with_reducible first | exact HB.out | apply below_alloc | apply pw_below_drewN | apply below_drew1 | refine below_set ?_ GE495.out | refine below_set ?_ GE496.out) | exact HB.out)) hb)
    clear BK495
    clear BK496
    clear HB
    have BK495 := n0_
    have BK496 := n1_
    have HB := n2_
    clear n0_ n1_ n2_
    (try clear hb)
    (try clear hb2)
    (try clear hk)
    (try clear hi)
    refine hK.out _ _ ⟨(blk_cell BK495.out 0).trans rfl, (blk_cell BK495.out 1).trans rfl, (blk_cell BK496.out 0).trans rfl, (blk_cell BK496.out 1).trans rfl⟩ (fun hHeld => ?_)
    clear hK K
    refine norm_ (a' := ?_) ?_ ?_
    rotate_left
    · show Act.put _ (some 16) _ = _
      simp only [Act.put, List.setIfInBounds_toArray, List.set_cons_zero, List.set_cons_succ, i64_w, i32_w]
      rfl
    refine one_ (i := 3) (N := some 18) #[true, true, true, true, false, false] rfl rfl (by kernel_rfl) (by decide) (fun K hK => ?_)
    refine goes_ Tryd.func6 (by kernel_rfl) rfl #[.agg #[.bool a1_0, .slice A1_1 l1_1.length c1_1], .int .i64 30] (by rfl) rfl rfl mq ?_
    with_reducible refine (schismalaw02_Make.calls k a1_0 _ _ l1_1 30 t499 _ ?side1 ?side2 A6.out).mono ?_
    (case side1 => repeat (first | exact (Kd.C_below HR1_1.out HB.out) | (with_reducible refine Kd.C_alloc ?_ _) | (with_reducible refine Kd.C_drewN ?_ _) | (with_reducible refine Kd.C_drew ?_)))
    (case side2 => exact HC1_1.out)
    rintro e w14 ⟨rfl, hb⟩
    refine ⟨_, rfl, ?_⟩
    have n0_ := Aside0.mk (blk_below (g := gb495) (o := .cells #[.bool a0_0, .slice A0_1 l0_1.length c0_1] 24 (0, 0)) (by (with_reducible repeat (first | refine blk_drewN ?_ _ | refine blk_drew ?_ | refine blk_alloc ?_ _)); exact BK495.out) hb)
    have n1_ := Aside0.mk (blk_below (g := gb496) (o := .cells #[.bool a1_0, .slice A1_1 l1_1.length c1_1] 24 (0, 0)) (by (with_reducible repeat (first | refine blk_drewN ?_ _ | refine blk_drew ?_ | refine blk_alloc ?_ _)); exact BK496.out) hb)
    have n2_ := Aside0.mk (below_step (by repeat (first | (with_reducible first | exact HB.out | apply below_alloc | apply pw_below_drewN | apply below_drew1 | refine below_set ?_ GE495.out | refine below_set ?_ GE496.out) | exact HB.out)) hb)
    clear BK495
    clear BK496
    clear HB
    have BK495 := n0_
    have BK496 := n1_
    have HB := n2_
    clear n0_ n1_ n2_
    (try clear hb)
    (try clear hb2)
    (try clear hk)
    (try clear hi)
    refine hK.out _ _ ⟨(blk_cell BK495.out 0).trans rfl, (blk_cell BK495.out 1).trans rfl, (blk_cell BK496.out 0).trans rfl, (blk_cell BK496.out 1).trans rfl⟩ (fun hHeld => ?_)
    clear hK K
    refine norm_ (a' := ?_) ?_ ?_
    rotate_left
    · show Act.put _ (some 18) _ = _
      simp only [Act.put, List.setIfInBounds_toArray, List.set_cons_zero, List.set_cons_succ, i64_w, i32_w]
      rfl
    refine pure_ (i := 4) (N := some 5) (v := ?_) (a' := ?_) #[true, true, true, true, true, false] rfl rfl (by kernel_rfl) (fun _ _ _ h => h) (Or.inl ⟨by rfl, ?_⟩) ?_ ?_
    rotate_left
    · intro w'
      go_simp
      with_reducible rfl
    rotate_left
    · simp only [Act.put, List.setIfInBounds_toArray, List.set_cons_zero, List.set_cons_succ, i64_w, i32_w]
      rfl
    refine pure_ (i := 5) (N := some 6) (v := ?_) (a' := ?_) #[true, true, true, true, true, true] rfl rfl (by kernel_rfl) (fun _ _ _ h => h) (Or.inl ⟨by rfl, ?_⟩) ?_ ?_
    rotate_left
    · intro w'
      go_simp
      with_reducible rfl
    rotate_left
    · simp only [Act.put, List.setIfInBounds_toArray, List.set_cons_zero, List.set_cons_succ, i64_w, i32_w]
      rfl
    refine done_ (by kernel_rfl) ?_
    go_upto_region 5 with (first | ((with_reducible refine gate_callee (f := 15) rfl ?_); refine goesL_ (some 22) rfl rfl Tryd.func15 (by kernel_rfl) rfl #[.string t498, .string t499] rfl mq ?_; (with_reducible refine (whole_Bezout.calls (hT := HT.out.below bq) k t498 t499 t500 t501 t502 _ A7.out).mono ?_); rintro e w15 ⟨rfl, hb⟩; refine ⟨_, rfl, ?_⟩; have n0_ := Aside0.mk (blk_below (g := gb495) (o := .cells #[.bool a0_0, .slice A0_1 l0_1.length c0_1] 24 (0, 0)) (by (with_reducible repeat (first | refine blk_drewN ?_ _ | refine blk_drew ?_ | refine blk_alloc ?_ _)); exact BK495.out) hb); have n1_ := Aside0.mk (blk_below (g := gb496) (o := .cells #[.bool a1_0, .slice A1_1 l1_1.length c1_1] 24 (0, 0)) (by (with_reducible repeat (first | refine blk_drewN ?_ _ | refine blk_drew ?_ | refine blk_alloc ?_ _)); exact BK496.out) hb); have n2_ := Aside0.mk (below_step (by repeat (first | (with_reducible first | exact HB.out | apply below_alloc | apply pw_below_drewN | apply below_drew1 | refine below_set ?_ GE495.out | refine below_set ?_ GE496.out) | exact HB.out)) hb); clear BK495; clear BK496; clear HB; have BK495 := n0_; have BK496 := n1_; have HB := n2_; clear n0_ n1_ n2_; (try clear hb); (try clear hb2); (try clear hk); (try clear hi)))
    (try simp only [Act.put, List.setIfInBounds_toArray, List.set_cons_zero, List.set_cons_succ])
    go_cut [41] (fun v41 wc => ∃ (kq : Nat) (x41_7 : Bool), v41 = .bool x41_7 ∧ Aside0 (schismalaw02_WholeRemainders.j0 kq t498 t499 x41_7 = some r) ∧ Aside0 (kq ≤ k) ∧ Aside0 (wc.heap[gb495]? = some (.cells #[.bool a0_0, (.slice A0_1 l0_1.length c0_1)] 24 (0, 0))) ∧ Aside0 (wc.heap[gb496]? = some (.cells #[.bool a1_0, (.slice A1_1 l1_1.length c1_1)] 24 (0, 0))) ∧ Aside0 (Below w.heap.size w wc))
    case first =>
      have H := HC8.out
      clear HC8
      replace H := Option.bind_eq_some_iff.mp H
      obtain ⟨t503, A160, H⟩ := H
      replace H : ((whole_Mul.f k t499 t502).bind fun t504 => ((whole_Add.f k t503 t504).bind fun t505 => (if t505.toList = t500.toList then ((whole_Gcd.f k t498 t499).bind fun t506 => (schismalaw02_WholeRemainders.j0 k t498 t499 (t500.toList != t506.toList))) else (schismalaw02_WholeRemainders.j0 k t498 t499 true)))) = some r := H
      have A16 := Aside0.mk A160
      clear A160
      replace H := Option.bind_eq_some_iff.mp H
      obtain ⟨t504, A170, H⟩ := H
      replace H : ((whole_Add.f k t503 t504).bind fun t505 => (if t505.toList = t500.toList then ((whole_Gcd.f k t498 t499).bind fun t506 => (schismalaw02_WholeRemainders.j0 k t498 t499 (t500.toList != t506.toList))) else (schismalaw02_WholeRemainders.j0 k t498 t499 true))) = some r := H
      have A17 := Aside0.mk A170
      clear A170
      replace H := Option.bind_eq_some_iff.mp H
      obtain ⟨t505, A180, H⟩ := H
      replace H : (if t505.toList = t500.toList then ((whole_Gcd.f k t498 t499).bind fun t506 => (schismalaw02_WholeRemainders.j0 k t498 t499 (t500.toList != t506.toList))) else (schismalaw02_WholeRemainders.j0 k t498 t499 true)) = some r := H
      have A18 := Aside0.mk A180
      clear A180
      by_cases c19 : t505.toList = t500.toList
      · rw [if_pos c19] at H
        have c19b0 : (t505.toList == t500.toList) = true := beq_iff_eq.mpr c19
        have c19b1 : (t505.toList != t500.toList) = false := bne_eq_false_iff_eq.mpr c19
        clear c19
        (first | rw [c19b0] | (simp only [i64_w, i32_w]; rw [c19b0]) | skip)
        replace H := Option.bind_eq_some_iff.mp H
        obtain ⟨t506, A200, H⟩ := H
        replace H : (schismalaw02_WholeRemainders.j0 k t498 t499 (t500.toList != t506.toList)) = some r := H
        have A20 := Aside0.mk A200
        clear A200
        have H' := Aside0.mk H
        clear H
        go_wp2_with (first | ((with_reducible refine gate_callee (f := 9) rfl ?_); refine goesL_ (some 28) rfl rfl Tryd.func9 (by kernel_rfl) rfl #[.string t498, .string t501] rfl mq ?_; (with_reducible refine (whole_Mul.calls (hT := HT.out.below bq) k t498 t501 t503 _ A16.out).mono ?_); rintro e w21 ⟨rfl, hb⟩; refine ⟨_, rfl, ?_⟩; have n0_ := Aside0.mk (blk_below (g := gb495) (o := .cells #[.bool a0_0, .slice A0_1 l0_1.length c0_1] 24 (0, 0)) (by (with_reducible repeat (first | refine blk_drewN ?_ _ | refine blk_drew ?_ | refine blk_alloc ?_ _)); exact BK495.out) hb); have n1_ := Aside0.mk (blk_below (g := gb496) (o := .cells #[.bool a1_0, .slice A1_1 l1_1.length c1_1] 24 (0, 0)) (by (with_reducible repeat (first | refine blk_drewN ?_ _ | refine blk_drew ?_ | refine blk_alloc ?_ _)); exact BK496.out) hb); have n2_ := Aside0.mk (below_step (by repeat (first | (with_reducible first | exact HB.out | apply below_alloc | apply pw_below_drewN | apply below_drew1 | refine below_set ?_ GE495.out | refine below_set ?_ GE496.out) | exact HB.out)) hb); clear BK495; clear BK496; clear HB; have BK495 := n0_; have BK496 := n1_; have HB := n2_; clear n0_ n1_ n2_; (try clear hb); (try clear hb2); (try clear hk); (try clear hi)) | ((with_reducible refine gate_callee (f := 9) rfl ?_); refine goesL_ (some 31) rfl rfl Tryd.func9 (by kernel_rfl) rfl #[.string t499, .string t502] rfl mq ?_; (with_reducible refine (whole_Mul.calls (hT := HT.out.below bq) k t499 t502 t504 _ A17.out).mono ?_); rintro e w22 ⟨rfl, hb⟩; refine ⟨_, rfl, ?_⟩; have n0_ := Aside0.mk (blk_below (g := gb495) (o := .cells #[.bool a0_0, .slice A0_1 l0_1.length c0_1] 24 (0, 0)) (by (with_reducible repeat (first | refine blk_drewN ?_ _ | refine blk_drew ?_ | refine blk_alloc ?_ _)); exact BK495.out) hb); have n1_ := Aside0.mk (blk_below (g := gb496) (o := .cells #[.bool a1_0, .slice A1_1 l1_1.length c1_1] 24 (0, 0)) (by (with_reducible repeat (first | refine blk_drewN ?_ _ | refine blk_drew ?_ | refine blk_alloc ?_ _)); exact BK496.out) hb); have n2_ := Aside0.mk (below_step (by repeat (first | (with_reducible first | exact HB.out | apply below_alloc | apply pw_below_drewN | apply below_drew1 | refine below_set ?_ GE495.out | refine below_set ?_ GE496.out) | exact HB.out)) hb); clear BK495; clear BK496; clear HB; have BK495 := n0_; have BK496 := n1_; have HB := n2_; clear n0_ n1_ n2_; (try clear hb); (try clear hb2); (try clear hk); (try clear hi)) | ((with_reducible refine gate_callee (f := 8) rfl ?_); refine goesL_ (some 32) rfl rfl Tryd.func8 (by kernel_rfl) rfl #[.string t503, .string t504] rfl mq ?_; (with_reducible refine (whole_Add.calls (hT := HT.out.below bq) k t503 t504 t505 _ A18.out).mono ?_); rintro e w23 ⟨rfl, hb⟩; refine ⟨_, rfl, ?_⟩; have n0_ := Aside0.mk (blk_below (g := gb495) (o := .cells #[.bool a0_0, .slice A0_1 l0_1.length c0_1] 24 (0, 0)) (by (with_reducible repeat (first | refine blk_drewN ?_ _ | refine blk_drew ?_ | refine blk_alloc ?_ _)); exact BK495.out) hb); have n1_ := Aside0.mk (blk_below (g := gb496) (o := .cells #[.bool a1_0, .slice A1_1 l1_1.length c1_1] 24 (0, 0)) (by (with_reducible repeat (first | refine blk_drewN ?_ _ | refine blk_drew ?_ | refine blk_alloc ?_ _)); exact BK496.out) hb); have n2_ := Aside0.mk (below_step (by repeat (first | (with_reducible first | exact HB.out | apply below_alloc | apply pw_below_drewN | apply below_drew1 | refine below_set ?_ GE495.out | refine below_set ?_ GE496.out) | exact HB.out)) hb); clear BK495; clear BK496; clear HB; have BK495 := n0_; have BK496 := n1_; have HB := n2_; clear n0_ n1_ n2_; (try clear hb); (try clear hb2); (try clear hk); (try clear hi)) | (go_at_call 12; (with_reducible refine (whole_Gcd.calls (hT := HT.out.below bq) k t498 t499 t506 _ A20.out).mono ?_); rintro e w24 ⟨rfl, hb⟩; have n0_ := Aside0.mk (blk_below (g := gb495) (o := .cells #[.bool a0_0, .slice A0_1 l0_1.length c0_1] 24 (0, 0)) (by (with_reducible repeat (first | refine blk_drewN ?_ _ | refine blk_drew ?_ | refine blk_alloc ?_ _)); exact BK495.out) hb); have n1_ := Aside0.mk (blk_below (g := gb496) (o := .cells #[.bool a1_0, .slice A1_1 l1_1.length c1_1] 24 (0, 0)) (by (with_reducible repeat (first | refine blk_drewN ?_ _ | refine blk_drew ?_ | refine blk_alloc ?_ _)); exact BK496.out) hb); have n2_ := Aside0.mk (below_step (by repeat (first | (with_reducible first | exact HB.out | apply below_alloc | apply pw_below_drewN | apply below_drew1 | refine below_set ?_ GE495.out | refine below_set ?_ GE496.out) | exact HB.out)) hb); clear BK495; clear BK496; clear HB; have BK495 := n0_; have BK496 := n1_; have HB := n2_; clear n0_ n1_ n2_; (try clear hb); (try clear hb2); (try clear hk); (try clear hi)))
        go_meet
        case rel => exact ⟨_, ((t500.toList != t506.toList)), (by first | rfl | (simp; done) | (simp [*]; done)), H', ⟨by first | omega | exact Nat.le_refl _⟩, ⟨by (with_reducible repeat (first | refine blk_drewN ?_ _ | refine blk_drew ?_ | refine blk_alloc ?_ _)); exact BK495.out⟩, ⟨by (with_reducible repeat (first | refine blk_drewN ?_ _ | refine blk_drew ?_ | refine blk_alloc ?_ _)); exact BK496.out⟩, ⟨by repeat (first | (with_reducible first | exact HB.out | apply below_alloc | apply pw_below_drewN | apply below_drew1 | refine below_set ?_ GE495.out | refine below_set ?_ GE496.out) | exact HB.out)⟩⟩
      · rw [if_neg c19] at H
        have c19b0 : (t505.toList == t500.toList) = false := beq_eq_false_iff_ne.mpr c19
        have c19b1 : (t505.toList != t500.toList) = true := bne_iff_ne.mpr c19
        (first | rw [c19b0] | (simp only [i64_w, i32_w]; rw [c19b0]) | skip)
        have H' := Aside0.mk H
        clear H
        go_wp2_with (first | ((with_reducible refine gate_callee (f := 9) rfl ?_); refine goesL_ (some 28) rfl rfl Tryd.func9 (by kernel_rfl) rfl #[.string t498, .string t501] rfl mq ?_; (with_reducible refine (whole_Mul.calls (hT := HT.out.below bq) k t498 t501 t503 _ A16.out).mono ?_); rintro e w25 ⟨rfl, hb⟩; refine ⟨_, rfl, ?_⟩; have n0_ := Aside0.mk (blk_below (g := gb495) (o := .cells #[.bool a0_0, .slice A0_1 l0_1.length c0_1] 24 (0, 0)) (by (with_reducible repeat (first | refine blk_drewN ?_ _ | refine blk_drew ?_ | refine blk_alloc ?_ _)); exact BK495.out) hb); have n1_ := Aside0.mk (blk_below (g := gb496) (o := .cells #[.bool a1_0, .slice A1_1 l1_1.length c1_1] 24 (0, 0)) (by (with_reducible repeat (first | refine blk_drewN ?_ _ | refine blk_drew ?_ | refine blk_alloc ?_ _)); exact BK496.out) hb); have n2_ := Aside0.mk (below_step (by repeat (first | (with_reducible first | exact HB.out | apply below_alloc | apply pw_below_drewN | apply below_drew1 | refine below_set ?_ GE495.out | refine below_set ?_ GE496.out) | exact HB.out)) hb); clear BK495; clear BK496; clear HB; have BK495 := n0_; have BK496 := n1_; have HB := n2_; clear n0_ n1_ n2_; (try clear hb); (try clear hb2); (try clear hk); (try clear hi)) | ((with_reducible refine gate_callee (f := 9) rfl ?_); refine goesL_ (some 31) rfl rfl Tryd.func9 (by kernel_rfl) rfl #[.string t499, .string t502] rfl mq ?_; (with_reducible refine (whole_Mul.calls (hT := HT.out.below bq) k t499 t502 t504 _ A17.out).mono ?_); rintro e w26 ⟨rfl, hb⟩; refine ⟨_, rfl, ?_⟩; have n0_ := Aside0.mk (blk_below (g := gb495) (o := .cells #[.bool a0_0, .slice A0_1 l0_1.length c0_1] 24 (0, 0)) (by (with_reducible repeat (first | refine blk_drewN ?_ _ | refine blk_drew ?_ | refine blk_alloc ?_ _)); exact BK495.out) hb); have n1_ := Aside0.mk (blk_below (g := gb496) (o := .cells #[.bool a1_0, .slice A1_1 l1_1.length c1_1] 24 (0, 0)) (by (with_reducible repeat (first | refine blk_drewN ?_ _ | refine blk_drew ?_ | refine blk_alloc ?_ _)); exact BK496.out) hb); have n2_ := Aside0.mk (below_step (by repeat (first | (with_reducible first | exact HB.out | apply below_alloc | apply pw_below_drewN | apply below_drew1 | refine below_set ?_ GE495.out | refine below_set ?_ GE496.out) | exact HB.out)) hb); clear BK495; clear BK496; clear HB; have BK495 := n0_; have BK496 := n1_; have HB := n2_; clear n0_ n1_ n2_; (try clear hb); (try clear hb2); (try clear hk); (try clear hi)) | ((with_reducible refine gate_callee (f := 8) rfl ?_); refine goesL_ (some 32) rfl rfl Tryd.func8 (by kernel_rfl) rfl #[.string t503, .string t504] rfl mq ?_; (with_reducible refine (whole_Add.calls (hT := HT.out.below bq) k t503 t504 t505 _ A18.out).mono ?_); rintro e w27 ⟨rfl, hb⟩; refine ⟨_, rfl, ?_⟩; have n0_ := Aside0.mk (blk_below (g := gb495) (o := .cells #[.bool a0_0, .slice A0_1 l0_1.length c0_1] 24 (0, 0)) (by (with_reducible repeat (first | refine blk_drewN ?_ _ | refine blk_drew ?_ | refine blk_alloc ?_ _)); exact BK495.out) hb); have n1_ := Aside0.mk (blk_below (g := gb496) (o := .cells #[.bool a1_0, .slice A1_1 l1_1.length c1_1] 24 (0, 0)) (by (with_reducible repeat (first | refine blk_drewN ?_ _ | refine blk_drew ?_ | refine blk_alloc ?_ _)); exact BK496.out) hb); have n2_ := Aside0.mk (below_step (by repeat (first | (with_reducible first | exact HB.out | apply below_alloc | apply pw_below_drewN | apply below_drew1 | refine below_set ?_ GE495.out | refine below_set ?_ GE496.out) | exact HB.out)) hb); clear BK495; clear BK496; clear HB; have BK495 := n0_; have BK496 := n1_; have HB := n2_; clear n0_ n1_ n2_; (try clear hb); (try clear hb2); (try clear hk); (try clear hi)))
        go_meet
        case rel => exact ⟨_, (true), (by first | rfl | (simp; done) | (simp [*]; done)), H', ⟨by first | omega | exact Nat.le_refl _⟩, ⟨by (with_reducible repeat (first | refine blk_drewN ?_ _ | refine blk_drew ?_ | refine blk_alloc ?_ _)); exact BK495.out⟩, ⟨by (with_reducible repeat (first | refine blk_drewN ?_ _ | refine blk_drew ?_ | refine blk_alloc ?_ _)); exact BK496.out⟩, ⟨by repeat (first | (with_reducible first | exact HB.out | apply below_alloc | apply pw_below_drewN | apply below_drew1 | refine below_set ?_ GE495.out | refine below_set ?_ GE496.out) | exact HB.out)⟩⟩
    case rest =>
      clear HC8
      try clear c1
      try clear p2
      try clear c4
      try clear c5
      try clear c6
      try clear c8
      try clear c9
      try clear c15
      try clear c19
      try clear c19b0
      try clear c19b1
      obtain ⟨kq, x41_7, rfl, HA, HJ7, BK495, BK496, HB⟩ := hcut
      cases kq with
      | zero => exact absurd HA.out (by simp [schismalaw02_WholeRemainders.j0])
      | succ kj7 =>
        have H := HA.out
        clear HA
        simp only [schismalaw02_WholeRemainders.j0] at H
        by_cases c28 : x41_7 = true
        · subst c28
          have H1 : (some false) = some r := by rw [if_pos rfl] at H; exact H
          clear H
          have H := H1
          clear H1
          obtain rfl := Option.some.inj H
          go_wp2
          go_ret
          exact ⟨eq_, by repeat (first | (with_reducible first | exact HB.out | apply below_alloc | apply pw_below_drewN | apply below_drew1 | refine below_set ?_ GE495.out | refine below_set ?_ GE496.out) | exact HB.out)⟩
        · replace c28 := Bool.eq_false_iff.mpr c28
          subst c28
          have H1 : (if t499.toList = ([48] : List UInt8) then (some true) else ((whole_DivMod.f kj7 t498 t499).bind fun bt507 => (if bt507.2.2 = 0 then ((whole_Mul.f kj7 t499 bt507.1).bind fun t510 => ((whole_Add.f kj7 t510 bt507.2.1).bind fun t511 => (schismalaw02_WholeRemainders.j1 kj7 t499 bt507.2.1 (t511.toList != t498.toList)))) else (schismalaw02_WholeRemainders.j1 kj7 t499 bt507.2.1 true)))) = some r := by rw [if_neg (show ¬ (false = true) by decide)] at H; exact H
          clear H
          have H := H1
          clear H1
          by_cases c29 : t499.toList = ([48] : List UInt8)
          · rw [if_pos c29] at H
            have c29b0 : (t499.toList == ([48] : List UInt8)) = true := beq_iff_eq.mpr c29
            have c29b1 : (t499.toList != ([48] : List UInt8)) = false := bne_eq_false_iff_eq.mpr c29
            clear c29
            obtain rfl := Option.some.inj H
            go_wp2
            go_ret
            exact ⟨eq_, by repeat (first | (with_reducible first | exact HB.out | apply below_alloc | apply pw_below_drewN | apply below_drew1 | refine below_set ?_ GE495.out | refine below_set ?_ GE496.out) | exact HB.out)⟩
          · rw [if_neg c29] at H
            have c29b0 : (t499.toList == ([48] : List UInt8)) = false := beq_eq_false_iff_ne.mpr c29
            have c29b1 : (t499.toList != ([48] : List UInt8)) = true := bne_iff_ne.mpr c29
            replace H := Option.bind_eq_some_iff.mp H
            obtain ⟨⟨t507, t508, t509⟩, A300, H⟩ := H
            replace H : (if t509 = 0 then ((whole_Mul.f kj7 t499 t507).bind fun t510 => ((whole_Add.f kj7 t510 t508).bind fun t511 => (schismalaw02_WholeRemainders.j1 kj7 t499 t508 (t511.toList != t498.toList)))) else (schismalaw02_WholeRemainders.j1 kj7 t499 t508 true)) = some r := H
            have A30 := Aside0.mk A300
            clear A300
            have HC31 := Aside0.mk H
            clear H
            go_upto_region 10 with (first | ((with_reducible refine gate_callee (f := 16) rfl ?_); refine goesL_ (some 47) rfl rfl Tryd.func16 (by kernel_rfl) rfl #[.string t498, .string t499] rfl mq ?_; (with_reducible refine (whole_DivMod.calls (hT := HT.out.below bq) kj7 t498 t499 t507 t508 t509 _ A30.out).mono ?_); rintro e w32 ⟨rfl, hb⟩; refine ⟨_, rfl, ?_⟩; have n0_ := Aside0.mk (blk_below (g := gb495) (o := .cells #[.bool a0_0, .slice A0_1 l0_1.length c0_1] 24 (0, 0)) (by (with_reducible repeat (first | refine blk_drewN ?_ _ | refine blk_drew ?_ | refine blk_alloc ?_ _)); exact BK495.out) hb); have n1_ := Aside0.mk (blk_below (g := gb496) (o := .cells #[.bool a1_0, .slice A1_1 l1_1.length c1_1] 24 (0, 0)) (by (with_reducible repeat (first | refine blk_drewN ?_ _ | refine blk_drew ?_ | refine blk_alloc ?_ _)); exact BK496.out) hb); have n2_ := Aside0.mk (below_step (by repeat (first | (with_reducible first | exact HB.out | apply below_alloc | apply pw_below_drewN | apply below_drew1 | refine below_set ?_ GE495.out | refine below_set ?_ GE496.out) | exact HB.out)) hb); clear BK495; clear BK496; clear HB; have BK495 := n0_; have BK496 := n1_; have HB := n2_; clear n0_ n1_ n2_; (try clear hb); (try clear hb2); (try clear hk); (try clear hi)))
            (try simp only [Act.put, List.setIfInBounds_toArray, List.set_cons_zero, List.set_cons_succ])
            go_cut [61] (fun v61 wc => ∃ (kq : Nat) (x61_30 : Bool), v61 = .bool x61_30 ∧ Aside0 (schismalaw02_WholeRemainders.j1 kq t499 t508 x61_30 = some r) ∧ Aside0 (kq ≤ kj7) ∧ Aside0 (wc.heap[gb495]? = some (.cells #[.bool a0_0, (.slice A0_1 l0_1.length c0_1)] 24 (0, 0))) ∧ Aside0 (wc.heap[gb496]? = some (.cells #[.bool a1_0, (.slice A1_1 l1_1.length c1_1)] 24 (0, 0))) ∧ Aside0 (Below w.heap.size w wc))
            case first =>
              have H := HC31.out
              clear HC31
              by_cases c33 : t509 = 0
              · rw [if_pos c33] at H
                have c33b0 : (t509 == 0) = true := beq_iff_eq.mpr c33
                have c33b1 : (t509 != 0) = false := bne_eq_false_iff_eq.mpr c33
                clear c33
                (first | rw [c33b0] | (simp only [i64_w, i32_w]; rw [c33b0]) | skip)
                replace H := Option.bind_eq_some_iff.mp H
                obtain ⟨t510, A340, H⟩ := H
                replace H : ((whole_Add.f kj7 t510 t508).bind fun t511 => (schismalaw02_WholeRemainders.j1 kj7 t499 t508 (t511.toList != t498.toList))) = some r := H
                have A34 := Aside0.mk A340
                clear A340
                replace H := Option.bind_eq_some_iff.mp H
                obtain ⟨t511, A350, H⟩ := H
                replace H : (schismalaw02_WholeRemainders.j1 kj7 t499 t508 (t511.toList != t498.toList)) = some r := H
                have A35 := Aside0.mk A350
                clear A350
                have H' := Aside0.mk H
                clear H
                go_wp2_with (first | (go_at_call 9; (with_reducible refine (whole_Mul.calls (hT := HT.out.below bq) kj7 t499 t507 t510 _ A34.out).mono ?_); rintro e w36 ⟨rfl, hb⟩; have n0_ := Aside0.mk (blk_below (g := gb495) (o := .cells #[.bool a0_0, .slice A0_1 l0_1.length c0_1] 24 (0, 0)) (by (with_reducible repeat (first | refine blk_drewN ?_ _ | refine blk_drew ?_ | refine blk_alloc ?_ _)); exact BK495.out) hb); have n1_ := Aside0.mk (blk_below (g := gb496) (o := .cells #[.bool a1_0, .slice A1_1 l1_1.length c1_1] 24 (0, 0)) (by (with_reducible repeat (first | refine blk_drewN ?_ _ | refine blk_drew ?_ | refine blk_alloc ?_ _)); exact BK496.out) hb); have n2_ := Aside0.mk (below_step (by repeat (first | (with_reducible first | exact HB.out | apply below_alloc | apply pw_below_drewN | apply below_drew1 | refine below_set ?_ GE495.out | refine below_set ?_ GE496.out) | exact HB.out)) hb); clear BK495; clear BK496; clear HB; have BK495 := n0_; have BK496 := n1_; have HB := n2_; clear n0_ n1_ n2_; (try clear hb); (try clear hb2); (try clear hk); (try clear hi)) | (go_at_call 8; (with_reducible refine (whole_Add.calls (hT := HT.out.below bq) kj7 t510 t508 t511 _ A35.out).mono ?_); rintro e w37 ⟨rfl, hb⟩; have n0_ := Aside0.mk (blk_below (g := gb495) (o := .cells #[.bool a0_0, .slice A0_1 l0_1.length c0_1] 24 (0, 0)) (by (with_reducible repeat (first | refine blk_drewN ?_ _ | refine blk_drew ?_ | refine blk_alloc ?_ _)); exact BK495.out) hb); have n1_ := Aside0.mk (blk_below (g := gb496) (o := .cells #[.bool a1_0, .slice A1_1 l1_1.length c1_1] 24 (0, 0)) (by (with_reducible repeat (first | refine blk_drewN ?_ _ | refine blk_drew ?_ | refine blk_alloc ?_ _)); exact BK496.out) hb); have n2_ := Aside0.mk (below_step (by repeat (first | (with_reducible first | exact HB.out | apply below_alloc | apply pw_below_drewN | apply below_drew1 | refine below_set ?_ GE495.out | refine below_set ?_ GE496.out) | exact HB.out)) hb); clear BK495; clear BK496; clear HB; have BK495 := n0_; have BK496 := n1_; have HB := n2_; clear n0_ n1_ n2_; (try clear hb); (try clear hb2); (try clear hk); (try clear hi)))
                go_meet
                case rel => exact ⟨_, ((t511.toList != t498.toList)), (by first | rfl | (simp; done) | (simp [*]; done)), H', ⟨by have := HJ7.out; first | omega | exact Nat.le_refl _⟩, ⟨by (with_reducible repeat (first | refine blk_drewN ?_ _ | refine blk_drew ?_ | refine blk_alloc ?_ _)); exact BK495.out⟩, ⟨by (with_reducible repeat (first | refine blk_drewN ?_ _ | refine blk_drew ?_ | refine blk_alloc ?_ _)); exact BK496.out⟩, ⟨by repeat (first | (with_reducible first | exact HB.out | apply below_alloc | apply pw_below_drewN | apply below_drew1 | refine below_set ?_ GE495.out | refine below_set ?_ GE496.out) | exact HB.out)⟩⟩
              · rw [if_neg c33] at H
                have c33b0 : (t509 == 0) = false := beq_eq_false_iff_ne.mpr c33
                have c33b1 : (t509 != 0) = true := bne_iff_ne.mpr c33
                (first | rw [c33b0] | (simp only [i64_w, i32_w]; rw [c33b0]) | skip)
                have H' := Aside0.mk H
                clear H
                go_wp2
                go_meet
                case rel => exact ⟨_, (true), (by first | rfl | (simp; done) | (simp [*]; done)), H', ⟨by have := HJ7.out; first | omega | exact Nat.le_refl _⟩, ⟨by (with_reducible repeat (first | refine blk_drewN ?_ _ | refine blk_drew ?_ | refine blk_alloc ?_ _)); exact BK495.out⟩, ⟨by (with_reducible repeat (first | refine blk_drewN ?_ _ | refine blk_drew ?_ | refine blk_alloc ?_ _)); exact BK496.out⟩, ⟨by repeat (first | (with_reducible first | exact HB.out | apply below_alloc | apply pw_below_drewN | apply below_drew1 | refine below_set ?_ GE495.out | refine below_set ?_ GE496.out) | exact HB.out)⟩⟩
            case rest =>
              clear HC31
              try clear c1
              try clear c2
              try clear p2
              try clear c3
              try clear c4
              try clear c5
              try clear c6
              try clear c8
              try clear c9
              try clear c15
              try clear c16
              try clear c19
              try clear c19b0
              try clear c19b1
              try clear c28
              try clear c29
              try clear c29b0
              try clear c29b1
              try clear c33
              try clear c33b0
              try clear c33b1
              try clear p2
              obtain ⟨kq, x61_30, rfl, HA, HJ30, BK495, BK496, HB⟩ := hcut
              cases kq with
              | zero => exact absurd HA.out (by simp [schismalaw02_WholeRemainders.j1])
              | succ kj30 =>
                have H := HA.out
                clear HA
                simp only [schismalaw02_WholeRemainders.j1] at H
                by_cases c38 : x61_30 = true
                · subst c38
                  have H1 : (some false) = some r := by rw [if_pos rfl] at H; exact H
                  clear H
                  have H := H1
                  clear H1
                  obtain rfl := Option.some.inj H
                  go_wp2
                  go_ret
                  exact ⟨eq_, by repeat (first | (with_reducible first | exact HB.out | apply below_alloc | apply pw_below_drewN | apply below_drew1 | refine below_set ?_ GE495.out | refine below_set ?_ GE496.out) | exact HB.out)⟩
                · replace c38 := Bool.eq_false_iff.mpr c38
                  subst c38
                  have H1 : (if t508.toList = ([48] : List UInt8) then (some true) else ((whole_Sign.f t508).bind fun t512 => ((whole_Sign.f t499).bind fun t513 => (if t512 = t513 then ((whole_Abs.f t508).bind fun t514 => ((whole_Abs.f t499).bind fun t515 => ((whole_Compare.f t514 t515).bind fun t516 => (some (decide (t516 < 0)))))) else (some false))))) = some r := by rw [if_neg (show ¬ (false = true) by decide)] at H; exact H
                  clear H
                  have H := H1
                  clear H1
                  by_cases c39 : t508.toList = ([48] : List UInt8)
                  · rw [if_pos c39] at H
                    have c39b0 : (t508.toList == ([48] : List UInt8)) = true := beq_iff_eq.mpr c39
                    have c39b1 : (t508.toList != ([48] : List UInt8)) = false := bne_eq_false_iff_eq.mpr c39
                    clear c39
                    obtain rfl := Option.some.inj H
                    go_wp2
                    go_ret
                    exact ⟨eq_, by repeat (first | (with_reducible first | exact HB.out | apply below_alloc | apply pw_below_drewN | apply below_drew1 | refine below_set ?_ GE495.out | refine below_set ?_ GE496.out) | exact HB.out)⟩
                  · rw [if_neg c39] at H
                    have c39b0 : (t508.toList == ([48] : List UInt8)) = false := beq_eq_false_iff_ne.mpr c39
                    have c39b1 : (t508.toList != ([48] : List UInt8)) = true := bne_iff_ne.mpr c39
                    replace H := Option.bind_eq_some_iff.mp H
                    obtain ⟨t512, A400, H⟩ := H
                    replace H : ((whole_Sign.f t499).bind fun t513 => (if t512 = t513 then ((whole_Abs.f t508).bind fun t514 => ((whole_Abs.f t499).bind fun t515 => ((whole_Compare.f t514 t515).bind fun t516 => (some (decide (t516 < 0)))))) else (some false))) = some r := H
                    have A40 := Aside0.mk A400
                    clear A400
                    replace H := Option.bind_eq_some_iff.mp H
                    obtain ⟨t513, A410, H⟩ := H
                    replace H : (if t512 = t513 then ((whole_Abs.f t508).bind fun t514 => ((whole_Abs.f t499).bind fun t515 => ((whole_Compare.f t514 t515).bind fun t516 => (some (decide (t516 < 0)))))) else (some false)) = some r := H
                    have A41 := Aside0.mk A410
                    clear A410
                    by_cases c42 : t512 = t513
                    · rw [if_pos c42] at H
                      have c42b0 : (t512 == t513) = true := beq_iff_eq.mpr c42
                      have c42b1 : (t512 != t513) = false := bne_eq_false_iff_eq.mpr c42
                      clear c42
                      replace H := Option.bind_eq_some_iff.mp H
                      obtain ⟨t514, A430, H⟩ := H
                      replace H : ((whole_Abs.f t499).bind fun t515 => ((whole_Compare.f t514 t515).bind fun t516 => (some (decide (t516 < 0))))) = some r := H
                      have A43 := Aside0.mk A430
                      clear A430
                      replace H := Option.bind_eq_some_iff.mp H
                      obtain ⟨t515, A440, H⟩ := H
                      replace H : ((whole_Compare.f t514 t515).bind fun t516 => (some (decide (t516 < 0)))) = some r := H
                      have A44 := Aside0.mk A440
                      clear A440
                      replace H := Option.bind_eq_some_iff.mp H
                      obtain ⟨t516, A450, H⟩ := H
                      replace H : (some (decide (t516 < 0))) = some r := H
                      have A45 := Aside0.mk A450
                      clear A450
                      obtain rfl := Option.some.inj H
                      go_wp2_with (first | (go_at_call 17; (with_reducible refine (whole_Sign.calls t508 t512 _ A40.out).mono ?_); rintro e w' ⟨rfl, ⟨nd, rfl⟩⟩) | (go_at_call 17; (with_reducible refine (whole_Sign.calls t499 t513 _ A41.out).mono ?_); rintro e w' ⟨rfl, ⟨nd, rfl⟩⟩) | (go_at_call 14; (with_reducible refine (whole_Abs.calls t508 t514 _ A43.out).mono ?_); rintro e w' ⟨rfl, ⟨nd, rfl⟩⟩) | (go_at_call 14; (with_reducible refine (whole_Abs.calls t499 t515 _ A44.out).mono ?_); rintro e w' ⟨rfl, ⟨nd, rfl⟩⟩) | (go_at_call 11; (with_reducible refine (whole_Compare.calls t514 t515 t516 _ A45.out).mono ?_); rintro e w46 ⟨rfl, hb⟩; have n0_ := Aside0.mk (blk_below (g := gb495) (o := .cells #[.bool a0_0, .slice A0_1 l0_1.length c0_1] 24 (0, 0)) (by (with_reducible repeat (first | refine blk_drewN ?_ _ | refine blk_drew ?_ | refine blk_alloc ?_ _)); exact BK495.out) hb); have n1_ := Aside0.mk (blk_below (g := gb496) (o := .cells #[.bool a1_0, .slice A1_1 l1_1.length c1_1] 24 (0, 0)) (by (with_reducible repeat (first | refine blk_drewN ?_ _ | refine blk_drew ?_ | refine blk_alloc ?_ _)); exact BK496.out) hb); have n2_ := Aside0.mk (below_step (by repeat (first | (with_reducible first | exact HB.out | apply below_alloc | apply pw_below_drewN | apply below_drew1 | refine below_set ?_ GE495.out | refine below_set ?_ GE496.out) | exact HB.out)) hb); clear BK495; clear BK496; clear HB; have BK495 := n0_; have BK496 := n1_; have HB := n2_; clear n0_ n1_ n2_; (try clear hb); (try clear hb2); (try clear hk); (try clear hi)))
                      go_ret
                      exact ⟨eq_, by repeat (first | (with_reducible first | exact HB.out | apply below_alloc | apply pw_below_drewN | apply below_drew1 | refine below_set ?_ GE495.out | refine below_set ?_ GE496.out) | exact HB.out)⟩
                    · rw [if_neg c42] at H
                      have c42b0 : (t512 == t513) = false := beq_eq_false_iff_ne.mpr c42
                      have c42b1 : (t512 != t513) = true := bne_iff_ne.mpr c42
                      obtain rfl := Option.some.inj H
                      go_wp2_with (first | (go_at_call 17; (with_reducible refine (whole_Sign.calls t508 t512 _ A40.out).mono ?_); rintro e w' ⟨rfl, ⟨nd, rfl⟩⟩) | (go_at_call 17; (with_reducible refine (whole_Sign.calls t499 t513 _ A41.out).mono ?_); rintro e w' ⟨rfl, ⟨nd, rfl⟩⟩))
                      go_ret
                      exact ⟨eq_, by repeat (first | (with_reducible first | exact HB.out | apply below_alloc | apply pw_below_drewN | apply below_drew1 | refine below_set ?_ GE495.out | refine below_set ?_ GE496.out) | exact HB.out)⟩
  · replace c4 := Bool.eq_false_iff.mpr c4
    subst c4
    have H1 : (some false) = some r := by rw [if_neg (show ¬ (false = true) by decide)] at H; exact H
    clear H
    have H := H1
    clear H1
    obtain rfl := Option.some.inj H
    go_enter Tryd.func4, Tryd.ntmps4
    go_wp2_with (first | ((with_reducible refine gate_dst (N := 2) rfl ?_); refine box_event ?hg (N := 2) ?hd (cs := #[.bool a0_0, .slice A0_1 l0_1.length c0_1]) (t := 24) ?hr ?_; (case hd => rfl); (case hg => rfl); (case hr => first | (go_simp; done) | (go_simp; rfl)); intro gb495 hg w47 hbox hb; have n0_ := Aside0.mk (below_step bq hb); have n1_ := Aside0.mk (hbox); have n2_ := Aside0.mk ((by rw [hg]; exact (below_size bq) : w.heap.size ≤ gb495)); have n3_ := Aside0.mk ((by rw [hg]; exact (below_size bq) : w.heap.size ≤ gb495)); clear HB; have HB := n0_; have BK495 := n1_; have GW495 := n2_; have GE495 := n3_; clear n0_ n1_ n2_ n3_; clear hb hbox hg) | ((with_reducible refine gate_dst (N := 3) rfl ?_); refine box_event ?hg (N := 3) ?hd (cs := #[.bool a1_0, .slice A1_1 l1_1.length c1_1]) (t := 24) ?hr ?_; (case hd => rfl); (case hg => rfl); (case hr => first | (go_simp; done) | (go_simp; rfl)); intro gb496 hg w48 hbox hb; have n0_ := Aside0.mk (blk_below (g := gb495) (o := .cells #[.bool a0_0, .slice A0_1 l0_1.length c0_1] 24 (0, 0)) (by (with_reducible repeat (first | refine blk_drewN ?_ _ | refine blk_drew ?_ | refine blk_alloc ?_ _)); exact BK495.out) hb); have n1_ := Aside0.mk (below_step (by repeat (first | (with_reducible first | exact HB.out | apply below_alloc | apply pw_below_drewN | apply below_drew1 | refine below_set ?_ GE495.out) | exact HB.out)) hb); have n2_ := Aside0.mk (hbox); have n3_ := Aside0.mk ((by rw [hg]; exact (below_size (by repeat (first | (with_reducible first | exact HB.out | apply below_alloc | apply pw_below_drewN | apply below_drew1 | refine below_set ?_ GE495.out) | exact HB.out))) : w.heap.size ≤ gb496)); have n4_ := Aside0.mk ((by rw [hg]; exact (below_size (by repeat (first | (with_reducible first | exact HB.out | apply below_alloc | apply pw_below_drewN | apply below_drew1 | refine below_set ?_ GE495.out) | exact HB.out))) : w.heap.size ≤ gb496)); have n5_ := Aside0.mk ((by rw [hg]; exact Nat.ne_of_lt (blk_lt (g := gb495) (o := .cells #[.bool a0_0, .slice A0_1 l0_1.length c0_1] 24 (0, 0)) (by (with_reducible repeat (first | refine blk_drewN ?_ _ | refine blk_drew ?_ | refine blk_alloc ?_ _)); exact BK495.out)) : gb495 ≠ gb496)); have n6_ := Aside0.mk ((by rw [hg]; exact Nat.ne_of_gt (blk_lt (g := gb495) (o := .cells #[.bool a0_0, .slice A0_1 l0_1.length c0_1] 24 (0, 0)) (by (with_reducible repeat (first | refine blk_drewN ?_ _ | refine blk_drew ?_ | refine blk_alloc ?_ _)); exact BK495.out)) : gb496 ≠ gb495)); clear BK495; clear HB; have BK495 := n0_; have HB := n1_; have BK496 := n2_; have GW496 := n3_; have GE496 := n4_; have NB495_496 := n5_; have NB496_495 := n6_; clear n0_ n1_ n2_ n3_ n4_ n5_ n6_; clear hb hbox hg) | ((with_reducible refine gate_callee (f := 5) rfl ?_); refine goesL_ (some 13) rfl rfl Tryd.func5 (by kernel_rfl) rfl #[] rfl mq ?_; (with_reducible refine (schismalaw02_known.calls (hT := HT.out.below bq) k  false _ A3.out).mono ?_); rintro e w49 ⟨rfl, hb⟩; refine ⟨_, rfl, ?_⟩; have n0_ := Aside0.mk (blk_below (g := gb495) (o := .cells #[.bool a0_0, .slice A0_1 l0_1.length c0_1] 24 (0, 0)) (by (with_reducible repeat (first | refine blk_drewN ?_ _ | refine blk_drew ?_ | refine blk_alloc ?_ _)); exact BK495.out) hb); have n1_ := Aside0.mk (blk_below (g := gb496) (o := .cells #[.bool a1_0, .slice A1_1 l1_1.length c1_1] 24 (0, 0)) (by (with_reducible repeat (first | refine blk_drewN ?_ _ | refine blk_drew ?_ | refine blk_alloc ?_ _)); exact BK496.out) hb); have n2_ := Aside0.mk (below_step (by repeat (first | (with_reducible first | exact HB.out | apply below_alloc | apply pw_below_drewN | apply below_drew1 | refine below_set ?_ GE495.out | refine below_set ?_ GE496.out) | exact HB.out)) hb); clear BK495; clear BK496; clear HB; have BK495 := n0_; have BK496 := n1_; have HB := n2_; clear n0_ n1_ n2_; (try clear hb); (try clear hb2); (try clear hk); (try clear hi)))
    go_ret
    exact ⟨eq_, by repeat (first | (with_reducible first | exact HB.out | apply below_alloc | apply pw_below_drewN | apply below_drew1 | refine below_set ?_ GE495.out | refine below_set ?_ GE496.out) | exact HB.out)⟩
end Go.Proofs.YtioimihminelaaaDoor.P
