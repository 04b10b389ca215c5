/- Functions of the program, as functions of Lean, and the walks that show that the code answers as they do: written by a program. Conditions: those of each theorem. -/
import Derived.Test.YtioimihminelaaaDoorWholeLawsF6
namespace Go.Proofs.YtioimihminelaaaDoor.P
open Go.RowKit Go.Proofs.YtioimihminelaaaDoorW.PrintWords Go.Proofs.YtioimihminelaaaDoorW.PrintLast Go.Proofs.YtioimihminelaaaDoorW.PrintMore
attribute [local go_sem] gtr_text max2_int min2_int max_two min_two max_three min_three max_four min_four
set_option linter.unusedVariables false
set_option linter.unusedSimpArgs false
def whole_Gcd.f (k : Nat) (a0 : ByteArray) (a1 : ByteArray) : Option (ByteArray) := (whole_Abs.f a0).bind fun t456 => ((whole_Abs.f a1).bind fun t457 => ((whole_little.f t456 18).bind fun bt458 => (if bt458.2 = true then ((whole_little.f t457 18).bind fun bt460 => (if bt460.2 = true then ((whole_gcd.f k bt458.1 bt460.1).bind fun t462 => ((whole_Of.f t462).bind fun t463 => (some t463))) else ((decimal_Gcd.f k t456 t457).bind fun t464 => (some t464)))) else ((decimal_Gcd.f k t456 t457).bind fun t465 => (some t465)))))
theorem whole_Gcd.mono : ∀ a0 a1 k, LeO (whole_Gcd.f k a0 a1) (whole_Gcd.f (k + 1) a0 a1) := by
  intro a0 a1 k
  unfold whole_Gcd.f
  repeat' first
      | (with_reducible exact decimal_Gcd.mono _ _ _)
      | (with_reducible exact whole_gcd.mono _ _ _)
      | (with_reducible exact LeO.refl _)
      | (with_reducible exact LeO.none _)
      | (with_reducible refine LeO.ite ?_ ?_)
      | (with_reducible refine LeO.bind ?_ (fun _ => ?_))
      | exact decimal_Gcd.mono _ _ _
      | exact whole_gcd.mono _ _ _
      | exact LeO.none _
      | refine LeO.ite ?_ ?_
      | refine LeO.bind ?_ (fun _ => ?_)
set_option maxHeartbeats 8000000 in
set_option maxRecDepth 100000 in
theorem whole_Gcd.calls (k : Nat) (a0 : ByteArray) (a1 : ByteArray) (r : ByteArray) (w : World) (hT : Tab w) (h : whole_Gcd.f k a0 a1 = some r) :
    Calls Tryd.prog 12 #[.string a0, .string a1] w fun e w' => e = .returned (.string r) ∧ Below w.heap.size w w' := by
  have HT := Aside0.mk hT
  clear hT
  have HB := Aside0.mk (Below.refl w.heap.size w)
  have H : ((whole_Abs.f a0).bind fun t456 => ((whole_Abs.f a1).bind fun t457 => ((whole_little.f t456 18).bind fun bt458 => (if bt458.2 = true then ((whole_little.f t457 18).bind fun bt460 => (if bt460.2 = true then ((whole_gcd.f k bt458.1 bt460.1).bind fun t462 => ((whole_Of.f t462).bind fun t463 => (some t463))) else ((decimal_Gcd.f k t456 t457).bind fun t464 => (some t464)))) else ((decimal_Gcd.f k t456 t457).bind fun t465 => (some t465)))))) = some r := h
  clear h
  replace H := Option.bind_eq_some_iff.mp H
  obtain ⟨t456, A30, H⟩ := H
  replace H : ((whole_Abs.f a1).bind fun t457 => ((whole_little.f t456 18).bind fun bt458 => (if bt458.2 = true then ((whole_little.f t457 18).bind fun bt460 => (if bt460.2 = true then ((whole_gcd.f k bt458.1 bt460.1).bind fun t462 => ((whole_Of.f t462).bind fun t463 => (some t463))) else ((decimal_Gcd.f k t456 t457).bind fun t464 => (some t464)))) else ((decimal_Gcd.f k t456 t457).bind fun t465 => (some t465))))) = some r := H
  have A3 := Aside0.mk A30
  clear A30
  replace H := Option.bind_eq_some_iff.mp H
  obtain ⟨t457, A40, H⟩ := H
  replace H : ((whole_little.f t456 18).bind fun bt458 => (if bt458.2 = true then ((whole_little.f t457 18).bind fun bt460 => (if bt460.2 = true then ((whole_gcd.f k bt458.1 bt460.1).bind fun t462 => ((whole_Of.f t462).bind fun t463 => (some t463))) else ((decimal_Gcd.f k t456 t457).bind fun t464 => (some t464)))) else ((decimal_Gcd.f k t456 t457).bind fun t465 => (some t465)))) = some r := H
  have A4 := Aside0.mk A40
  clear A40
  replace H := Option.bind_eq_some_iff.mp H
  obtain ⟨⟨t458, t459⟩, A50, H⟩ := H
  replace H : (if t459 = true then ((whole_little.f t457 18).bind fun bt460 => (if bt460.2 = true then ((whole_gcd.f k t458 bt460.1).bind fun t462 => ((whole_Of.f t462).bind fun t463 => (some t463))) else ((decimal_Gcd.f k t456 t457).bind fun t464 => (some t464)))) else ((decimal_Gcd.f k t456 t457).bind fun t465 => (some t465))) = some r := H
  have A5 := Aside0.mk A50
  clear A50
  by_cases c6 : t459 = true
  · subst c6
    have H1 : ((whole_little.f t457 18).bind fun bt460 => (if bt460.2 = true then ((whole_gcd.f k t458 bt460.1).bind fun t462 => ((whole_Of.f t462).bind fun t463 => (some t463))) else ((decimal_Gcd.f k t456 t457).bind fun t464 => (some t464)))) = some r := by rw [if_pos rfl] at H; exact H
    clear H
    have H := H1
    clear H1
    replace H := Option.bind_eq_some_iff.mp H
    obtain ⟨⟨t460, t461⟩, A70, H⟩ := H
    replace H : (if t461 = true then ((whole_gcd.f k t458 t460).bind fun t462 => ((whole_Of.f t462).bind fun t463 => (some t463))) else ((decimal_Gcd.f k t456 t457).bind fun t464 => (some t464))) = some r := H
    have A7 := Aside0.mk A70
    clear A70
    by_cases c8 : t461 = true
    · subst c8
      have H1 : ((whole_gcd.f k t458 t460).bind fun t462 => ((whole_Of.f t462).bind fun t463 => (some t463))) = some r := by rw [if_pos rfl] at H; exact H
      clear H
      have H := H1
      clear H1
      replace H := Option.bind_eq_some_iff.mp H
      obtain ⟨t462, A90, H⟩ := H
      replace H : ((whole_Of.f t462).bind fun t463 => (some t463)) = some r := H
      have A9 := Aside0.mk A90
      clear A90
      replace H := Option.bind_eq_some_iff.mp H
      obtain ⟨t463, A100, H⟩ := H
      replace H : (some t463) = some r := H
      have A10 := Aside0.mk A100
      clear A100
      obtain rfl := Option.some.inj H
      go_enter Tryd.func12, Tryd.ntmps12
      go_wp2_with (first | ((with_reducible refine gate_callee (f := 14) rfl ?_); refine goesL_ (some 12) rfl rfl Tryd.func14 (by kernel_rfl) rfl #[.string a0] rfl mq ?_; (with_reducible refine (whole_Abs.calls a0 t456 _ A3.out).mono ?_); rintro e w' ⟨rfl, ⟨nd, rfl⟩⟩; refine ⟨_, rfl, ?_⟩) | ((with_reducible refine gate_callee (f := 14) rfl ?_); refine goesL_ (some 14) rfl rfl Tryd.func14 (by kernel_rfl) rfl #[.string a1] rfl mq ?_; (with_reducible refine (whole_Abs.calls a1 t457 _ A4.out).mono ?_); rintro e w' ⟨rfl, ⟨nd, rfl⟩⟩; refine ⟨_, rfl, ?_⟩) | ((with_reducible refine gate_callee (f := 23) rfl ?_); refine goesL_ (some 17) rfl rfl Tryd.func23 (by kernel_rfl) rfl #[.string t456, .int .i64 18] rfl mq ?_; (with_reducible refine (whole_little.calls t456 18 t458 true _ A5.out).mono ?_); rintro e w11 ⟨rfl, hb⟩; refine ⟨_, rfl, ?_⟩; replace HB := Aside0.mk (below_step bq hb); (try clear hb); (try clear hb2); (try clear hk); (try clear hi)) | ((with_reducible refine gate_callee (f := 23) rfl ?_); refine goesL_ (some 23) rfl rfl Tryd.func23 (by kernel_rfl) rfl #[.string t457, .int .i64 18] rfl mq ?_; (with_reducible refine (whole_little.calls t457 18 t460 true _ A7.out).mono ?_); rintro e w12 ⟨rfl, hb⟩; refine ⟨_, rfl, ?_⟩; replace HB := Aside0.mk (below_step bq hb); (try clear hb); (try clear hb2); (try clear hk); (try clear hi)) | ((with_reducible refine gate_callee (f := 31) rfl ?_); refine goesL_ (some 29) rfl rfl Tryd.func31 (by kernel_rfl) rfl #[.int .i64 t458, .int .i64 t460] rfl mq ?_; (with_reducible refine (whole_gcd.calls k t458 t460 t462 _ A9.out).mono ?_); rintro e w' ⟨rfl, ⟨nd, rfl⟩⟩; refine ⟨_, rfl, ?_⟩) | ((with_reducible refine gate_callee (f := 24) rfl ?_); refine goesL_ (some 30) rfl rfl Tryd.func24 (by kernel_rfl) rfl #[.int .i64 t462] rfl mq ?_; (with_reducible refine (whole_Of.calls (hT := HT.out.below bq) t462 t463 _ A10.out).mono ?_); rintro e w13 ⟨rfl, hb⟩; refine ⟨_, rfl, ?_⟩; replace HB := Aside0.mk (below_step bq hb); (try clear hb); (try clear hb2); (try clear hk); (try clear hi)))
      go_ret
      exact ⟨eq_, bq⟩
    · replace c8 := Bool.eq_false_iff.mpr c8
      subst c8
      have H1 : ((decimal_Gcd.f k t456 t457).bind fun t464 => (some t464)) = some r := by rw [if_neg (show ¬ (false = true) by decide)] at H; exact H
      clear H
      have H := H1
      clear H1
      replace H := Option.bind_eq_some_iff.mp H
      obtain ⟨t464, A140, H⟩ := H
      replace H : (some t464) = some r := H
      have A14 := Aside0.mk A140
      clear A140
      obtain rfl := Option.some.inj H
      go_enter Tryd.func12, Tryd.ntmps12
      go_wp2_with (first | ((with_reducible refine gate_callee (f := 14) rfl ?_); refine goesL_ (some 12) rfl rfl Tryd.func14 (by kernel_rfl) rfl #[.string a0] rfl mq ?_; (with_reducible refine (whole_Abs.calls a0 t456 _ A3.out).mono ?_); rintro e w' ⟨rfl, ⟨nd, rfl⟩⟩; refine ⟨_, rfl, ?_⟩) | ((with_reducible refine gate_callee (f := 14) rfl ?_); refine goesL_ (some 14) rfl rfl Tryd.func14 (by kernel_rfl) rfl #[.string a1] rfl mq ?_; (with_reducible refine (whole_Abs.calls a1 t457 _ A4.out).mono ?_); rintro e w' ⟨rfl, ⟨nd, rfl⟩⟩; refine ⟨_, rfl, ?_⟩) | ((with_reducible refine gate_callee (f := 23) rfl ?_); refine goesL_ (some 17) rfl rfl Tryd.func23 (by kernel_rfl) rfl #[.string t456, .int .i64 18] rfl mq ?_; (with_reducible refine (whole_little.calls t456 18 t458 true _ A5.out).mono ?_); rintro e w15 ⟨rfl, hb⟩; refine ⟨_, rfl, ?_⟩; replace HB := Aside0.mk (below_step bq hb); (try clear hb); (try clear hb2); (try clear hk); (try clear hi)) | ((with_reducible refine gate_callee (f := 23) rfl ?_); refine goesL_ (some 23) rfl rfl Tryd.func23 (by kernel_rfl) rfl #[.string t457, .int .i64 18] rfl mq ?_; (with_reducible refine (whole_little.calls t457 18 t460 false _ A7.out).mono ?_); rintro e w16 ⟨rfl, hb⟩; refine ⟨_, rfl, ?_⟩; replace HB := Aside0.mk (below_step bq hb); (try clear hb); (try clear hb2); (try clear hk); (try clear hi)) | ((with_reducible refine gate_callee (f := 32) rfl ?_); refine goesL_ (some 33) rfl rfl Tryd.func32 (by kernel_rfl) rfl #[.string t456, .string t457] rfl mq ?_; (with_reducible refine (decimal_Gcd.calls (hT := HT.out.below bq) k t456 t457 t464 _ A14.out).mono ?_); rintro e w17 ⟨rfl, hb⟩; refine ⟨_, rfl, ?_⟩; replace HB := Aside0.mk (below_step bq hb); (try clear hb); (try clear hb2); (try clear hk); (try clear hi)))
      go_ret
      exact ⟨eq_, bq⟩
  · replace c6 := Bool.eq_false_iff.mpr c6
    subst c6
    have H1 : ((decimal_Gcd.f k t456 t457).bind fun t465 => (some t465)) = some r := by rw [if_neg (show ¬ (false = true) by decide)] at H; exact H
    clear H
    have H := H1
    clear H1
    replace H := Option.bind_eq_some_iff.mp H
    obtain ⟨t465, A180, H⟩ := H
    replace H : (some t465) = some r := H
    have A18 := Aside0.mk A180
    clear A180
    obtain rfl := Option.some.inj H
    go_enter Tryd.func12, Tryd.ntmps12
    go_wp2_with (first | ((with_reducible refine gate_callee (f := 14) rfl ?_); refine goesL_ (some 12) rfl rfl Tryd.func14 (by kernel_rfl) rfl #[.string a0] rfl mq ?_; (with_reducible refine (whole_Abs.calls a0 t456 _ A3.out).mono ?_); rintro e w' ⟨rfl, ⟨nd, rfl⟩⟩; refine ⟨_, rfl, ?_⟩) | ((with_reducible refine gate_callee (f := 14) rfl ?_); refine goesL_ (some 14) rfl rfl Tryd.func14 (by kernel_rfl) rfl #[.string a1] rfl mq ?_; (with_reducible refine (whole_Abs.calls a1 t457 _ A4.out).mono ?_); rintro e w' ⟨rfl, ⟨nd, rfl⟩⟩; refine ⟨_, rfl, ?_⟩) | ((with_reducible refine gate_callee (f := 23) rfl ?_); refine goesL_ (some 17) rfl rfl Tryd.func23 (by kernel_rfl) rfl #[.string t456, .int .i64 18] rfl mq ?_; (with_reducible refine (whole_little.calls t456 18 t458 false _ A5.out).mono ?_); rintro e w19 ⟨rfl, hb⟩; refine ⟨_, rfl, ?_⟩; replace HB := Aside0.mk (below_step bq hb); (try clear hb); (try clear hb2); (try clear hk); (try clear hi)) | ((with_reducible refine gate_callee (f := 32) rfl ?_); refine goesL_ (some 33) rfl rfl Tryd.func32 (by kernel_rfl) rfl #[.string t456, .string t457] rfl mq ?_; (with_reducible refine (decimal_Gcd.calls (hT := HT.out.below bq) k t456 t457 t465 _ A18.out).mono ?_); rintro e w20 ⟨rfl, hb⟩; refine ⟨_, rfl, ?_⟩; replace HB := Aside0.mk (below_step bq hb); (try clear hb); (try clear hb2); (try clear hk); (try clear hi)))
    go_ret
    exact ⟨eq_, bq⟩
end Go.Proofs.YtioimihminelaaaDoor.P
