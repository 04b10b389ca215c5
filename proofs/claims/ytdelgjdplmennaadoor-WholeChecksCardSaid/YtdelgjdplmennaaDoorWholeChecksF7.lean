/- Functions of the program, as functions of Lean, and the walks that show that the code answers as they do: written by a program. Conditions: those of each theorem. -/
import Derived.Test.YtdelgjdplmennaaDoorWholeChecksF6
namespace Go.Proofs.YtdelgjdplmennaaDoor.P
open Go.RowKit Go.Proofs.YtdelgjdplmennaaDoorW.PrintWords Go.Proofs.YtdelgjdplmennaaDoorW.PrintLast Go.Proofs.YtdelgjdplmennaaDoorW.PrintMore
attribute [local go_sem] gtr_text max2_int min2_int max_two min_two max_three min_three max_four min_four
set_option linter.unusedVariables false
set_option linter.unusedSimpArgs false
mutual
def schismalaw02_WholeChecks.j0 : Nat → ByteArray → Int → Bool → Option (Bool)
  | 0, _, _, _ => none
  | k + 1, x0, x1, x14 => if x14 = true then ((schismalaw02_known.f k).bind fun t448 => (some t448)) else ((schismaref02_Right.f k x0).bind fun t449 => (if t449 = true then (schismalaw02_WholeChecks.j1 k x0 x1 0) else (schismalaw02_WholeChecks.j1 k x0 x1 2)))
def schismalaw02_WholeChecks.j1 : Nat → ByteArray → Int → Int → Option (Bool)
  | 0, _, _, _ => none
  | k + 1, x0, x1, x5 => (whole_Of.f x1).bind fun t450 => ((whole_Small.f t450).bind fun bt451 => ((whole_Check.f k x0).bind fun t453 => (if t453 = x5 then ((whole_Of.f x1).bind fun t454 => ((schismaref02_Of.f x1).bind fun t455 => (if t454.toList = t455.toList then (if bt451.2 = true then (some (bt451.1 == x1)) else (some false)) else (some false)))) else (some false))))
end
def schismalaw02_WholeChecks.f (k : Nat) (a0 : ByteArray) (a1 : Int) : Option (Bool) := (schismalaw02_known.f k).bind fun t447 => (if t447 = true then (schismalaw02_WholeChecks.j0 k a0 a1 (decide ((a0.size : Int) > 420))) else (schismalaw02_WholeChecks.j0 k a0 a1 true))
theorem schismalaw02_WholeChecks.mono_l : ∀ k, (∀ y0 y1 y2, LeO (schismalaw02_WholeChecks.j0 k y0 y1 y2) (schismalaw02_WholeChecks.j0 (k + 1) y0 y1 y2)) ∧ (∀ y0 y1 y2, LeO (schismalaw02_WholeChecks.j1 k y0 y1 y2) (schismalaw02_WholeChecks.j1 (k + 1) y0 y1 y2))
  | 0 => ⟨fun _ _ _ r h => by simp [schismalaw02_WholeChecks.j0] at h, fun _ _ _ r h => by simp [schismalaw02_WholeChecks.j1] at h⟩
  | k + 1 => by
    obtain ⟨ih0, ih1⟩ := schismalaw02_WholeChecks.mono_l k
    refine ⟨?_, ?_⟩
    · intro y0 y1 y2
      unfold schismalaw02_WholeChecks.j0
      repeat' first
      | (with_reducible exact ih0 _ _ _)
      | (with_reducible exact ih1 _ _ _)
      | (with_reducible exact schismalaw02_known.mono _)
      | (with_reducible exact schismaref02_Right.mono _ _)
      | (with_reducible exact whole_Check.mono _ _)
      | (with_reducible exact LeO.refl _)
      | (with_reducible exact LeO.none _)
      | (with_reducible refine LeO.ite ?_ ?_)
      | (with_reducible refine LeO.bind ?_ (fun _ => ?_))
      | exact ih0 _ _ _
      | exact ih1 _ _ _
      | exact schismalaw02_known.mono _
      | exact schismaref02_Right.mono _ _
      | exact whole_Check.mono _ _
      | exact LeO.none _
      | refine LeO.ite ?_ ?_
      | refine LeO.bind ?_ (fun _ => ?_)
    · intro y0 y1 y2
      unfold schismalaw02_WholeChecks.j1
      repeat' first
      | (with_reducible exact ih0 _ _ _)
      | (with_reducible exact ih1 _ _ _)
      | (with_reducible exact schismalaw02_known.mono _)
      | (with_reducible exact schismaref02_Right.mono _ _)
      | (with_reducible exact whole_Check.mono _ _)
      | (with_reducible exact LeO.refl _)
      | (with_reducible exact LeO.none _)
      | (with_reducible refine LeO.ite ?_ ?_)
      | (with_reducible refine LeO.bind ?_ (fun _ => ?_))
      | exact ih0 _ _ _
      | exact ih1 _ _ _
      | exact schismalaw02_known.mono _
      | exact schismaref02_Right.mono _ _
      | exact whole_Check.mono _ _
      | exact LeO.none _
      | refine LeO.ite ?_ ?_
      | refine LeO.bind ?_ (fun _ => ?_)
theorem schismalaw02_WholeChecks.mono : ∀ a0 a1 k, LeO (schismalaw02_WholeChecks.f k a0 a1) (schismalaw02_WholeChecks.f (k + 1) a0 a1) := by
  intro a0 a1 k
  obtain ⟨ih0, ih1⟩ := schismalaw02_WholeChecks.mono_l k
  unfold schismalaw02_WholeChecks.f
  repeat' first
      | (with_reducible exact ih0 _ _ _)
      | (with_reducible exact ih1 _ _ _)
      | (with_reducible exact schismalaw02_known.mono _)
      | (with_reducible exact schismaref02_Right.mono _ _)
      | (with_reducible exact whole_Check.mono _ _)
      | (with_reducible exact LeO.refl _)
      | (with_reducible exact LeO.none _)
      | (with_reducible refine LeO.ite ?_ ?_)
      | (with_reducible refine LeO.bind ?_ (fun _ => ?_))
      | exact ih0 _ _ _
      | exact ih1 _ _ _
      | exact schismalaw02_known.mono _
      | exact schismaref02_Right.mono _ _
      | exact whole_Check.mono _ _
      | exact LeO.none _
      | refine LeO.ite ?_ ?_
      | refine LeO.bind ?_ (fun _ => ?_)
set_option maxHeartbeats 8000000 in
set_option maxRecDepth 100000 in
theorem schismalaw02_WholeChecks.calls (k : Nat) (a0 : ByteArray) (a1 : Int) (r : Bool) (w : World) (hT : Tab w) (h : schismalaw02_WholeChecks.f k a0 a1 = some r) :
    Calls Tryd.prog 3 #[.string a0, .int .i64 a1] w fun e w' => e = .returned (.bool r) ∧ Below w.heap.size w w' := by
  have HT := Aside0.mk hT
  clear hT
  have HB := Aside0.mk (Below.refl w.heap.size w)
  have H : ((schismalaw02_known.f k).bind fun t447 => (if t447 = true then (schismalaw02_WholeChecks.j0 k a0 a1 (decide ((a0.size : Int) > 420))) else (schismalaw02_WholeChecks.j0 k a0 a1 true))) = some r := h
  clear h
  have HC3 := Aside0.mk H
  clear H
  go_enter Tryd.func3, Tryd.ntmps3
  go_upto_region 1 with (fail)
  go_cut [14] (fun v14 wc => ∃ (kq : Nat) (x14_2 : Bool), v14 = .bool x14_2 ∧ Aside0 (schismalaw02_WholeChecks.j0 kq a0 a1 x14_2 = some r) ∧ Aside0 (kq ≤ k) ∧ Aside0 (Below w.heap.size w wc))
  case first =>
    have H := HC3.out
    clear HC3
    replace H := Option.bind_eq_some_iff.mp H
    obtain ⟨t447, A40, H⟩ := H
    replace H : (if t447 = true then (schismalaw02_WholeChecks.j0 k a0 a1 (decide ((a0.size : Int) > 420))) else (schismalaw02_WholeChecks.j0 k a0 a1 true)) = some r := H
    have A4 := Aside0.mk A40
    clear A40
    by_cases c5 : t447 = true
    · subst c5
      have H1 : (schismalaw02_WholeChecks.j0 k a0 a1 (decide ((a0.size : Int) > 420))) = some r := by rw [if_pos rfl] at H; exact H
      clear H
      have H := H1
      clear H1
      have H' := Aside0.mk H
      clear H
      go_wp2_with (first | ((with_reducible refine gate_callee (f := 7) rfl ?_); refine goesL_ (some 8) rfl rfl Tryd.func7 (by kernel_rfl) rfl #[] rfl mq ?_; (with_reducible refine (schismalaw02_known.calls (hT := HT.out.below bq) k  true _ A4.out).mono ?_); rintro e w6 ⟨rfl, hb⟩; refine ⟨_, rfl, ?_⟩; replace HB := Aside0.mk (below_step bq hb); (try clear hb); (try clear hb2); (try clear hk); (try clear hi)))
      go_meet
      case rel => exact ⟨_, (decide ((a0.size : Int) > 420)), (by first | rfl | (simp; done) | (simp [*]; done)), H', ⟨by first | omega | exact Nat.le_refl _⟩, ⟨bq⟩⟩
    · replace c5 := Bool.eq_false_iff.mpr c5
      subst c5
      have H1 : (schismalaw02_WholeChecks.j0 k a0 a1 true) = some r := by rw [if_neg (show ¬ (false = true) by decide)] at H; exact H
      clear H
      have H := H1
      clear H1
      have H' := Aside0.mk H
      clear H
      go_wp2_with (first | ((with_reducible refine gate_callee (f := 7) rfl ?_); refine goesL_ (some 8) rfl rfl Tryd.func7 (by kernel_rfl) rfl #[] rfl mq ?_; (with_reducible refine (schismalaw02_known.calls (hT := HT.out.below bq) k  false _ A4.out).mono ?_); rintro e w7 ⟨rfl, hb⟩; refine ⟨_, rfl, ?_⟩; replace HB := Aside0.mk (below_step bq hb); (try clear hb); (try clear hb2); (try clear hk); (try clear hi)))
      go_meet
      case rel => exact ⟨_, (true), (by first | rfl | (simp; done) | (simp [*]; done)), H', ⟨by first | omega | exact Nat.le_refl _⟩, ⟨bq⟩⟩
  case rest =>
    clear HC3
    try clear p2
    try clear c3
    try clear c5
    try clear c7
    obtain ⟨kq, x14_2, rfl, HA, HJ2, HB⟩ := hcut
    cases kq with
    | zero => exact absurd HA.out (by simp [schismalaw02_WholeChecks.j0])
    | succ kj2 =>
      have H := HA.out
      clear HA
      simp only [schismalaw02_WholeChecks.j0] at H
      by_cases c8 : x14_2 = true
      · subst c8
        have H1 : ((schismalaw02_known.f kj2).bind fun t448 => (some t448)) = some r := by rw [if_pos rfl] at H; exact H
        clear H
        have H := H1
        clear H1
        replace H := Option.bind_eq_some_iff.mp H
        obtain ⟨t448, A90, H⟩ := H
        replace H : (some t448) = some r := H
        have A9 := Aside0.mk A90
        clear A90
        obtain rfl := Option.some.inj H
        go_wp2_with (first | ((with_reducible refine gate_callee (f := 7) rfl ?_); refine goesL_ (some 15) rfl rfl Tryd.func7 (by kernel_rfl) rfl #[] rfl mq ?_; (with_reducible refine (schismalaw02_known.calls (hT := HT.out.below bq) kj2  t448 _ A9.out).mono ?_); rintro e w10 ⟨rfl, hb⟩; refine ⟨_, rfl, ?_⟩; replace HB := Aside0.mk (below_step bq hb); (try clear hb); (try clear hb2); (try clear hk); (try clear hi)))
        go_ret
        exact ⟨eq_, bq⟩
      · replace c8 := Bool.eq_false_iff.mpr c8
        subst c8
        have H1 : ((schismaref02_Right.f kj2 a0).bind fun t449 => (if t449 = true then (schismalaw02_WholeChecks.j1 kj2 a0 a1 0) else (schismalaw02_WholeChecks.j1 kj2 a0 a1 2))) = some r := by rw [if_neg (show ¬ (false = true) by decide)] at H; exact H
        clear H
        have H := H1
        clear H1
        replace H := Option.bind_eq_some_iff.mp H
        obtain ⟨t449, A110, H⟩ := H
        replace H : (if t449 = true then (schismalaw02_WholeChecks.j1 kj2 a0 a1 0) else (schismalaw02_WholeChecks.j1 kj2 a0 a1 2)) = some r := H
        have A11 := Aside0.mk A110
        clear A110
        have HC12 := Aside0.mk H
        clear H
        go_upto_if 18 with (first | ((with_reducible refine gate_callee (f := 8) rfl ?_); refine goesL_ (some 17) rfl rfl Tryd.func8 (by kernel_rfl) rfl #[.string a0] rfl mq ?_; (with_reducible refine (schismaref02_Right.calls kj2 a0 t449 _ A11.out).mono ?_); rintro e w' ⟨rfl, ⟨nd, rfl⟩⟩; refine ⟨_, rfl, ?_⟩))
        (try simp only [Act.put, List.setIfInBounds_toArray, List.set_cons_zero, List.set_cons_succ])
        go_cut [5] (fun v5 wc => ∃ (kq : Nat) (x5_11 : Int), v5 = .int .i64 x5_11 ∧ Aside0 (schismalaw02_WholeChecks.j1 kq a0 a1 x5_11 = some r) ∧ Aside0 (kq ≤ kj2) ∧ Aside0 (Below w.heap.size w wc))
        case first =>
          have H := HC12.out
          clear HC12
          by_cases c13 : t449 = true
          · subst c13
            have H1 : (schismalaw02_WholeChecks.j1 kj2 a0 a1 0) = some r := by rw [if_pos rfl] at H; exact H
            clear H
            have H := H1
            clear H1
            have H' := Aside0.mk H
            clear H
            go_wp2
            go_meet
            case rel => exact ⟨_, (0), (by first | rfl | (simp; done) | (simp [*]; done)), H', ⟨by have := HJ2.out; first | omega | exact Nat.le_refl _⟩, ⟨bq⟩⟩
          · replace c13 := Bool.eq_false_iff.mpr c13
            subst c13
            have H1 : (schismalaw02_WholeChecks.j1 kj2 a0 a1 2) = some r := by rw [if_neg (show ¬ (false = true) by decide)] at H; exact H
            clear H
            have H := H1
            clear H1
            have H' := Aside0.mk H
            clear H
            go_wp2
            go_meet
            case rel => exact ⟨_, (2), (by first | rfl | (simp; done) | (simp [*]; done)), H', ⟨by have := HJ2.out; first | omega | exact Nat.le_refl _⟩, ⟨bq⟩⟩
        case rest =>
          clear HC12
          try clear c1
          try clear p2
          try clear c3
          try clear c5
          try clear c7
          try clear c8
          try clear c13
          try clear p2
          obtain ⟨kq, x5_11, rfl, HA, HJ11, HB⟩ := hcut
          cases kq with
          | zero => exact absurd HA.out (by simp [schismalaw02_WholeChecks.j1])
          | succ kj11 =>
            have H := HA.out
            clear HA
            simp only [schismalaw02_WholeChecks.j1] at H
            replace H := Option.bind_eq_some_iff.mp H
            obtain ⟨t450, A140, H⟩ := H
            replace H : ((whole_Small.f t450).bind fun bt451 => ((whole_Check.f kj11 a0).bind fun t453 => (if t453 = x5_11 then ((whole_Of.f a1).bind fun t454 => ((schismaref02_Of.f a1).bind fun t455 => (if t454.toList = t455.toList then (if bt451.2 = true then (some (bt451.1 == a1)) else (some false)) else (some false)))) else (some false)))) = some r := H
            have A14 := Aside0.mk A140
            clear A140
            replace H := Option.bind_eq_some_iff.mp H
            obtain ⟨⟨t451, t452⟩, A150, H⟩ := H
            replace H : ((whole_Check.f kj11 a0).bind fun t453 => (if t453 = x5_11 then ((whole_Of.f a1).bind fun t454 => ((schismaref02_Of.f a1).bind fun t455 => (if t454.toList = t455.toList then (if t452 = true then (some (t451 == a1)) else (some false)) else (some false)))) else (some false))) = some r := H
            have A15 := Aside0.mk A150
            clear A150
            replace H := Option.bind_eq_some_iff.mp H
            obtain ⟨t453, A160, H⟩ := H
            replace H : (if t453 = x5_11 then ((whole_Of.f a1).bind fun t454 => ((schismaref02_Of.f a1).bind fun t455 => (if t454.toList = t455.toList then (if t452 = true then (some (t451 == a1)) else (some false)) else (some false)))) else (some false)) = some r := H
            have A16 := Aside0.mk A160
            clear A160
            by_cases c17 : t453 = x5_11
            · rw [if_pos c17] at H
              have c17b0 : (t453 == x5_11) = true := beq_iff_eq.mpr c17
              have c17b1 : (t453 != x5_11) = false := bne_eq_false_iff_eq.mpr c17
              clear c17
              replace H := Option.bind_eq_some_iff.mp H
              obtain ⟨t454, A180, H⟩ := H
              replace H : ((schismaref02_Of.f a1).bind fun t455 => (if t454.toList = t455.toList then (if t452 = true then (some (t451 == a1)) else (some false)) else (some false))) = some r := H
              have A18 := Aside0.mk A180
              clear A180
              replace H := Option.bind_eq_some_iff.mp H
              obtain ⟨t455, A190, H⟩ := H
              replace H : (if t454.toList = t455.toList then (if t452 = true then (some (t451 == a1)) else (some false)) else (some false)) = some r := H
              have A19 := Aside0.mk A190
              clear A190
              by_cases c20 : t454.toList = t455.toList
              · rw [if_pos c20] at H
                have c20b0 : (t454.toList == t455.toList) = true := beq_iff_eq.mpr c20
                have c20b1 : (t454.toList != t455.toList) = false := bne_eq_false_iff_eq.mpr c20
                clear c20
                by_cases c21 : t452 = true
                · subst c21
                  have H1 : (some (t451 == a1)) = some r := by rw [if_pos rfl] at H; exact H
                  clear H
                  have H := H1
                  clear H1
                  obtain rfl := Option.some.inj H
                  go_wp2_with (first | ((with_reducible refine gate_callee (f := 10) rfl ?_); refine goesL_ (some 21) rfl rfl Tryd.func10 (by kernel_rfl) rfl #[.int .i64 a1] rfl mq ?_; (with_reducible refine (whole_Of.calls (hT := HT.out.below bq) a1 t450 _ A14.out).mono ?_); rintro e w22 ⟨rfl, hb⟩; refine ⟨_, rfl, ?_⟩; replace HB := Aside0.mk (below_step bq hb); (try clear hb); (try clear hb2); (try clear hk); (try clear hi)) | ((with_reducible refine gate_callee (f := 9) rfl ?_); refine goesL_ (some 22) rfl rfl Tryd.func9 (by kernel_rfl) rfl #[.string t450] rfl mq ?_; (with_reducible refine (whole_Small.calls (hT := HT.out.below bq) t450 t451 true _ A15.out).mono ?_); rintro e w23 ⟨rfl, hb⟩; refine ⟨_, rfl, ?_⟩; replace HB := Aside0.mk (below_step bq hb); (try clear hb); (try clear hb2); (try clear hk); (try clear hi)) | ((with_reducible refine gate_callee (f := 11) rfl ?_); refine goesL_ (some 26) rfl rfl Tryd.func11 (by kernel_rfl) rfl #[.string a0] rfl mq ?_; (with_reducible refine (whole_Check.calls kj11 a0 t453 _ A16.out).mono ?_); rintro e w24 ⟨rfl, hb⟩; refine ⟨_, rfl, ?_⟩; replace HB := Aside0.mk (below_step bq hb); (try clear hb); (try clear hb2); (try clear hk); (try clear hi)) | (go_at_call 10; (with_reducible refine (whole_Of.calls (hT := HT.out.below bq) a1 t454 _ A18.out).mono ?_); rintro e w25 ⟨rfl, hb⟩; replace HB := Aside0.mk (below_step bq hb); (try clear hb); (try clear hb2); (try clear hk); (try clear hi)) | (go_at_call 12; (with_reducible refine (schismaref02_Of.calls (hT := HT.out.below bq) a1 t455 _ A19.out).mono ?_); rintro e w26 ⟨rfl, hb⟩; replace HB := Aside0.mk (below_step bq hb); (try clear hb); (try clear hb2); (try clear hk); (try clear hi)))
                  go_ret
                  exact ⟨eq_, bq⟩
                · replace c21 := Bool.eq_false_iff.mpr c21
                  subst c21
                  have H1 : (some false) = some r := by rw [if_neg (show ¬ (false = true) by decide)] at H; exact H
                  clear H
                  have H := H1
                  clear H1
                  obtain rfl := Option.some.inj H
                  go_wp2_with (first | ((with_reducible refine gate_callee (f := 10) rfl ?_); refine goesL_ (some 21) rfl rfl Tryd.func10 (by kernel_rfl) rfl #[.int .i64 a1] rfl mq ?_; (with_reducible refine (whole_Of.calls (hT := HT.out.below bq) a1 t450 _ A14.out).mono ?_); rintro e w27 ⟨rfl, hb⟩; refine ⟨_, rfl, ?_⟩; replace HB := Aside0.mk (below_step bq hb); (try clear hb); (try clear hb2); (try clear hk); (try clear hi)) | ((with_reducible refine gate_callee (f := 9) rfl ?_); refine goesL_ (some 22) rfl rfl Tryd.func9 (by kernel_rfl) rfl #[.string t450] rfl mq ?_; (with_reducible refine (whole_Small.calls (hT := HT.out.below bq) t450 t451 false _ A15.out).mono ?_); rintro e w28 ⟨rfl, hb⟩; refine ⟨_, rfl, ?_⟩; replace HB := Aside0.mk (below_step bq hb); (try clear hb); (try clear hb2); (try clear hk); (try clear hi)) | ((with_reducible refine gate_callee (f := 11) rfl ?_); refine goesL_ (some 26) rfl rfl Tryd.func11 (by kernel_rfl) rfl #[.string a0] rfl mq ?_; (with_reducible refine (whole_Check.calls kj11 a0 t453 _ A16.out).mono ?_); rintro e w29 ⟨rfl, hb⟩; refine ⟨_, rfl, ?_⟩; replace HB := Aside0.mk (below_step bq hb); (try clear hb); (try clear hb2); (try clear hk); (try clear hi)) | (go_at_call 10; (with_reducible refine (whole_Of.calls (hT := HT.out.below bq) a1 t454 _ A18.out).mono ?_); rintro e w30 ⟨rfl, hb⟩; replace HB := Aside0.mk (below_step bq hb); (try clear hb); (try clear hb2); (try clear hk); (try clear hi)) | (go_at_call 12; (with_reducible refine (schismaref02_Of.calls (hT := HT.out.below bq) a1 t455 _ A19.out).mono ?_); rintro e w31 ⟨rfl, hb⟩; replace HB := Aside0.mk (below_step bq hb); (try clear hb); (try clear hb2); (try clear hk); (try clear hi)))
                  go_ret
                  exact ⟨eq_, bq⟩
              · rw [if_neg c20] at H
                have c20b0 : (t454.toList == t455.toList) = false := beq_eq_false_iff_ne.mpr c20
                have c20b1 : (t454.toList != t455.toList) = true := bne_iff_ne.mpr c20
                obtain rfl := Option.some.inj H
                go_wp2_with (first | ((with_reducible refine gate_callee (f := 10) rfl ?_); refine goesL_ (some 21) rfl rfl Tryd.func10 (by kernel_rfl) rfl #[.int .i64 a1] rfl mq ?_; (with_reducible refine (whole_Of.calls (hT := HT.out.below bq) a1 t450 _ A14.out).mono ?_); rintro e w32 ⟨rfl, hb⟩; refine ⟨_, rfl, ?_⟩; replace HB := Aside0.mk (below_step bq hb); (try clear hb); (try clear hb2); (try clear hk); (try clear hi)) | ((with_reducible refine gate_callee (f := 9) rfl ?_); refine goesL_ (some 22) rfl rfl Tryd.func9 (by kernel_rfl) rfl #[.string t450] rfl mq ?_; (with_reducible refine (whole_Small.calls (hT := HT.out.below bq) t450 t451 t452 _ A15.out).mono ?_); rintro e w33 ⟨rfl, hb⟩; refine ⟨_, rfl, ?_⟩; replace HB := Aside0.mk (below_step bq hb); (try clear hb); (try clear hb2); (try clear hk); (try clear hi)) | ((with_reducible refine gate_callee (f := 11) rfl ?_); refine goesL_ (some 26) rfl rfl Tryd.func11 (by kernel_rfl) rfl #[.string a0] rfl mq ?_; (with_reducible refine (whole_Check.calls kj11 a0 t453 _ A16.out).mono ?_); rintro e w34 ⟨rfl, hb⟩; refine ⟨_, rfl, ?_⟩; replace HB := Aside0.mk (below_step bq hb); (try clear hb); (try clear hb2); (try clear hk); (try clear hi)) | (go_at_call 10; (with_reducible refine (whole_Of.calls (hT := HT.out.below bq) a1 t454 _ A18.out).mono ?_); rintro e w35 ⟨rfl, hb⟩; replace HB := Aside0.mk (below_step bq hb); (try clear hb); (try clear hb2); (try clear hk); (try clear hi)) | (go_at_call 12; (with_reducible refine (schismaref02_Of.calls (hT := HT.out.below bq) a1 t455 _ A19.out).mono ?_); rintro e w36 ⟨rfl, hb⟩; replace HB := Aside0.mk (below_step bq hb); (try clear hb); (try clear hb2); (try clear hk); (try clear hi)))
                go_ret
                exact ⟨eq_, bq⟩
            · rw [if_neg c17] at H
              have c17b0 : (t453 == x5_11) = false := beq_eq_false_iff_ne.mpr c17
              have c17b1 : (t453 != x5_11) = true := bne_iff_ne.mpr c17
              obtain rfl := Option.some.inj H
              go_wp2_with (first | ((with_reducible refine gate_callee (f := 10) rfl ?_); refine goesL_ (some 21) rfl rfl Tryd.func10 (by kernel_rfl) rfl #[.int .i64 a1] rfl mq ?_; (with_reducible refine (whole_Of.calls (hT := HT.out.below bq) a1 t450 _ A14.out).mono ?_); rintro e w37 ⟨rfl, hb⟩; refine ⟨_, rfl, ?_⟩; replace HB := Aside0.mk (below_step bq hb); (try clear hb); (try clear hb2); (try clear hk); (try clear hi)) | ((with_reducible refine gate_callee (f := 9) rfl ?_); refine goesL_ (some 22) rfl rfl Tryd.func9 (by kernel_rfl) rfl #[.string t450] rfl mq ?_; (with_reducible refine (whole_Small.calls (hT := HT.out.below bq) t450 t451 t452 _ A15.out).mono ?_); rintro e w38 ⟨rfl, hb⟩; refine ⟨_, rfl, ?_⟩; replace HB := Aside0.mk (below_step bq hb); (try clear hb); (try clear hb2); (try clear hk); (try clear hi)) | ((with_reducible refine gate_callee (f := 11) rfl ?_); refine goesL_ (some 26) rfl rfl Tryd.func11 (by kernel_rfl) rfl #[.string a0] rfl mq ?_; (with_reducible refine (whole_Check.calls kj11 a0 t453 _ A16.out).mono ?_); rintro e w39 ⟨rfl, hb⟩; refine ⟨_, rfl, ?_⟩; replace HB := Aside0.mk (below_step bq hb); (try clear hb); (try clear hb2); (try clear hk); (try clear hi)))
              go_ret
              exact ⟨eq_, bq⟩
def schismalaw02_WholeChecks.Pure : Prop := ∀ (a0 : ByteArray) (a1 : Int), a0.size ≤ 140737488351232 → (Lit.int .i64 a1).wf = true → ∃ k, schismalaw02_WholeChecks.f k a0 a1 = some true
theorem schismalaw02_WholeChecks.walk (P : schismalaw02_WholeChecks.Pure) (a0 : ByteArray) (a1 : Int) (w : World) (w0 : a0.size ≤ 140737488351232) (w1 : (Lit.int .i64 a1).wf = true) (hT : Tab w) :
    Calls Tryd.prog 3 #[.string a0, .int .i64 a1] w fun e w' => e = .returned (.bool true) ∧ Below w.heap.size w w' := by
  obtain ⟨k, h⟩ := P a0 a1 w0 w1
  refine (schismalaw02_WholeChecks.calls (hT := hT) k a0 a1 true w h).mono ?_
  rintro e w' ⟨rfl, hd⟩
  exact ⟨rfl, hd⟩
end Go.Proofs.YtdelgjdplmennaaDoor.P
