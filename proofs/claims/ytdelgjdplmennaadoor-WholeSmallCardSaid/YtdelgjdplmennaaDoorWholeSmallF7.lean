/- Functions of the program, as functions of Lean, and the walks that show that the code answers as they do: written by a program. Conditions: those of each theorem. -/
import Derived.Test.YtdelgjdplmennaaDoorWholeSmallF6
namespace Go.Proofs.YtdelgjdplmennaaDoor.P
open Go.RowKit Go.Proofs.YtdelgjdplmennaaDoorW.PrintWords Go.Proofs.YtdelgjdplmennaaDoorW.PrintLast Go.Proofs.YtdelgjdplmennaaDoorW.PrintMore
attribute [local go_sem] gtr_text max2_int min2_int max_two min_two max_three min_three max_four min_four
set_option linter.unusedVariables false
set_option linter.unusedSimpArgs false
mutual
def schismaref02_Small.j0 : Nat → ByteArray → Int → Bool → Option (Int × Bool)
  | 0, _, _, _ => none
  | k + 1, x4, x5, x17 => if x17 = true then (schismaref02_Small.j1 k x4 1) else (schismaref02_Small.j1 k x4 x5)
def schismaref02_Small.j1 : Nat → ByteArray → Int → Option (Int × Bool)
  | 0, _, _ => none
  | k + 1, x4, x5 => if x5 = (x4.size : Int) then (some (0, false)) else (schismaref02_Small.l0 k x4 x5 (x5 == 1) 0)
def schismaref02_Small.l0 : Nat → ByteArray → Int → Bool → Int → Option (Int × Bool)
  | 0, _, _, _, _ => none
  | k + 1, x4, x5, x6, x7 => if x5 < (x4.size : Int) then (if 0 ≤ x5 then (if (wrap64 ((wrap64 (bt x4 x5)) - 48)) < 0 then (some (0, false)) else (if (wrap64 ((wrap64 (bt x4 x5)) - 48)) > 9 then (some (0, false)) else (if x7 < (wrap64 (Int.tdiv (wrap64 ((-9223372036854775808) + (wrap64 ((wrap64 (bt x4 x5)) - 48)))) 10)) then (some (0, false)) else (schismaref02_Small.l0 k x4 (wrap64 (x5 + 1)) x6 (wrap64 ((wrap64 (x7 * 10)) - (wrap64 ((wrap64 (bt x4 x5)) - 48)))))))) else (none)) else (if x6 = true then (some (x7, true)) else (if x7 = (-9223372036854775808) then (some (0, false)) else (some (wrap64 (-x7), true))))
end
def schismaref02_Small.f (k : Nat) (a0 : ByteArray) : Option (Int × Bool) := if (a0.size : Int) > 0 then (if 0 < (a0.size : Int) then (schismaref02_Small.j0 k a0 0 ((bt a0 0) == 45)) else (none)) else (schismaref02_Small.j0 k a0 0 false)
theorem schismaref02_Small.mono_l : ∀ k, (∀ y0 y1 y2, LeO (schismaref02_Small.j0 k y0 y1 y2) (schismaref02_Small.j0 (k + 1) y0 y1 y2)) ∧ (∀ y0 y1, LeO (schismaref02_Small.j1 k y0 y1) (schismaref02_Small.j1 (k + 1) y0 y1)) ∧ (∀ y0 y1 y2 y3, LeO (schismaref02_Small.l0 k y0 y1 y2 y3) (schismaref02_Small.l0 (k + 1) y0 y1 y2 y3))
  | 0 => ⟨fun _ _ _ r h => by simp [schismaref02_Small.j0] at h, fun _ _ r h => by simp [schismaref02_Small.j1] at h, fun _ _ _ _ r h => by simp [schismaref02_Small.l0] at h⟩
  | k + 1 => by
    obtain ⟨ih0, ih1, ih2⟩ := schismaref02_Small.mono_l k
    refine ⟨?_, ?_, ?_⟩
    · intro y0 y1 y2
      unfold schismaref02_Small.j0
      repeat' first
      | (with_reducible exact ih0 _ _ _)
      | (with_reducible exact ih1 _ _)
      | (with_reducible exact ih2 _ _ _ _)
      | (with_reducible exact LeO.refl _)
      | (with_reducible exact LeO.none _)
      | (with_reducible refine LeO.ite ?_ ?_)
      | (with_reducible refine LeO.bind ?_ (fun _ => ?_))
      | exact ih0 _ _ _
      | exact ih1 _ _
      | exact ih2 _ _ _ _
      | exact LeO.none _
      | refine LeO.ite ?_ ?_
      | refine LeO.bind ?_ (fun _ => ?_)
    · intro y0 y1
      unfold schismaref02_Small.j1
      repeat' first
      | (with_reducible exact ih0 _ _ _)
      | (with_reducible exact ih1 _ _)
      | (with_reducible exact ih2 _ _ _ _)
      | (with_reducible exact LeO.refl _)
      | (with_reducible exact LeO.none _)
      | (with_reducible refine LeO.ite ?_ ?_)
      | (with_reducible refine LeO.bind ?_ (fun _ => ?_))
      | exact ih0 _ _ _
      | exact ih1 _ _
      | exact ih2 _ _ _ _
      | exact LeO.none _
      | refine LeO.ite ?_ ?_
      | refine LeO.bind ?_ (fun _ => ?_)
    · intro y0 y1 y2 y3
      unfold schismaref02_Small.l0
      repeat' first
      | (with_reducible exact ih0 _ _ _)
      | (with_reducible exact ih1 _ _)
      | (with_reducible exact ih2 _ _ _ _)
      | (with_reducible exact LeO.refl _)
      | (with_reducible exact LeO.none _)
      | (with_reducible refine LeO.ite ?_ ?_)
      | (with_reducible refine LeO.bind ?_ (fun _ => ?_))
      | exact ih0 _ _ _
      | exact ih1 _ _
      | exact ih2 _ _ _ _
      | exact LeO.none _
      | refine LeO.ite ?_ ?_
      | refine LeO.bind ?_ (fun _ => ?_)
theorem schismaref02_Small.mono : ∀ a0 k, LeO (schismaref02_Small.f k a0) (schismaref02_Small.f (k + 1) a0) := by
  intro a0 k
  obtain ⟨ih0, ih1, ih2⟩ := schismaref02_Small.mono_l k
  unfold schismaref02_Small.f
  repeat' first
      | (with_reducible exact ih0 _ _ _)
      | (with_reducible exact ih1 _ _)
      | (with_reducible exact ih2 _ _ _ _)
      | (with_reducible exact LeO.refl _)
      | (with_reducible exact LeO.none _)
      | (with_reducible refine LeO.ite ?_ ?_)
      | (with_reducible refine LeO.bind ?_ (fun _ => ?_))
      | exact ih0 _ _ _
      | exact ih1 _ _
      | exact ih2 _ _ _ _
      | exact LeO.none _
      | refine LeO.ite ?_ ?_
      | refine LeO.bind ?_ (fun _ => ?_)
set_option maxHeartbeats 8000000 in
set_option maxRecDepth 100000 in
theorem schismaref02_Small.calls (k : Nat) (a0 : ByteArray) (r1 : Int) (r2 : Bool) (w : World) (h : schismaref02_Small.f k a0 = some (r1, r2)) :
    Calls Tryd.prog 16 #[.string a0] w fun e w' => e = .returned (.tuple #[.int .i64 r1, .bool r2]) ∧ Drawn0 w w' := by
  have H : (if (a0.size : Int) > 0 then (if 0 < (a0.size : Int) then (schismaref02_Small.j0 k a0 0 ((bt a0 0) == 45)) else (none)) else (schismaref02_Small.j0 k a0 0 false)) = some (r1, r2) := h
  clear h
  have HC2 := Aside0.mk H
  clear H
  go_enter Tryd.func16, Tryd.ntmps16
  go_upto_region 3 with (fail)
  go_cut [17] (fun v17 wc => ∃ (kq : Nat) (x17_1 : Bool), v17 = .bool x17_1 ∧ Aside0 (schismaref02_Small.j0 kq a0 0 x17_1 = some (r1, r2)) ∧ Aside0 (kq ≤ k) ∧ Drawn0 w wc)
  case first =>
    have H := HC2.out
    clear HC2
    by_cases c3 : (a0.size : Int) > 0
    · rw [if_pos c3] at H
      have c3b0 : decide (0 < (a0.size : Int)) = true := decide_eq_true c3
      have c3b1 : decide (0 < a0.size) = true := decide_eq_true (by omega)
      clear c3
      (first | rw [c3b0] | (simp only [i64_w, i32_w]; rw [c3b0]) | skip)
      by_cases c4 : 0 < (a0.size : Int)
      · rw [if_pos c4] at H
        have c4b0 : decide (0 < (a0.size : Int)) = true := decide_eq_true c4
        have c4b1 : decide (0 < a0.size) = true := decide_eq_true (by omega)
        clear c4
        have H' := Aside0.mk H
        clear H
        have p5 : 0 ≤ (0 : Int) := (by omega)
        have q5 : 0 < a0.size := (by have : (0 : Int) < (a0.size : Int) := of_decide_eq_true (by first | (with_reducible assumption) | assumption); omega)
        have hx5 : ∀ h : 0 < a0.size, ((a0[0]'h).toNat : Int) = bt a0 0 := bt_at a0 0
        clear p5
        have qi5 : (0 < (a0.size : Int)) = True := eq_true (of_decide_eq_true (by first | (with_reducible assumption) | assumption))
        replace q5 := eq_true q5
        go_wp2
        go_meet
        case rel => exact ⟨_, (((bt a0 0) == 45)), (by first | rfl | (simp; done) | (simp [*]; done)), H', ⟨by first | omega | exact Nat.le_refl _⟩, by repeat (first | exact Drawn0.refl _ | apply Drawn0.step)⟩
      · rw [if_neg c4] at H
        exact absurd H (by simp)
    · rw [if_neg c3] at H
      have c3b0 : decide (0 < (a0.size : Int)) = false := decide_eq_false c3
      have c3b1 : decide (0 < a0.size) = false := decide_eq_false (by omega)
      clear c3
      (first | rw [c3b0] | (simp only [i64_w, i32_w]; rw [c3b0]) | skip)
      have H' := Aside0.mk H
      clear H
      go_wp2
      go_meet
      case rel => exact ⟨_, (false), (by first | rfl | (simp; done) | (simp [*]; done)), H', ⟨by first | omega | exact Nat.le_refl _⟩, by repeat (first | exact Drawn0.refl _ | apply Drawn0.step)⟩
  case rest =>
    clear HC2
    try clear c1
    try clear p2
    try clear c3
    try clear c3b0
    try clear c3b1
    try clear c4
    try clear c4b0
    try clear c4b1
    try clear p5
    try clear q5
    try clear hx5
    try clear qi5
    try clear p5
    try clear q5
    obtain ⟨kq, x17_1, rfl, HA, HJ1, ⟨mc1, rfl⟩⟩ := hcut
    cases kq with
    | zero => exact absurd HA.out (by simp [schismaref02_Small.j0])
    | succ kj1 =>
      have H := HA.out
      clear HA
      simp only [schismaref02_Small.j0] at H
      have HC6 := Aside0.mk H
      clear H
      go_upto_if 17 with (fail)
      go_cut [5] (fun v5 wc => ∃ (kq : Nat) (x5_5 : Int), v5 = .int .i64 x5_5 ∧ Aside0 (schismaref02_Small.j1 kq a0 x5_5 = some (r1, r2)) ∧ Aside0 (kq ≤ kj1) ∧ Drawn0 w wc)
      case first =>
        have H := HC6.out
        clear HC6
        by_cases c7 : x17_1 = true
        · subst c7
          have H1 : (schismaref02_Small.j1 kj1 a0 1) = some (r1, r2) := by rw [if_pos rfl] at H; exact H
          clear H
          have H := H1
          clear H1
          have H' := Aside0.mk H
          clear H
          go_wp2
          go_meet
          case rel => exact ⟨_, (1), (by first | rfl | (simp; done) | (simp [*]; done)), H', ⟨by have := HJ1.out; first | omega | exact Nat.le_refl _⟩, by repeat (first | exact Drawn0.refl _ | apply Drawn0.step)⟩
        · replace c7 := Bool.eq_false_iff.mpr c7
          subst c7
          have H1 : (schismaref02_Small.j1 kj1 a0 0) = some (r1, r2) := by rw [if_neg (show ¬ (false = true) by decide)] at H; exact H
          clear H
          have H := H1
          clear H1
          have H' := Aside0.mk H
          clear H
          go_wp2
          go_meet
          case rel => exact ⟨_, (0), (by first | rfl | (simp; done) | (simp [*]; done)), H', ⟨by have := HJ1.out; first | omega | exact Nat.le_refl _⟩, by repeat (first | exact Drawn0.refl _ | apply Drawn0.step)⟩
      case rest =>
        clear HC6
        try clear c1
        try clear p2
        try clear c3
        try clear c3b0
        try clear c3b1
        try clear c4
        try clear c4b0
        try clear c4b1
        try clear p5
        try clear q5
        try clear hx5
        try clear qi5
        try clear c7
        try clear p2
        try clear p5
        try clear q5
        obtain ⟨kq, x5_5, rfl, HA, HJ5, ⟨mc5, rfl⟩⟩ := hcut
        cases kq with
        | zero => exact absurd HA.out (by simp [schismaref02_Small.j1])
        | succ kj5 =>
          have H := HA.out
          clear HA
          simp only [schismaref02_Small.j1] at H
          by_cases c8 : x5_5 = (a0.size : Int)
          · rw [if_pos c8] at H
            have c8b0 : (x5_5 == (a0.size : Int)) = true := beq_iff_eq.mpr c8
            have c8b1 : (x5_5 != (a0.size : Int)) = false := bne_eq_false_iff_eq.mpr c8
            clear c8
            simp only [Option.some.injEq, Prod.mk.injEq] at H
            obtain ⟨rfl, rfl⟩ := H
            go_wp2
            go_ret2
            exact ⟨by first | rfl | (simp; done) | (simp [wrap64]; done) | (simp [*]; done), by repeat (first | exact Drawn0.refl _ | apply Drawn0.step)⟩
          · rw [if_neg c8] at H
            have c8b0 : (x5_5 == (a0.size : Int)) = false := beq_eq_false_iff_ne.mpr c8
            have c8b1 : (x5_5 != (a0.size : Int)) = true := bne_iff_ne.mpr c8
            have H' := Aside0.mk H
            clear H
            go_wp2
            go_loopg [5, 7] kj5 (fun kq v5 v7 w' => ∃ (x5_3 : Int) (x7_3 : Int), v5 = .int .i64 x5_3 ∧ v7 = .int .i64 x7_3 ∧ Aside0 (schismaref02_Small.l0 kq a0 x5_3 (x5_5 == 1) x7_3 = some (r1, r2)) ∧ Aside0 (kq ≤ kj5) ∧ Drawn0 w w')
            case atStart => exact ⟨(x5_5), (0), (by first | rfl | (simp; done) | (simp [*]; done)), (by first | rfl | (simp; done) | (simp [*]; done)), H', ⟨Nat.le_refl _⟩, by repeat (first | exact Drawn0.refl _ | apply Drawn0.step)⟩
            case round =>
              clear H'
              try clear c1
              try clear p2
              try clear c3
              try clear c3b0
              try clear c3b1
              try clear c4
              try clear c4b0
              try clear c4b1
              try clear c5
              try clear p5
              try clear q5
              try clear hx5
              try clear qi5
              try clear c7
              try clear c8
              try clear c8b0
              try clear c8b1
              try clear p2
              try clear p5
              try clear q5
              obtain ⟨x5_3, x7_3, rfl, rfl, HA, HK3, ⟨m3, rfl⟩⟩ := hrel
              cases gk with
              | zero => exact absurd HA.out (by simp [schismaref02_Small.l0])
              | succ k3 =>
                have H := HA.out
                clear HA
                simp only [schismaref02_Small.l0] at H
                by_cases c9 : x5_3 < (a0.size : Int)
                · rw [if_pos c9] at H
                  have c9b0 : decide (x5_3 < (a0.size : Int)) = true := decide_eq_true c9
                  clear c9
                  by_cases c10 : 0 ≤ x5_3
                  · rw [if_pos c10] at H
                    have c10b0 : decide (0 ≤ x5_3) = true := decide_eq_true c10
                    clear c10
                    by_cases c12 : (wrap64 ((wrap64 (bt a0 x5_3)) - 48)) < 0
                    · rw [if_pos c12] at H
                      have c12b0 : decide ((wrap64 ((wrap64 (bt a0 x5_3)) - 48)) < 0) = true := decide_eq_true c12
                      clear c12
                      simp only [Option.some.injEq, Prod.mk.injEq] at H
                      obtain ⟨rfl, rfl⟩ := H
                      have p11 : 0 ≤ (x5_3 : Int) := of_decide_eq_true (by first | (with_reducible assumption) | assumption)
                      have q11 : x5_3 < (a0.size : Int) := of_decide_eq_true (by first | (with_reducible assumption) | assumption)
                      have hx11 := bt_at a0 x5_3
                      replace p11 := eq_true p11
                      replace q11 := eq_true q11
                      go_wp2
                      go_ret2
                      exact ⟨by first | rfl | (simp; done) | (simp [wrap64]; done) | (simp [*]; done), by repeat (first | exact Drawn0.refl _ | apply Drawn0.step)⟩
                    · rw [if_neg c12] at H
                      have c12b0 : decide ((wrap64 ((wrap64 (bt a0 x5_3)) - 48)) < 0) = false := decide_eq_false c12
                      clear c12
                      by_cases c13 : (wrap64 ((wrap64 (bt a0 x5_3)) - 48)) > 9
                      · rw [if_pos c13] at H
                        have c13b0 : decide (9 < (wrap64 ((wrap64 (bt a0 x5_3)) - 48))) = true := decide_eq_true c13
                        clear c13
                        simp only [Option.some.injEq, Prod.mk.injEq] at H
                        obtain ⟨rfl, rfl⟩ := H
                        have p11 : 0 ≤ (x5_3 : Int) := of_decide_eq_true (by first | (with_reducible assumption) | assumption)
                        have q11 : x5_3 < (a0.size : Int) := of_decide_eq_true (by first | (with_reducible assumption) | assumption)
                        have hx11 := bt_at a0 x5_3
                        replace p11 := eq_true p11
                        replace q11 := eq_true q11
                        go_wp2
                        go_ret2
                        exact ⟨by first | rfl | (simp; done) | (simp [wrap64]; done) | (simp [*]; done), by repeat (first | exact Drawn0.refl _ | apply Drawn0.step)⟩
                      · rw [if_neg c13] at H
                        have c13b0 : decide (9 < (wrap64 ((wrap64 (bt a0 x5_3)) - 48))) = false := decide_eq_false c13
                        clear c13
                        by_cases c14 : x7_3 < (wrap64 (Int.tdiv (wrap64 ((-9223372036854775808) + (wrap64 ((wrap64 (bt a0 x5_3)) - 48)))) 10))
                        · rw [if_pos c14] at H
                          have c14b0 : decide (x7_3 < (wrap64 (Int.tdiv (wrap64 ((-9223372036854775808) + (wrap64 ((wrap64 (bt a0 x5_3)) - 48)))) 10))) = true := decide_eq_true c14
                          clear c14
                          simp only [Option.some.injEq, Prod.mk.injEq] at H
                          obtain ⟨rfl, rfl⟩ := H
                          have p11 : 0 ≤ (x5_3 : Int) := of_decide_eq_true (by first | (with_reducible assumption) | assumption)
                          have q11 : x5_3 < (a0.size : Int) := of_decide_eq_true (by first | (with_reducible assumption) | assumption)
                          have hx11 := bt_at a0 x5_3
                          replace p11 := eq_true p11
                          replace q11 := eq_true q11
                          go_wp2
                          go_ret2
                          exact ⟨by first | rfl | (simp; done) | (simp [wrap64]; done) | (simp [*]; done), by repeat (first | exact Drawn0.refl _ | apply Drawn0.step)⟩
                        · rw [if_neg c14] at H
                          have c14b0 : decide (x7_3 < (wrap64 (Int.tdiv (wrap64 ((-9223372036854775808) + (wrap64 ((wrap64 (bt a0 x5_3)) - 48)))) 10))) = false := decide_eq_false c14
                          clear c14
                          have H' := Aside0.mk H
                          clear H
                          have p11 : 0 ≤ (x5_3 : Int) := of_decide_eq_true (by first | (with_reducible assumption) | assumption)
                          have q11 : x5_3 < (a0.size : Int) := of_decide_eq_true (by first | (with_reducible assumption) | assumption)
                          have hx11 := bt_at a0 x5_3
                          replace p11 := eq_true p11
                          replace q11 := eq_true q11
                          go_wp2
                          go_roundg k3
                          case measure => have := HJ1.out; have := HJ5.out; have := HK3.out; omega
                          case rel => exact ⟨(wrap64 (x5_3 + 1)), (wrap64 ((wrap64 (x7_3 * 10)) - (wrap64 ((wrap64 (bt a0 x5_3)) - 48)))), (by first | rfl | (simp; done) | (simp [*]; done)), (by first | rfl | (simp; done) | (simp [*]; done)), H', ⟨by have := HJ1.out; have := HJ5.out; have := HK3.out; omega⟩, by repeat (first | exact Drawn0.refl _ | apply Drawn0.step)⟩
                  · rw [if_neg c10] at H
                    exact absurd H (by simp)
                · rw [if_neg c9] at H
                  have c9b0 : decide (x5_3 < (a0.size : Int)) = false := decide_eq_false c9
                  clear c9
                  by_cases c15 : (x5_5 == 1) = true
                  · rw [if_pos c15] at H
                    have c15b0 : (x5_5 == 1) = true := c15
                    (try (have c15b1 : decide (x5_5 = 1) = true := by simpa using c15))
                    (try (have c15b2 : (x5_5 == 1) = true := by simpa using c15))
                    clear c15
                    simp only [Option.some.injEq, Prod.mk.injEq] at H
                    obtain ⟨rfl, rfl⟩ := H
                    go_wp2
                    go_ret2
                    exact ⟨by first | rfl | (simp; done) | (simp [wrap64]; done) | (simp [*]; done), by repeat (first | exact Drawn0.refl _ | apply Drawn0.step)⟩
                  · rw [if_neg c15] at H
                    have c15b0 : (x5_5 == 1) = false := by simpa using c15
                    (try (have c15b1 : decide (x5_5 = 1) = false := by simpa using c15))
                    (try (have c15b2 : (x5_5 == 1) = false := by simpa using c15))
                    (try (have c15b3 : ¬ (x5_5 = 1) := by simpa using c15))
                    clear c15
                    by_cases c16 : x7_3 = (-9223372036854775808)
                    · rw [if_pos c16] at H
                      have c16b0 : (x7_3 == (-9223372036854775808)) = true := beq_iff_eq.mpr c16
                      have c16b1 : (x7_3 != (-9223372036854775808)) = false := bne_eq_false_iff_eq.mpr c16
                      clear c16
                      simp only [Option.some.injEq, Prod.mk.injEq] at H
                      obtain ⟨rfl, rfl⟩ := H
                      go_wp2
                      go_ret2
                      exact ⟨by first | rfl | (simp; done) | (simp [wrap64]; done) | (simp [*]; done), by repeat (first | exact Drawn0.refl _ | apply Drawn0.step)⟩
                    · rw [if_neg c16] at H
                      have c16b0 : (x7_3 == (-9223372036854775808)) = false := beq_eq_false_iff_ne.mpr c16
                      have c16b1 : (x7_3 != (-9223372036854775808)) = true := bne_iff_ne.mpr c16
                      simp only [Option.some.injEq, Prod.mk.injEq] at H
                      obtain ⟨rfl, rfl⟩ := H
                      go_wp2
                      go_ret2
                      exact ⟨by first | rfl | (simp; done) | (simp [wrap64]; done) | (simp [*]; done), by repeat (first | exact Drawn0.refl _ | apply Drawn0.step)⟩
def schismalaw02_WholeSmall.f (k : Nat) (a0_0 : Bool) (l0_1 : List Int) : Option (Bool) := (schismalaw02_known.f k).bind fun t476 => (if t476 = true then ((schismalaw02_Make.f k a0_0 l0_1 25).bind fun t477 => ((whole_Small.f t477).bind fun bt478 => ((schismaref02_Small.f k t477).bind fun bt480 => (if bt478.1 = bt480.1 then (some (bt478.2 == bt480.2)) else (some false))))) else (some false))
theorem schismalaw02_WholeSmall.mono : ∀ a0 a1 k, LeO (schismalaw02_WholeSmall.f k a0 a1) (schismalaw02_WholeSmall.f (k + 1) a0 a1) := by
  intro a0 a1 k
  unfold schismalaw02_WholeSmall.f
  repeat' first
      | (with_reducible exact schismalaw02_Make.mono _ _ _ _)
      | (with_reducible exact schismalaw02_known.mono _)
      | (with_reducible exact schismaref02_Small.mono _ _)
      | (with_reducible exact LeO.refl _)
      | (with_reducible exact LeO.none _)
      | (with_reducible refine LeO.ite ?_ ?_)
      | (with_reducible refine LeO.bind ?_ (fun _ => ?_))
      | exact schismalaw02_Make.mono _ _ _ _
      | exact schismalaw02_known.mono _
      | exact schismaref02_Small.mono _ _
      | exact LeO.none _
      | refine LeO.ite ?_ ?_
      | refine LeO.bind ?_ (fun _ => ?_)
set_option maxHeartbeats 8000000 in
set_option maxRecDepth 100000 in
theorem schismalaw02_WholeSmall.calls (k : Nat) (a0_0 : Bool) (A0_1 : Option Addr) (c0_1 : Nat) (l0_1 : List Int) (r : Bool) (w : World) (hr0_1 : Kd.C (Kd.int .u8) w A0_1 l0_1.length l0_1) (hc0_1 : l0_1.length ≤ c0_1) (hT : Tab w) (h : schismalaw02_WholeSmall.f k a0_0 l0_1 = some r) :
    Calls Tryd.prog 5 #[.agg #[.bool a0_0, .slice A0_1 l0_1.length c0_1]] w fun e w' => e = .returned (.bool r) ∧ Below w.heap.size w w' := by
  have HT := Aside0.mk hT
  clear hT
  have hu36 := Tryd.underlying36
  have HR0_1 := Aside0.mk hr0_1
  have HC0_1 := Aside0.mk hc0_1
  clear hr0_1 hc0_1
  have HB := Aside0.mk (Below.refl w.heap.size w)
  have H : ((schismalaw02_known.f k).bind fun t476 => (if t476 = true then ((schismalaw02_Make.f k a0_0 l0_1 25).bind fun t477 => ((whole_Small.f t477).bind fun bt478 => ((schismaref02_Small.f k t477).bind fun bt480 => (if bt478.1 = bt480.1 then (some (bt478.2 == bt480.2)) else (some false))))) else (some false))) = some r := h
  clear h
  replace H := Option.bind_eq_some_iff.mp H
  obtain ⟨t476, A20, H⟩ := H
  replace H : (if t476 = true then ((schismalaw02_Make.f k a0_0 l0_1 25).bind fun t477 => ((whole_Small.f t477).bind fun bt478 => ((schismaref02_Small.f k t477).bind fun bt480 => (if bt478.1 = bt480.1 then (some (bt478.2 == bt480.2)) else (some false))))) else (some false)) = some r := H
  have A2 := Aside0.mk A20
  clear A20
  by_cases c3 : t476 = true
  · subst c3
    have H1 : ((schismalaw02_Make.f k a0_0 l0_1 25).bind fun t477 => ((whole_Small.f t477).bind fun bt478 => ((schismaref02_Small.f k t477).bind fun bt480 => (if bt478.1 = bt480.1 then (some (bt478.2 == bt480.2)) else (some false))))) = some r := by rw [if_pos rfl] at H; exact H
    clear H
    have H := H1
    clear H1
    replace H := Option.bind_eq_some_iff.mp H
    obtain ⟨t477, A40, H⟩ := H
    replace H : ((whole_Small.f t477).bind fun bt478 => ((schismaref02_Small.f k t477).bind fun bt480 => (if bt478.1 = bt480.1 then (some (bt478.2 == bt480.2)) else (some false)))) = some r := H
    have A4 := Aside0.mk A40
    clear A40
    replace H := Option.bind_eq_some_iff.mp H
    obtain ⟨⟨t478, t479⟩, A50, H⟩ := H
    replace H : ((schismaref02_Small.f k t477).bind fun bt480 => (if t478 = bt480.1 then (some (t479 == bt480.2)) else (some false))) = some r := H
    have A5 := Aside0.mk A50
    clear A50
    replace H := Option.bind_eq_some_iff.mp H
    obtain ⟨⟨t480, t481⟩, A60, H⟩ := H
    replace H : (if t478 = t480 then (some (t479 == t481)) else (some false)) = some r := H
    have A6 := Aside0.mk A60
    clear A60
    by_cases c7 : t478 = t480
    · rw [if_pos c7] at H
      have c7b0 : (t478 == t480) = true := beq_iff_eq.mpr c7
      have c7b1 : (t478 != t480) = false := bne_eq_false_iff_eq.mpr c7
      clear c7
      obtain rfl := Option.some.inj H
      go_enter Tryd.func5, Tryd.ntmps5
      go_wp2_with (first | ((with_reducible refine gate_dst (N := 1) rfl ?_); refine box_event ?hg (N := 1) ?hd (cs := #[.bool a0_0, .slice A0_1 l0_1.length c0_1]) (t := 36) ?hr ?_; (case hd => rfl); (case hg => rfl); (case hr => first | (go_simp; done) | (go_simp; rfl)); intro gb475 hg w8 hbox hb; have n0_ := Aside0.mk (below_step bq hb); have n1_ := Aside0.mk (hbox); have n2_ := Aside0.mk ((by rw [hg]; exact (below_size bq) : w.heap.size ≤ gb475)); have n3_ := Aside0.mk ((by rw [hg]; exact (below_size bq) : w.heap.size ≤ gb475)); clear HB; have HB := n0_; have BK475 := n1_; have GW475 := n2_; have GE475 := n3_; clear n0_ n1_ n2_ n3_; clear hb hbox hg) | ((with_reducible refine gate_callee (f := 7) rfl ?_); refine goesL_ (some 8) rfl rfl Tryd.func7 (by kernel_rfl) rfl #[] rfl mq ?_; (with_reducible refine (schismalaw02_known.calls (hT := HT.out.below bq) k  true _ A2.out).mono ?_); rintro e w9 ⟨rfl, hb⟩; refine ⟨_, rfl, ?_⟩; have n0_ := Aside0.mk (blk_below (g := gb475) (o := .cells #[.bool a0_0, .slice A0_1 l0_1.length c0_1] 36 (0, 0)) (by (with_reducible repeat (first | refine blk_drewN ?_ _ | refine blk_drew ?_ | refine blk_alloc ?_ _)); exact BK475.out) hb); have n1_ := Aside0.mk (below_step (by repeat (first | (with_reducible first | exact HB.out | apply below_alloc | apply pw_below_drewN | apply below_drew1 | refine below_set ?_ GE475.out) | exact HB.out)) hb); clear BK475; clear HB; have BK475 := n0_; have HB := n1_; clear n0_ n1_; (try clear hb); (try clear hb2); (try clear hk); (try clear hi); have hcz10_0 : w9.cell? ⟨gb475, 0, none⟩ = some (.bool a0_0) := (blk_cell BK475.out 0).trans rfl; have hcz10_1 : w9.cell? ⟨gb475, 1, none⟩ = some (.slice A0_1 l0_1.length c0_1) := (blk_cell BK475.out 1).trans rfl; have hfz10_0 := blk_frozen BK475.out 0; have hfz10_1 := blk_frozen BK475.out 1) | ((with_reducible refine gate_callee (f := 15) rfl ?_); refine goesL_ (some 11) rfl rfl Tryd.func15 (by kernel_rfl) rfl #[.agg #[.bool a0_0, .slice A0_1 l0_1.length c0_1], .int .i64 25] rfl mq ?_; (with_reducible refine (schismalaw02_Make.calls k a0_0 _ _ l0_1 25 t477 _ ?side1 ?side2 A4.out).mono ?_); (case side1 => repeat (first | exact (Kd.C_below HR0_1.out HB.out) | (with_reducible refine Kd.C_alloc ?_ _) | (with_reducible refine Kd.C_drewN ?_ _) | (with_reducible refine Kd.C_drew ?_))); (case side2 => exact HC0_1.out); rintro e w11 ⟨rfl, hb⟩; refine ⟨_, rfl, ?_⟩; have n0_ := Aside0.mk (blk_below (g := gb475) (o := .cells #[.bool a0_0, .slice A0_1 l0_1.length c0_1] 36 (0, 0)) (by (with_reducible repeat (first | refine blk_drewN ?_ _ | refine blk_drew ?_ | refine blk_alloc ?_ _)); exact BK475.out) hb); have n1_ := Aside0.mk (below_step (by repeat (first | (with_reducible first | exact HB.out | apply below_alloc | apply pw_below_drewN | apply below_drew1 | refine below_set ?_ GE475.out) | exact HB.out)) hb); clear BK475; clear HB; have BK475 := n0_; have HB := n1_; clear n0_ n1_; (try clear hb); (try clear hb2); (try clear hk); (try clear hi)) | ((with_reducible refine gate_callee (f := 9) rfl ?_); refine goesL_ (some 14) rfl rfl Tryd.func9 (by kernel_rfl) rfl #[.string t477] rfl mq ?_; (with_reducible refine (whole_Small.calls (hT := HT.out.below bq) t477 t478 t479 _ A5.out).mono ?_); rintro e w12 ⟨rfl, hb⟩; refine ⟨_, rfl, ?_⟩; have n0_ := Aside0.mk (blk_below (g := gb475) (o := .cells #[.bool a0_0, .slice A0_1 l0_1.length c0_1] 36 (0, 0)) (by (with_reducible repeat (first | refine blk_drewN ?_ _ | refine blk_drew ?_ | refine blk_alloc ?_ _)); exact BK475.out) hb); have n1_ := Aside0.mk (below_step (by repeat (first | (with_reducible first | exact HB.out | apply below_alloc | apply pw_below_drewN | apply below_drew1 | refine below_set ?_ GE475.out) | exact HB.out)) hb); clear BK475; clear HB; have BK475 := n0_; have HB := n1_; clear n0_ n1_; (try clear hb); (try clear hb2); (try clear hk); (try clear hi)) | ((with_reducible refine gate_callee (f := 16) rfl ?_); refine goesL_ (some 19) rfl rfl Tryd.func16 (by kernel_rfl) rfl #[.string t477] rfl mq ?_; (with_reducible refine (schismaref02_Small.calls k t477 t480 t481 _ A6.out).mono ?_); rintro e w' ⟨rfl, ⟨nd, rfl⟩⟩; refine ⟨_, rfl, ?_⟩))
      go_ret
      exact ⟨eq_, by repeat (first | (with_reducible first | exact HB.out | apply below_alloc | apply pw_below_drewN | apply below_drew1 | refine below_set ?_ GE475.out) | exact HB.out)⟩
    · rw [if_neg c7] at H
      have c7b0 : (t478 == t480) = false := beq_eq_false_iff_ne.mpr c7
      have c7b1 : (t478 != t480) = true := bne_iff_ne.mpr c7
      obtain rfl := Option.some.inj H
      go_enter Tryd.func5, Tryd.ntmps5
      go_wp2_with (first | ((with_reducible refine gate_dst (N := 1) rfl ?_); refine box_event ?hg (N := 1) ?hd (cs := #[.bool a0_0, .slice A0_1 l0_1.length c0_1]) (t := 36) ?hr ?_; (case hd => rfl); (case hg => rfl); (case hr => first | (go_simp; done) | (go_simp; rfl)); intro gb475 hg w13 hbox hb; have n0_ := Aside0.mk (below_step bq hb); have n1_ := Aside0.mk (hbox); have n2_ := Aside0.mk ((by rw [hg]; exact (below_size bq) : w.heap.size ≤ gb475)); have n3_ := Aside0.mk ((by rw [hg]; exact (below_size bq) : w.heap.size ≤ gb475)); clear HB; have HB := n0_; have BK475 := n1_; have GW475 := n2_; have GE475 := n3_; clear n0_ n1_ n2_ n3_; clear hb hbox hg) | ((with_reducible refine gate_callee (f := 7) rfl ?_); refine goesL_ (some 8) rfl rfl Tryd.func7 (by kernel_rfl) rfl #[] rfl mq ?_; (with_reducible refine (schismalaw02_known.calls (hT := HT.out.below bq) k  true _ A2.out).mono ?_); rintro e w14 ⟨rfl, hb⟩; refine ⟨_, rfl, ?_⟩; have n0_ := Aside0.mk (blk_below (g := gb475) (o := .cells #[.bool a0_0, .slice A0_1 l0_1.length c0_1] 36 (0, 0)) (by (with_reducible repeat (first | refine blk_drewN ?_ _ | refine blk_drew ?_ | refine blk_alloc ?_ _)); exact BK475.out) hb); have n1_ := Aside0.mk (below_step (by repeat (first | (with_reducible first | exact HB.out | apply below_alloc | apply pw_below_drewN | apply below_drew1 | refine below_set ?_ GE475.out) | exact HB.out)) hb); clear BK475; clear HB; have BK475 := n0_; have HB := n1_; clear n0_ n1_; (try clear hb); (try clear hb2); (try clear hk); (try clear hi); have hcz15_0 : w14.cell? ⟨gb475, 0, none⟩ = some (.bool a0_0) := (blk_cell BK475.out 0).trans rfl; have hcz15_1 : w14.cell? ⟨gb475, 1, none⟩ = some (.slice A0_1 l0_1.length c0_1) := (blk_cell BK475.out 1).trans rfl; have hfz15_0 := blk_frozen BK475.out 0; have hfz15_1 := blk_frozen BK475.out 1) | ((with_reducible refine gate_callee (f := 15) rfl ?_); refine goesL_ (some 11) rfl rfl Tryd.func15 (by kernel_rfl) rfl #[.agg #[.bool a0_0, .slice A0_1 l0_1.length c0_1], .int .i64 25] rfl mq ?_; (with_reducible refine (schismalaw02_Make.calls k a0_0 _ _ l0_1 25 t477 _ ?side1 ?side2 A4.out).mono ?_); (case side1 => repeat (first | exact (Kd.C_below HR0_1.out HB.out) | (with_reducible refine Kd.C_alloc ?_ _) | (with_reducible refine Kd.C_drewN ?_ _) | (with_reducible refine Kd.C_drew ?_))); (case side2 => exact HC0_1.out); rintro e w16 ⟨rfl, hb⟩; refine ⟨_, rfl, ?_⟩; have n0_ := Aside0.mk (blk_below (g := gb475) (o := .cells #[.bool a0_0, .slice A0_1 l0_1.length c0_1] 36 (0, 0)) (by (with_reducible repeat (first | refine blk_drewN ?_ _ | refine blk_drew ?_ | refine blk_alloc ?_ _)); exact BK475.out) hb); have n1_ := Aside0.mk (below_step (by repeat (first | (with_reducible first | exact HB.out | apply below_alloc | apply pw_below_drewN | apply below_drew1 | refine below_set ?_ GE475.out) | exact HB.out)) hb); clear BK475; clear HB; have BK475 := n0_; have HB := n1_; clear n0_ n1_; (try clear hb); (try clear hb2); (try clear hk); (try clear hi)) | ((with_reducible refine gate_callee (f := 9) rfl ?_); refine goesL_ (some 14) rfl rfl Tryd.func9 (by kernel_rfl) rfl #[.string t477] rfl mq ?_; (with_reducible refine (whole_Small.calls (hT := HT.out.below bq) t477 t478 t479 _ A5.out).mono ?_); rintro e w17 ⟨rfl, hb⟩; refine ⟨_, rfl, ?_⟩; have n0_ := Aside0.mk (blk_below (g := gb475) (o := .cells #[.bool a0_0, .slice A0_1 l0_1.length c0_1] 36 (0, 0)) (by (with_reducible repeat (first | refine blk_drewN ?_ _ | refine blk_drew ?_ | refine blk_alloc ?_ _)); exact BK475.out) hb); have n1_ := Aside0.mk (below_step (by repeat (first | (with_reducible first | exact HB.out | apply below_alloc | apply pw_below_drewN | apply below_drew1 | refine below_set ?_ GE475.out) | exact HB.out)) hb); clear BK475; clear HB; have BK475 := n0_; have HB := n1_; clear n0_ n1_; (try clear hb); (try clear hb2); (try clear hk); (try clear hi)) | ((with_reducible refine gate_callee (f := 16) rfl ?_); refine goesL_ (some 19) rfl rfl Tryd.func16 (by kernel_rfl) rfl #[.string t477] rfl mq ?_; (with_reducible refine (schismaref02_Small.calls k t477 t480 t481 _ A6.out).mono ?_); rintro e w' ⟨rfl, ⟨nd, rfl⟩⟩; refine ⟨_, rfl, ?_⟩))
      go_ret
      exact ⟨eq_, by repeat (first | (with_reducible first | exact HB.out | apply below_alloc | apply pw_below_drewN | apply below_drew1 | refine below_set ?_ GE475.out) | exact HB.out)⟩
  · replace c3 := Bool.eq_false_iff.mpr c3
    subst c3
    have H1 : (some false) = some r := by rw [if_neg (show ¬ (false = true) by decide)] at H; exact H
    clear H
    have H := H1
    clear H1
    obtain rfl := Option.some.inj H
    go_enter Tryd.func5, Tryd.ntmps5
    go_wp2_with (first | ((with_reducible refine gate_dst (N := 1) rfl ?_); refine box_event ?hg (N := 1) ?hd (cs := #[.bool a0_0, .slice A0_1 l0_1.length c0_1]) (t := 36) ?hr ?_; (case hd => rfl); (case hg => rfl); (case hr => first | (go_simp; done) | (go_simp; rfl)); intro gb475 hg w18 hbox hb; have n0_ := Aside0.mk (below_step bq hb); have n1_ := Aside0.mk (hbox); have n2_ := Aside0.mk ((by rw [hg]; exact (below_size bq) : w.heap.size ≤ gb475)); have n3_ := Aside0.mk ((by rw [hg]; exact (below_size bq) : w.heap.size ≤ gb475)); clear HB; have HB := n0_; have BK475 := n1_; have GW475 := n2_; have GE475 := n3_; clear n0_ n1_ n2_ n3_; clear hb hbox hg) | ((with_reducible refine gate_callee (f := 7) rfl ?_); refine goesL_ (some 8) rfl rfl Tryd.func7 (by kernel_rfl) rfl #[] rfl mq ?_; (with_reducible refine (schismalaw02_known.calls (hT := HT.out.below bq) k  false _ A2.out).mono ?_); rintro e w19 ⟨rfl, hb⟩; refine ⟨_, rfl, ?_⟩; have n0_ := Aside0.mk (blk_below (g := gb475) (o := .cells #[.bool a0_0, .slice A0_1 l0_1.length c0_1] 36 (0, 0)) (by (with_reducible repeat (first | refine blk_drewN ?_ _ | refine blk_drew ?_ | refine blk_alloc ?_ _)); exact BK475.out) hb); have n1_ := Aside0.mk (below_step (by repeat (first | (with_reducible first | exact HB.out | apply below_alloc | apply pw_below_drewN | apply below_drew1 | refine below_set ?_ GE475.out) | exact HB.out)) hb); clear BK475; clear HB; have BK475 := n0_; have HB := n1_; clear n0_ n1_; (try clear hb); (try clear hb2); (try clear hk); (try clear hi)))
    go_ret
    exact ⟨eq_, by repeat (first | (with_reducible first | exact HB.out | apply below_alloc | apply pw_below_drewN | apply below_drew1 | refine below_set ?_ GE475.out) | exact HB.out)⟩
end Go.Proofs.YtdelgjdplmennaaDoor.P
