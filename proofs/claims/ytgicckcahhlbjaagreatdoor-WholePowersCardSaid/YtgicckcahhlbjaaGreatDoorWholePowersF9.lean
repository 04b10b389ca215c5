/- Functions of the program, as functions of Lean, and the walks that show that the code answers as they do: written by a program. Conditions: those of each theorem. -/
import Derived.Test.YtgicckcahhlbjaaGreatDoorWholePowersF8
namespace Go.Proofs.YtgicckcahhlbjaaGreatDoor.P
open Go.RowKit Go.Proofs.YtgicckcahhlbjaaGreatDoorW.PrintWords Go.Proofs.YtgicckcahhlbjaaGreatDoorW.PrintLast Go.Proofs.YtgicckcahhlbjaaGreatDoorW.PrintMore
attribute [local go_sem] gtr_text max2_int min2_int max_two min_two max_three min_three max_four min_four
set_option linter.unusedVariables false
set_option linter.unusedSimpArgs false
mutual
def schismaref02_times.l0 : Nat → List Int → List Int → List Int → Int → Option (List Int)
  | 0, _, _, _, _ => none
  | k + 1, x0, x1, x5, x6 => if x6 < (x0.length : Int) then (schismaref02_times.l1 k x0 x1 x5 x6 0 0) else ((schismaref02_trim.f k x5).bind fun t516 => (some t516))
def schismaref02_times.l1 : Nat → List Int → List Int → List Int → Int → Int → Int → Option (List Int)
  | 0, _, _, _, _, _, _ => none
  | k + 1, x0, x1, x5, x6, x7, x8 => if x8 < (x1.length : Int) then (schismaref02_times.j2 k x0 x1 x5 x6 x7 x8 true) else (schismaref02_times.j2 k x0 x1 x5 x6 x7 x8 (decide (x7 > 0)))
def schismaref02_times.j2 : Nat → List Int → List Int → List Int → Int → Int → Int → Bool → Option (List Int)
  | 0, _, _, _, _, _, _, _ => none
  | k + 1, x0, x1, x5, x6, x7, x8, x30 => if x30 = true then (if 0 ≤ (wrap64 (x6 + x8)) then (if (wrap64 (x6 + x8)) < (x5.length : Int) then (if x8 < (x1.length : Int) then (if 0 ≤ x6 then (if x6 < (x0.length : Int) then (if 0 ≤ x8 then (schismaref02_times.l1 k x0 x1 (x5.set ((wrap64 (x6 + x8)) : Int).toNat (Int.tmod (wrap64 ((wrap64 ((rd x5 (wrap64 (x6 + x8))) + x7)) + (wrap64 ((rd x0 x6) * (rd x1 x8))))) 1000000000)) x6 (wrap64 (Int.tdiv (wrap64 ((wrap64 ((rd x5 (wrap64 (x6 + x8))) + x7)) + (wrap64 ((rd x0 x6) * (rd x1 x8))))) 1000000000)) (wrap64 (x8 + 1))) else (none)) else (none)) else (none)) else (schismaref02_times.l1 k x0 x1 (x5.set ((wrap64 (x6 + x8)) : Int).toNat (Int.tmod (wrap64 ((rd x5 (wrap64 (x6 + x8))) + x7)) 1000000000)) x6 (wrap64 (Int.tdiv (wrap64 ((rd x5 (wrap64 (x6 + x8))) + x7)) 1000000000)) (wrap64 (x8 + 1)))) else (none)) else (none)) else (schismaref02_times.l0 k x0 x1 x5 (wrap64 (x6 + 1)))
end
def schismaref02_times.f (k : Nat) (l0 : List Int) (l1 : List Int) : Option (List Int) := if 0 ≤ (wrap64 ((wrap64 ((l0.length : Int) + (l1.length : Int))) + 1)) then (if (wrap64 ((wrap64 ((l0.length : Int) + (l1.length : Int))) + 1) : Int).toNat ≤ 35184372088832 then (schismaref02_times.l0 k l0 l1 (List.replicate (wrap64 ((wrap64 ((l0.length : Int) + (l1.length : Int))) + 1) : Int).toNat 0) 0) else (none)) else (none)
theorem schismaref02_times.mono_l : ∀ k, (∀ y0 y1 y2 y3, LeO (schismaref02_times.l0 k y0 y1 y2 y3) (schismaref02_times.l0 (k + 1) y0 y1 y2 y3)) ∧ (∀ y0 y1 y2 y3 y4 y5, LeO (schismaref02_times.l1 k y0 y1 y2 y3 y4 y5) (schismaref02_times.l1 (k + 1) y0 y1 y2 y3 y4 y5)) ∧ (∀ y0 y1 y2 y3 y4 y5 y6, LeO (schismaref02_times.j2 k y0 y1 y2 y3 y4 y5 y6) (schismaref02_times.j2 (k + 1) y0 y1 y2 y3 y4 y5 y6))
  | 0 => ⟨fun _ _ _ _ r h => by simp [schismaref02_times.l0] at h, fun _ _ _ _ _ _ r h => by simp [schismaref02_times.l1] at h, fun _ _ _ _ _ _ _ r h => by simp [schismaref02_times.j2] at h⟩
  | k + 1 => by
    obtain ⟨ih0, ih1, ih2⟩ := schismaref02_times.mono_l k
    refine ⟨?_, ?_, ?_⟩
    · intro y0 y1 y2 y3
      unfold schismaref02_times.l0
      repeat' first
      | (with_reducible exact ih0 _ _ _ _)
      | (with_reducible exact ih1 _ _ _ _ _ _)
      | (with_reducible exact ih2 _ _ _ _ _ _ _)
      | (with_reducible exact schismaref02_trim.mono _ _)
      | (with_reducible exact LeO.refl _)
      | (with_reducible exact LeO.none _)
      | (with_reducible refine LeO.ite ?_ ?_)
      | (with_reducible refine LeO.bind ?_ (fun _ => ?_))
      | exact ih0 _ _ _ _
      | exact ih1 _ _ _ _ _ _
      | exact ih2 _ _ _ _ _ _ _
      | exact schismaref02_trim.mono _ _
      | exact LeO.none _
      | refine LeO.ite ?_ ?_
      | refine LeO.bind ?_ (fun _ => ?_)
    · intro y0 y1 y2 y3 y4 y5
      unfold schismaref02_times.l1
      repeat' first
      | (with_reducible exact ih0 _ _ _ _)
      | (with_reducible exact ih1 _ _ _ _ _ _)
      | (with_reducible exact ih2 _ _ _ _ _ _ _)
      | (with_reducible exact schismaref02_trim.mono _ _)
      | (with_reducible exact LeO.refl _)
      | (with_reducible exact LeO.none _)
      | (with_reducible refine LeO.ite ?_ ?_)
      | (with_reducible refine LeO.bind ?_ (fun _ => ?_))
      | exact ih0 _ _ _ _
      | exact ih1 _ _ _ _ _ _
      | exact ih2 _ _ _ _ _ _ _
      | exact schismaref02_trim.mono _ _
      | exact LeO.none _
      | refine LeO.ite ?_ ?_
      | refine LeO.bind ?_ (fun _ => ?_)
    · intro y0 y1 y2 y3 y4 y5 y6
      unfold schismaref02_times.j2
      repeat' first
      | (with_reducible exact ih0 _ _ _ _)
      | (with_reducible exact ih1 _ _ _ _ _ _)
      | (with_reducible exact ih2 _ _ _ _ _ _ _)
      | (with_reducible exact schismaref02_trim.mono _ _)
      | (with_reducible exact LeO.refl _)
      | (with_reducible exact LeO.none _)
      | (with_reducible refine LeO.ite ?_ ?_)
      | (with_reducible refine LeO.bind ?_ (fun _ => ?_))
      | exact ih0 _ _ _ _
      | exact ih1 _ _ _ _ _ _
      | exact ih2 _ _ _ _ _ _ _
      | exact schismaref02_trim.mono _ _
      | exact LeO.none _
      | refine LeO.ite ?_ ?_
      | refine LeO.bind ?_ (fun _ => ?_)
theorem schismaref02_times.mono : ∀ a0 a1 k, LeO (schismaref02_times.f k a0 a1) (schismaref02_times.f (k + 1) a0 a1) := by
  intro a0 a1 k
  obtain ⟨ih0, ih1, ih2⟩ := schismaref02_times.mono_l k
  unfold schismaref02_times.f
  repeat' first
      | (with_reducible exact ih0 _ _ _ _)
      | (with_reducible exact ih1 _ _ _ _ _ _)
      | (with_reducible exact ih2 _ _ _ _ _ _ _)
      | (with_reducible exact schismaref02_trim.mono _ _)
      | (with_reducible exact LeO.refl _)
      | (with_reducible exact LeO.none _)
      | (with_reducible refine LeO.ite ?_ ?_)
      | (with_reducible refine LeO.bind ?_ (fun _ => ?_))
      | exact ih0 _ _ _ _
      | exact ih1 _ _ _ _ _ _
      | exact ih2 _ _ _ _ _ _ _
      | exact schismaref02_trim.mono _ _
      | exact LeO.none _
      | refine LeO.ite ?_ ?_
      | refine LeO.bind ?_ (fun _ => ?_)
set_option maxHeartbeats 8000000 in
set_option maxRecDepth 100000 in
theorem schismaref02_times.calls (k : Nat) (A0 : Option Addr) (c0 : Nat) (l0 : List Int) (A1 : Option Addr) (c1 : Nat) (l1 : List Int) (r : List Int) (w : World) (hr0 : Kd.C (Kd.int .i64) w A0 l0.length l0) (hc0 : l0.length ≤ c0) (hr1 : Kd.C (Kd.int .i64) w A1 l1.length l1) (hc1 : l1.length ≤ c1) (h : schismaref02_times.f k l0 l1 = some r) :
    Calls Tryz.prog 49 #[.slice A0 l0.length c0, .slice A1 l1.length c1] w fun e w' => ∃ v0_ : Value, e = .returned (v0_) ∧ Kd.R (Kd.int .i64) 3 w' w.heap.size (fun _ => True) v0_ r ∧ Below w.heap.size w w' := by
  have HR0 := Aside0.mk hr0
  have HC0 := Aside0.mk hc0
  clear hr0 hc0
  have HR1 := Aside0.mk hr1
  have HC1 := Aside0.mk hc1
  clear hr1 hc1
  have HB := Aside0.mk (Below.refl w.heap.size w)
  have H : (if 0 ≤ (wrap64 ((wrap64 ((l0.length : Int) + (l1.length : Int))) + 1)) then (if (wrap64 ((wrap64 ((l0.length : Int) + (l1.length : Int))) + 1) : Int).toNat ≤ 35184372088832 then (schismaref02_times.l0 k l0 l1 (List.replicate (wrap64 ((wrap64 ((l0.length : Int) + (l1.length : Int))) + 1) : Int).toNat 0) 0) else (none)) else (none)) = some r := h
  clear h
  obtain ⟨ji3, hji3⟩ : ∃ j_ : Int, (wrap64 ((wrap64 ((l0.length : Int) + (l1.length : Int))) + 1)) = j_ := ⟨_, rfl⟩
  replace H : (if 0 ≤ (ji3) then (if (ji3 : Int).toNat ≤ 35184372088832 then (schismaref02_times.l0 k l0 l1 (List.replicate (ji3 : Int).toNat 0) 0) else (none)) else (none)) = some r := by first | (rw [hji3] at H; exact H) | (simp only [hji3] at H ⊢; exact H)
  have hji3w : (IntKind.i64.wrap ((wrap64 ((l0.length : Int) + (l1.length : Int))) + 1)) = ji3 := (i64_w _).trans hji3
  by_cases c4 : 0 ≤ (ji3)
  · rw [if_pos c4] at H
    have c4b0 := eq_true c4
    have c4b1 : decide (0 ≤ (ji3)) = true := decide_eq_true c4
    clear c4
    by_cases c5 : (ji3 : Int).toNat ≤ 35184372088832
    · rw [if_pos c5] at H
      have c5b0 := eq_true c5
      have c5b1 : decide ((ji3 : Int).toNat ≤ 35184372088832) = true := decide_eq_true c5
      clear c5
      obtain ⟨y513, hy513⟩ : ∃ y_ : List Int, y_ = (List.replicate (ji3 : Int).toNat 0) := ⟨_, rfl⟩
      replace H : (schismaref02_times.l0 k l0 l1 y513 0) = some r := by first | (rw [hy513]; with_reducible exact H) | (have H2_ := (Option.bind_some _ _).symm.trans H; rw [hy513]; with_reducible exact H2_) | (have H2_ := (Option.bind_some _ _).symm.trans H; with_reducible exact H2_) | with_reducible exact H | (rw [hy513]; exact H) | exact H
      have Ny513 := Aside0.mk hy513
      clear hy513
      have H' := Aside0.mk H
      clear H
      go_enter Tryz.func49, Tryz.ntmps49
      go_wp2_with (first | ((with_reducible refine gate_dst (N := 16) rfl ?_); refine Kd.R_make (Kd.int .i64) _ 3 rfl (N := 16) rfl 55 _ _ rfl ji3 rfl rfl Tryz.underlying55 (.int .i64 0) 8 info3 rfl (by decide) (by omega) 0 (ok := fun _ => True) (okp := fun _ => True) rfl (fun _ hk => hk) trivial (of_decide_eq_true (by first | (with_reducible assumption) | assumption)) (Nat.le_trans (Nat.mul_le_mul_right _ (of_decide_eq_true (by first | (with_reducible assumption) | assumption) : ji3.toNat ≤ 35184372088832)) (by omega)) (Below.refl _ _) (Nat.le_refl _) ?_; intro v514 w6 ho7 hb hg_ hnew_; clear hg_ hnew_; (first | rw [← Ny513.out] at ho7 | (simp only [Int.reduceToNat] at ho7; rw [← Ny513.out] at ho7)); have n0_ := Aside0.mk (Kd.R_lower ho7 (below_size bq)); have n1_ := Aside0.mk (below_step bq hb); clear HB; have HO515 := n0_; have HB := n1_; clear n0_ n1_; clear hb ho7))
      repeat (go_quiet (first | ((with_reducible refine gate_dst (N := 16) rfl ?_); refine Kd.R_make (Kd.int .i64) _ 3 rfl (N := 16) rfl 55 _ _ rfl ji3 rfl rfl Tryz.underlying55 (.int .i64 0) 8 info3 rfl (by decide) (by omega) 0 (ok := fun _ => True) (okp := fun _ => True) rfl (fun _ hk => hk) trivial (of_decide_eq_true (by first | (with_reducible assumption) | assumption)) (Nat.le_trans (Nat.mul_le_mul_right _ (of_decide_eq_true (by first | (with_reducible assumption) | assumption) : ji3.toNat ≤ 35184372088832)) (by omega)) (Below.refl _ _) (Nat.le_refl _) ?_; intro v514 w6 ho7 hb hg_ hnew_; clear hg_ hnew_; (first | rw [← Ny513.out] at ho7 | (simp only [Int.reduceToNat] at ho7; rw [← Ny513.out] at ho7)); have n0_ := Aside0.mk (Kd.R_lower ho7 (below_size bq)); have n1_ := Aside0.mk (below_step bq hb); clear HB; have HO515 := n0_; have HB := n1_; clear n0_ n1_; clear hb ho7)); try go_wp2_with (first | ((with_reducible refine gate_dst (N := 16) rfl ?_); refine Kd.R_make (Kd.int .i64) _ 3 rfl (N := 16) rfl 55 _ _ rfl ji3 rfl rfl Tryz.underlying55 (.int .i64 0) 8 info3 rfl (by decide) (by omega) 0 (ok := fun _ => True) (okp := fun _ => True) rfl (fun _ hk => hk) trivial (of_decide_eq_true (by first | (with_reducible assumption) | assumption)) (Nat.le_trans (Nat.mul_le_mul_right _ (of_decide_eq_true (by first | (with_reducible assumption) | assumption) : ji3.toNat ≤ 35184372088832)) (by omega)) (Below.refl _ _) (Nat.le_refl _) ?_; intro v514 w6 ho7 hb hg_ hnew_; clear hg_ hnew_; (first | rw [← Ny513.out] at ho7 | (simp only [Int.reduceToNat] at ho7; rw [← Ny513.out] at ho7)); have n0_ := Aside0.mk (Kd.R_lower ho7 (below_size bq)); have n1_ := Aside0.mk (below_step bq hb); clear HB; have HO515 := n0_; have HB := n1_; clear n0_ n1_; clear hb ho7)))
      go_loopg [6] k (fun kq v6 w' => ∃ (x5_1 : List Int) (x6_1 : Int), v6 = .int .i64 x6_1 ∧ Aside0 (schismaref02_times.l0 kq l0 l1 x5_1 x6_1 = some r) ∧ Aside0 (kq ≤ k) ∧ Aside0 (Kd.R (Kd.int .i64) 3 w' w.heap.size (fun _ => True) v514 x5_1) ∧ Aside0 (Below w.heap.size w w'))
      case atStart => exact ⟨(y513), (0), (by first | rfl | (simp; done) | (simp [*]; done)), H', ⟨Nat.le_refl _⟩, ⟨by (with_reducible repeat (first | apply Kd.R_alloc | apply Kd.R_drewN | apply Kd.R_drew)); exact HO515.out⟩, ⟨bq⟩⟩
      case round =>
        clear H'
        try clear c1
        try clear p2
        try clear c4
        try clear c4b0
        try clear c4b1
        try clear c5
        try clear c5b0
        try clear c5b1
        try clear p6
        obtain ⟨x5_1, x6_1, rfl, HA, HK1, HO_5, HB⟩ := hrel
        cases gk with
        | zero => exact absurd HA.out (by simp [schismaref02_times.l0])
        | succ k1 =>
          have H := HA.out
          clear HA
          simp only [schismaref02_times.l0] at H
          by_cases c8 : x6_1 < (l0.length : Int)
          · rw [if_pos c8] at H
            have c8b0 : decide (x6_1 < (l0.length : Int)) = true := decide_eq_true c8
            clear c8
            have H' := Aside0.mk H
            clear H
            go_wp2
            repeat (go_quiet (fail); try go_wp2)
            go_loopg [7, 8] k1 (fun kq v7 v8 w' => ∃ (x5_2 : List Int) (x7_2 : Int) (x8_2 : Int), v7 = .int .i64 x7_2 ∧ v8 = .int .i64 x8_2 ∧ Aside0 (schismaref02_times.l1 kq l0 l1 x5_2 x6_1 x7_2 x8_2 = some r) ∧ Aside0 (kq ≤ k1) ∧ Aside0 (Kd.R (Kd.int .i64) 3 w' w.heap.size (fun _ => True) v514 x5_2) ∧ Aside0 (Below w.heap.size w w'))
            case atStart => exact ⟨(x5_1), (0), (0), (by first | rfl | (simp; done) | (simp [*]; done)), (by first | rfl | (simp; done) | (simp [*]; done)), H', ⟨Nat.le_refl _⟩, ⟨by (with_reducible repeat (first | apply Kd.R_alloc | apply Kd.R_drewN | apply Kd.R_drew)); exact HO_5.out⟩, ⟨bq⟩⟩
            case round =>
              clear H'
              try clear c1
              try clear p2
              try clear c4
              try clear c4b0
              try clear c4b1
              try clear c5
              try clear c5b0
              try clear c5b1
              try clear p6
              try clear c8
              try clear c8b0
              try clear p2
              try clear p6
              obtain ⟨x5_2, x7_2, x8_2, rfl, rfl, HA, HK2, HO_5, HB⟩ := hrel
              cases gk with
              | zero => exact absurd HA.out (by simp [schismaref02_times.l1])
              | succ k2 =>
                have H := HA.out
                clear HA
                simp only [schismaref02_times.l1] at H
                have HC9 := Aside0.mk H
                clear H
                go_upto_region 7 with (fail)
                repeat (go_quiet (fail); go_upto_region 7 with (fail))
                go_cut [30] (fun v30 wc => ∃ (kq : Nat) (x30_8 : Bool), v30 = .bool x30_8 ∧ Aside0 (schismaref02_times.j2 kq l0 l1 x5_2 x6_1 x7_2 x8_2 x30_8 = some r) ∧ Aside0 (kq ≤ k2) ∧ Aside0 (Kd.R (Kd.int .i64) 3 wc w.heap.size (fun _ => True) v514 x5_2) ∧ Aside0 (Below w.heap.size w wc))
                case first =>
                  have H := HC9.out
                  clear HC9
                  by_cases c10 : x8_2 < (l1.length : Int)
                  · rw [if_pos c10] at H
                    have c10b0 : decide (x8_2 < (l1.length : Int)) = true := decide_eq_true c10
                    clear c10
                    (first | rw [c10b0] | (simp only [i64_w, i32_w]; rw [c10b0]) | skip)
                    have H' := Aside0.mk H
                    clear H
                    go_wp2
                    repeat (go_quiet (fail); try go_wp2)
                    go_meet
                    case rel => exact ⟨_, (true), (by first | rfl | (simp; done) | (simp [*]; done)), H', ⟨by have := HK1.out; have := HK2.out; first | omega | exact Nat.le_refl _⟩, ⟨by (with_reducible repeat (first | apply Kd.R_alloc | apply Kd.R_drewN | apply Kd.R_drew)); exact HO_5.out⟩, ⟨bq⟩⟩
                  · rw [if_neg c10] at H
                    have c10b0 : decide (x8_2 < (l1.length : Int)) = false := decide_eq_false c10
                    clear c10
                    (first | rw [c10b0] | (simp only [i64_w, i32_w]; rw [c10b0]) | skip)
                    have H' := Aside0.mk H
                    clear H
                    go_wp2
                    repeat (go_quiet (fail); try go_wp2)
                    go_meet
                    case rel => exact ⟨_, (decide (x7_2 > 0)), (by first | rfl | (simp; done) | (simp [*]; done)), H', ⟨by have := HK1.out; have := HK2.out; first | omega | exact Nat.le_refl _⟩, ⟨by (with_reducible repeat (first | apply Kd.R_alloc | apply Kd.R_drewN | apply Kd.R_drew)); exact HO_5.out⟩, ⟨bq⟩⟩
                case rest =>
                  clear HC9
                  try clear c1
                  try clear p2
                  try clear c4
                  try clear c4b0
                  try clear c4b1
                  try clear c5
                  try clear c5b0
                  try clear c5b1
                  try clear p6
                  try clear c8
                  try clear c8b0
                  try clear c10
                  try clear c10b0
                  try clear p2
                  try clear p6
                  obtain ⟨kq, x30_8, rfl, HA, HJ8, HO_5, HB⟩ := hcut
                  cases kq with
                  | zero => exact absurd HA.out (by simp [schismaref02_times.j2])
                  | succ kj8 =>
                    have H := HA.out
                    clear HA
                    simp only [schismaref02_times.j2] at H
                    by_cases c11 : x30_8 = true
                    · subst c11
                      have H1 : (if 0 ≤ (wrap64 (x6_1 + x8_2)) then (if (wrap64 (x6_1 + x8_2)) < (x5_2.length : Int) then (if x8_2 < (l1.length : Int) then (if 0 ≤ x6_1 then (if x6_1 < (l0.length : Int) then (if 0 ≤ x8_2 then (schismaref02_times.l1 kj8 l0 l1 (x5_2.set ((wrap64 (x6_1 + x8_2)) : Int).toNat (Int.tmod (wrap64 ((wrap64 ((rd x5_2 (wrap64 (x6_1 + x8_2))) + x7_2)) + (wrap64 ((rd l0 x6_1) * (rd l1 x8_2))))) 1000000000)) x6_1 (wrap64 (Int.tdiv (wrap64 ((wrap64 ((rd x5_2 (wrap64 (x6_1 + x8_2))) + x7_2)) + (wrap64 ((rd l0 x6_1) * (rd l1 x8_2))))) 1000000000)) (wrap64 (x8_2 + 1))) else (none)) else (none)) else (none)) else (schismaref02_times.l1 kj8 l0 l1 (x5_2.set ((wrap64 (x6_1 + x8_2)) : Int).toNat (Int.tmod (wrap64 ((rd x5_2 (wrap64 (x6_1 + x8_2))) + x7_2)) 1000000000)) x6_1 (wrap64 (Int.tdiv (wrap64 ((rd x5_2 (wrap64 (x6_1 + x8_2))) + x7_2)) 1000000000)) (wrap64 (x8_2 + 1)))) else (none)) else (none)) = some r := by rw [if_pos rfl] at H; exact H
                      clear H
                      have H := H1
                      clear H1
                      obtain ⟨ji12, hji12⟩ : ∃ j_ : Int, (wrap64 (x6_1 + x8_2)) = j_ := ⟨_, rfl⟩
                      replace H : (if 0 ≤ (ji12) then (if (ji12) < (x5_2.length : Int) then (if x8_2 < (l1.length : Int) then (if 0 ≤ x6_1 then (if x6_1 < (l0.length : Int) then (if 0 ≤ x8_2 then (schismaref02_times.l1 kj8 l0 l1 (x5_2.set ((ji12) : Int).toNat (Int.tmod (wrap64 ((wrap64 ((rd x5_2 (ji12)) + x7_2)) + (wrap64 ((rd l0 x6_1) * (rd l1 x8_2))))) 1000000000)) x6_1 (wrap64 (Int.tdiv (wrap64 ((wrap64 ((rd x5_2 (ji12)) + x7_2)) + (wrap64 ((rd l0 x6_1) * (rd l1 x8_2))))) 1000000000)) (wrap64 (x8_2 + 1))) else (none)) else (none)) else (none)) else (schismaref02_times.l1 kj8 l0 l1 (x5_2.set ((ji12) : Int).toNat (Int.tmod (wrap64 ((rd x5_2 (ji12)) + x7_2)) 1000000000)) x6_1 (wrap64 (Int.tdiv (wrap64 ((rd x5_2 (ji12)) + x7_2)) 1000000000)) (wrap64 (x8_2 + 1)))) else (none)) else (none)) = some r := by first | (rw [hji12] at H; exact H) | (simp only [hji12] at H ⊢; exact H)
                      have hji12w : (IntKind.i64.wrap (x6_1 + x8_2)) = ji12 := (i64_w _).trans hji12
                      by_cases c13 : 0 ≤ (ji12)
                      · rw [if_pos c13] at H
                        have c13b0 : decide (0 ≤ (ji12)) = true := decide_eq_true c13
                        clear c13
                        by_cases c14 : (ji12) < (x5_2.length : Int)
                        · rw [if_pos c14] at H
                          have c14b0 : decide ((ji12) < (x5_2.length : Int)) = true := decide_eq_true c14
                          clear c14
                          by_cases c15 : x8_2 < (l1.length : Int)
                          · rw [if_pos c15] at H
                            have c15b0 : decide (x8_2 < (l1.length : Int)) = true := decide_eq_true c15
                            clear c15
                            by_cases c16 : 0 ≤ x6_1
                            · rw [if_pos c16] at H
                              have c16b0 : decide (0 ≤ x6_1) = true := decide_eq_true c16
                              clear c16
                              by_cases c17 : x6_1 < (l0.length : Int)
                              · rw [if_pos c17] at H
                                have c17b0 : decide (x6_1 < (l0.length : Int)) = true := decide_eq_true c17
                                clear c17
                                by_cases c18 : 0 ≤ x8_2
                                · rw [if_pos c18] at H
                                  have c18b0 : decide (0 ≤ x8_2) = true := decide_eq_true c18
                                  clear c18
                                  obtain ⟨y522, hy522⟩ : ∃ y_ : List Int, y_ = (x5_2.set ((ji12) : Int).toNat (Int.tmod (wrap64 ((wrap64 ((rd x5_2 (ji12)) + x7_2)) + (wrap64 ((rd l0 x6_1) * (rd l1 x8_2))))) 1000000000)) := ⟨_, rfl⟩
                                  replace H : (schismaref02_times.l1 kj8 l0 l1 y522 x6_1 (wrap64 (Int.tdiv (wrap64 ((wrap64 ((rd x5_2 (ji12)) + x7_2)) + (wrap64 ((rd l0 x6_1) * (rd l1 x8_2))))) 1000000000)) (wrap64 (x8_2 + 1))) = some r := by first | (rw [hy522]; with_reducible exact H) | (have H2_ := (Option.bind_some _ _).symm.trans H; rw [hy522]; with_reducible exact H2_) | (have H2_ := (Option.bind_some _ _).symm.trans H; with_reducible exact H2_) | with_reducible exact H | (rw [hy522]; exact H) | exact H
                                  have Ny522 := Aside0.mk hy522
                                  clear hy522
                                  have H' := Aside0.mk H
                                  clear H
                                  obtain ⟨Ao20, co20, eo20⟩ := Kd.R_slice HO_5.out
                                  subst eo20
                                  have p519 : 0 ≤ ((ji12) : Int) := of_decide_eq_true (by first | (with_reducible assumption) | assumption)
                                  have q519 : (ji12) < (x5_2.length : Int) := of_decide_eq_true (by first | (with_reducible assumption) | assumption)
                                  obtain ⟨ad519, e519, hx519_0⟩ := Kd.at_int (Kd.R_reads' HO_5.out).2.2 (ji12) p519 q519
                                  cases e519
                                  replace p519 := eq_true p519
                                  replace q519 := eq_true q519
                                  have p520 : 0 ≤ (x6_1 : Int) := of_decide_eq_true (by first | (with_reducible assumption) | assumption)
                                  have q520 : x6_1 < (l0.length : Int) := of_decide_eq_true (by first | (with_reducible assumption) | assumption)
                                  obtain ⟨ad520, e520, hx520_0⟩ := Kd.at_int HR0.out x6_1 p520 q520
                                  cases e520
                                  replace hx520_0 := (HB.out.cell (World.block_lt_of_cell? w _ hx520_0)).trans hx520_0
                                  replace p520 := eq_true p520
                                  replace q520 := eq_true q520
                                  have p521 : 0 ≤ (x8_2 : Int) := of_decide_eq_true (by first | (with_reducible assumption) | assumption)
                                  have q521 : x8_2 < (l1.length : Int) := of_decide_eq_true (by first | (with_reducible assumption) | assumption)
                                  obtain ⟨ad521, e521, hx521_0⟩ := Kd.at_int HR1.out x8_2 p521 q521
                                  cases e521
                                  replace hx521_0 := (HB.out.cell (World.block_lt_of_cell? w _ hx521_0)).trans hx521_0
                                  replace p521 := eq_true p521
                                  replace q521 := eq_true q521
                                  have p19 : 0 ≤ ((ji12) : Int) := of_decide_eq_true (by first | (with_reducible assumption) | assumption)
                                  have q19 : ((ji12) : Int) < ((x5_2.length : Int) : Int) := of_decide_eq_true (by first | (with_reducible assumption) | assumption)
                                  obtain ⟨go19, co19, eo19, gb19, gl19, cl19, HG19⟩ := Kd.R_form HO_5.out (by omega)
                                  (first | cases eo19 | (injection eo19 with ea_ en_ ec_; (first | subst ea_ | (injection ea_ with ea_; subst ea_)); subst ec_; clear en_))
                                  have GB19 := Aside0.mk gb19
                                  have GG19 := Aside0.mk HG19
                                  clear gb19 gl19 HG19
                                  (first | simp only [add_plain] at hx519_0 | skip)
                                  obtain ⟨hx19_0, hf19_0⟩ := Kd.R_celln 0 HO_5.out ((ji12) : Int) p19 q19
                                  replace p19 := eq_true p19
                                  replace q19 := eq_true q19
                                  have HP21 := Kd.R_putg HO_5.out ((ji12) : Int) (Int.tmod (wrap64 ((wrap64 ((rd x5_2 (ji12)) + x7_2)) + (wrap64 ((rd l0 x6_1) * (rd l1 x8_2))))) 1000000000)
                                  go_wp2_with (first | ((with_reducible refine gate_store (t := 3) (p := 62) rfl ?_); (try (rw [drewN_self wc]; generalize hq_ : World.drewN wc _ = wc; have n0_ := Aside0.mk (Kd.R_at hq_ HO_5.out); have n1_ := Aside0.mk (below_at hq_ HB.out); clear hq_ HO_5 HB; have HO_5 := n0_; have HB := n1_; clear n0_ n1_; (try (obtain ⟨hx19_0, hf19_0⟩ := Kd.R_celln 0 HO_5.out ((ji12) : Int) (of_eq_true p19) (of_eq_true q19))); (try (have HP21 := Kd.R_putg HO_5.out ((ji12) : Int) (Int.tmod (wrap64 ((wrap64 ((rd x5_2 (ji12)) + x7_2)) + (wrap64 ((rd l0 x6_1) * (rd l1 x8_2))))) 1000000000))))); refine store_event (t := 3) (p := 62) (v := ?vo_w22) (w1 := (wc.setCell ⟨go19, ((ji12) : Int).toNat, none⟩ (.int .i64 (Int.tmod (wrap64 ((wrap64 ((rd x5_2 (ji12)) + x7_2)) + (wrap64 ((rd l0 x6_1) * (rd l1 x8_2))))) 1000000000)))) ?hg ?ho ?hn ?hr ?_; (case ho => rfl); (case hg => rfl); (case hn => rfl); (case hr => first | (go_simp; done) | (go_simp; rfl)); intro w22 hw; have hg : wc.grownBy w22 (some go19) := (by rw [hw]; exact HP21.2); have hp_ : Kd.R (Kd.int .i64) 3 w22 w.heap.size (fun _ => True) (.slice (some ⟨go19, 0, none⟩) x5_2.length co20) y522 := (by rw [hw, Ny522.out]; exact HP21.1); clear HP21; have n0_ := Aside0.mk (hp_); have n1_ := Aside0.mk ((by rw [hw]; exact below_set (HB.out) GB19.out : Below w.heap.size w w22)); clear HO_5; clear HB; have HO_5 := n0_; have HB := n1_; clear n0_ n1_; clear hg hw hp_))
                                  repeat (go_quiet (first | ((with_reducible refine gate_store (t := 3) (p := 62) rfl ?_); (try (rw [drewN_self wc]; generalize hq_ : World.drewN wc _ = wc; have n0_ := Aside0.mk (Kd.R_at hq_ HO_5.out); have n1_ := Aside0.mk (below_at hq_ HB.out); clear hq_ HO_5 HB; have HO_5 := n0_; have HB := n1_; clear n0_ n1_; (try (obtain ⟨hx19_0, hf19_0⟩ := Kd.R_celln 0 HO_5.out ((ji12) : Int) (of_eq_true p19) (of_eq_true q19))); (try (have HP21 := Kd.R_putg HO_5.out ((ji12) : Int) (Int.tmod (wrap64 ((wrap64 ((rd x5_2 (ji12)) + x7_2)) + (wrap64 ((rd l0 x6_1) * (rd l1 x8_2))))) 1000000000))))); refine store_event (t := 3) (p := 62) (v := ?vo_w22) (w1 := (wc.setCell ⟨go19, ((ji12) : Int).toNat, none⟩ (.int .i64 (Int.tmod (wrap64 ((wrap64 ((rd x5_2 (ji12)) + x7_2)) + (wrap64 ((rd l0 x6_1) * (rd l1 x8_2))))) 1000000000)))) ?hg ?ho ?hn ?hr ?_; (case ho => rfl); (case hg => rfl); (case hn => rfl); (case hr => first | (go_simp; done) | (go_simp; rfl)); intro w22 hw; have hg : wc.grownBy w22 (some go19) := (by rw [hw]; exact HP21.2); have hp_ : Kd.R (Kd.int .i64) 3 w22 w.heap.size (fun _ => True) (.slice (some ⟨go19, 0, none⟩) x5_2.length co20) y522 := (by rw [hw, Ny522.out]; exact HP21.1); clear HP21; have n0_ := Aside0.mk (hp_); have n1_ := Aside0.mk ((by rw [hw]; exact below_set (HB.out) GB19.out : Below w.heap.size w w22)); clear HO_5; clear HB; have HO_5 := n0_; have HB := n1_; clear n0_ n1_; clear hg hw hp_)); try go_wp2_with (first | ((with_reducible refine gate_store (t := 3) (p := 62) rfl ?_); (try (rw [drewN_self wc]; generalize hq_ : World.drewN wc _ = wc; have n0_ := Aside0.mk (Kd.R_at hq_ HO_5.out); have n1_ := Aside0.mk (below_at hq_ HB.out); clear hq_ HO_5 HB; have HO_5 := n0_; have HB := n1_; clear n0_ n1_; (try (obtain ⟨hx19_0, hf19_0⟩ := Kd.R_celln 0 HO_5.out ((ji12) : Int) (of_eq_true p19) (of_eq_true q19))); (try (have HP21 := Kd.R_putg HO_5.out ((ji12) : Int) (Int.tmod (wrap64 ((wrap64 ((rd x5_2 (ji12)) + x7_2)) + (wrap64 ((rd l0 x6_1) * (rd l1 x8_2))))) 1000000000))))); refine store_event (t := 3) (p := 62) (v := ?vo_w22) (w1 := (wc.setCell ⟨go19, ((ji12) : Int).toNat, none⟩ (.int .i64 (Int.tmod (wrap64 ((wrap64 ((rd x5_2 (ji12)) + x7_2)) + (wrap64 ((rd l0 x6_1) * (rd l1 x8_2))))) 1000000000)))) ?hg ?ho ?hn ?hr ?_; (case ho => rfl); (case hg => rfl); (case hn => rfl); (case hr => first | (go_simp; done) | (go_simp; rfl)); intro w22 hw; have hg : wc.grownBy w22 (some go19) := (by rw [hw]; exact HP21.2); have hp_ : Kd.R (Kd.int .i64) 3 w22 w.heap.size (fun _ => True) (.slice (some ⟨go19, 0, none⟩) x5_2.length co20) y522 := (by rw [hw, Ny522.out]; exact HP21.1); clear HP21; have n0_ := Aside0.mk (hp_); have n1_ := Aside0.mk ((by rw [hw]; exact below_set (HB.out) GB19.out : Below w.heap.size w w22)); clear HO_5; clear HB; have HO_5 := n0_; have HB := n1_; clear n0_ n1_; clear hg hw hp_)))
                                  go_roundg kj8
                                  case measure => have := HK1.out; have := HK2.out; have := HJ8.out; omega
                                  case rel => exact ⟨(y522), (wrap64 (Int.tdiv (wrap64 ((wrap64 ((rd x5_2 (ji12)) + x7_2)) + (wrap64 ((rd l0 x6_1) * (rd l1 x8_2))))) 1000000000)), (wrap64 (x8_2 + 1)), (by first | rfl | (simp; done) | (simp only [← hji12] <;> (first | rfl | simp)) | (simp [*]; done)), (by first | rfl | (simp; done) | (simp [*]; done)), H', ⟨by have := HK1.out; have := HK2.out; have := HJ8.out; omega⟩, ⟨by (with_reducible repeat (first | apply Kd.R_alloc | apply Kd.R_drewN | apply Kd.R_drew)); exact HO_5.out⟩, ⟨bq⟩⟩
                                · rw [if_neg c18] at H
                                  exact absurd H (by simp)
                              · rw [if_neg c17] at H
                                exact absurd H (by simp)
                            · rw [if_neg c16] at H
                              exact absurd H (by simp)
                          · rw [if_neg c15] at H
                            have c15b0 : decide (x8_2 < (l1.length : Int)) = false := decide_eq_false c15
                            clear c15
                            obtain ⟨y523, hy523⟩ : ∃ y_ : List Int, y_ = (x5_2.set ((ji12) : Int).toNat (Int.tmod (wrap64 ((rd x5_2 (ji12)) + x7_2)) 1000000000)) := ⟨_, rfl⟩
                            replace H : (schismaref02_times.l1 kj8 l0 l1 y523 x6_1 (wrap64 (Int.tdiv (wrap64 ((rd x5_2 (ji12)) + x7_2)) 1000000000)) (wrap64 (x8_2 + 1))) = some r := by first | (rw [hy523]; with_reducible exact H) | (have H2_ := (Option.bind_some _ _).symm.trans H; rw [hy523]; with_reducible exact H2_) | (have H2_ := (Option.bind_some _ _).symm.trans H; with_reducible exact H2_) | with_reducible exact H | (rw [hy523]; exact H) | exact H
                            have Ny523 := Aside0.mk hy523
                            clear hy523
                            have H' := Aside0.mk H
                            clear H
                            obtain ⟨Ao24, co24, eo24⟩ := Kd.R_slice HO_5.out
                            subst eo24
                            have p519 : 0 ≤ ((ji12) : Int) := of_decide_eq_true (by first | (with_reducible assumption) | assumption)
                            have q519 : (ji12) < (x5_2.length : Int) := of_decide_eq_true (by first | (with_reducible assumption) | assumption)
                            obtain ⟨ad519, e519, hx519_0⟩ := Kd.at_int (Kd.R_reads' HO_5.out).2.2 (ji12) p519 q519
                            cases e519
                            replace p519 := eq_true p519
                            replace q519 := eq_true q519
                            have p23 : 0 ≤ ((ji12) : Int) := of_decide_eq_true (by first | (with_reducible assumption) | assumption)
                            have q23 : ((ji12) : Int) < ((x5_2.length : Int) : Int) := of_decide_eq_true (by first | (with_reducible assumption) | assumption)
                            obtain ⟨go23, co23, eo23, gb23, gl23, cl23, HG23⟩ := Kd.R_form HO_5.out (by omega)
                            (first | cases eo23 | (injection eo23 with ea_ en_ ec_; (first | subst ea_ | (injection ea_ with ea_; subst ea_)); subst ec_; clear en_))
                            have GB23 := Aside0.mk gb23
                            have GG23 := Aside0.mk HG23
                            clear gb23 gl23 HG23
                            (first | simp only [add_plain] at hx519_0 | skip)
                            obtain ⟨hx23_0, hf23_0⟩ := Kd.R_celln 0 HO_5.out ((ji12) : Int) p23 q23
                            replace p23 := eq_true p23
                            replace q23 := eq_true q23
                            have HP25 := Kd.R_putg HO_5.out ((ji12) : Int) (Int.tmod (wrap64 ((rd x5_2 (ji12)) + x7_2)) 1000000000)
                            go_wp2_with (first | ((with_reducible refine gate_store (t := 3) (p := 62) rfl ?_); (try (rw [drewN_self wc]; generalize hq_ : World.drewN wc _ = wc; have n0_ := Aside0.mk (Kd.R_at hq_ HO_5.out); have n1_ := Aside0.mk (below_at hq_ HB.out); clear hq_ HO_5 HB; have HO_5 := n0_; have HB := n1_; clear n0_ n1_; (try (obtain ⟨hx23_0, hf23_0⟩ := Kd.R_celln 0 HO_5.out ((ji12) : Int) (of_eq_true p23) (of_eq_true q23))); (try (have HP25 := Kd.R_putg HO_5.out ((ji12) : Int) (Int.tmod (wrap64 ((rd x5_2 (ji12)) + x7_2)) 1000000000))))); refine store_event (t := 3) (p := 62) (v := ?vo_w26) (w1 := (wc.setCell ⟨go23, ((ji12) : Int).toNat, none⟩ (.int .i64 (Int.tmod (wrap64 ((rd x5_2 (ji12)) + x7_2)) 1000000000)))) ?hg ?ho ?hn ?hr ?_; (case ho => rfl); (case hg => rfl); (case hn => rfl); (case hr => first | (go_simp; done) | (go_simp; rfl)); intro w26 hw; have hg : wc.grownBy w26 (some go23) := (by rw [hw]; exact HP25.2); have hp_ : Kd.R (Kd.int .i64) 3 w26 w.heap.size (fun _ => True) (.slice (some ⟨go23, 0, none⟩) x5_2.length co24) y523 := (by rw [hw, Ny523.out]; exact HP25.1); clear HP25; have n0_ := Aside0.mk (hp_); have n1_ := Aside0.mk ((by rw [hw]; exact below_set (HB.out) GB23.out : Below w.heap.size w w26)); clear HO_5; clear HB; have HO_5 := n0_; have HB := n1_; clear n0_ n1_; clear hg hw hp_))
                            repeat (go_quiet (first | ((with_reducible refine gate_store (t := 3) (p := 62) rfl ?_); (try (rw [drewN_self wc]; generalize hq_ : World.drewN wc _ = wc; have n0_ := Aside0.mk (Kd.R_at hq_ HO_5.out); have n1_ := Aside0.mk (below_at hq_ HB.out); clear hq_ HO_5 HB; have HO_5 := n0_; have HB := n1_; clear n0_ n1_; (try (obtain ⟨hx23_0, hf23_0⟩ := Kd.R_celln 0 HO_5.out ((ji12) : Int) (of_eq_true p23) (of_eq_true q23))); (try (have HP25 := Kd.R_putg HO_5.out ((ji12) : Int) (Int.tmod (wrap64 ((rd x5_2 (ji12)) + x7_2)) 1000000000))))); refine store_event (t := 3) (p := 62) (v := ?vo_w26) (w1 := (wc.setCell ⟨go23, ((ji12) : Int).toNat, none⟩ (.int .i64 (Int.tmod (wrap64 ((rd x5_2 (ji12)) + x7_2)) 1000000000)))) ?hg ?ho ?hn ?hr ?_; (case ho => rfl); (case hg => rfl); (case hn => rfl); (case hr => first | (go_simp; done) | (go_simp; rfl)); intro w26 hw; have hg : wc.grownBy w26 (some go23) := (by rw [hw]; exact HP25.2); have hp_ : Kd.R (Kd.int .i64) 3 w26 w.heap.size (fun _ => True) (.slice (some ⟨go23, 0, none⟩) x5_2.length co24) y523 := (by rw [hw, Ny523.out]; exact HP25.1); clear HP25; have n0_ := Aside0.mk (hp_); have n1_ := Aside0.mk ((by rw [hw]; exact below_set (HB.out) GB23.out : Below w.heap.size w w26)); clear HO_5; clear HB; have HO_5 := n0_; have HB := n1_; clear n0_ n1_; clear hg hw hp_)); try go_wp2_with (first | ((with_reducible refine gate_store (t := 3) (p := 62) rfl ?_); (try (rw [drewN_self wc]; generalize hq_ : World.drewN wc _ = wc; have n0_ := Aside0.mk (Kd.R_at hq_ HO_5.out); have n1_ := Aside0.mk (below_at hq_ HB.out); clear hq_ HO_5 HB; have HO_5 := n0_; have HB := n1_; clear n0_ n1_; (try (obtain ⟨hx23_0, hf23_0⟩ := Kd.R_celln 0 HO_5.out ((ji12) : Int) (of_eq_true p23) (of_eq_true q23))); (try (have HP25 := Kd.R_putg HO_5.out ((ji12) : Int) (Int.tmod (wrap64 ((rd x5_2 (ji12)) + x7_2)) 1000000000))))); refine store_event (t := 3) (p := 62) (v := ?vo_w26) (w1 := (wc.setCell ⟨go23, ((ji12) : Int).toNat, none⟩ (.int .i64 (Int.tmod (wrap64 ((rd x5_2 (ji12)) + x7_2)) 1000000000)))) ?hg ?ho ?hn ?hr ?_; (case ho => rfl); (case hg => rfl); (case hn => rfl); (case hr => first | (go_simp; done) | (go_simp; rfl)); intro w26 hw; have hg : wc.grownBy w26 (some go23) := (by rw [hw]; exact HP25.2); have hp_ : Kd.R (Kd.int .i64) 3 w26 w.heap.size (fun _ => True) (.slice (some ⟨go23, 0, none⟩) x5_2.length co24) y523 := (by rw [hw, Ny523.out]; exact HP25.1); clear HP25; have n0_ := Aside0.mk (hp_); have n1_ := Aside0.mk ((by rw [hw]; exact below_set (HB.out) GB23.out : Below w.heap.size w w26)); clear HO_5; clear HB; have HO_5 := n0_; have HB := n1_; clear n0_ n1_; clear hg hw hp_)))
                            go_roundg kj8
                            case measure => have := HK1.out; have := HK2.out; have := HJ8.out; omega
                            case rel => exact ⟨(y523), (wrap64 (Int.tdiv (wrap64 ((rd x5_2 (ji12)) + x7_2)) 1000000000)), (wrap64 (x8_2 + 1)), (by first | rfl | (simp; done) | (simp only [← hji12] <;> (first | rfl | simp)) | (simp [*]; done)), (by first | rfl | (simp; done) | (simp [*]; done)), H', ⟨by have := HK1.out; have := HK2.out; have := HJ8.out; omega⟩, ⟨by (with_reducible repeat (first | apply Kd.R_alloc | apply Kd.R_drewN | apply Kd.R_drew)); exact HO_5.out⟩, ⟨bq⟩⟩
                        · rw [if_neg c14] at H
                          exact absurd H (by simp)
                      · rw [if_neg c13] at H
                        exact absurd H (by simp)
                    · replace c11 := Bool.eq_false_iff.mpr c11
                      subst c11
                      have H1 : (schismaref02_times.l0 kj8 l0 l1 x5_2 (wrap64 (x6_1 + 1))) = some r := by rw [if_neg (show ¬ (false = true) by decide)] at H; exact H
                      clear H
                      have H := H1
                      clear H1
                      have H' := Aside0.mk H
                      clear H
                      go_wp2
                      repeat (go_quiet (fail); try go_wp2)
                      go_roundg kj8
                      case measure => have := HK1.out; have := HK2.out; have := HJ8.out; omega
                      case rel => exact ⟨(x5_2), (wrap64 (x6_1 + 1)), (by first | rfl | (simp; done) | (simp [*]; done)), H', ⟨by have := HK1.out; have := HK2.out; have := HJ8.out; omega⟩, ⟨by (with_reducible repeat (first | apply Kd.R_alloc | apply Kd.R_drewN | apply Kd.R_drew)); exact HO_5.out⟩, ⟨bq⟩⟩
          · rw [if_neg c8] at H
            have c8b0 : decide (x6_1 < (l0.length : Int)) = false := decide_eq_false c8
            clear c8
            replace H := Option.bind_eq_some_iff.mp H
            obtain ⟨t516, A270, H⟩ := H
            replace H : (some t516) = some r := H
            have A27 := Aside0.mk A270
            clear A270
            obtain rfl := Option.some.inj H
            obtain ⟨Ao28, co28, eo28⟩ := Kd.R_slice HO_5.out
            subst eo28
            go_wp2_with (first | (go_at_call 65; (with_reducible refine (schismaref02_trim.calls k1 (fun k_ => some k_ = (.slice Ao28 x5_1.length co28 : Value).ownBlock) (.slice Ao28 x5_1.length co28) x5_1 t516 w _ ?side1 ?side2 A27.out).mono ?_); (case side1 => exact bq); (case side2 => exact Kd.R_tight rfl HO_5.out); rintro e w29 ⟨v517, rfl, ho0, hb, hkp⟩; have n0_ := Aside0.mk (Kd.R_mono (ok' := fun k_ => True) ho0 (fun k_ hk_ => trivial)); have n1_ := Aside0.mk (hb); clear HB; clear HO_5; have HO518 := n0_; have HB := n1_; clear n0_ n1_; (try clear hb); (try clear hkp); (try clear ho0)))
            repeat (go_quiet (first | (go_at_call 65; (with_reducible refine (schismaref02_trim.calls k1 (fun k_ => some k_ = (.slice Ao28 x5_1.length co28 : Value).ownBlock) (.slice Ao28 x5_1.length co28) x5_1 t516 w _ ?side1 ?side2 A27.out).mono ?_); (case side1 => exact bq); (case side2 => exact Kd.R_tight rfl HO_5.out); rintro e w29 ⟨v517, rfl, ho0, hb, hkp⟩; have n0_ := Aside0.mk (Kd.R_mono (ok' := fun k_ => True) ho0 (fun k_ hk_ => trivial)); have n1_ := Aside0.mk (hb); clear HB; clear HO_5; have HO518 := n0_; have HB := n1_; clear n0_ n1_; (try clear hb); (try clear hkp); (try clear ho0))); try go_wp2_with (first | (go_at_call 65; (with_reducible refine (schismaref02_trim.calls k1 (fun k_ => some k_ = (.slice Ao28 x5_1.length co28 : Value).ownBlock) (.slice Ao28 x5_1.length co28) x5_1 t516 w _ ?side1 ?side2 A27.out).mono ?_); (case side1 => exact bq); (case side2 => exact Kd.R_tight rfl HO_5.out); rintro e w29 ⟨v517, rfl, ho0, hb, hkp⟩; have n0_ := Aside0.mk (Kd.R_mono (ok' := fun k_ => True) ho0 (fun k_ hk_ => trivial)); have n1_ := Aside0.mk (hb); clear HB; clear HO_5; have HO518 := n0_; have HB := n1_; clear n0_ n1_; (try clear hb); (try clear hkp); (try clear ho0))))
            go_ret
            exact ⟨_, by first | rfl | (simp [errW_none, errW_some] <;> rfl) | (simp only [← hji3]; first | rfl | (simp [errW_none, errW_some] <;> rfl)) | (simp [*, errW_none, errW_some] <;> rfl), by (with_reducible repeat (first | apply Kd.R_alloc | apply Kd.R_drewN | apply Kd.R_drew)); exact HO518.out, bq⟩
    · rw [if_neg c5] at H
      exact absurd H (by simp)
  · rw [if_neg c4] at H
    exact absurd H (by simp)
def schismaref02_Mul.f (k : Nat) (a0 : ByteArray) (a1 : ByteArray) : Option (ByteArray) := (schismaref02_digits.f a0).bind fun t524 => ((schismaref02_digits.f a1).bind fun t525 => (if (wrap64 ((t524.size : Int) + (t525.size : Int))) ≤ 18 then ((schismaref02_quick.f k a0).bind fun bt526 => ((schismaref02_quick.f k a1).bind fun bt528 => ((schismaref02_Of.f (wrap64 (bt526.1 * bt528.1))).bind fun t530 => (some t530)))) else ((schismaref02_side.f a0).bind fun t531 => ((schismaref02_side.f a1).bind fun t532 => ((schismaref02_digits.f a0).bind fun t533 => ((schismaref02_split.f k t533).bind fun t534 => ((schismaref02_digits.f a1).bind fun t537 => ((schismaref02_split.f k t537).bind fun t538 => ((schismaref02_times.f k t534 t538).bind fun t541 => ((schismaref02_signed.f k (t531 != t532) t541).bind fun t544 => (some t544)))))))))))
theorem schismaref02_Mul.mono : ∀ a0 a1 k, LeO (schismaref02_Mul.f k a0 a1) (schismaref02_Mul.f (k + 1) a0 a1) := by
  intro a0 a1 k
  unfold schismaref02_Mul.f
  repeat' first
      | (with_reducible exact schismaref02_quick.mono _ _)
      | (with_reducible exact schismaref02_signed.mono _ _ _)
      | (with_reducible exact schismaref02_split.mono _ _)
      | (with_reducible exact schismaref02_times.mono _ _ _)
      | (with_reducible exact LeO.refl _)
      | (with_reducible exact LeO.none _)
      | (with_reducible refine LeO.ite ?_ ?_)
      | (with_reducible refine LeO.bind ?_ (fun _ => ?_))
      | exact schismaref02_quick.mono _ _
      | exact schismaref02_signed.mono _ _ _
      | exact schismaref02_split.mono _ _
      | exact schismaref02_times.mono _ _ _
      | exact LeO.none _
      | refine LeO.ite ?_ ?_
      | refine LeO.bind ?_ (fun _ => ?_)
set_option maxHeartbeats 8000000 in
set_option maxRecDepth 100000 in
theorem schismaref02_Mul.calls (k : Nat) (a0 : ByteArray) (a1 : ByteArray) (r : ByteArray) (w : World) (hT : Tab w) (h : schismaref02_Mul.f k a0 a1 = some r) :
    Calls Tryz.prog 19 #[.string a0, .string a1] w fun e w' => e = .returned (.string r) ∧ Below w.heap.size w w' := by
  have HT := Aside0.mk hT
  clear hT
  have HB := Aside0.mk (Below.refl w.heap.size w)
  have H : ((schismaref02_digits.f a0).bind fun t524 => ((schismaref02_digits.f a1).bind fun t525 => (if (wrap64 ((t524.size : Int) + (t525.size : Int))) ≤ 18 then ((schismaref02_quick.f k a0).bind fun bt526 => ((schismaref02_quick.f k a1).bind fun bt528 => ((schismaref02_Of.f (wrap64 (bt526.1 * bt528.1))).bind fun t530 => (some t530)))) else ((schismaref02_side.f a0).bind fun t531 => ((schismaref02_side.f a1).bind fun t532 => ((schismaref02_digits.f a0).bind fun t533 => ((schismaref02_split.f k t533).bind fun t534 => ((schismaref02_digits.f a1).bind fun t537 => ((schismaref02_split.f k t537).bind fun t538 => ((schismaref02_times.f k t534 t538).bind fun t541 => ((schismaref02_signed.f k (t531 != t532) t541).bind fun t544 => (some t544)))))))))))) = some r := h
  clear h
  replace H := Option.bind_eq_some_iff.mp H
  obtain ⟨t524, A30, H⟩ := H
  replace H : ((schismaref02_digits.f a1).bind fun t525 => (if (wrap64 ((t524.size : Int) + (t525.size : Int))) ≤ 18 then ((schismaref02_quick.f k a0).bind fun bt526 => ((schismaref02_quick.f k a1).bind fun bt528 => ((schismaref02_Of.f (wrap64 (bt526.1 * bt528.1))).bind fun t530 => (some t530)))) else ((schismaref02_side.f a0).bind fun t531 => ((schismaref02_side.f a1).bind fun t532 => ((schismaref02_digits.f a0).bind fun t533 => ((schismaref02_split.f k t533).bind fun t534 => ((schismaref02_digits.f a1).bind fun t537 => ((schismaref02_split.f k t537).bind fun t538 => ((schismaref02_times.f k t534 t538).bind fun t541 => ((schismaref02_signed.f k (t531 != t532) t541).bind fun t544 => (some t544))))))))))) = some r := H
  have A3 := Aside0.mk A30
  clear A30
  replace H := Option.bind_eq_some_iff.mp H
  obtain ⟨t525, A40, H⟩ := H
  replace H : (if (wrap64 ((t524.size : Int) + (t525.size : Int))) ≤ 18 then ((schismaref02_quick.f k a0).bind fun bt526 => ((schismaref02_quick.f k a1).bind fun bt528 => ((schismaref02_Of.f (wrap64 (bt526.1 * bt528.1))).bind fun t530 => (some t530)))) else ((schismaref02_side.f a0).bind fun t531 => ((schismaref02_side.f a1).bind fun t532 => ((schismaref02_digits.f a0).bind fun t533 => ((schismaref02_split.f k t533).bind fun t534 => ((schismaref02_digits.f a1).bind fun t537 => ((schismaref02_split.f k t537).bind fun t538 => ((schismaref02_times.f k t534 t538).bind fun t541 => ((schismaref02_signed.f k (t531 != t532) t541).bind fun t544 => (some t544)))))))))) = some r := H
  have A4 := Aside0.mk A40
  clear A40
  by_cases c5 : (wrap64 ((t524.size : Int) + (t525.size : Int))) ≤ 18
  · rw [if_pos c5] at H
    have c5b0 : decide ((wrap64 ((t524.size : Int) + (t525.size : Int))) ≤ 18) = true := decide_eq_true c5
    clear c5
    replace H := Option.bind_eq_some_iff.mp H
    obtain ⟨⟨t526, t527⟩, A60, H⟩ := H
    replace H : ((schismaref02_quick.f k a1).bind fun bt528 => ((schismaref02_Of.f (wrap64 (t526 * bt528.1))).bind fun t530 => (some t530))) = some r := H
    have A6 := Aside0.mk A60
    clear A60
    replace H := Option.bind_eq_some_iff.mp H
    obtain ⟨⟨t528, t529⟩, A70, H⟩ := H
    replace H : ((schismaref02_Of.f (wrap64 (t526 * t528))).bind fun t530 => (some t530)) = some r := H
    have A7 := Aside0.mk A70
    clear A70
    replace H := Option.bind_eq_some_iff.mp H
    obtain ⟨t530, A80, H⟩ := H
    replace H : (some t530) = some r := H
    have A8 := Aside0.mk A80
    clear A80
    obtain rfl := Option.some.inj H
    go_enter Tryz.func19, Tryz.ntmps19
    go_wp2_with (first | ((with_reducible refine gate_callee (f := 31) rfl ?_); refine goesL_ (some 10) rfl rfl Tryz.func31 (by kernel_rfl) rfl #[.string a0] rfl mq ?_; (with_reducible refine (schismaref02_digits.calls a0 t524 _ A3.out).mono ?_); rintro e w' ⟨rfl, ⟨nd, rfl⟩⟩; refine ⟨_, rfl, ?_⟩) | ((with_reducible refine gate_callee (f := 31) rfl ?_); refine goesL_ (some 13) rfl rfl Tryz.func31 (by kernel_rfl) rfl #[.string a1] rfl mq ?_; (with_reducible refine (schismaref02_digits.calls a1 t525 _ A4.out).mono ?_); rintro e w' ⟨rfl, ⟨nd, rfl⟩⟩; refine ⟨_, rfl, ?_⟩) | ((with_reducible refine gate_callee (f := 32) rfl ?_); refine goesL_ (some 19) rfl rfl Tryz.func32 (by kernel_rfl) rfl #[.string a0] rfl mq ?_; (with_reducible refine (schismaref02_quick.calls k a0 t526 t527 _ A6.out).mono ?_); rintro e w' ⟨rfl, ⟨nd, rfl⟩⟩; refine ⟨_, rfl, ?_⟩) | ((with_reducible refine gate_callee (f := 32) rfl ?_); refine goesL_ (some 24) rfl rfl Tryz.func32 (by kernel_rfl) rfl #[.string a1] rfl mq ?_; (with_reducible refine (schismaref02_quick.calls k a1 t528 t529 _ A7.out).mono ?_); rintro e w' ⟨rfl, ⟨nd, rfl⟩⟩; refine ⟨_, rfl, ?_⟩) | ((with_reducible refine gate_callee (f := 33) rfl ?_); refine goesL_ (some 30) rfl rfl Tryz.func33 (by kernel_rfl) rfl #[.int .i64 (wrap64 (t526 * t528))] rfl mq ?_; (with_reducible refine (schismaref02_Of.calls (hT := HT.out.below bq) (wrap64 (t526 * t528)) t530 _ A8.out).mono ?_); rintro e w9 ⟨rfl, hb⟩; refine ⟨_, rfl, ?_⟩; replace HB := Aside0.mk (below_step bq hb); (try clear hb); (try clear hb2); (try clear hk); (try clear hi)))
    go_ret
    exact ⟨eq_, bq⟩
  · rw [if_neg c5] at H
    have c5b0 : decide ((wrap64 ((t524.size : Int) + (t525.size : Int))) ≤ 18) = false := decide_eq_false c5
    clear c5
    replace H := Option.bind_eq_some_iff.mp H
    obtain ⟨t531, A100, H⟩ := H
    replace H : ((schismaref02_side.f a1).bind fun t532 => ((schismaref02_digits.f a0).bind fun t533 => ((schismaref02_split.f k t533).bind fun t534 => ((schismaref02_digits.f a1).bind fun t537 => ((schismaref02_split.f k t537).bind fun t538 => ((schismaref02_times.f k t534 t538).bind fun t541 => ((schismaref02_signed.f k (t531 != t532) t541).bind fun t544 => (some t544)))))))) = some r := H
    have A10 := Aside0.mk A100
    clear A100
    replace H := Option.bind_eq_some_iff.mp H
    obtain ⟨t532, A110, H⟩ := H
    replace H : ((schismaref02_digits.f a0).bind fun t533 => ((schismaref02_split.f k t533).bind fun t534 => ((schismaref02_digits.f a1).bind fun t537 => ((schismaref02_split.f k t537).bind fun t538 => ((schismaref02_times.f k t534 t538).bind fun t541 => ((schismaref02_signed.f k (t531 != t532) t541).bind fun t544 => (some t544))))))) = some r := H
    have A11 := Aside0.mk A110
    clear A110
    replace H := Option.bind_eq_some_iff.mp H
    obtain ⟨t533, A120, H⟩ := H
    replace H : ((schismaref02_split.f k t533).bind fun t534 => ((schismaref02_digits.f a1).bind fun t537 => ((schismaref02_split.f k t537).bind fun t538 => ((schismaref02_times.f k t534 t538).bind fun t541 => ((schismaref02_signed.f k (t531 != t532) t541).bind fun t544 => (some t544)))))) = some r := H
    have A12 := Aside0.mk A120
    clear A120
    have hq2_ : t524 = t533 := Option.some.inj (A3.out.symm.trans A12.out)
    obtain rfl := hq2_
    replace H := Option.bind_eq_some_iff.mp H
    obtain ⟨t534, A130, H⟩ := H
    replace H : ((schismaref02_digits.f a1).bind fun t537 => ((schismaref02_split.f k t537).bind fun t538 => ((schismaref02_times.f k t534 t538).bind fun t541 => ((schismaref02_signed.f k (t531 != t532) t541).bind fun t544 => (some t544))))) = some r := H
    have A13 := Aside0.mk A130
    clear A130
    replace H := Option.bind_eq_some_iff.mp H
    obtain ⟨t537, A140, H⟩ := H
    replace H : ((schismaref02_split.f k t537).bind fun t538 => ((schismaref02_times.f k t534 t538).bind fun t541 => ((schismaref02_signed.f k (t531 != t532) t541).bind fun t544 => (some t544)))) = some r := H
    have A14 := Aside0.mk A140
    clear A140
    have hq2_ : t525 = t537 := Option.some.inj (A4.out.symm.trans A14.out)
    obtain rfl := hq2_
    replace H := Option.bind_eq_some_iff.mp H
    obtain ⟨t538, A150, H⟩ := H
    replace H : ((schismaref02_times.f k t534 t538).bind fun t541 => ((schismaref02_signed.f k (t531 != t532) t541).bind fun t544 => (some t544))) = some r := H
    have A15 := Aside0.mk A150
    clear A150
    replace H := Option.bind_eq_some_iff.mp H
    obtain ⟨t541, A160, H⟩ := H
    replace H : ((schismaref02_signed.f k (t531 != t532) t541).bind fun t544 => (some t544)) = some r := H
    have A16 := Aside0.mk A160
    clear A160
    replace H := Option.bind_eq_some_iff.mp H
    obtain ⟨t544, A170, H⟩ := H
    replace H : (some t544) = some r := H
    have A17 := Aside0.mk A170
    clear A170
    obtain rfl := Option.some.inj H
    go_enter Tryz.func19, Tryz.ntmps19
    have A17n := A17
    try rw [neq_bools] at A17n
    go_wp2_with (first | ((with_reducible refine gate_callee (f := 31) rfl ?_); refine goesL_ (some 10) rfl rfl Tryz.func31 (by kernel_rfl) rfl #[.string a0] rfl mq ?_; (with_reducible refine (schismaref02_digits.calls a0 t524 _ A3.out).mono ?_); rintro e w' ⟨rfl, ⟨nd, rfl⟩⟩; refine ⟨_, rfl, ?_⟩) | ((with_reducible refine gate_callee (f := 31) rfl ?_); refine goesL_ (some 13) rfl rfl Tryz.func31 (by kernel_rfl) rfl #[.string a1] rfl mq ?_; (with_reducible refine (schismaref02_digits.calls a1 t525 _ A4.out).mono ?_); rintro e w' ⟨rfl, ⟨nd, rfl⟩⟩; refine ⟨_, rfl, ?_⟩) | ((with_reducible refine gate_callee (f := 35) rfl ?_); refine goesL_ (some 32) rfl rfl Tryz.func35 (by kernel_rfl) rfl #[.string a0] rfl mq ?_; (with_reducible refine (schismaref02_side.calls a0 t531 _ A10.out).mono ?_); rintro e w' ⟨rfl, ⟨nd, rfl⟩⟩; refine ⟨_, rfl, ?_⟩) | ((with_reducible refine gate_callee (f := 35) rfl ?_); refine goesL_ (some 34) rfl rfl Tryz.func35 (by kernel_rfl) rfl #[.string a1] rfl mq ?_; (with_reducible refine (schismaref02_side.calls a1 t532 _ A11.out).mono ?_); rintro e w' ⟨rfl, ⟨nd, rfl⟩⟩; refine ⟨_, rfl, ?_⟩) | ((with_reducible refine gate_callee (f := 31) rfl ?_); refine goesL_ (some 37) rfl rfl Tryz.func31 (by kernel_rfl) rfl #[.string a0] rfl mq ?_; (with_reducible refine (schismaref02_digits.calls a0 t524 _ A12.out).mono ?_); rintro e w' ⟨rfl, ⟨nd, rfl⟩⟩; refine ⟨_, rfl, ?_⟩) | ((with_reducible refine gate_callee (f := 34) rfl ?_); refine goesL_ (some 38) rfl rfl Tryz.func34 (by kernel_rfl) rfl #[.string t524] rfl mq ?_; (with_reducible refine (schismaref02_split.calls k t524 t534 _ A13.out).mono ?_); rintro e w18 ⟨v535, rfl, ho0, hb⟩; refine ⟨_, rfl, ?_⟩; have n0_ := Aside0.mk (Kd.R_lower ho0 (below_size bq)); have n1_ := Aside0.mk (below_step bq hb); clear HB; have HO536 := n0_; have HB := n1_; clear n0_ n1_; (try clear hb); (try clear hb2); (try clear hk); (try clear hi); (try clear ho0)) | ((with_reducible refine gate_callee (f := 31) rfl ?_); refine goesL_ (some 40) rfl rfl Tryz.func31 (by kernel_rfl) rfl #[.string a1] rfl mq ?_; (with_reducible refine (schismaref02_digits.calls a1 t525 _ A14.out).mono ?_); rintro e w' ⟨rfl, ⟨nd, rfl⟩⟩; refine ⟨_, rfl, ?_⟩) | ((with_reducible refine gate_callee (f := 34) rfl ?_); refine goesL_ (some 41) rfl rfl Tryz.func34 (by kernel_rfl) rfl #[.string t525] rfl mq ?_; (with_reducible refine (schismaref02_split.calls k t525 t538 _ A15.out).mono ?_); rintro e w19 ⟨v539, rfl, ho0, hb⟩; refine ⟨_, rfl, ?_⟩; have n0_ := Aside0.mk (Kd.R_elder' (by (with_reducible repeat (first | apply Kd.R_alloc | apply Kd.R_drewN | apply Kd.R_drew)); exact HO536.out) (Kd.R_base ho0) hb); have n1_ := Aside0.mk (Kd.R_lower (Kd.R_new' ho0 (Kd.R_lt (by (with_reducible repeat (first | apply Kd.R_alloc | apply Kd.R_drewN | apply Kd.R_drew)); exact HO536.out))) (below_size bq)); have n2_ := Aside0.mk (below_step bq hb); clear HO536; clear HB; have HO536 := n0_; have HO540 := n1_; have HB := n2_; clear n0_ n1_ n2_; (try clear hb); (try clear hb2); (try clear hk); (try clear hi); (try clear ho0); obtain ⟨Ao20, co20, eo20⟩ := Kd.R_slice HO536.out; subst eo20; obtain ⟨Ao21, co21, eo21⟩ := Kd.R_slice HO540.out; subst eo21) | ((with_reducible refine gate_callee (f := 49) rfl ?_); refine goesL_ (some 42) rfl rfl Tryz.func49 (by kernel_rfl) rfl #[.slice Ao20 t534.length co20, .slice Ao21 t538.length co21] rfl mq ?_; (with_reducible refine (schismaref02_times.calls k _ _ t534 _ _ t538 t541 _ ?side1 ?side2 ?side3 ?side4 A16.out).mono ?_); (case side1 => repeat (first | exact (Kd.R_reads' HO536.out).2.2 | (with_reducible refine Kd.C_alloc ?_ _) | (with_reducible refine Kd.C_drewN ?_ _) | (with_reducible refine Kd.C_drew ?_))); (case side2 => exact (Kd.R_reads' HO536.out).2.1); (case side3 => repeat (first | exact (Kd.R_reads' HO540.out).2.2 | (with_reducible refine Kd.C_alloc ?_ _) | (with_reducible refine Kd.C_drewN ?_ _) | (with_reducible refine Kd.C_drew ?_))); (case side4 => exact (Kd.R_reads' HO540.out).2.1); rintro e w22 ⟨v542, rfl, ho0, hb⟩; refine ⟨_, rfl, ?_⟩; have n0_ := Aside0.mk (Kd.R_elder' (by (with_reducible repeat (first | apply Kd.R_alloc | apply Kd.R_drewN | apply Kd.R_drew)); exact HO536.out) (Kd.R_base ho0) hb); have n1_ := Aside0.mk (Kd.R_elder' (by (with_reducible repeat (first | apply Kd.R_alloc | apply Kd.R_drewN | apply Kd.R_drew)); exact HO540.out) (Kd.R_base ho0) hb); have n2_ := Aside0.mk (Kd.R_lower (Kd.R_new' (Kd.R_new' ho0 (Kd.R_lt (by (with_reducible repeat (first | apply Kd.R_alloc | apply Kd.R_drewN | apply Kd.R_drew)); exact HO536.out))) (Kd.R_lt (by (with_reducible repeat (first | apply Kd.R_alloc | apply Kd.R_drewN | apply Kd.R_drew)); exact HO540.out))) (below_size bq)); have n3_ := Aside0.mk (below_step bq hb); clear HO536; clear HO540; clear HB; have HO536 := n0_; have HO540 := n1_; have HO543 := n2_; have HB := n3_; clear n0_ n1_ n2_ n3_; (try clear hb); (try clear hb2); (try clear hk); (try clear hi); (try clear ho0); obtain ⟨Ao23, co23, eo23⟩ := Kd.R_slice HO543.out; subst eo23) | ((with_reducible refine gate_callee (f := 36) rfl ?_); refine goesL_ (some 43) rfl rfl Tryz.func36 (by kernel_rfl) rfl #[.bool (t531 != t532), .slice Ao23 t541.length co23] rfl mq ?_; (first | with_reducible refine (schismaref02_signed.calls (hT := HT.out) k (t531 != t532) (fun k_ => some k_ = (.slice Ao23 t541.length co23 : Value).ownBlock) (.slice Ao23 t541.length co23) t541 t544 w _ ?side1 ?side2 A17.out).mono ?_ | with_reducible refine (schismaref02_signed.calls (hT := HT.out) k (!(t531 == t532)) (fun k_ => some k_ = (.slice Ao23 t541.length co23 : Value).ownBlock) (.slice Ao23 t541.length co23) t541 t544 w _ ?side1 ?side2 A17n.out).mono ?_); (case side1 => exact bq); (case side2 => exact Kd.R_tight rfl HO543.out); rintro e w24 ⟨rfl, hb, hkp⟩; refine ⟨_, rfl, ?_⟩; have n0_ := Aside0.mk (Kd.R_mono (ok' := fun k_ => some k_ ≠ (.slice Ao21 t538.length co21 : Value).ownBlock) (Kd.R_keptB (HO536.out) hkp (fun k_ hk_ hs_ => (hk_.2) hs_)) (fun k_ hk_ => hk_.1.1.2)); have n1_ := Aside0.mk (Kd.R_mono (ok' := fun k_ => some k_ ≠ (.slice Ao20 t534.length co20 : Value).ownBlock) (Kd.R_keptB (HO540.out) hkp (fun k_ hk_ hs_ => (hk_.2) hs_)) (fun k_ hk_ => hk_.1.1.2)); have n2_ := Aside0.mk (hb); clear HO536; clear HO540; clear HB; clear HO543; have HO536 := n0_; have HO540 := n1_; have HB := n2_; clear n0_ n1_ n2_; (try clear hb); (try clear hkp)))
    go_ret
    exact ⟨eq_, bq⟩
def schismaref02_Power.l0 : Nat → ByteArray → Int → ByteArray → Option (ByteArray)
  | 0, _, _, _ => none
  | k + 1, x0, x1, x5 => if x1 > 0 then (if (Int.tmod x1 2) = 1 then ((schismaref02_Mul.f k x5 x0).bind fun t545 => (if (wrap64 (Int.tdiv x1 2)) > 0 then ((schismaref02_Mul.f k x0 x0).bind fun t546 => (schismaref02_Power.l0 k t546 (wrap64 (Int.tdiv x1 2)) t545)) else (schismaref02_Power.l0 k x0 (wrap64 (Int.tdiv x1 2)) t545))) else (if (wrap64 (Int.tdiv x1 2)) > 0 then ((schismaref02_Mul.f k x0 x0).bind fun t547 => (schismaref02_Power.l0 k t547 (wrap64 (Int.tdiv x1 2)) x5)) else (schismaref02_Power.l0 k x0 (wrap64 (Int.tdiv x1 2)) x5))) else (some x5)
def schismaref02_Power.f (k : Nat) (a0 : ByteArray) (a1 : Int) : Option (ByteArray) := schismaref02_Power.l0 k a0 a1 (⟨#[49]⟩ : ByteArray)
theorem schismaref02_Power.mono_l : ∀ k, (∀ y0 y1 y2, LeO (schismaref02_Power.l0 k y0 y1 y2) (schismaref02_Power.l0 (k + 1) y0 y1 y2))
  | 0 => fun _ _ _ r h => by simp [schismaref02_Power.l0] at h
  | k + 1 => by
    have ih0 := schismaref02_Power.mono_l k
    · intro y0 y1 y2
      unfold schismaref02_Power.l0
      repeat' first
      | (with_reducible exact ih0 _ _ _)
      | (with_reducible exact schismaref02_Mul.mono _ _ _)
      | (with_reducible exact LeO.refl _)
      | (with_reducible exact LeO.none _)
      | (with_reducible refine LeO.ite ?_ ?_)
      | (with_reducible refine LeO.bind ?_ (fun _ => ?_))
      | exact ih0 _ _ _
      | exact schismaref02_Mul.mono _ _ _
      | exact LeO.none _
      | refine LeO.ite ?_ ?_
      | refine LeO.bind ?_ (fun _ => ?_)
theorem schismaref02_Power.mono : ∀ a0 a1 k, LeO (schismaref02_Power.f k a0 a1) (schismaref02_Power.f (k + 1) a0 a1) := by
  intro a0 a1 k
  have ih0 := schismaref02_Power.mono_l k
  unfold schismaref02_Power.f
  repeat' first
      | (with_reducible exact ih0 _ _ _)
      | (with_reducible exact schismaref02_Mul.mono _ _ _)
      | (with_reducible exact LeO.refl _)
      | (with_reducible exact LeO.none _)
      | (with_reducible refine LeO.ite ?_ ?_)
      | (with_reducible refine LeO.bind ?_ (fun _ => ?_))
      | exact ih0 _ _ _
      | exact schismaref02_Mul.mono _ _ _
      | exact LeO.none _
      | refine LeO.ite ?_ ?_
      | refine LeO.bind ?_ (fun _ => ?_)
set_option maxHeartbeats 8000000 in
set_option maxRecDepth 100000 in
theorem schismaref02_Power.calls (k : Nat) (a0 : ByteArray) (a1 : Int) (r : ByteArray) (w : World) (hT : Tab w) (h : schismaref02_Power.f k a0 a1 = some r) :
    Calls Tryz.prog 11 #[.string a0, .int .i64 a1] w fun e w' => e = .returned (.string r) ∧ Below w.heap.size w w' := by
  have HT := Aside0.mk hT
  clear hT
  have HB := Aside0.mk (Below.refl w.heap.size w)
  have H : (schismaref02_Power.l0 k a0 a1 (⟨#[49]⟩ : ByteArray)) = some r := h
  clear h
  have H' := Aside0.mk H
  clear H
  go_enter Tryz.func11, Tryz.ntmps11
  go_wp2
  go_loopg [0, 1, 5] k (fun kq v0 v1 v5 w' => ∃ (x0_1 : ByteArray) (x1_1 : Int) (x5_1 : ByteArray), v0 = .string x0_1 ∧ v1 = .int .i64 x1_1 ∧ v5 = .string x5_1 ∧ Aside0 (schismaref02_Power.l0 kq x0_1 x1_1 x5_1 = some r) ∧ Aside0 (kq ≤ k) ∧ Aside0 (Below w.heap.size w w'))
  case atStart => exact ⟨(a0), (a1), ((⟨#[49]⟩ : ByteArray)), (by first | rfl | (simp; done) | (simp [*]; done)), (by first | rfl | (simp; done) | (simp [*]; done)), (by first | rfl | (simp; done) | (simp [*]; done)), H', ⟨Nat.le_refl _⟩, ⟨bq⟩⟩
  case round =>
    clear H'
    try clear c1
    try clear p2
    obtain ⟨x0_1, x1_1, x5_1, rfl, rfl, rfl, HA, HK1, HB⟩ := hrel
    cases gk with
    | zero => exact absurd HA.out (by simp [schismaref02_Power.l0])
    | succ k1 =>
      have H := HA.out
      clear HA
      simp only [schismaref02_Power.l0] at H
      by_cases c3 : x1_1 > 0
      · rw [if_pos c3] at H
        have c3b0 : decide (0 < x1_1) = true := decide_eq_true c3
        clear c3
        by_cases c4 : (Int.tmod x1_1 2) = 1
        · rw [if_pos c4] at H
          have c4b0 : ((Int.tmod x1_1 2) == 1) = true := beq_iff_eq.mpr c4
          have c4b1 : ((Int.tmod x1_1 2) != 1) = false := bne_eq_false_iff_eq.mpr c4
          clear c4
          replace H := Option.bind_eq_some_iff.mp H
          obtain ⟨t545, A50, H⟩ := H
          replace H : (if (wrap64 (Int.tdiv x1_1 2)) > 0 then ((schismaref02_Mul.f k1 x0_1 x0_1).bind fun t546 => (schismaref02_Power.l0 k1 t546 (wrap64 (Int.tdiv x1_1 2)) t545)) else (schismaref02_Power.l0 k1 x0_1 (wrap64 (Int.tdiv x1_1 2)) t545)) = some r := H
          have A5 := Aside0.mk A50
          clear A50
          by_cases c6 : (wrap64 (Int.tdiv x1_1 2)) > 0
          · rw [if_pos c6] at H
            have c6b0 : decide (0 < (wrap64 (Int.tdiv x1_1 2))) = true := decide_eq_true c6
            clear c6
            replace H := Option.bind_eq_some_iff.mp H
            obtain ⟨t546, A70, H⟩ := H
            replace H : (schismaref02_Power.l0 k1 t546 (wrap64 (Int.tdiv x1_1 2)) t545) = some r := H
            have A7 := Aside0.mk A70
            clear A70
            have H' := Aside0.mk H
            clear H
            go_wp2_with (first | ((with_reducible refine gate_callee (f := 19) rfl ?_); refine goesL_ (some 13) rfl rfl Tryz.func19 (by kernel_rfl) rfl #[.string x5_1, .string x0_1] rfl mq ?_; (with_reducible refine (schismaref02_Mul.calls (hT := HT.out.below bq) k1 x5_1 x0_1 t545 _ A5.out).mono ?_); rintro e w8 ⟨rfl, hb⟩; refine ⟨_, rfl, ?_⟩; replace HB := Aside0.mk (below_step bq hb); (try clear hb); (try clear hb2); (try clear hk); (try clear hi)) | ((with_reducible refine gate_callee (f := 19) rfl ?_); refine goesL_ (some 20) rfl rfl Tryz.func19 (by kernel_rfl) rfl #[.string x0_1, .string x0_1] rfl mq ?_; (with_reducible refine (schismaref02_Mul.calls (hT := HT.out.below bq) k1 x0_1 x0_1 t546 _ A7.out).mono ?_); rintro e w9 ⟨rfl, hb⟩; refine ⟨_, rfl, ?_⟩; replace HB := Aside0.mk (below_step bq hb); (try clear hb); (try clear hb2); (try clear hk); (try clear hi)))
            go_roundg k1
            case measure => have := HK1.out; omega
            case rel => exact ⟨(t546), (wrap64 (Int.tdiv x1_1 2)), (t545), (by first | rfl | (simp; done) | (simp [*]; done)), (by first | rfl | (simp; done) | (simp [*]; done)), (by first | rfl | (simp; done) | (simp [*]; done)), H', ⟨by have := HK1.out; omega⟩, ⟨bq⟩⟩
          · rw [if_neg c6] at H
            have c6b0 : decide (0 < (wrap64 (Int.tdiv x1_1 2))) = false := decide_eq_false c6
            clear c6
            have H' := Aside0.mk H
            clear H
            go_wp2_with (first | ((with_reducible refine gate_callee (f := 19) rfl ?_); refine goesL_ (some 13) rfl rfl Tryz.func19 (by kernel_rfl) rfl #[.string x5_1, .string x0_1] rfl mq ?_; (with_reducible refine (schismaref02_Mul.calls (hT := HT.out.below bq) k1 x5_1 x0_1 t545 _ A5.out).mono ?_); rintro e w10 ⟨rfl, hb⟩; refine ⟨_, rfl, ?_⟩; replace HB := Aside0.mk (below_step bq hb); (try clear hb); (try clear hb2); (try clear hk); (try clear hi)))
            go_roundg k1
            case measure => have := HK1.out; omega
            case rel => exact ⟨(x0_1), (wrap64 (Int.tdiv x1_1 2)), (t545), (by first | rfl | (simp; done) | (simp [*]; done)), (by first | rfl | (simp; done) | (simp [*]; done)), (by first | rfl | (simp; done) | (simp [*]; done)), H', ⟨by have := HK1.out; omega⟩, ⟨bq⟩⟩
        · rw [if_neg c4] at H
          have c4b0 : ((Int.tmod x1_1 2) == 1) = false := beq_eq_false_iff_ne.mpr c4
          have c4b1 : ((Int.tmod x1_1 2) != 1) = true := bne_iff_ne.mpr c4
          by_cases c11 : (wrap64 (Int.tdiv x1_1 2)) > 0
          · rw [if_pos c11] at H
            have c11b0 : decide (0 < (wrap64 (Int.tdiv x1_1 2))) = true := decide_eq_true c11
            clear c11
            replace H := Option.bind_eq_some_iff.mp H
            obtain ⟨t547, A120, H⟩ := H
            replace H : (schismaref02_Power.l0 k1 t547 (wrap64 (Int.tdiv x1_1 2)) x5_1) = some r := H
            have A12 := Aside0.mk A120
            clear A120
            have H' := Aside0.mk H
            clear H
            go_wp2_with (first | ((with_reducible refine gate_callee (f := 19) rfl ?_); refine goesL_ (some 20) rfl rfl Tryz.func19 (by kernel_rfl) rfl #[.string x0_1, .string x0_1] rfl mq ?_; (with_reducible refine (schismaref02_Mul.calls (hT := HT.out.below bq) k1 x0_1 x0_1 t547 _ A12.out).mono ?_); rintro e w13 ⟨rfl, hb⟩; refine ⟨_, rfl, ?_⟩; replace HB := Aside0.mk (below_step bq hb); (try clear hb); (try clear hb2); (try clear hk); (try clear hi)))
            go_roundg k1
            case measure => have := HK1.out; omega
            case rel => exact ⟨(t547), (wrap64 (Int.tdiv x1_1 2)), (x5_1), (by first | rfl | (simp; done) | (simp [*]; done)), (by first | rfl | (simp; done) | (simp [*]; done)), (by first | rfl | (simp; done) | (simp [*]; done)), H', ⟨by have := HK1.out; omega⟩, ⟨bq⟩⟩
          · rw [if_neg c11] at H
            have c11b0 : decide (0 < (wrap64 (Int.tdiv x1_1 2))) = false := decide_eq_false c11
            clear c11
            have H' := Aside0.mk H
            clear H
            go_wp2
            go_roundg k1
            case measure => have := HK1.out; omega
            case rel => exact ⟨(x0_1), (wrap64 (Int.tdiv x1_1 2)), (x5_1), (by first | rfl | (simp; done) | (simp [*]; done)), (by first | rfl | (simp; done) | (simp [*]; done)), (by first | rfl | (simp; done) | (simp [*]; done)), H', ⟨by have := HK1.out; omega⟩, ⟨bq⟩⟩
      · rw [if_neg c3] at H
        have c3b0 : decide (0 < x1_1) = false := decide_eq_false c3
        clear c3
        obtain rfl := Option.some.inj H
        go_wp2
        go_ret
        exact ⟨eq_, bq⟩
def schismalaw02_WholePowers.f (k : Nat) (a0_0 : Bool) (l0_1 : List Int) (a1 : Int) : Option (Bool) := (schismalaw02_known.f k).bind fun t549 => (if t549 = true then ((schismalaw02_Make.f k a0_0 l0_1 20).bind fun t550 => ((whole_Power.f k t550 a1).bind fun bt551 => (if a1 < 0 then (if bt551.1.toList = ([] : List UInt8) then (some (bt551.2 == 3)) else (some false)) else ((schismaref02_Abs.f t550).bind fun t553 => (if (t553.size : Int) = 0 then (none) else (if a1 > ((4000 : Int) / (t553.size : Int)) then (if bt551.1.toList = ([] : List UInt8) then (some (bt551.2 == 4)) else (some false)) else (if bt551.2 = 0 then (if a1 > 40 then (some true) else ((schismaref02_Power.f k t550 a1).bind fun t554 => (some (bt551.1.toList == t554.toList)))) else (some false)))))))) else (some false))
theorem schismalaw02_WholePowers.mono : ∀ a0 a1 a2 k, LeO (schismalaw02_WholePowers.f k a0 a1 a2) (schismalaw02_WholePowers.f (k + 1) a0 a1 a2) := by
  intro a0 a1 a2 k
  unfold schismalaw02_WholePowers.f
  repeat' first
      | (with_reducible exact schismalaw02_Make.mono _ _ _ _)
      | (with_reducible exact schismalaw02_known.mono _)
      | (with_reducible exact schismaref02_Power.mono _ _ _)
      | (with_reducible exact whole_Power.mono _ _ _)
      | (with_reducible exact LeO.refl _)
      | (with_reducible exact LeO.none _)
      | (with_reducible refine LeO.ite ?_ ?_)
      | (with_reducible refine LeO.bind ?_ (fun _ => ?_))
      | exact schismalaw02_Make.mono _ _ _ _
      | exact schismalaw02_known.mono _
      | exact schismaref02_Power.mono _ _ _
      | exact whole_Power.mono _ _ _
      | exact LeO.none _
      | refine LeO.ite ?_ ?_
      | refine LeO.bind ?_ (fun _ => ?_)
set_option maxHeartbeats 8000000 in
set_option maxRecDepth 100000 in
theorem schismalaw02_WholePowers.calls (k : Nat) (a0_0 : Bool) (A0_1 : Option Addr) (c0_1 : Nat) (l0_1 : List Int) (a1 : Int) (r : Bool) (w : World) (hr0_1 : Kd.C (Kd.int .u8) w A0_1 l0_1.length l0_1) (hc0_1 : l0_1.length ≤ c0_1) (hT : Tab w) (h : schismalaw02_WholePowers.f k a0_0 l0_1 a1 = some r) :
    Calls Tryz.prog 3 #[.agg #[.bool a0_0, .slice A0_1 l0_1.length c0_1], .int .i64 a1] w fun e w' => e = .returned (.bool r) ∧ Below w.heap.size w w' := by
  have HT := Aside0.mk hT
  clear hT
  have hu24 := Tryz.underlying24
  have HR0_1 := Aside0.mk hr0_1
  have HC0_1 := Aside0.mk hc0_1
  clear hr0_1 hc0_1
  have HB := Aside0.mk (Below.refl w.heap.size w)
  have H : ((schismalaw02_known.f k).bind fun t549 => (if t549 = true then ((schismalaw02_Make.f k a0_0 l0_1 20).bind fun t550 => ((whole_Power.f k t550 a1).bind fun bt551 => (if a1 < 0 then (if bt551.1.toList = ([] : List UInt8) then (some (bt551.2 == 3)) else (some false)) else ((schismaref02_Abs.f t550).bind fun t553 => (if (t553.size : Int) = 0 then (none) else (if a1 > ((4000 : Int) / (t553.size : Int)) then (if bt551.1.toList = ([] : List UInt8) then (some (bt551.2 == 4)) else (some false)) else (if bt551.2 = 0 then (if a1 > 40 then (some true) else ((schismaref02_Power.f k t550 a1).bind fun t554 => (some (bt551.1.toList == t554.toList)))) else (some false)))))))) else (some false))) = some r := h
  clear h
  replace H := Option.bind_eq_some_iff.mp H
  obtain ⟨t549, A30, H⟩ := H
  replace H : (if t549 = true then ((schismalaw02_Make.f k a0_0 l0_1 20).bind fun t550 => ((whole_Power.f k t550 a1).bind fun bt551 => (if a1 < 0 then (if bt551.1.toList = ([] : List UInt8) then (some (bt551.2 == 3)) else (some false)) else ((schismaref02_Abs.f t550).bind fun t553 => (if (t553.size : Int) = 0 then (none) else (if a1 > ((4000 : Int) / (t553.size : Int)) then (if bt551.1.toList = ([] : List UInt8) then (some (bt551.2 == 4)) else (some false)) else (if bt551.2 = 0 then (if a1 > 40 then (some true) else ((schismaref02_Power.f k t550 a1).bind fun t554 => (some (bt551.1.toList == t554.toList)))) else (some false)))))))) else (some false)) = some r := H
  have A3 := Aside0.mk A30
  clear A30
  by_cases c4 : t549 = true
  · subst c4
    have H1 : ((schismalaw02_Make.f k a0_0 l0_1 20).bind fun t550 => ((whole_Power.f k t550 a1).bind fun bt551 => (if a1 < 0 then (if bt551.1.toList = ([] : List UInt8) then (some (bt551.2 == 3)) else (some false)) else ((schismaref02_Abs.f t550).bind fun t553 => (if (t553.size : Int) = 0 then (none) else (if a1 > ((4000 : Int) / (t553.size : Int)) then (if bt551.1.toList = ([] : List UInt8) then (some (bt551.2 == 4)) else (some false)) else (if bt551.2 = 0 then (if a1 > 40 then (some true) else ((schismaref02_Power.f k t550 a1).bind fun t554 => (some (bt551.1.toList == t554.toList)))) else (some false)))))))) = some r := by rw [if_pos rfl] at H; exact H
    clear H
    have H := H1
    clear H1
    replace H := Option.bind_eq_some_iff.mp H
    obtain ⟨t550, A50, H⟩ := H
    replace H : ((whole_Power.f k t550 a1).bind fun bt551 => (if a1 < 0 then (if bt551.1.toList = ([] : List UInt8) then (some (bt551.2 == 3)) else (some false)) else ((schismaref02_Abs.f t550).bind fun t553 => (if (t553.size : Int) = 0 then (none) else (if a1 > ((4000 : Int) / (t553.size : Int)) then (if bt551.1.toList = ([] : List UInt8) then (some (bt551.2 == 4)) else (some false)) else (if bt551.2 = 0 then (if a1 > 40 then (some true) else ((schismaref02_Power.f k t550 a1).bind fun t554 => (some (bt551.1.toList == t554.toList)))) else (some false))))))) = some r := H
    have A5 := Aside0.mk A50
    clear A50
    replace H := Option.bind_eq_some_iff.mp H
    obtain ⟨⟨t551, t552⟩, A60, H⟩ := H
    replace H : (if a1 < 0 then (if t551.toList = ([] : List UInt8) then (some (t552 == 3)) else (some false)) else ((schismaref02_Abs.f t550).bind fun t553 => (if (t553.size : Int) = 0 then (none) else (if a1 > ((4000 : Int) / (t553.size : Int)) then (if t551.toList = ([] : List UInt8) then (some (t552 == 4)) else (some false)) else (if t552 = 0 then (if a1 > 40 then (some true) else ((schismaref02_Power.f k t550 a1).bind fun t554 => (some (t551.toList == t554.toList)))) else (some false)))))) = some r := H
    have A6 := Aside0.mk A60
    clear A60
    by_cases c7 : a1 < 0
    · rw [if_pos c7] at H
      have c7b0 : decide (a1 < 0) = true := decide_eq_true c7
      clear c7
      by_cases c8 : t551.toList = ([] : List UInt8)
      · rw [if_pos c8] at H
        have c8b0 : (t551.toList == ([] : List UInt8)) = true := beq_iff_eq.mpr c8
        have c8b1 : (t551.toList != ([] : List UInt8)) = false := bne_eq_false_iff_eq.mpr c8
        clear c8
        obtain rfl := Option.some.inj H
        go_enter Tryz.func3, Tryz.ntmps3
        go_wp2_with (first | ((with_reducible refine gate_dst (N := 2) rfl ?_); refine box_event ?hg (N := 2) ?hd (cs := #[.bool a0_0, .slice A0_1 l0_1.length c0_1]) (t := 24) ?hr ?_; (case hd => rfl); (case hg => rfl); (case hr => first | (go_simp; done) | (go_simp; rfl)); intro gb548 hg w9 hbox hb; have n0_ := Aside0.mk (below_step bq hb); have n1_ := Aside0.mk (hbox); have n2_ := Aside0.mk ((by rw [hg]; exact (below_size bq) : w.heap.size ≤ gb548)); have n3_ := Aside0.mk ((by rw [hg]; exact (below_size bq) : w.heap.size ≤ gb548)); clear HB; have HB := n0_; have BK548 := n1_; have GW548 := n2_; have GE548 := n3_; clear n0_ n1_ n2_ n3_; clear hb hbox hg) | ((with_reducible refine gate_callee (f := 7) rfl ?_); refine goesL_ (some 8) rfl rfl Tryz.func7 (by kernel_rfl) rfl #[] rfl mq ?_; (with_reducible refine (schismalaw02_known.calls (hT := HT.out.below bq) k  true _ A3.out).mono ?_); rintro e w10 ⟨rfl, hb⟩; refine ⟨_, rfl, ?_⟩; have n0_ := Aside0.mk (blk_below (g := gb548) (o := .cells #[.bool a0_0, .slice A0_1 l0_1.length c0_1] 24 (0, 0)) (by (with_reducible repeat (first | refine blk_drewN ?_ _ | refine blk_drew ?_ | refine blk_alloc ?_ _)); exact BK548.out) hb); have n1_ := Aside0.mk (below_step (by repeat (first | (with_reducible first | exact HB.out | apply below_alloc | apply pw_below_drewN | apply below_drew1 | refine below_set ?_ GE548.out) | exact HB.out)) hb); clear BK548; clear HB; have BK548 := n0_; have HB := n1_; clear n0_ n1_; (try clear hb); (try clear hb2); (try clear hk); (try clear hi); have hcz11_0 : w10.cell? ⟨gb548, 0, none⟩ = some (.bool a0_0) := (blk_cell BK548.out 0).trans rfl; have hcz11_1 : w10.cell? ⟨gb548, 1, none⟩ = some (.slice A0_1 l0_1.length c0_1) := (blk_cell BK548.out 1).trans rfl; have hfz11_0 := blk_frozen BK548.out 0; have hfz11_1 := blk_frozen BK548.out 1) | ((with_reducible refine gate_callee (f := 8) rfl ?_); refine goesL_ (some 11) rfl rfl Tryz.func8 (by kernel_rfl) rfl #[.agg #[.bool a0_0, .slice A0_1 l0_1.length c0_1], .int .i64 20] rfl mq ?_; (with_reducible refine (schismalaw02_Make.calls k a0_0 _ _ l0_1 20 t550 _ ?side1 ?side2 A5.out).mono ?_); (case side1 => repeat (first | exact (Kd.C_below HR0_1.out HB.out) | (with_reducible refine Kd.C_alloc ?_ _) | (with_reducible refine Kd.C_drewN ?_ _) | (with_reducible refine Kd.C_drew ?_))); (case side2 => exact HC0_1.out); rintro e w12 ⟨rfl, hb⟩; refine ⟨_, rfl, ?_⟩; have n0_ := Aside0.mk (blk_below (g := gb548) (o := .cells #[.bool a0_0, .slice A0_1 l0_1.length c0_1] 24 (0, 0)) (by (with_reducible repeat (first | refine blk_drewN ?_ _ | refine blk_drew ?_ | refine blk_alloc ?_ _)); exact BK548.out) hb); have n1_ := Aside0.mk (below_step (by repeat (first | (with_reducible first | exact HB.out | apply below_alloc | apply pw_below_drewN | apply below_drew1 | refine below_set ?_ GE548.out) | exact HB.out)) hb); clear BK548; clear HB; have BK548 := n0_; have HB := n1_; clear n0_ n1_; (try clear hb); (try clear hb2); (try clear hk); (try clear hi)) | ((with_reducible refine gate_callee (f := 9) rfl ?_); refine goesL_ (some 15) rfl rfl Tryz.func9 (by kernel_rfl) rfl #[.string t550, .int .i64 a1] rfl mq ?_; (with_reducible refine (whole_Power.calls (hT := HT.out.below bq) k t550 a1 t551 t552 _ A6.out).mono ?_); rintro e w13 ⟨rfl, hb⟩; refine ⟨_, rfl, ?_⟩; have n0_ := Aside0.mk (blk_below (g := gb548) (o := .cells #[.bool a0_0, .slice A0_1 l0_1.length c0_1] 24 (0, 0)) (by (with_reducible repeat (first | refine blk_drewN ?_ _ | refine blk_drew ?_ | refine blk_alloc ?_ _)); exact BK548.out) hb); have n1_ := Aside0.mk (below_step (by repeat (first | (with_reducible first | exact HB.out | apply below_alloc | apply pw_below_drewN | apply below_drew1 | refine below_set ?_ GE548.out) | exact HB.out)) hb); clear BK548; clear HB; have BK548 := n0_; have HB := n1_; clear n0_ n1_; (try clear hb); (try clear hb2); (try clear hk); (try clear hi)))
        go_ret
        exact ⟨eq_, by repeat (first | (with_reducible first | exact HB.out | apply below_alloc | apply pw_below_drewN | apply below_drew1 | refine below_set ?_ GE548.out) | exact HB.out)⟩
      · rw [if_neg c8] at H
        have c8b0 : (t551.toList == ([] : List UInt8)) = false := beq_eq_false_iff_ne.mpr c8
        have c8b1 : (t551.toList != ([] : List UInt8)) = true := bne_iff_ne.mpr c8
        obtain rfl := Option.some.inj H
        go_enter Tryz.func3, Tryz.ntmps3
        go_wp2_with (first | ((with_reducible refine gate_dst (N := 2) rfl ?_); refine box_event ?hg (N := 2) ?hd (cs := #[.bool a0_0, .slice A0_1 l0_1.length c0_1]) (t := 24) ?hr ?_; (case hd => rfl); (case hg => rfl); (case hr => first | (go_simp; done) | (go_simp; rfl)); intro gb548 hg w14 hbox hb; have n0_ := Aside0.mk (below_step bq hb); have n1_ := Aside0.mk (hbox); have n2_ := Aside0.mk ((by rw [hg]; exact (below_size bq) : w.heap.size ≤ gb548)); have n3_ := Aside0.mk ((by rw [hg]; exact (below_size bq) : w.heap.size ≤ gb548)); clear HB; have HB := n0_; have BK548 := n1_; have GW548 := n2_; have GE548 := n3_; clear n0_ n1_ n2_ n3_; clear hb hbox hg) | ((with_reducible refine gate_callee (f := 7) rfl ?_); refine goesL_ (some 8) rfl rfl Tryz.func7 (by kernel_rfl) rfl #[] rfl mq ?_; (with_reducible refine (schismalaw02_known.calls (hT := HT.out.below bq) k  true _ A3.out).mono ?_); rintro e w15 ⟨rfl, hb⟩; refine ⟨_, rfl, ?_⟩; have n0_ := Aside0.mk (blk_below (g := gb548) (o := .cells #[.bool a0_0, .slice A0_1 l0_1.length c0_1] 24 (0, 0)) (by (with_reducible repeat (first | refine blk_drewN ?_ _ | refine blk_drew ?_ | refine blk_alloc ?_ _)); exact BK548.out) hb); have n1_ := Aside0.mk (below_step (by repeat (first | (with_reducible first | exact HB.out | apply below_alloc | apply pw_below_drewN | apply below_drew1 | refine below_set ?_ GE548.out) | exact HB.out)) hb); clear BK548; clear HB; have BK548 := n0_; have HB := n1_; clear n0_ n1_; (try clear hb); (try clear hb2); (try clear hk); (try clear hi); have hcz16_0 : w15.cell? ⟨gb548, 0, none⟩ = some (.bool a0_0) := (blk_cell BK548.out 0).trans rfl; have hcz16_1 : w15.cell? ⟨gb548, 1, none⟩ = some (.slice A0_1 l0_1.length c0_1) := (blk_cell BK548.out 1).trans rfl; have hfz16_0 := blk_frozen BK548.out 0; have hfz16_1 := blk_frozen BK548.out 1) | ((with_reducible refine gate_callee (f := 8) rfl ?_); refine goesL_ (some 11) rfl rfl Tryz.func8 (by kernel_rfl) rfl #[.agg #[.bool a0_0, .slice A0_1 l0_1.length c0_1], .int .i64 20] rfl mq ?_; (with_reducible refine (schismalaw02_Make.calls k a0_0 _ _ l0_1 20 t550 _ ?side1 ?side2 A5.out).mono ?_); (case side1 => repeat (first | exact (Kd.C_below HR0_1.out HB.out) | (with_reducible refine Kd.C_alloc ?_ _) | (with_reducible refine Kd.C_drewN ?_ _) | (with_reducible refine Kd.C_drew ?_))); (case side2 => exact HC0_1.out); rintro e w17 ⟨rfl, hb⟩; refine ⟨_, rfl, ?_⟩; have n0_ := Aside0.mk (blk_below (g := gb548) (o := .cells #[.bool a0_0, .slice A0_1 l0_1.length c0_1] 24 (0, 0)) (by (with_reducible repeat (first | refine blk_drewN ?_ _ | refine blk_drew ?_ | refine blk_alloc ?_ _)); exact BK548.out) hb); have n1_ := Aside0.mk (below_step (by repeat (first | (with_reducible first | exact HB.out | apply below_alloc | apply pw_below_drewN | apply below_drew1 | refine below_set ?_ GE548.out) | exact HB.out)) hb); clear BK548; clear HB; have BK548 := n0_; have HB := n1_; clear n0_ n1_; (try clear hb); (try clear hb2); (try clear hk); (try clear hi)) | ((with_reducible refine gate_callee (f := 9) rfl ?_); refine goesL_ (some 15) rfl rfl Tryz.func9 (by kernel_rfl) rfl #[.string t550, .int .i64 a1] rfl mq ?_; (with_reducible refine (whole_Power.calls (hT := HT.out.below bq) k t550 a1 t551 t552 _ A6.out).mono ?_); rintro e w18 ⟨rfl, hb⟩; refine ⟨_, rfl, ?_⟩; have n0_ := Aside0.mk (blk_below (g := gb548) (o := .cells #[.bool a0_0, .slice A0_1 l0_1.length c0_1] 24 (0, 0)) (by (with_reducible repeat (first | refine blk_drewN ?_ _ | refine blk_drew ?_ | refine blk_alloc ?_ _)); exact BK548.out) hb); have n1_ := Aside0.mk (below_step (by repeat (first | (with_reducible first | exact HB.out | apply below_alloc | apply pw_below_drewN | apply below_drew1 | refine below_set ?_ GE548.out) | exact HB.out)) hb); clear BK548; clear HB; have BK548 := n0_; have HB := n1_; clear n0_ n1_; (try clear hb); (try clear hb2); (try clear hk); (try clear hi)))
        go_ret
        exact ⟨eq_, by repeat (first | (with_reducible first | exact HB.out | apply below_alloc | apply pw_below_drewN | apply below_drew1 | refine below_set ?_ GE548.out) | exact HB.out)⟩
    · rw [if_neg c7] at H
      have c7b0 : decide (a1 < 0) = false := decide_eq_false c7
      clear c7
      replace H := Option.bind_eq_some_iff.mp H
      obtain ⟨t553, A190, H⟩ := H
      replace H : (if (t553.size : Int) = 0 then (none) else (if a1 > ((4000 : Int) / (t553.size : Int)) then (if t551.toList = ([] : List UInt8) then (some (t552 == 4)) else (some false)) else (if t552 = 0 then (if a1 > 40 then (some true) else ((schismaref02_Power.f k t550 a1).bind fun t554 => (some (t551.toList == t554.toList)))) else (some false)))) = some r := H
      have A19 := Aside0.mk A190
      clear A190
      by_cases c20 : (t553.size : Int) = 0
      · rw [if_pos c20] at H
        exact absurd H (by simp)
      · rw [if_neg c20] at H
        have c20b0 : ((t553.size : Int) == 0) = false := beq_eq_false_iff_ne.mpr c20
        have c20b1 : ((t553.size : Int) != 0) = true := bne_iff_ne.mpr c20
        by_cases c21 : a1 > ((4000 : Int) / (t553.size : Int))
        · rw [if_pos c21] at H
          have c21b0 : decide (((4000 : Int) / (t553.size : Int)) < a1) = true := decide_eq_true c21
          clear c21
          by_cases c22 : t551.toList = ([] : List UInt8)
          · rw [if_pos c22] at H
            have c22b0 : (t551.toList == ([] : List UInt8)) = true := beq_iff_eq.mpr c22
            have c22b1 : (t551.toList != ([] : List UInt8)) = false := bne_eq_false_iff_eq.mpr c22
            clear c22
            obtain rfl := Option.some.inj H
            go_enter Tryz.func3, Tryz.ntmps3
            go_wp2_with (first | ((with_reducible refine gate_dst (N := 2) rfl ?_); refine box_event ?hg (N := 2) ?hd (cs := #[.bool a0_0, .slice A0_1 l0_1.length c0_1]) (t := 24) ?hr ?_; (case hd => rfl); (case hg => rfl); (case hr => first | (go_simp; done) | (go_simp; rfl)); intro gb548 hg w23 hbox hb; have n0_ := Aside0.mk (below_step bq hb); have n1_ := Aside0.mk (hbox); have n2_ := Aside0.mk ((by rw [hg]; exact (below_size bq) : w.heap.size ≤ gb548)); have n3_ := Aside0.mk ((by rw [hg]; exact (below_size bq) : w.heap.size ≤ gb548)); clear HB; have HB := n0_; have BK548 := n1_; have GW548 := n2_; have GE548 := n3_; clear n0_ n1_ n2_ n3_; clear hb hbox hg) | ((with_reducible refine gate_callee (f := 7) rfl ?_); refine goesL_ (some 8) rfl rfl Tryz.func7 (by kernel_rfl) rfl #[] rfl mq ?_; (with_reducible refine (schismalaw02_known.calls (hT := HT.out.below bq) k  true _ A3.out).mono ?_); rintro e w24 ⟨rfl, hb⟩; refine ⟨_, rfl, ?_⟩; have n0_ := Aside0.mk (blk_below (g := gb548) (o := .cells #[.bool a0_0, .slice A0_1 l0_1.length c0_1] 24 (0, 0)) (by (with_reducible repeat (first | refine blk_drewN ?_ _ | refine blk_drew ?_ | refine blk_alloc ?_ _)); exact BK548.out) hb); have n1_ := Aside0.mk (below_step (by repeat (first | (with_reducible first | exact HB.out | apply below_alloc | apply pw_below_drewN | apply below_drew1 | refine below_set ?_ GE548.out) | exact HB.out)) hb); clear BK548; clear HB; have BK548 := n0_; have HB := n1_; clear n0_ n1_; (try clear hb); (try clear hb2); (try clear hk); (try clear hi); have hcz25_0 : w24.cell? ⟨gb548, 0, none⟩ = some (.bool a0_0) := (blk_cell BK548.out 0).trans rfl; have hcz25_1 : w24.cell? ⟨gb548, 1, none⟩ = some (.slice A0_1 l0_1.length c0_1) := (blk_cell BK548.out 1).trans rfl; have hfz25_0 := blk_frozen BK548.out 0; have hfz25_1 := blk_frozen BK548.out 1) | ((with_reducible refine gate_callee (f := 8) rfl ?_); refine goesL_ (some 11) rfl rfl Tryz.func8 (by kernel_rfl) rfl #[.agg #[.bool a0_0, .slice A0_1 l0_1.length c0_1], .int .i64 20] rfl mq ?_; (with_reducible refine (schismalaw02_Make.calls k a0_0 _ _ l0_1 20 t550 _ ?side1 ?side2 A5.out).mono ?_); (case side1 => repeat (first | exact (Kd.C_below HR0_1.out HB.out) | (with_reducible refine Kd.C_alloc ?_ _) | (with_reducible refine Kd.C_drewN ?_ _) | (with_reducible refine Kd.C_drew ?_))); (case side2 => exact HC0_1.out); rintro e w26 ⟨rfl, hb⟩; refine ⟨_, rfl, ?_⟩; have n0_ := Aside0.mk (blk_below (g := gb548) (o := .cells #[.bool a0_0, .slice A0_1 l0_1.length c0_1] 24 (0, 0)) (by (with_reducible repeat (first | refine blk_drewN ?_ _ | refine blk_drew ?_ | refine blk_alloc ?_ _)); exact BK548.out) hb); have n1_ := Aside0.mk (below_step (by repeat (first | (with_reducible first | exact HB.out | apply below_alloc | apply pw_below_drewN | apply below_drew1 | refine below_set ?_ GE548.out) | exact HB.out)) hb); clear BK548; clear HB; have BK548 := n0_; have HB := n1_; clear n0_ n1_; (try clear hb); (try clear hb2); (try clear hk); (try clear hi)) | ((with_reducible refine gate_callee (f := 9) rfl ?_); refine goesL_ (some 15) rfl rfl Tryz.func9 (by kernel_rfl) rfl #[.string t550, .int .i64 a1] rfl mq ?_; (with_reducible refine (whole_Power.calls (hT := HT.out.below bq) k t550 a1 t551 t552 _ A6.out).mono ?_); rintro e w27 ⟨rfl, hb⟩; refine ⟨_, rfl, ?_⟩; have n0_ := Aside0.mk (blk_below (g := gb548) (o := .cells #[.bool a0_0, .slice A0_1 l0_1.length c0_1] 24 (0, 0)) (by (with_reducible repeat (first | refine blk_drewN ?_ _ | refine blk_drew ?_ | refine blk_alloc ?_ _)); exact BK548.out) hb); have n1_ := Aside0.mk (below_step (by repeat (first | (with_reducible first | exact HB.out | apply below_alloc | apply pw_below_drewN | apply below_drew1 | refine below_set ?_ GE548.out) | exact HB.out)) hb); clear BK548; clear HB; have BK548 := n0_; have HB := n1_; clear n0_ n1_; (try clear hb); (try clear hb2); (try clear hk); (try clear hi)) | ((with_reducible refine gate_callee (f := 10) rfl ?_); refine goesL_ (some 28) rfl rfl Tryz.func10 (by kernel_rfl) rfl #[.string t550] rfl mq ?_; (with_reducible refine (schismaref02_Abs.calls t550 t553 _ A19.out).mono ?_); rintro e w' ⟨rfl, ⟨nd, rfl⟩⟩; refine ⟨_, rfl, ?_⟩))
            go_ret
            exact ⟨eq_, by repeat (first | (with_reducible first | exact HB.out | apply below_alloc | apply pw_below_drewN | apply below_drew1 | refine below_set ?_ GE548.out) | exact HB.out)⟩
          · rw [if_neg c22] at H
            have c22b0 : (t551.toList == ([] : List UInt8)) = false := beq_eq_false_iff_ne.mpr c22
            have c22b1 : (t551.toList != ([] : List UInt8)) = true := bne_iff_ne.mpr c22
            obtain rfl := Option.some.inj H
            go_enter Tryz.func3, Tryz.ntmps3
            go_wp2_with (first | ((with_reducible refine gate_dst (N := 2) rfl ?_); refine box_event ?hg (N := 2) ?hd (cs := #[.bool a0_0, .slice A0_1 l0_1.length c0_1]) (t := 24) ?hr ?_; (case hd => rfl); (case hg => rfl); (case hr => first | (go_simp; done) | (go_simp; rfl)); intro gb548 hg w28 hbox hb; have n0_ := Aside0.mk (below_step bq hb); have n1_ := Aside0.mk (hbox); have n2_ := Aside0.mk ((by rw [hg]; exact (below_size bq) : w.heap.size ≤ gb548)); have n3_ := Aside0.mk ((by rw [hg]; exact (below_size bq) : w.heap.size ≤ gb548)); clear HB; have HB := n0_; have BK548 := n1_; have GW548 := n2_; have GE548 := n3_; clear n0_ n1_ n2_ n3_; clear hb hbox hg) | ((with_reducible refine gate_callee (f := 7) rfl ?_); refine goesL_ (some 8) rfl rfl Tryz.func7 (by kernel_rfl) rfl #[] rfl mq ?_; (with_reducible refine (schismalaw02_known.calls (hT := HT.out.below bq) k  true _ A3.out).mono ?_); rintro e w29 ⟨rfl, hb⟩; refine ⟨_, rfl, ?_⟩; have n0_ := Aside0.mk (blk_below (g := gb548) (o := .cells #[.bool a0_0, .slice A0_1 l0_1.length c0_1] 24 (0, 0)) (by (with_reducible repeat (first | refine blk_drewN ?_ _ | refine blk_drew ?_ | refine blk_alloc ?_ _)); exact BK548.out) hb); have n1_ := Aside0.mk (below_step (by repeat (first | (with_reducible first | exact HB.out | apply below_alloc | apply pw_below_drewN | apply below_drew1 | refine below_set ?_ GE548.out) | exact HB.out)) hb); clear BK548; clear HB; have BK548 := n0_; have HB := n1_; clear n0_ n1_; (try clear hb); (try clear hb2); (try clear hk); (try clear hi); have hcz30_0 : w29.cell? ⟨gb548, 0, none⟩ = some (.bool a0_0) := (blk_cell BK548.out 0).trans rfl; have hcz30_1 : w29.cell? ⟨gb548, 1, none⟩ = some (.slice A0_1 l0_1.length c0_1) := (blk_cell BK548.out 1).trans rfl; have hfz30_0 := blk_frozen BK548.out 0; have hfz30_1 := blk_frozen BK548.out 1) | ((with_reducible refine gate_callee (f := 8) rfl ?_); refine goesL_ (some 11) rfl rfl Tryz.func8 (by kernel_rfl) rfl #[.agg #[.bool a0_0, .slice A0_1 l0_1.length c0_1], .int .i64 20] rfl mq ?_; (with_reducible refine (schismalaw02_Make.calls k a0_0 _ _ l0_1 20 t550 _ ?side1 ?side2 A5.out).mono ?_); (case side1 => repeat (first | exact (Kd.C_below HR0_1.out HB.out) | (with_reducible refine Kd.C_alloc ?_ _) | (with_reducible refine Kd.C_drewN ?_ _) | (with_reducible refine Kd.C_drew ?_))); (case side2 => exact HC0_1.out); rintro e w31 ⟨rfl, hb⟩; refine ⟨_, rfl, ?_⟩; have n0_ := Aside0.mk (blk_below (g := gb548) (o := .cells #[.bool a0_0, .slice A0_1 l0_1.length c0_1] 24 (0, 0)) (by (with_reducible repeat (first | refine blk_drewN ?_ _ | refine blk_drew ?_ | refine blk_alloc ?_ _)); exact BK548.out) hb); have n1_ := Aside0.mk (below_step (by repeat (first | (with_reducible first | exact HB.out | apply below_alloc | apply pw_below_drewN | apply below_drew1 | refine below_set ?_ GE548.out) | exact HB.out)) hb); clear BK548; clear HB; have BK548 := n0_; have HB := n1_; clear n0_ n1_; (try clear hb); (try clear hb2); (try clear hk); (try clear hi)) | ((with_reducible refine gate_callee (f := 9) rfl ?_); refine goesL_ (some 15) rfl rfl Tryz.func9 (by kernel_rfl) rfl #[.string t550, .int .i64 a1] rfl mq ?_; (with_reducible refine (whole_Power.calls (hT := HT.out.below bq) k t550 a1 t551 t552 _ A6.out).mono ?_); rintro e w32 ⟨rfl, hb⟩; refine ⟨_, rfl, ?_⟩; have n0_ := Aside0.mk (blk_below (g := gb548) (o := .cells #[.bool a0_0, .slice A0_1 l0_1.length c0_1] 24 (0, 0)) (by (with_reducible repeat (first | refine blk_drewN ?_ _ | refine blk_drew ?_ | refine blk_alloc ?_ _)); exact BK548.out) hb); have n1_ := Aside0.mk (below_step (by repeat (first | (with_reducible first | exact HB.out | apply below_alloc | apply pw_below_drewN | apply below_drew1 | refine below_set ?_ GE548.out) | exact HB.out)) hb); clear BK548; clear HB; have BK548 := n0_; have HB := n1_; clear n0_ n1_; (try clear hb); (try clear hb2); (try clear hk); (try clear hi)) | ((with_reducible refine gate_callee (f := 10) rfl ?_); refine goesL_ (some 28) rfl rfl Tryz.func10 (by kernel_rfl) rfl #[.string t550] rfl mq ?_; (with_reducible refine (schismaref02_Abs.calls t550 t553 _ A19.out).mono ?_); rintro e w' ⟨rfl, ⟨nd, rfl⟩⟩; refine ⟨_, rfl, ?_⟩))
            go_ret
            exact ⟨eq_, by repeat (first | (with_reducible first | exact HB.out | apply below_alloc | apply pw_below_drewN | apply below_drew1 | refine below_set ?_ GE548.out) | exact HB.out)⟩
        · rw [if_neg c21] at H
          have c21b0 : decide (((4000 : Int) / (t553.size : Int)) < a1) = false := decide_eq_false c21
          clear c21
          by_cases c33 : t552 = 0
          · rw [if_pos c33] at H
            have c33b0 : (t552 == 0) = true := beq_iff_eq.mpr c33
            have c33b1 : (t552 != 0) = false := bne_eq_false_iff_eq.mpr c33
            clear c33
            by_cases c34 : a1 > 40
            · rw [if_pos c34] at H
              have c34b0 : decide (40 < a1) = true := decide_eq_true c34
              clear c34
              obtain rfl := Option.some.inj H
              go_enter Tryz.func3, Tryz.ntmps3
              go_wp2_with (first | ((with_reducible refine gate_dst (N := 2) rfl ?_); refine box_event ?hg (N := 2) ?hd (cs := #[.bool a0_0, .slice A0_1 l0_1.length c0_1]) (t := 24) ?hr ?_; (case hd => rfl); (case hg => rfl); (case hr => first | (go_simp; done) | (go_simp; rfl)); intro gb548 hg w35 hbox hb; have n0_ := Aside0.mk (below_step bq hb); have n1_ := Aside0.mk (hbox); have n2_ := Aside0.mk ((by rw [hg]; exact (below_size bq) : w.heap.size ≤ gb548)); have n3_ := Aside0.mk ((by rw [hg]; exact (below_size bq) : w.heap.size ≤ gb548)); clear HB; have HB := n0_; have BK548 := n1_; have GW548 := n2_; have GE548 := n3_; clear n0_ n1_ n2_ n3_; clear hb hbox hg) | ((with_reducible refine gate_callee (f := 7) rfl ?_); refine goesL_ (some 8) rfl rfl Tryz.func7 (by kernel_rfl) rfl #[] rfl mq ?_; (with_reducible refine (schismalaw02_known.calls (hT := HT.out.below bq) k  true _ A3.out).mono ?_); rintro e w36 ⟨rfl, hb⟩; refine ⟨_, rfl, ?_⟩; have n0_ := Aside0.mk (blk_below (g := gb548) (o := .cells #[.bool a0_0, .slice A0_1 l0_1.length c0_1] 24 (0, 0)) (by (with_reducible repeat (first | refine blk_drewN ?_ _ | refine blk_drew ?_ | refine blk_alloc ?_ _)); exact BK548.out) hb); have n1_ := Aside0.mk (below_step (by repeat (first | (with_reducible first | exact HB.out | apply below_alloc | apply pw_below_drewN | apply below_drew1 | refine below_set ?_ GE548.out) | exact HB.out)) hb); clear BK548; clear HB; have BK548 := n0_; have HB := n1_; clear n0_ n1_; (try clear hb); (try clear hb2); (try clear hk); (try clear hi); have hcz37_0 : w36.cell? ⟨gb548, 0, none⟩ = some (.bool a0_0) := (blk_cell BK548.out 0).trans rfl; have hcz37_1 : w36.cell? ⟨gb548, 1, none⟩ = some (.slice A0_1 l0_1.length c0_1) := (blk_cell BK548.out 1).trans rfl; have hfz37_0 := blk_frozen BK548.out 0; have hfz37_1 := blk_frozen BK548.out 1) | ((with_reducible refine gate_callee (f := 8) rfl ?_); refine goesL_ (some 11) rfl rfl Tryz.func8 (by kernel_rfl) rfl #[.agg #[.bool a0_0, .slice A0_1 l0_1.length c0_1], .int .i64 20] rfl mq ?_; (with_reducible refine (schismalaw02_Make.calls k a0_0 _ _ l0_1 20 t550 _ ?side1 ?side2 A5.out).mono ?_); (case side1 => repeat (first | exact (Kd.C_below HR0_1.out HB.out) | (with_reducible refine Kd.C_alloc ?_ _) | (with_reducible refine Kd.C_drewN ?_ _) | (with_reducible refine Kd.C_drew ?_))); (case side2 => exact HC0_1.out); rintro e w38 ⟨rfl, hb⟩; refine ⟨_, rfl, ?_⟩; have n0_ := Aside0.mk (blk_below (g := gb548) (o := .cells #[.bool a0_0, .slice A0_1 l0_1.length c0_1] 24 (0, 0)) (by (with_reducible repeat (first | refine blk_drewN ?_ _ | refine blk_drew ?_ | refine blk_alloc ?_ _)); exact BK548.out) hb); have n1_ := Aside0.mk (below_step (by repeat (first | (with_reducible first | exact HB.out | apply below_alloc | apply pw_below_drewN | apply below_drew1 | refine below_set ?_ GE548.out) | exact HB.out)) hb); clear BK548; clear HB; have BK548 := n0_; have HB := n1_; clear n0_ n1_; (try clear hb); (try clear hb2); (try clear hk); (try clear hi)) | ((with_reducible refine gate_callee (f := 9) rfl ?_); refine goesL_ (some 15) rfl rfl Tryz.func9 (by kernel_rfl) rfl #[.string t550, .int .i64 a1] rfl mq ?_; (with_reducible refine (whole_Power.calls (hT := HT.out.below bq) k t550 a1 t551 t552 _ A6.out).mono ?_); rintro e w39 ⟨rfl, hb⟩; refine ⟨_, rfl, ?_⟩; have n0_ := Aside0.mk (blk_below (g := gb548) (o := .cells #[.bool a0_0, .slice A0_1 l0_1.length c0_1] 24 (0, 0)) (by (with_reducible repeat (first | refine blk_drewN ?_ _ | refine blk_drew ?_ | refine blk_alloc ?_ _)); exact BK548.out) hb); have n1_ := Aside0.mk (below_step (by repeat (first | (with_reducible first | exact HB.out | apply below_alloc | apply pw_below_drewN | apply below_drew1 | refine below_set ?_ GE548.out) | exact HB.out)) hb); clear BK548; clear HB; have BK548 := n0_; have HB := n1_; clear n0_ n1_; (try clear hb); (try clear hb2); (try clear hk); (try clear hi)) | ((with_reducible refine gate_callee (f := 10) rfl ?_); refine goesL_ (some 28) rfl rfl Tryz.func10 (by kernel_rfl) rfl #[.string t550] rfl mq ?_; (with_reducible refine (schismaref02_Abs.calls t550 t553 _ A19.out).mono ?_); rintro e w' ⟨rfl, ⟨nd, rfl⟩⟩; refine ⟨_, rfl, ?_⟩))
              go_ret
              exact ⟨eq_, by repeat (first | (with_reducible first | exact HB.out | apply below_alloc | apply pw_below_drewN | apply below_drew1 | refine below_set ?_ GE548.out) | exact HB.out)⟩
            · rw [if_neg c34] at H
              have c34b0 : decide (40 < a1) = false := decide_eq_false c34
              clear c34
              replace H := Option.bind_eq_some_iff.mp H
              obtain ⟨t554, A400, H⟩ := H
              replace H : (some (t551.toList == t554.toList)) = some r := H
              have A40 := Aside0.mk A400
              clear A400
              obtain rfl := Option.some.inj H
              go_enter Tryz.func3, Tryz.ntmps3
              go_wp2_with (first | ((with_reducible refine gate_dst (N := 2) rfl ?_); refine box_event ?hg (N := 2) ?hd (cs := #[.bool a0_0, .slice A0_1 l0_1.length c0_1]) (t := 24) ?hr ?_; (case hd => rfl); (case hg => rfl); (case hr => first | (go_simp; done) | (go_simp; rfl)); intro gb548 hg w41 hbox hb; have n0_ := Aside0.mk (below_step bq hb); have n1_ := Aside0.mk (hbox); have n2_ := Aside0.mk ((by rw [hg]; exact (below_size bq) : w.heap.size ≤ gb548)); have n3_ := Aside0.mk ((by rw [hg]; exact (below_size bq) : w.heap.size ≤ gb548)); clear HB; have HB := n0_; have BK548 := n1_; have GW548 := n2_; have GE548 := n3_; clear n0_ n1_ n2_ n3_; clear hb hbox hg) | ((with_reducible refine gate_callee (f := 7) rfl ?_); refine goesL_ (some 8) rfl rfl Tryz.func7 (by kernel_rfl) rfl #[] rfl mq ?_; (with_reducible refine (schismalaw02_known.calls (hT := HT.out.below bq) k  true _ A3.out).mono ?_); rintro e w42 ⟨rfl, hb⟩; refine ⟨_, rfl, ?_⟩; have n0_ := Aside0.mk (blk_below (g := gb548) (o := .cells #[.bool a0_0, .slice A0_1 l0_1.length c0_1] 24 (0, 0)) (by (with_reducible repeat (first | refine blk_drewN ?_ _ | refine blk_drew ?_ | refine blk_alloc ?_ _)); exact BK548.out) hb); have n1_ := Aside0.mk (below_step (by repeat (first | (with_reducible first | exact HB.out | apply below_alloc | apply pw_below_drewN | apply below_drew1 | refine below_set ?_ GE548.out) | exact HB.out)) hb); clear BK548; clear HB; have BK548 := n0_; have HB := n1_; clear n0_ n1_; (try clear hb); (try clear hb2); (try clear hk); (try clear hi); have hcz43_0 : w42.cell? ⟨gb548, 0, none⟩ = some (.bool a0_0) := (blk_cell BK548.out 0).trans rfl; have hcz43_1 : w42.cell? ⟨gb548, 1, none⟩ = some (.slice A0_1 l0_1.length c0_1) := (blk_cell BK548.out 1).trans rfl; have hfz43_0 := blk_frozen BK548.out 0; have hfz43_1 := blk_frozen BK548.out 1) | ((with_reducible refine gate_callee (f := 8) rfl ?_); refine goesL_ (some 11) rfl rfl Tryz.func8 (by kernel_rfl) rfl #[.agg #[.bool a0_0, .slice A0_1 l0_1.length c0_1], .int .i64 20] rfl mq ?_; (with_reducible refine (schismalaw02_Make.calls k a0_0 _ _ l0_1 20 t550 _ ?side1 ?side2 A5.out).mono ?_); (case side1 => repeat (first | exact (Kd.C_below HR0_1.out HB.out) | (with_reducible refine Kd.C_alloc ?_ _) | (with_reducible refine Kd.C_drewN ?_ _) | (with_reducible refine Kd.C_drew ?_))); (case side2 => exact HC0_1.out); rintro e w44 ⟨rfl, hb⟩; refine ⟨_, rfl, ?_⟩; have n0_ := Aside0.mk (blk_below (g := gb548) (o := .cells #[.bool a0_0, .slice A0_1 l0_1.length c0_1] 24 (0, 0)) (by (with_reducible repeat (first | refine blk_drewN ?_ _ | refine blk_drew ?_ | refine blk_alloc ?_ _)); exact BK548.out) hb); have n1_ := Aside0.mk (below_step (by repeat (first | (with_reducible first | exact HB.out | apply below_alloc | apply pw_below_drewN | apply below_drew1 | refine below_set ?_ GE548.out) | exact HB.out)) hb); clear BK548; clear HB; have BK548 := n0_; have HB := n1_; clear n0_ n1_; (try clear hb); (try clear hb2); (try clear hk); (try clear hi)) | ((with_reducible refine gate_callee (f := 9) rfl ?_); refine goesL_ (some 15) rfl rfl Tryz.func9 (by kernel_rfl) rfl #[.string t550, .int .i64 a1] rfl mq ?_; (with_reducible refine (whole_Power.calls (hT := HT.out.below bq) k t550 a1 t551 t552 _ A6.out).mono ?_); rintro e w45 ⟨rfl, hb⟩; refine ⟨_, rfl, ?_⟩; have n0_ := Aside0.mk (blk_below (g := gb548) (o := .cells #[.bool a0_0, .slice A0_1 l0_1.length c0_1] 24 (0, 0)) (by (with_reducible repeat (first | refine blk_drewN ?_ _ | refine blk_drew ?_ | refine blk_alloc ?_ _)); exact BK548.out) hb); have n1_ := Aside0.mk (below_step (by repeat (first | (with_reducible first | exact HB.out | apply below_alloc | apply pw_below_drewN | apply below_drew1 | refine below_set ?_ GE548.out) | exact HB.out)) hb); clear BK548; clear HB; have BK548 := n0_; have HB := n1_; clear n0_ n1_; (try clear hb); (try clear hb2); (try clear hk); (try clear hi)) | ((with_reducible refine gate_callee (f := 10) rfl ?_); refine goesL_ (some 28) rfl rfl Tryz.func10 (by kernel_rfl) rfl #[.string t550] rfl mq ?_; (with_reducible refine (schismaref02_Abs.calls t550 t553 _ A19.out).mono ?_); rintro e w' ⟨rfl, ⟨nd, rfl⟩⟩; refine ⟨_, rfl, ?_⟩) | (go_at_call 11; (with_reducible refine (schismaref02_Power.calls (hT := HT.out.below bq) k t550 a1 t554 _ A40.out).mono ?_); rintro e w46 ⟨rfl, hb⟩; have n0_ := Aside0.mk (blk_below (g := gb548) (o := .cells #[.bool a0_0, .slice A0_1 l0_1.length c0_1] 24 (0, 0)) (by (with_reducible repeat (first | refine blk_drewN ?_ _ | refine blk_drew ?_ | refine blk_alloc ?_ _)); exact BK548.out) hb); have n1_ := Aside0.mk (below_step (by repeat (first | (with_reducible first | exact HB.out | apply below_alloc | apply pw_below_drewN | apply below_drew1 | refine below_set ?_ GE548.out) | exact HB.out)) hb); clear BK548; clear HB; have BK548 := n0_; have HB := n1_; clear n0_ n1_; (try clear hb); (try clear hb2); (try clear hk); (try clear hi)))
              go_ret
              exact ⟨eq_, by repeat (first | (with_reducible first | exact HB.out | apply below_alloc | apply pw_below_drewN | apply below_drew1 | refine below_set ?_ GE548.out) | exact HB.out)⟩
          · rw [if_neg c33] at H
            have c33b0 : (t552 == 0) = false := beq_eq_false_iff_ne.mpr c33
            have c33b1 : (t552 != 0) = true := bne_iff_ne.mpr c33
            obtain rfl := Option.some.inj H
            go_enter Tryz.func3, Tryz.ntmps3
            go_wp2_with (first | ((with_reducible refine gate_dst (N := 2) rfl ?_); refine box_event ?hg (N := 2) ?hd (cs := #[.bool a0_0, .slice A0_1 l0_1.length c0_1]) (t := 24) ?hr ?_; (case hd => rfl); (case hg => rfl); (case hr => first | (go_simp; done) | (go_simp; rfl)); intro gb548 hg w47 hbox hb; have n0_ := Aside0.mk (below_step bq hb); have n1_ := Aside0.mk (hbox); have n2_ := Aside0.mk ((by rw [hg]; exact (below_size bq) : w.heap.size ≤ gb548)); have n3_ := Aside0.mk ((by rw [hg]; exact (below_size bq) : w.heap.size ≤ gb548)); clear HB; have HB := n0_; have BK548 := n1_; have GW548 := n2_; have GE548 := n3_; clear n0_ n1_ n2_ n3_; clear hb hbox hg) | ((with_reducible refine gate_callee (f := 7) rfl ?_); refine goesL_ (some 8) rfl rfl Tryz.func7 (by kernel_rfl) rfl #[] rfl mq ?_; (with_reducible refine (schismalaw02_known.calls (hT := HT.out.below bq) k  true _ A3.out).mono ?_); rintro e w48 ⟨rfl, hb⟩; refine ⟨_, rfl, ?_⟩; have n0_ := Aside0.mk (blk_below (g := gb548) (o := .cells #[.bool a0_0, .slice A0_1 l0_1.length c0_1] 24 (0, 0)) (by (with_reducible repeat (first | refine blk_drewN ?_ _ | refine blk_drew ?_ | refine blk_alloc ?_ _)); exact BK548.out) hb); have n1_ := Aside0.mk (below_step (by repeat (first | (with_reducible first | exact HB.out | apply below_alloc | apply pw_below_drewN | apply below_drew1 | refine below_set ?_ GE548.out) | exact HB.out)) hb); clear BK548; clear HB; have BK548 := n0_; have HB := n1_; clear n0_ n1_; (try clear hb); (try clear hb2); (try clear hk); (try clear hi); have hcz49_0 : w48.cell? ⟨gb548, 0, none⟩ = some (.bool a0_0) := (blk_cell BK548.out 0).trans rfl; have hcz49_1 : w48.cell? ⟨gb548, 1, none⟩ = some (.slice A0_1 l0_1.length c0_1) := (blk_cell BK548.out 1).trans rfl; have hfz49_0 := blk_frozen BK548.out 0; have hfz49_1 := blk_frozen BK548.out 1) | ((with_reducible refine gate_callee (f := 8) rfl ?_); refine goesL_ (some 11) rfl rfl Tryz.func8 (by kernel_rfl) rfl #[.agg #[.bool a0_0, .slice A0_1 l0_1.length c0_1], .int .i64 20] rfl mq ?_; (with_reducible refine (schismalaw02_Make.calls k a0_0 _ _ l0_1 20 t550 _ ?side1 ?side2 A5.out).mono ?_); (case side1 => repeat (first | exact (Kd.C_below HR0_1.out HB.out) | (with_reducible refine Kd.C_alloc ?_ _) | (with_reducible refine Kd.C_drewN ?_ _) | (with_reducible refine Kd.C_drew ?_))); (case side2 => exact HC0_1.out); rintro e w50 ⟨rfl, hb⟩; refine ⟨_, rfl, ?_⟩; have n0_ := Aside0.mk (blk_below (g := gb548) (o := .cells #[.bool a0_0, .slice A0_1 l0_1.length c0_1] 24 (0, 0)) (by (with_reducible repeat (first | refine blk_drewN ?_ _ | refine blk_drew ?_ | refine blk_alloc ?_ _)); exact BK548.out) hb); have n1_ := Aside0.mk (below_step (by repeat (first | (with_reducible first | exact HB.out | apply below_alloc | apply pw_below_drewN | apply below_drew1 | refine below_set ?_ GE548.out) | exact HB.out)) hb); clear BK548; clear HB; have BK548 := n0_; have HB := n1_; clear n0_ n1_; (try clear hb); (try clear hb2); (try clear hk); (try clear hi)) | ((with_reducible refine gate_callee (f := 9) rfl ?_); refine goesL_ (some 15) rfl rfl Tryz.func9 (by kernel_rfl) rfl #[.string t550, .int .i64 a1] rfl mq ?_; (with_reducible refine (whole_Power.calls (hT := HT.out.below bq) k t550 a1 t551 t552 _ A6.out).mono ?_); rintro e w51 ⟨rfl, hb⟩; refine ⟨_, rfl, ?_⟩; have n0_ := Aside0.mk (blk_below (g := gb548) (o := .cells #[.bool a0_0, .slice A0_1 l0_1.length c0_1] 24 (0, 0)) (by (with_reducible repeat (first | refine blk_drewN ?_ _ | refine blk_drew ?_ | refine blk_alloc ?_ _)); exact BK548.out) hb); have n1_ := Aside0.mk (below_step (by repeat (first | (with_reducible first | exact HB.out | apply below_alloc | apply pw_below_drewN | apply below_drew1 | refine below_set ?_ GE548.out) | exact HB.out)) hb); clear BK548; clear HB; have BK548 := n0_; have HB := n1_; clear n0_ n1_; (try clear hb); (try clear hb2); (try clear hk); (try clear hi)) | ((with_reducible refine gate_callee (f := 10) rfl ?_); refine goesL_ (some 28) rfl rfl Tryz.func10 (by kernel_rfl) rfl #[.string t550] rfl mq ?_; (with_reducible refine (schismaref02_Abs.calls t550 t553 _ A19.out).mono ?_); rintro e w' ⟨rfl, ⟨nd, rfl⟩⟩; refine ⟨_, rfl, ?_⟩))
            go_ret
            exact ⟨eq_, by repeat (first | (with_reducible first | exact HB.out | apply below_alloc | apply pw_below_drewN | apply below_drew1 | refine below_set ?_ GE548.out) | exact HB.out)⟩
  · replace c4 := Bool.eq_false_iff.mpr c4
    subst c4
    have H1 : (some false) = some r := by rw [if_neg (show ¬ (false = true) by decide)] at H; exact H
    clear H
    have H := H1
    clear H1
    obtain rfl := Option.some.inj H
    go_enter Tryz.func3, Tryz.ntmps3
    go_wp2_with (first | ((with_reducible refine gate_dst (N := 2) rfl ?_); refine box_event ?hg (N := 2) ?hd (cs := #[.bool a0_0, .slice A0_1 l0_1.length c0_1]) (t := 24) ?hr ?_; (case hd => rfl); (case hg => rfl); (case hr => first | (go_simp; done) | (go_simp; rfl)); intro gb548 hg w52 hbox hb; have n0_ := Aside0.mk (below_step bq hb); have n1_ := Aside0.mk (hbox); have n2_ := Aside0.mk ((by rw [hg]; exact (below_size bq) : w.heap.size ≤ gb548)); have n3_ := Aside0.mk ((by rw [hg]; exact (below_size bq) : w.heap.size ≤ gb548)); clear HB; have HB := n0_; have BK548 := n1_; have GW548 := n2_; have GE548 := n3_; clear n0_ n1_ n2_ n3_; clear hb hbox hg) | ((with_reducible refine gate_callee (f := 7) rfl ?_); refine goesL_ (some 8) rfl rfl Tryz.func7 (by kernel_rfl) rfl #[] rfl mq ?_; (with_reducible refine (schismalaw02_known.calls (hT := HT.out.below bq) k  false _ A3.out).mono ?_); rintro e w53 ⟨rfl, hb⟩; refine ⟨_, rfl, ?_⟩; have n0_ := Aside0.mk (blk_below (g := gb548) (o := .cells #[.bool a0_0, .slice A0_1 l0_1.length c0_1] 24 (0, 0)) (by (with_reducible repeat (first | refine blk_drewN ?_ _ | refine blk_drew ?_ | refine blk_alloc ?_ _)); exact BK548.out) hb); have n1_ := Aside0.mk (below_step (by repeat (first | (with_reducible first | exact HB.out | apply below_alloc | apply pw_below_drewN | apply below_drew1 | refine below_set ?_ GE548.out) | exact HB.out)) hb); clear BK548; clear HB; have BK548 := n0_; have HB := n1_; clear n0_ n1_; (try clear hb); (try clear hb2); (try clear hk); (try clear hi)))
    go_ret
    exact ⟨eq_, by repeat (first | (with_reducible first | exact HB.out | apply below_alloc | apply pw_below_drewN | apply below_drew1 | refine below_set ?_ GE548.out) | exact HB.out)⟩
end Go.Proofs.YtgicckcahhlbjaaGreatDoor.P
