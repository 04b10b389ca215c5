/- Functions of the program, as functions of Lean, and the walks that show that the code answers as they do: written by a program. Conditions: those of each theorem. -/
import Derived.Test.YtgicckcahhlbjaaGreatDoorWholeSumsF7
namespace Go.Proofs.YtgicckcahhlbjaaGreatDoor.P
open Go.RowKit Go.Proofs.YtgicckcahhlbjaaGreatDoorW.PrintWords Go.Proofs.YtgicckcahhlbjaaGreatDoorW.PrintLast Go.Proofs.YtgicckcahhlbjaaGreatDoorW.PrintMore
attribute [local go_sem] gtr_text max2_int min2_int max_two min_two max_three min_three max_four min_four
set_option linter.unusedVariables false
set_option linter.unusedSimpArgs false
mutual
def schismaref02_join.l0 : Nat → List Int → ByteArray → Int → Option (ByteArray)
  | 0, _, _, _ => none
  | k + 1, x0, x3, x4 => if x4 ≥ 0 then (if 0 ≤ x4 then (if x4 < (x0.length : Int) then ((strconv_Itoa.f (rd x0 x4)).bind fun t507 => (schismaref02_join.l1 k x0 x3 x4 t507)) else (none)) else (none)) else (some x3)
def schismaref02_join.l1 : Nat → List Int → ByteArray → Int → ByteArray → Option (ByteArray)
  | 0, _, _, _, _ => none
  | k + 1, x0, x3, x4, x5 => if (x5.size : Int) < 9 then (if 1 + x5.size ≤ 9223372036854775807 then (schismaref02_join.l1 k x0 x3 x4 ((⟨#[48]⟩ : ByteArray) ++ x5)) else (none)) else (if x3.size + x5.size ≤ 9223372036854775807 then (schismaref02_join.l0 k x0 (x3 ++ x5) (wrap64 (x4 - 1))) else (none))
end
def schismaref02_join.f (k : Nat) (l0 : List Int) : Option (ByteArray) := if (l0.length : Int) = 0 then (some (⟨#[48]⟩ : ByteArray)) else (if 0 ≤ (wrap64 ((l0.length : Int) - 1)) then (if (wrap64 ((l0.length : Int) - 1)) < (l0.length : Int) then ((strconv_Itoa.f (rd l0 (wrap64 ((l0.length : Int) - 1)))).bind fun t505 => (schismaref02_join.l0 k l0 t505 (wrap64 ((l0.length : Int) - 2)))) else (none)) else (none))
theorem schismaref02_join.mono_l : ∀ k, (∀ y0 y1 y2, LeO (schismaref02_join.l0 k y0 y1 y2) (schismaref02_join.l0 (k + 1) y0 y1 y2)) ∧ (∀ y0 y1 y2 y3, LeO (schismaref02_join.l1 k y0 y1 y2 y3) (schismaref02_join.l1 (k + 1) y0 y1 y2 y3))
  | 0 => ⟨fun _ _ _ r h => by simp [schismaref02_join.l0] at h, fun _ _ _ _ r h => by simp [schismaref02_join.l1] at h⟩
  | k + 1 => by
    obtain ⟨ih0, ih1⟩ := schismaref02_join.mono_l k
    refine ⟨?_, ?_⟩
    · intro y0 y1 y2
      unfold schismaref02_join.l0
      repeat' first
      | (with_reducible exact ih0 _ _ _)
      | (with_reducible exact ih1 _ _ _ _)
      | (with_reducible exact LeO.refl _)
      | (with_reducible exact LeO.none _)
      | (with_reducible refine LeO.ite ?_ ?_)
      | (with_reducible refine LeO.bind ?_ (fun _ => ?_))
      | exact ih0 _ _ _
      | exact ih1 _ _ _ _
      | exact LeO.none _
      | refine LeO.ite ?_ ?_
      | refine LeO.bind ?_ (fun _ => ?_)
    · intro y0 y1 y2 y3
      unfold schismaref02_join.l1
      repeat' first
      | (with_reducible exact ih0 _ _ _)
      | (with_reducible exact ih1 _ _ _ _)
      | (with_reducible exact LeO.refl _)
      | (with_reducible exact LeO.none _)
      | (with_reducible refine LeO.ite ?_ ?_)
      | (with_reducible refine LeO.bind ?_ (fun _ => ?_))
      | exact ih0 _ _ _
      | exact ih1 _ _ _ _
      | exact LeO.none _
      | refine LeO.ite ?_ ?_
      | refine LeO.bind ?_ (fun _ => ?_)
theorem schismaref02_join.mono : ∀ a0 k, LeO (schismaref02_join.f k a0) (schismaref02_join.f (k + 1) a0) := by
  intro a0 k
  obtain ⟨ih0, ih1⟩ := schismaref02_join.mono_l k
  unfold schismaref02_join.f
  repeat' first
      | (with_reducible exact ih0 _ _ _)
      | (with_reducible exact ih1 _ _ _ _)
      | (with_reducible exact LeO.refl _)
      | (with_reducible exact LeO.none _)
      | (with_reducible refine LeO.ite ?_ ?_)
      | (with_reducible refine LeO.bind ?_ (fun _ => ?_))
      | exact ih0 _ _ _
      | exact ih1 _ _ _ _
      | exact LeO.none _
      | refine LeO.ite ?_ ?_
      | refine LeO.bind ?_ (fun _ => ?_)
set_option maxHeartbeats 8000000 in
set_option maxRecDepth 100000 in
theorem schismaref02_join.calls (k : Nat) (A0 : Option Addr) (c0 : Nat) (l0 : List Int) (r : ByteArray) (w : World) (hr0 : Kd.C (Kd.int .i64) w A0 l0.length l0) (hc0 : l0.length ≤ c0) (hT : Tab w) (h : schismaref02_join.f k l0 = some r) :
    Calls Tryz.prog 66 #[.slice A0 l0.length c0] w fun e w' => e = .returned (.string r) ∧ Below w.heap.size w w' := by
  have HT := Aside0.mk hT
  clear hT
  have HR0 := Aside0.mk hr0
  have HC0 := Aside0.mk hc0
  clear hr0 hc0
  have HB := Aside0.mk (Below.refl w.heap.size w)
  have H : (if (l0.length : Int) = 0 then (some (⟨#[48]⟩ : ByteArray)) else (if 0 ≤ (wrap64 ((l0.length : Int) - 1)) then (if (wrap64 ((l0.length : Int) - 1)) < (l0.length : Int) then ((strconv_Itoa.f (rd l0 (wrap64 ((l0.length : Int) - 1)))).bind fun t505 => (schismaref02_join.l0 k l0 t505 (wrap64 ((l0.length : Int) - 2)))) else (none)) else (none))) = some r := h
  clear h
  by_cases c2 : (l0.length : Int) = 0
  · rw [if_pos c2] at H
    have c2b0 : ((l0.length : Int) == 0) = true := beq_iff_eq.mpr c2
    have c2b1 : ((l0.length : Int) != 0) = false := bne_eq_false_iff_eq.mpr c2
    clear c2
    obtain rfl := Option.some.inj H
    go_enter Tryz.func66, Tryz.ntmps66
    go_wp2
    go_ret
    exact ⟨eq_, bq⟩
  · rw [if_neg c2] at H
    have c2b0 : ((l0.length : Int) == 0) = false := beq_eq_false_iff_ne.mpr c2
    have c2b1 : ((l0.length : Int) != 0) = true := bne_iff_ne.mpr c2
    have c2b2 : ¬ (l0 = []) := fun h_ => c2 (by rw [h_]; rfl)
    obtain ⟨ji3, hji3⟩ : ∃ j_ : Int, (wrap64 ((l0.length : Int) - 1)) = j_ := ⟨_, rfl⟩
    replace H : (if 0 ≤ (ji3) then (if (ji3) < (l0.length : Int) then ((strconv_Itoa.f (rd l0 (ji3))).bind fun t505 => (schismaref02_join.l0 k l0 t505 (wrap64 ((l0.length : Int) - 2)))) else (none)) else (none)) = some r := by first | (rw [hji3] at H; exact H) | (simp only [hji3] at H ⊢; exact H)
    have hji3w : (IntKind.i64.wrap ((l0.length : Int) - 1)) = ji3 := (i64_w _).trans hji3
    by_cases c4 : 0 ≤ (ji3)
    · rw [if_pos c4] at H
      have c4b0 : decide (0 ≤ (ji3)) = true := decide_eq_true c4
      clear c4
      by_cases c5 : (ji3) < (l0.length : Int)
      · rw [if_pos c5] at H
        have c5b0 : decide ((ji3) < (l0.length : Int)) = true := decide_eq_true c5
        clear c5
        replace H := Option.bind_eq_some_iff.mp H
        obtain ⟨t505, A60, H⟩ := H
        replace H : (schismaref02_join.l0 k l0 t505 (wrap64 ((l0.length : Int) - 2))) = some r := H
        have A6 := Aside0.mk A60
        clear A60
        have H' := Aside0.mk H
        clear H
        have p504 : 0 ≤ ((ji3) : Int) := of_decide_eq_true (by first | (with_reducible assumption) | assumption)
        have q504 : (ji3) < (l0.length : Int) := of_decide_eq_true (by first | (with_reducible assumption) | assumption)
        obtain ⟨ad504, e504, hx504_0⟩ := Kd.at_int HR0.out (ji3) p504 q504
        cases e504
        replace p504 := eq_true p504
        replace q504 := eq_true q504
        go_enter Tryz.func66, Tryz.ntmps66
        go_wp2_with (first | ((with_reducible refine gate_callee (f := 64) rfl ?_); refine goesL_ (some 15) rfl rfl Tryz.func64 (by kernel_rfl) rfl #[.int .i64 (rd l0 (ji3))] rfl (by (try simp only [List.map_toArray, List.map_cons, List.map_nil]); first | done | (simp only [hji3]; rfl) | rfl | (simp only [List.length_drop, List.length_take]; rfl)) ?_; (with_reducible refine (strconv_Itoa.calls (hT := HT.out.below bq) (rd l0 (ji3)) t505 _ A6.out).mono ?_); rintro e w7 ⟨rfl, hb⟩; refine ⟨_, rfl, ?_⟩; replace HB := Aside0.mk (below_step bq hb); (try clear hb); (try clear hb2); (try clear hk); (try clear hi)))
        go_loopg [3, 4] k (fun kq v3 v4 w' => ∃ (x3_1 : ByteArray) (x4_1 : Int), v3 = .string x3_1 ∧ v4 = .int .i64 x4_1 ∧ Aside0 (schismaref02_join.l0 kq l0 x3_1 x4_1 = some r) ∧ Aside0 (kq ≤ k) ∧ Aside0 (Below w.heap.size w w'))
        case atStart => exact ⟨(t505), (wrap64 ((l0.length : Int) - 2)), (by first | rfl | (simp; done) | (simp [*]; done)), (by first | rfl | (simp; done) | (simp [*]; done)), H', ⟨Nat.le_refl _⟩, ⟨bq⟩⟩
        case round =>
          clear H'
          try clear c2
          try clear c2b0
          try clear c2b1
          try clear c2b2
          try clear p2
          try clear c4
          try clear c4b0
          try clear c5
          try clear c5b0
          try clear p5
          try clear q5
          try clear hx5
          try clear c6
          try clear p6
          try clear hx504_0
          try clear p504
          try clear q504
          obtain ⟨x3_1, x4_1, rfl, rfl, HA, HK1, HB⟩ := hrel
          cases gk with
          | zero => exact absurd HA.out (by simp [schismaref02_join.l0])
          | succ k1 =>
            have H := HA.out
            clear HA
            simp only [schismaref02_join.l0] at H
            by_cases c8 : x4_1 ≥ 0
            · rw [if_pos c8] at H
              have c8b0 : decide (0 ≤ x4_1) = true := decide_eq_true c8
              clear c8
              by_cases c9 : 0 ≤ x4_1
              · rw [if_pos c9] at H
                have c9b0 : decide (0 ≤ x4_1) = true := decide_eq_true c9
                clear c9
                by_cases c10 : x4_1 < (l0.length : Int)
                · rw [if_pos c10] at H
                  have c10b0 : decide (x4_1 < (l0.length : Int)) = true := decide_eq_true c10
                  clear c10
                  replace H := Option.bind_eq_some_iff.mp H
                  obtain ⟨t507, A110, H⟩ := H
                  replace H : (schismaref02_join.l1 k1 l0 x3_1 x4_1 t507) = some r := H
                  have A11 := Aside0.mk A110
                  clear A110
                  have H' := Aside0.mk H
                  clear H
                  have p506 : 0 ≤ (x4_1 : Int) := of_decide_eq_true (by first | (with_reducible assumption) | assumption)
                  have q506 : x4_1 < (l0.length : Int) := of_decide_eq_true (by first | (with_reducible assumption) | assumption)
                  obtain ⟨ad506, e506, hx506_0⟩ := Kd.at_int HR0.out x4_1 p506 q506
                  obtain rfl : ad504 = ad506 := (by injection e506)
                  replace hx506_0 := (HB.out.cell (World.block_lt_of_cell? w _ hx506_0)).trans hx506_0
                  replace p506 := eq_true p506
                  replace q506 := eq_true q506
                  go_wp2_with (first | ((with_reducible refine gate_callee (f := 64) rfl ?_); refine goesL_ (some 27) rfl rfl Tryz.func64 (by kernel_rfl) rfl #[.int .i64 (rd l0 x4_1)] rfl mq ?_; (with_reducible refine (strconv_Itoa.calls (hT := HT.out.below bq) (rd l0 x4_1) t507 _ A11.out).mono ?_); rintro e w12 ⟨rfl, hb⟩; refine ⟨_, rfl, ?_⟩; replace HB := Aside0.mk (below_step bq hb); (try clear hb); (try clear hb2); (try clear hk); (try clear hi)))
                  go_loopg [5] k1 (fun kq v5 w' => ∃ (x5_2 : ByteArray), v5 = .string x5_2 ∧ Aside0 (schismaref02_join.l1 kq l0 x3_1 x4_1 x5_2 = some r) ∧ Aside0 (kq ≤ k1) ∧ Aside0 (Below w.heap.size w w'))
                  case atStart => exact ⟨(t507), (by first | rfl | (simp; done) | (simp [*]; done)), H', ⟨Nat.le_refl _⟩, ⟨bq⟩⟩
                  case round =>
                    clear H'
                    try clear c1
                    try clear c2
                    try clear c2b0
                    try clear c2b1
                    try clear c2b2
                    try clear p2
                    try clear c4
                    try clear c4b0
                    try clear c5
                    try clear c5b0
                    try clear p5
                    try clear q5
                    try clear hx5
                    try clear c6
                    try clear p6
                    try clear c8
                    try clear c8b0
                    try clear c9
                    try clear c9b0
                    try clear c10
                    try clear c10b0
                    try clear hx504_0
                    try clear hx506_0
                    try clear p2
                    try clear p5
                    try clear p504
                    try clear p506
                    try clear p6
                    try clear q5
                    try clear q504
                    try clear q506
                    obtain ⟨x5_2, rfl, HA, HK2, HB⟩ := hrel
                    cases gk with
                    | zero => exact absurd HA.out (by simp [schismaref02_join.l1])
                    | succ k2 =>
                      have H := HA.out
                      clear HA
                      simp only [schismaref02_join.l1] at H
                      by_cases c13 : (x5_2.size : Int) < 9
                      · rw [if_pos c13] at H
                        have c13b0 : decide ((x5_2.size : Int) < 9) = true := decide_eq_true c13
                        have c13b1 : decide (x5_2.size < 9) = true := decide_eq_true (by omega)
                        clear c13
                        by_cases c14 : 1 + x5_2.size ≤ 9223372036854775807
                        · rw [if_pos c14] at H
                          have c14b0 := eq_true c14
                          have c14b1 : decide (1 + x5_2.size ≤ 9223372036854775807) = true := decide_eq_true c14
                          try have c14b2 : (9223372036854775807 < 1 + x5_2.size) = False := eq_false (Nat.not_lt.2 c14)
                          have H' := Aside0.mk H
                          clear H
                          go_wp2
                          go_roundg k2
                          case measure => have := HK1.out; have := HK2.out; omega
                          case rel => exact ⟨((⟨#[48]⟩ : ByteArray) ++ x5_2), (by first | rfl | (simp; done) | (simp [*]; done)), H', ⟨by have := HK1.out; have := HK2.out; omega⟩, ⟨bq⟩⟩
                        · rw [if_neg c14] at H
                          exact absurd H (by simp)
                      · rw [if_neg c13] at H
                        have c13b0 : decide ((x5_2.size : Int) < 9) = false := decide_eq_false c13
                        have c13b1 : decide (x5_2.size < 9) = false := decide_eq_false (by omega)
                        clear c13
                        by_cases c15 : x3_1.size + x5_2.size ≤ 9223372036854775807
                        · rw [if_pos c15] at H
                          have c15b0 := eq_true c15
                          have c15b1 : decide (x3_1.size + x5_2.size ≤ 9223372036854775807) = true := decide_eq_true c15
                          try have c15b2 : (9223372036854775807 < x3_1.size + x5_2.size) = False := eq_false (Nat.not_lt.2 c15)
                          have H' := Aside0.mk H
                          clear H
                          go_wp2
                          go_roundg k2
                          case measure => have := HK1.out; have := HK2.out; omega
                          case rel => exact ⟨(x3_1 ++ x5_2), (wrap64 (x4_1 - 1)), (by first | rfl | (simp; done) | (simp [*]; done)), (by first | rfl | (simp; done) | (simp [*]; done)), H', ⟨by have := HK1.out; have := HK2.out; omega⟩, ⟨bq⟩⟩
                        · rw [if_neg c15] at H
                          exact absurd H (by simp)
                · rw [if_neg c10] at H
                  exact absurd H (by simp)
              · rw [if_neg c9] at H
                exact absurd H (by simp)
            · rw [if_neg c8] at H
              have c8b0 : decide (0 ≤ x4_1) = false := decide_eq_false c8
              clear c8
              obtain rfl := Option.some.inj H
              go_wp2
              go_ret
              exact ⟨by first | rfl | (simp [errW_none, errW_some] <;> rfl) | (simp only [← hji3]; first | rfl | (simp [errW_none, errW_some] <;> rfl)) | (simp [*, errW_none, errW_some] <;> rfl), bq⟩
      · rw [if_neg c5] at H
        exact absurd H (by simp)
    · rw [if_neg c4] at H
      exact absurd H (by simp)
def schismaref02_signed.j0 : Nat → List Int → Bool → Option (ByteArray)
  | 0, _, _ => none
  | k + 1, x1, x12 => if x12 = true then ((schismaref02_join.f k x1).bind fun t511 => (if 1 + t511.size ≤ 9223372036854775807 then (some ((⟨#[45]⟩ : ByteArray) ++ t511)) else (none))) else ((schismaref02_join.f k x1).bind fun t512 => (some t512))
def schismaref02_signed.f (k : Nat) (a0 : Bool) (l1 : List Int) : Option (ByteArray) := (schismaref02_trim.f k l1).bind fun t508 => (if a0 = true then (schismaref02_signed.j0 k t508 (decide ((t508.length : Int) > 0))) else (schismaref02_signed.j0 k t508 false))
theorem schismaref02_signed.mono_l : ∀ k, (∀ y0 y1, LeO (schismaref02_signed.j0 k y0 y1) (schismaref02_signed.j0 (k + 1) y0 y1))
  | 0 => fun _ _ r h => by simp [schismaref02_signed.j0] at h
  | k + 1 => by
    have ih0 := schismaref02_signed.mono_l k
    · intro y0 y1
      unfold schismaref02_signed.j0
      repeat' first
      | (with_reducible exact ih0 _ _)
      | (with_reducible exact schismaref02_join.mono _ _)
      | (with_reducible exact schismaref02_trim.mono _ _)
      | (with_reducible exact LeO.refl _)
      | (with_reducible exact LeO.none _)
      | (with_reducible refine LeO.ite ?_ ?_)
      | (with_reducible refine LeO.bind ?_ (fun _ => ?_))
      | exact ih0 _ _
      | exact schismaref02_join.mono _ _
      | exact schismaref02_trim.mono _ _
      | exact LeO.none _
      | refine LeO.ite ?_ ?_
      | refine LeO.bind ?_ (fun _ => ?_)
theorem schismaref02_signed.mono : ∀ a0 a1 k, LeO (schismaref02_signed.f k a0 a1) (schismaref02_signed.f (k + 1) a0 a1) := by
  intro a0 a1 k
  have ih0 := schismaref02_signed.mono_l k
  unfold schismaref02_signed.f
  repeat' first
      | (with_reducible exact ih0 _ _)
      | (with_reducible exact schismaref02_join.mono _ _)
      | (with_reducible exact schismaref02_trim.mono _ _)
      | (with_reducible exact LeO.refl _)
      | (with_reducible exact LeO.none _)
      | (with_reducible refine LeO.ite ?_ ?_)
      | (with_reducible refine LeO.bind ?_ (fun _ => ?_))
      | exact ih0 _ _
      | exact schismaref02_join.mono _ _
      | exact schismaref02_trim.mono _ _
      | exact LeO.none _
      | refine LeO.ite ?_ ?_
      | refine LeO.bind ?_ (fun _ => ?_)
set_option maxHeartbeats 8000000 in
set_option maxRecDepth 100000 in
theorem schismaref02_signed.calls (k : Nat) (a0 : Bool) (P1_ : Nat → Prop) (u9000_ : Value) (l1 : List Int) (r : ByteArray) (w0 w : World) (hB : Below w0.heap.size w0 w) (ho1 : Kd.R (Kd.int .i64) 3 w w0.heap.size P1_ u9000_ l1) (hT : Tab w0) (h : schismaref02_signed.f k a0 l1 = some r) :
    Calls Tryz.prog 36 #[.bool a0, u9000_] w fun e w' => e = .returned (.string r) ∧ Below w0.heap.size w0 w' ∧ Kept w w' (fun k_ => P1_ k_) := by
  have HT := Aside0.mk hT
  clear hT
  have HO1 := Aside0.mk (show Kd.R (Kd.int .i64) 3 w w0.heap.size (fun k_ => (P1_ k_ ∨ w.heap.size ≤ k_)) u9000_ l1 from Kd.R_mono ho1 (fun k_ hk => (.inl hk)))
  have HK := Aside0.mk (Kept.refl w (fun k_ => P1_ k_))
  have HW0 := Aside0.mk hB.size
  have HB := Aside0.mk hB
  clear hB
  have H : ((schismaref02_trim.f k l1).bind fun t508 => (if a0 = true then (schismaref02_signed.j0 k t508 (decide ((t508.length : Int) > 0))) else (schismaref02_signed.j0 k t508 false))) = some r := h
  clear h
  replace H := Option.bind_eq_some_iff.mp H
  obtain ⟨t508, A30, H⟩ := H
  replace H : (if a0 = true then (schismaref02_signed.j0 k t508 (decide ((t508.length : Int) > 0))) else (schismaref02_signed.j0 k t508 false)) = some r := H
  have A3 := Aside0.mk A30
  clear A30
  have HC4 := Aside0.mk H
  clear H
  obtain ⟨Ao5, co5, eo5⟩ := Kd.R_slice HO1.out
  subst eo5
  go_enter Tryz.func36, Tryz.ntmps36
  go_upto_region 2 with (first | ((with_reducible refine gate_callee (f := 65) rfl ?_); refine goesL_ (some 6) rfl rfl Tryz.func65 (by kernel_rfl) rfl #[.slice Ao5 l1.length co5] rfl mq ?_; (with_reducible refine (schismaref02_trim.calls k (fun k_ => some k_ = (.slice Ao5 l1.length co5 : Value).ownBlock) (.slice Ao5 l1.length co5) l1 t508 w0 _ ?side1 ?side2 A3.out).mono ?_); (case side1 => exact bq); (case side2 => exact Kd.R_tight rfl HO1.out); rintro e w6 ⟨v509, rfl, ho0, hb, hkp⟩; refine ⟨_, rfl, ?_⟩; have n0_ := Aside0.mk (Kd.R_mono (ok' := fun k_ => (P1_ k_ ∨ w.heap.size ≤ k_)) ho0 (fun k_ hk_ => Or.elim hk_ (fun hs_ => (HO1.out.1 k_ (hs_).symm)) (fun hn_ => (.inr (Nat.le_trans (by first | exact HK.out.1 | exact (show Kept w _ (fun k_ => P1_ k_) from by repeat (first | (with_reducible first | exact HK.out | apply Kept.alloc | apply Kept.drewN | apply Kept.drew) | exact HK.out)).1) hn_))))); have n1_ := Aside0.mk (Kept.then_ (S := (fun k_ => P1_ k_)) (by repeat (first | (with_reducible first | exact HK.out | apply Kept.alloc | apply Kept.drewN | apply Kept.drew) | exact HK.out)) hkp (fun k_ hs_ => (fun e_ => (HO1.out.1 k_ e_.symm)) hs_)); have n2_ := Aside0.mk (hb); clear HK; clear HB; clear HO1; have HO510 := n0_; have HK := n1_; have HB := n2_; clear n0_ n1_ n2_; (try clear hb); (try clear hkp); (try clear ho0)))
  (try simp only [Act.put, List.setIfInBounds_toArray, List.set_cons_zero, List.set_cons_succ])
  go_cut [12] (fun v12 wc => ∃ (kq : Nat) (x12_3 : Bool), v12 = .bool x12_3 ∧ Aside0 (schismaref02_signed.j0 kq t508 x12_3 = some r) ∧ Aside0 (kq ≤ k) ∧ Aside0 (Kd.R (Kd.int .i64) 3 wc w0.heap.size (fun k_ => (P1_ k_ ∨ w.heap.size ≤ k_)) v509 t508) ∧ Aside0 (Kept w wc (fun k_ => P1_ k_)) ∧ Aside0 (Below w0.heap.size w0 wc))
  case first =>
    have H := HC4.out
    clear HC4
    by_cases c7 : a0 = true
    · subst c7
      have H1 : (schismaref02_signed.j0 k t508 (decide ((t508.length : Int) > 0))) = some r := by rw [if_pos rfl] at H; exact H
      clear H
      have H := H1
      clear H1
      have H' := Aside0.mk H
      clear H
      obtain ⟨Ao8, co8, eo8⟩ := Kd.R_slice HO510.out
      subst eo8
      go_wp2
      go_meet
      case rel => exact ⟨_, (decide ((t508.length : Int) > 0)), (by first | rfl | (simp; done) | (simp [*]; done)), H', ⟨by first | omega | exact Nat.le_refl _⟩, ⟨by (with_reducible repeat (first | apply Kd.R_alloc | apply Kd.R_drewN | apply Kd.R_drew)); exact HO510.out⟩, ⟨by repeat (first | (with_reducible first | exact HK.out | apply Kept.alloc | apply Kept.drewN | apply Kept.drew) | exact HK.out)⟩, ⟨bq⟩⟩
    · replace c7 := Bool.eq_false_iff.mpr c7
      subst c7
      have H1 : (schismaref02_signed.j0 k t508 false) = some r := by rw [if_neg (show ¬ (false = true) by decide)] at H; exact H
      clear H
      have H := H1
      clear H1
      have H' := Aside0.mk H
      clear H
      go_wp2
      go_meet
      case rel => exact ⟨_, (false), (by first | rfl | (simp; done) | (simp [*]; done)), H', ⟨by first | omega | exact Nat.le_refl _⟩, ⟨by (with_reducible repeat (first | apply Kd.R_alloc | apply Kd.R_drewN | apply Kd.R_drew)); exact HO510.out⟩, ⟨by repeat (first | (with_reducible first | exact HK.out | apply Kept.alloc | apply Kept.drewN | apply Kept.drew) | exact HK.out)⟩, ⟨bq⟩⟩
  case rest =>
    clear HC4
    try clear p2
    try clear c3
    try clear c6
    try clear c7
    obtain ⟨kq, x12_3, rfl, HA, HJ3, HO_1, HK, HB⟩ := hcut
    cases kq with
    | zero => exact absurd HA.out (by simp [schismaref02_signed.j0])
    | succ kj3 =>
      have H := HA.out
      clear HA
      simp only [schismaref02_signed.j0] at H
      by_cases c9 : x12_3 = true
      · subst c9
        have H1 : ((schismaref02_join.f kj3 t508).bind fun t511 => (if 1 + t511.size ≤ 9223372036854775807 then (some ((⟨#[45]⟩ : ByteArray) ++ t511)) else (none))) = some r := by rw [if_pos rfl] at H; exact H
        clear H
        have H := H1
        clear H1
        replace H := Option.bind_eq_some_iff.mp H
        obtain ⟨t511, A100, H⟩ := H
        replace H : (if 1 + t511.size ≤ 9223372036854775807 then (some ((⟨#[45]⟩ : ByteArray) ++ t511)) else (none)) = some r := H
        have A10 := Aside0.mk A100
        clear A100
        by_cases c11 : 1 + t511.size ≤ 9223372036854775807
        · rw [if_pos c11] at H
          have c11b0 := eq_true c11
          have c11b1 : decide (1 + t511.size ≤ 9223372036854775807) = true := decide_eq_true c11
          try have c11b2 : (9223372036854775807 < 1 + t511.size) = False := eq_false (Nat.not_lt.2 c11)
          obtain rfl := Option.some.inj H
          obtain ⟨Ao12, co12, eo12⟩ := Kd.R_slice HO_1.out
          subst eo12
          go_wp2_with (first | ((with_reducible refine gate_callee (f := 66) rfl ?_); refine goesL_ (some 14) rfl rfl Tryz.func66 (by kernel_rfl) rfl #[.slice Ao12 t508.length co12] rfl mq ?_; (with_reducible refine (schismaref02_join.calls (hT := HT.out.below bq) kj3 _ _ t508 t511 _ ?side1 ?side2 A10.out).mono ?_); (case side1 => repeat (first | exact (Kd.R_reads' HO_1.out).2.2 | (with_reducible refine Kd.C_alloc ?_ _) | (with_reducible refine Kd.C_drewN ?_ _) | (with_reducible refine Kd.C_drew ?_))); (case side2 => exact (Kd.R_reads' HO_1.out).2.1); rintro e w13 ⟨rfl, hb⟩; refine ⟨_, rfl, ?_⟩; have n0_ := Aside0.mk (Kd.R_below (by (with_reducible repeat (first | apply Kd.R_alloc | apply Kd.R_drewN | apply Kd.R_drew)); exact HO_1.out) hb); have n1_ := Aside0.mk (Kept.below (S := (fun k_ => P1_ k_)) (by repeat (first | (with_reducible first | exact HK.out | apply Kept.alloc | apply Kept.drewN | apply Kept.drew) | exact HK.out)) hb); have n2_ := Aside0.mk (below_step bq hb); clear HO_1; clear HK; clear HB; have HO_1 := n0_; have HK := n1_; have HB := n2_; clear n0_ n1_ n2_; (try clear hb); (try clear hb2); (try clear hk); (try clear hi)))
          go_ret
          exact ⟨eq_, bq, by repeat (first | (with_reducible first | exact HK.out | apply Kept.alloc | apply Kept.drewN | apply Kept.drew) | exact HK.out)⟩
        · rw [if_neg c11] at H
          exact absurd H (by simp)
      · replace c9 := Bool.eq_false_iff.mpr c9
        subst c9
        have H1 : ((schismaref02_join.f kj3 t508).bind fun t512 => (some t512)) = some r := by rw [if_neg (show ¬ (false = true) by decide)] at H; exact H
        clear H
        have H := H1
        clear H1
        replace H := Option.bind_eq_some_iff.mp H
        obtain ⟨t512, A140, H⟩ := H
        replace H : (some t512) = some r := H
        have A14 := Aside0.mk A140
        clear A140
        obtain rfl := Option.some.inj H
        obtain ⟨Ao15, co15, eo15⟩ := Kd.R_slice HO_1.out
        subst eo15
        go_wp2_with (first | ((with_reducible refine gate_callee (f := 66) rfl ?_); refine goesL_ (some 17) rfl rfl Tryz.func66 (by kernel_rfl) rfl #[.slice Ao15 t508.length co15] rfl mq ?_; (with_reducible refine (schismaref02_join.calls (hT := HT.out.below bq) kj3 _ _ t508 t512 _ ?side1 ?side2 A14.out).mono ?_); (case side1 => repeat (first | exact (Kd.R_reads' HO_1.out).2.2 | (with_reducible refine Kd.C_alloc ?_ _) | (with_reducible refine Kd.C_drewN ?_ _) | (with_reducible refine Kd.C_drew ?_))); (case side2 => exact (Kd.R_reads' HO_1.out).2.1); rintro e w16 ⟨rfl, hb⟩; refine ⟨_, rfl, ?_⟩; have n0_ := Aside0.mk (Kd.R_below (by (with_reducible repeat (first | apply Kd.R_alloc | apply Kd.R_drewN | apply Kd.R_drew)); exact HO_1.out) hb); have n1_ := Aside0.mk (Kept.below (S := (fun k_ => P1_ k_)) (by repeat (first | (with_reducible first | exact HK.out | apply Kept.alloc | apply Kept.drewN | apply Kept.drew) | exact HK.out)) hb); have n2_ := Aside0.mk (below_step bq hb); clear HO_1; clear HK; clear HB; have HO_1 := n0_; have HK := n1_; have HB := n2_; clear n0_ n1_ n2_; (try clear hb); (try clear hb2); (try clear hk); (try clear hi)))
        go_ret
        exact ⟨eq_, bq, by repeat (first | (with_reducible first | exact HK.out | apply Kept.alloc | apply Kept.drewN | apply Kept.drew) | exact HK.out)⟩
mutual
def schismaref02_plus.l0 : Nat → List Int → List Int → List Int → Int → Int → Option (List Int)
  | 0, _, _, _, _, _ => none
  | k + 1, x0, x1, x5, x6, x7 => if x7 < (x0.length : Int) then (schismaref02_plus.j1 k x0 x1 x5 x6 x7 true) else (if x7 < (x1.length : Int) then (schismaref02_plus.j1 k x0 x1 x5 x6 x7 true) else (schismaref02_plus.j1 k x0 x1 x5 x6 x7 (decide (x6 > 0))))
def schismaref02_plus.j1 : Nat → List Int → List Int → List Int → Int → Int → Bool → Option (List Int)
  | 0, _, _, _, _, _, _ => none
  | k + 1, x0, x1, x5, x6, x7, x21 => if x21 = true then (if x7 < (x0.length : Int) then (if 0 ≤ x7 then (if x7 < (x1.length : Int) then (if x5.length < 17592186044416 then (schismaref02_plus.l0 k x0 x1 (x5 ++ [Int.tmod (wrap64 ((wrap64 (x6 + (rd x0 x7))) + (rd x1 x7))) 1000000000]) (wrap64 (Int.tdiv (wrap64 ((wrap64 (x6 + (rd x0 x7))) + (rd x1 x7))) 1000000000)) (wrap64 (x7 + 1))) else (none)) else (if x5.length < 17592186044416 then (schismaref02_plus.l0 k x0 x1 (x5 ++ [Int.tmod (wrap64 (x6 + (rd x0 x7))) 1000000000]) (wrap64 (Int.tdiv (wrap64 (x6 + (rd x0 x7))) 1000000000)) (wrap64 (x7 + 1))) else (none))) else (none)) else (if x7 < (x1.length : Int) then (if 0 ≤ x7 then (if x5.length < 17592186044416 then (schismaref02_plus.l0 k x0 x1 (x5 ++ [Int.tmod (wrap64 (x6 + (rd x1 x7))) 1000000000]) (wrap64 (Int.tdiv (wrap64 (x6 + (rd x1 x7))) 1000000000)) (wrap64 (x7 + 1))) else (none)) else (none)) else (if x5.length < 17592186044416 then (schismaref02_plus.l0 k x0 x1 (x5 ++ [Int.tmod x6 1000000000]) (wrap64 (Int.tdiv x6 1000000000)) (wrap64 (x7 + 1))) else (none)))) else (some x5)
end
def schismaref02_plus.f (k : Nat) (l0 : List Int) (l1 : List Int) : Option (List Int) := schismaref02_plus.l0 k l0 l1 ([] : List Int) 0 0
theorem schismaref02_plus.mono_l : ∀ k, (∀ y0 y1 y2 y3 y4, LeO (schismaref02_plus.l0 k y0 y1 y2 y3 y4) (schismaref02_plus.l0 (k + 1) y0 y1 y2 y3 y4)) ∧ (∀ y0 y1 y2 y3 y4 y5, LeO (schismaref02_plus.j1 k y0 y1 y2 y3 y4 y5) (schismaref02_plus.j1 (k + 1) y0 y1 y2 y3 y4 y5))
  | 0 => ⟨fun _ _ _ _ _ r h => by simp [schismaref02_plus.l0] at h, fun _ _ _ _ _ _ r h => by simp [schismaref02_plus.j1] at h⟩
  | k + 1 => by
    obtain ⟨ih0, ih1⟩ := schismaref02_plus.mono_l k
    refine ⟨?_, ?_⟩
    · intro y0 y1 y2 y3 y4
      unfold schismaref02_plus.l0
      repeat' first
      | (with_reducible exact ih0 _ _ _ _ _)
      | (with_reducible exact ih1 _ _ _ _ _ _)
      | (with_reducible exact LeO.refl _)
      | (with_reducible exact LeO.none _)
      | (with_reducible refine LeO.ite ?_ ?_)
      | (with_reducible refine LeO.bind ?_ (fun _ => ?_))
      | exact ih0 _ _ _ _ _
      | exact ih1 _ _ _ _ _ _
      | exact LeO.none _
      | refine LeO.ite ?_ ?_
      | refine LeO.bind ?_ (fun _ => ?_)
    · intro y0 y1 y2 y3 y4 y5
      unfold schismaref02_plus.j1
      repeat' first
      | (with_reducible exact ih0 _ _ _ _ _)
      | (with_reducible exact ih1 _ _ _ _ _ _)
      | (with_reducible exact LeO.refl _)
      | (with_reducible exact LeO.none _)
      | (with_reducible refine LeO.ite ?_ ?_)
      | (with_reducible refine LeO.bind ?_ (fun _ => ?_))
      | exact ih0 _ _ _ _ _
      | exact ih1 _ _ _ _ _ _
      | exact LeO.none _
      | refine LeO.ite ?_ ?_
      | refine LeO.bind ?_ (fun _ => ?_)
theorem schismaref02_plus.mono : ∀ a0 a1 k, LeO (schismaref02_plus.f k a0 a1) (schismaref02_plus.f (k + 1) a0 a1) := by
  intro a0 a1 k
  obtain ⟨ih0, ih1⟩ := schismaref02_plus.mono_l k
  unfold schismaref02_plus.f
  repeat' first
      | (with_reducible exact ih0 _ _ _ _ _)
      | (with_reducible exact ih1 _ _ _ _ _ _)
      | (with_reducible exact LeO.refl _)
      | (with_reducible exact LeO.none _)
      | (with_reducible refine LeO.ite ?_ ?_)
      | (with_reducible refine LeO.bind ?_ (fun _ => ?_))
      | exact ih0 _ _ _ _ _
      | exact ih1 _ _ _ _ _ _
      | exact LeO.none _
      | refine LeO.ite ?_ ?_
      | refine LeO.bind ?_ (fun _ => ?_)
set_option maxHeartbeats 8000000 in
set_option maxRecDepth 100000 in
theorem schismaref02_plus.calls (k : Nat) (A0 : Option Addr) (c0 : Nat) (l0 : List Int) (A1 : Option Addr) (c1 : Nat) (l1 : List Int) (r : List Int) (w : World) (hr0 : Kd.C (Kd.int .i64) w A0 l0.length l0) (hc0 : l0.length ≤ c0) (hr1 : Kd.C (Kd.int .i64) w A1 l1.length l1) (hc1 : l1.length ≤ c1) (h : schismaref02_plus.f k l0 l1 = some r) :
    Calls Tryz.prog 37 #[.slice A0 l0.length c0, .slice A1 l1.length c1] w fun e w' => ∃ v0_ : Value, e = .returned (v0_) ∧ Kd.R (Kd.int .i64) 3 w' w.heap.size (fun _ => True) v0_ r ∧ Below w.heap.size w w' := by
  have HR0 := Aside0.mk hr0
  have HC0 := Aside0.mk hc0
  clear hr0 hc0
  have HR1 := Aside0.mk hr1
  have HC1 := Aside0.mk hc1
  clear hr1 hc1
  have HB := Aside0.mk (Below.refl w.heap.size w)
  have H : (schismaref02_plus.l0 k l0 l1 ([] : List Int) 0 0) = some r := h
  clear h
  have H' := Aside0.mk H
  clear H
  go_enter Tryz.func37, Tryz.ntmps37
  go_wp2
  go_loopg [5, 6, 7] k (fun kq v5 v6 v7 w' => ∃ (x5_1 : List Int) (x6_1 : Int) (x7_1 : Int), v6 = .int .i64 x6_1 ∧ v7 = .int .i64 x7_1 ∧ Aside0 (schismaref02_plus.l0 kq l0 l1 x5_1 x6_1 x7_1 = some r) ∧ Aside0 (kq ≤ k) ∧ Aside0 (Kd.R (Kd.int .i64) 3 w' w.heap.size (fun _ => True) v5 x5_1) ∧ Aside0 (Below w.heap.size w w'))
  case atStart => exact ⟨(([] : List Int)), (0), (0), (by first | rfl | (simp; done) | (simp [*]; done)), (by first | rfl | (simp; done) | (simp [*]; done)), H', ⟨Nat.le_refl _⟩, ⟨by first | exact Kd.R_nil _ _ _ _ _ | exact Kd.N_nil _ _ _ _ _ | exact Kd.V_nil _ _ _ _ _ | exact Kd.Q_nil _ _ _ _ _ | exact Kd.S_nil _ _ _ _ _⟩, ⟨bq⟩⟩
  case round =>
    clear H'
    try clear c1
    try clear p2
    obtain ⟨x5_1, x6_1, x7_1, rfl, rfl, HA, HK1, HO_5, HB⟩ := hrel
    cases gk with
    | zero => exact absurd HA.out (by simp [schismaref02_plus.l0])
    | succ k1 =>
      have H := HA.out
      clear HA
      simp only [schismaref02_plus.l0] at H
      have HC3 := Aside0.mk H
      clear H
      go_upto_region 4 with (fail)
      go_cut [21] (fun v21 wc => ∃ (kq : Nat) (x21_2 : Bool), v21 = .bool x21_2 ∧ Aside0 (schismaref02_plus.j1 kq l0 l1 x5_1 x6_1 x7_1 x21_2 = some r) ∧ Aside0 (kq ≤ k1) ∧ Aside0 (Kd.R (Kd.int .i64) 3 wc w.heap.size (fun _ => True) u5 x5_1) ∧ Aside0 (Below w.heap.size w wc))
      case first =>
        have H := HC3.out
        clear HC3
        by_cases c4 : x7_1 < (l0.length : Int)
        · rw [if_pos c4] at H
          have c4b0 : decide (x7_1 < (l0.length : Int)) = true := decide_eq_true c4
          clear c4
          (first | rw [c4b0] | (simp only [i64_w, i32_w]; rw [c4b0]) | skip)
          have H' := Aside0.mk H
          clear H
          go_wp2
          go_meet
          case rel => exact ⟨_, (true), (by first | rfl | (simp; done) | (simp [*]; done)), H', ⟨by have := HK1.out; first | omega | exact Nat.le_refl _⟩, ⟨by (with_reducible repeat (first | apply Kd.R_alloc | apply Kd.R_drewN | apply Kd.R_drew)); exact HO_5.out⟩, ⟨bq⟩⟩
        · rw [if_neg c4] at H
          have c4b0 : decide (x7_1 < (l0.length : Int)) = false := decide_eq_false c4
          clear c4
          (first | rw [c4b0] | (simp only [i64_w, i32_w]; rw [c4b0]) | skip)
          by_cases c5 : x7_1 < (l1.length : Int)
          · rw [if_pos c5] at H
            have c5b0 : decide (x7_1 < (l1.length : Int)) = true := decide_eq_true c5
            clear c5
            have H' := Aside0.mk H
            clear H
            go_wp2
            go_meet
            case rel => exact ⟨_, (true), (by first | rfl | (simp; done) | (simp [*]; done)), H', ⟨by have := HK1.out; first | omega | exact Nat.le_refl _⟩, ⟨by (with_reducible repeat (first | apply Kd.R_alloc | apply Kd.R_drewN | apply Kd.R_drew)); exact HO_5.out⟩, ⟨bq⟩⟩
          · rw [if_neg c5] at H
            have c5b0 : decide (x7_1 < (l1.length : Int)) = false := decide_eq_false c5
            clear c5
            have H' := Aside0.mk H
            clear H
            go_wp2
            go_meet
            case rel => exact ⟨_, (decide (x6_1 > 0)), (by first | rfl | (simp; done) | (simp [*]; done)), H', ⟨by have := HK1.out; first | omega | exact Nat.le_refl _⟩, ⟨by (with_reducible repeat (first | apply Kd.R_alloc | apply Kd.R_drewN | apply Kd.R_drew)); exact HO_5.out⟩, ⟨bq⟩⟩
      case rest =>
        clear HC3
        try clear c1
        try clear p2
        try clear c3
        try clear c4
        try clear c4b0
        try clear c5
        try clear c5b0
        try clear p2
        obtain ⟨kq, x21_2, rfl, HA, HJ2, HO_5, HB⟩ := hcut
        cases kq with
        | zero => exact absurd HA.out (by simp [schismaref02_plus.j1])
        | succ kj2 =>
          have H := HA.out
          clear HA
          simp only [schismaref02_plus.j1] at H
          by_cases c6 : x21_2 = true
          · subst c6
            have H1 : (if x7_1 < (l0.length : Int) then (if 0 ≤ x7_1 then (if x7_1 < (l1.length : Int) then (if x5_1.length < 17592186044416 then (schismaref02_plus.l0 kj2 l0 l1 (x5_1 ++ [Int.tmod (wrap64 ((wrap64 (x6_1 + (rd l0 x7_1))) + (rd l1 x7_1))) 1000000000]) (wrap64 (Int.tdiv (wrap64 ((wrap64 (x6_1 + (rd l0 x7_1))) + (rd l1 x7_1))) 1000000000)) (wrap64 (x7_1 + 1))) else (none)) else (if x5_1.length < 17592186044416 then (schismaref02_plus.l0 kj2 l0 l1 (x5_1 ++ [Int.tmod (wrap64 (x6_1 + (rd l0 x7_1))) 1000000000]) (wrap64 (Int.tdiv (wrap64 (x6_1 + (rd l0 x7_1))) 1000000000)) (wrap64 (x7_1 + 1))) else (none))) else (none)) else (if x7_1 < (l1.length : Int) then (if 0 ≤ x7_1 then (if x5_1.length < 17592186044416 then (schismaref02_plus.l0 kj2 l0 l1 (x5_1 ++ [Int.tmod (wrap64 (x6_1 + (rd l1 x7_1))) 1000000000]) (wrap64 (Int.tdiv (wrap64 (x6_1 + (rd l1 x7_1))) 1000000000)) (wrap64 (x7_1 + 1))) else (none)) else (none)) else (if x5_1.length < 17592186044416 then (schismaref02_plus.l0 kj2 l0 l1 (x5_1 ++ [Int.tmod x6_1 1000000000]) (wrap64 (Int.tdiv x6_1 1000000000)) (wrap64 (x7_1 + 1))) else (none)))) = some r := by rw [if_pos rfl] at H; exact H
            clear H
            have H := H1
            clear H1
            by_cases c7 : x7_1 < (l0.length : Int)
            · rw [if_pos c7] at H
              have c7b0 : decide (x7_1 < (l0.length : Int)) = true := decide_eq_true c7
              clear c7
              by_cases c8 : 0 ≤ x7_1
              · rw [if_pos c8] at H
                have c8b0 : decide (0 ≤ x7_1) = true := decide_eq_true c8
                clear c8
                by_cases c9 : x7_1 < (l1.length : Int)
                · rw [if_pos c9] at H
                  have c9b0 : decide (x7_1 < (l1.length : Int)) = true := decide_eq_true c9
                  clear c9
                  by_cases c10 : x5_1.length < 17592186044416
                  · rw [if_pos c10] at H
                    have LMc10 := Aside0.mk c10
                    clear c10
                    obtain ⟨y557, hy557⟩ : ∃ y_ : List Int, y_ = (x5_1 ++ [Int.tmod (wrap64 ((wrap64 (x6_1 + (rd l0 x7_1))) + (rd l1 x7_1))) 1000000000]) := ⟨_, rfl⟩
                    replace H : (schismaref02_plus.l0 kj2 l0 l1 y557 (wrap64 (Int.tdiv (wrap64 ((wrap64 (x6_1 + (rd l0 x7_1))) + (rd l1 x7_1))) 1000000000)) (wrap64 (x7_1 + 1))) = some r := by first | (rw [hy557]; with_reducible exact H) | (have H2_ := (Option.bind_some _ _).symm.trans H; rw [hy557]; with_reducible exact H2_) | (have H2_ := (Option.bind_some _ _).symm.trans H; with_reducible exact H2_) | with_reducible exact H | (rw [hy557]; exact H) | exact H
                    have Ny557 := Aside0.mk hy557
                    clear hy557
                    have H' := Aside0.mk H
                    clear H
                    have p555 : 0 ≤ (x7_1 : Int) := of_decide_eq_true (by first | (with_reducible assumption) | assumption)
                    have q555 : x7_1 < (l0.length : Int) := of_decide_eq_true (by first | (with_reducible assumption) | assumption)
                    obtain ⟨ad555, e555, hx555_0⟩ := Kd.at_int HR0.out x7_1 p555 q555
                    cases e555
                    replace hx555_0 := (HB.out.cell (World.block_lt_of_cell? w _ hx555_0)).trans hx555_0
                    replace p555 := eq_true p555
                    replace q555 := eq_true q555
                    have p556 : 0 ≤ (x7_1 : Int) := of_decide_eq_true (by first | (with_reducible assumption) | assumption)
                    have q556 : x7_1 < (l1.length : Int) := of_decide_eq_true (by first | (with_reducible assumption) | assumption)
                    obtain ⟨ad556, e556, hx556_0⟩ := Kd.at_int HR1.out x7_1 p556 q556
                    cases e556
                    replace hx556_0 := (HB.out.cell (World.block_lt_of_cell? w _ hx556_0)).trans hx556_0
                    replace p556 := eq_true p556
                    replace q556 := eq_true q556
                    go_wp2_with (first | ((with_reducible refine gate_builtin (b := .append) (xs := #[.tmp 44, .tmp 47]) rfl ?_); (try (refine gate_guard (by rfl) ?_; dsimp only)); at_builtin; refine Kd.R_append (Kd.int .i64) (w0 := w) w.heap.size rfl (.tmp 44) (.tmp 47) 55 3 (.int .i64 0) 8 rfl Tryz.underlying55 info3 rfl (by decide) (by omega) u5 x5_1 (Int.tmod (wrap64 ((wrap64 (x6_1 + (rd l0 x7_1))) + (rd l1 x7_1))) 1000000000) [.int .i64 (Int.tmod (wrap64 ((wrap64 (x6_1 + (rd l0 x7_1))) + (rd l1 x7_1))) 1000000000)] (fun _ => True) (fun _ => False) rfl rfl ?aP (fun _ hk => hk.elim) ?aF ?aO ?aB ?aS ?aL ?_; (case aP => exact rfl); (case aB => exact bq); (case aF => exact (fun _ _ => trivial)); (case aO => exact (by (with_reducible repeat (first | apply Kd.R_alloc | apply Kd.R_drewN | apply Kd.R_drew)); exact HO_5.out)); (case aS => exact (below_size bq)); (case aL => have := LMc10.out; omega); intro v558 w11 ho hb hg hat; rw [← Ny557.out] at ho; have n0_ := Aside0.mk (hb); have n1_ := Aside0.mk (ho); clear HB; clear HO_5; have HB := n0_; have HO559 := n1_; clear n0_ n1_; clear ho hb hg hat))
                    go_roundg kj2
                    case measure => have := HK1.out; have := HJ2.out; omega
                    case rel => exact ⟨(y557), (wrap64 (Int.tdiv (wrap64 ((wrap64 (x6_1 + (rd l0 x7_1))) + (rd l1 x7_1))) 1000000000)), (wrap64 (x7_1 + 1)), (by first | rfl | (simp; done) | (simp [*]; done)), (by first | rfl | (simp; done) | (simp [*]; done)), H', ⟨by have := HK1.out; have := HJ2.out; omega⟩, ⟨by (with_reducible repeat (first | apply Kd.R_alloc | apply Kd.R_drewN | apply Kd.R_drew)); exact HO559.out⟩, ⟨bq⟩⟩
                  · rw [if_neg c10] at H
                    exact absurd H (by simp)
                · rw [if_neg c9] at H
                  have c9b0 : decide (x7_1 < (l1.length : Int)) = false := decide_eq_false c9
                  clear c9
                  by_cases c12 : x5_1.length < 17592186044416
                  · rw [if_pos c12] at H
                    have LMc12 := Aside0.mk c12
                    clear c12
                    obtain ⟨y560, hy560⟩ : ∃ y_ : List Int, y_ = (x5_1 ++ [Int.tmod (wrap64 (x6_1 + (rd l0 x7_1))) 1000000000]) := ⟨_, rfl⟩
                    replace H : (schismaref02_plus.l0 kj2 l0 l1 y560 (wrap64 (Int.tdiv (wrap64 (x6_1 + (rd l0 x7_1))) 1000000000)) (wrap64 (x7_1 + 1))) = some r := by first | (rw [hy560]; with_reducible exact H) | (have H2_ := (Option.bind_some _ _).symm.trans H; rw [hy560]; with_reducible exact H2_) | (have H2_ := (Option.bind_some _ _).symm.trans H; with_reducible exact H2_) | with_reducible exact H | (rw [hy560]; exact H) | exact H
                    have Ny560 := Aside0.mk hy560
                    clear hy560
                    have H' := Aside0.mk H
                    clear H
                    have p555 : 0 ≤ (x7_1 : Int) := of_decide_eq_true (by first | (with_reducible assumption) | assumption)
                    have q555 : x7_1 < (l0.length : Int) := of_decide_eq_true (by first | (with_reducible assumption) | assumption)
                    obtain ⟨ad555, e555, hx555_0⟩ := Kd.at_int HR0.out x7_1 p555 q555
                    cases e555
                    replace hx555_0 := (HB.out.cell (World.block_lt_of_cell? w _ hx555_0)).trans hx555_0
                    replace p555 := eq_true p555
                    replace q555 := eq_true q555
                    go_wp2_with (first | ((with_reducible refine gate_builtin (b := .append) (xs := #[.tmp 44, .tmp 47]) rfl ?_); (try (refine gate_guard (by rfl) ?_; dsimp only)); at_builtin; refine Kd.R_append (Kd.int .i64) (w0 := w) w.heap.size rfl (.tmp 44) (.tmp 47) 55 3 (.int .i64 0) 8 rfl Tryz.underlying55 info3 rfl (by decide) (by omega) u5 x5_1 (Int.tmod (wrap64 (x6_1 + (rd l0 x7_1))) 1000000000) [.int .i64 (Int.tmod (wrap64 (x6_1 + (rd l0 x7_1))) 1000000000)] (fun _ => True) (fun _ => False) rfl rfl ?aP (fun _ hk => hk.elim) ?aF ?aO ?aB ?aS ?aL ?_; (case aP => exact rfl); (case aB => exact bq); (case aF => exact (fun _ _ => trivial)); (case aO => exact (by (with_reducible repeat (first | apply Kd.R_alloc | apply Kd.R_drewN | apply Kd.R_drew)); exact HO_5.out)); (case aS => exact (below_size bq)); (case aL => have := LMc12.out; omega); intro v561 w13 ho hb hg hat; rw [← Ny560.out] at ho; have n0_ := Aside0.mk (hb); have n1_ := Aside0.mk (ho); clear HB; clear HO_5; have HB := n0_; have HO562 := n1_; clear n0_ n1_; clear ho hb hg hat))
                    go_roundg kj2
                    case measure => have := HK1.out; have := HJ2.out; omega
                    case rel => exact ⟨(y560), (wrap64 (Int.tdiv (wrap64 (x6_1 + (rd l0 x7_1))) 1000000000)), (wrap64 (x7_1 + 1)), (by first | rfl | (simp; done) | (simp [*]; done)), (by first | rfl | (simp; done) | (simp [*]; done)), H', ⟨by have := HK1.out; have := HJ2.out; omega⟩, ⟨by (with_reducible repeat (first | apply Kd.R_alloc | apply Kd.R_drewN | apply Kd.R_drew)); exact HO562.out⟩, ⟨bq⟩⟩
                  · rw [if_neg c12] at H
                    exact absurd H (by simp)
              · rw [if_neg c8] at H
                exact absurd H (by simp)
            · rw [if_neg c7] at H
              have c7b0 : decide (x7_1 < (l0.length : Int)) = false := decide_eq_false c7
              clear c7
              by_cases c14 : x7_1 < (l1.length : Int)
              · rw [if_pos c14] at H
                have c14b0 : decide (x7_1 < (l1.length : Int)) = true := decide_eq_true c14
                clear c14
                by_cases c15 : 0 ≤ x7_1
                · rw [if_pos c15] at H
                  have c15b0 : decide (0 ≤ x7_1) = true := decide_eq_true c15
                  clear c15
                  by_cases c16 : x5_1.length < 17592186044416
                  · rw [if_pos c16] at H
                    have LMc16 := Aside0.mk c16
                    clear c16
                    obtain ⟨y564, hy564⟩ : ∃ y_ : List Int, y_ = (x5_1 ++ [Int.tmod (wrap64 (x6_1 + (rd l1 x7_1))) 1000000000]) := ⟨_, rfl⟩
                    replace H : (schismaref02_plus.l0 kj2 l0 l1 y564 (wrap64 (Int.tdiv (wrap64 (x6_1 + (rd l1 x7_1))) 1000000000)) (wrap64 (x7_1 + 1))) = some r := by first | (rw [hy564]; with_reducible exact H) | (have H2_ := (Option.bind_some _ _).symm.trans H; rw [hy564]; with_reducible exact H2_) | (have H2_ := (Option.bind_some _ _).symm.trans H; with_reducible exact H2_) | with_reducible exact H | (rw [hy564]; exact H) | exact H
                    have Ny564 := Aside0.mk hy564
                    clear hy564
                    have H' := Aside0.mk H
                    clear H
                    have p563 : 0 ≤ (x7_1 : Int) := of_decide_eq_true (by first | (with_reducible assumption) | assumption)
                    have q563 : x7_1 < (l1.length : Int) := of_decide_eq_true (by first | (with_reducible assumption) | assumption)
                    obtain ⟨ad563, e563, hx563_0⟩ := Kd.at_int HR1.out x7_1 p563 q563
                    cases e563
                    replace hx563_0 := (HB.out.cell (World.block_lt_of_cell? w _ hx563_0)).trans hx563_0
                    replace p563 := eq_true p563
                    replace q563 := eq_true q563
                    go_wp2_with (first | ((with_reducible refine gate_builtin (b := .append) (xs := #[.tmp 44, .tmp 47]) rfl ?_); (try (refine gate_guard (by rfl) ?_; dsimp only)); at_builtin; refine Kd.R_append (Kd.int .i64) (w0 := w) w.heap.size rfl (.tmp 44) (.tmp 47) 55 3 (.int .i64 0) 8 rfl Tryz.underlying55 info3 rfl (by decide) (by omega) u5 x5_1 (Int.tmod (wrap64 (x6_1 + (rd l1 x7_1))) 1000000000) [.int .i64 (Int.tmod (wrap64 (x6_1 + (rd l1 x7_1))) 1000000000)] (fun _ => True) (fun _ => False) rfl rfl ?aP (fun _ hk => hk.elim) ?aF ?aO ?aB ?aS ?aL ?_; (case aP => exact rfl); (case aB => exact bq); (case aF => exact (fun _ _ => trivial)); (case aO => exact (by (with_reducible repeat (first | apply Kd.R_alloc | apply Kd.R_drewN | apply Kd.R_drew)); exact HO_5.out)); (case aS => exact (below_size bq)); (case aL => have := LMc16.out; omega); intro v565 w17 ho hb hg hat; rw [← Ny564.out] at ho; have n0_ := Aside0.mk (hb); have n1_ := Aside0.mk (ho); clear HB; clear HO_5; have HB := n0_; have HO566 := n1_; clear n0_ n1_; clear ho hb hg hat))
                    go_roundg kj2
                    case measure => have := HK1.out; have := HJ2.out; omega
                    case rel => exact ⟨(y564), (wrap64 (Int.tdiv (wrap64 (x6_1 + (rd l1 x7_1))) 1000000000)), (wrap64 (x7_1 + 1)), (by first | rfl | (simp; done) | (simp [*]; done)), (by first | rfl | (simp; done) | (simp [*]; done)), H', ⟨by have := HK1.out; have := HJ2.out; omega⟩, ⟨by (with_reducible repeat (first | apply Kd.R_alloc | apply Kd.R_drewN | apply Kd.R_drew)); exact HO566.out⟩, ⟨bq⟩⟩
                  · rw [if_neg c16] at H
                    exact absurd H (by simp)
                · rw [if_neg c15] at H
                  exact absurd H (by simp)
              · rw [if_neg c14] at H
                have c14b0 : decide (x7_1 < (l1.length : Int)) = false := decide_eq_false c14
                clear c14
                by_cases c18 : x5_1.length < 17592186044416
                · rw [if_pos c18] at H
                  have LMc18 := Aside0.mk c18
                  clear c18
                  obtain ⟨y567, hy567⟩ : ∃ y_ : List Int, y_ = (x5_1 ++ [Int.tmod x6_1 1000000000]) := ⟨_, rfl⟩
                  replace H : (schismaref02_plus.l0 kj2 l0 l1 y567 (wrap64 (Int.tdiv x6_1 1000000000)) (wrap64 (x7_1 + 1))) = some r := by first | (rw [hy567]; with_reducible exact H) | (have H2_ := (Option.bind_some _ _).symm.trans H; rw [hy567]; with_reducible exact H2_) | (have H2_ := (Option.bind_some _ _).symm.trans H; with_reducible exact H2_) | with_reducible exact H | (rw [hy567]; exact H) | exact H
                  have Ny567 := Aside0.mk hy567
                  clear hy567
                  have H' := Aside0.mk H
                  clear H
                  go_wp2_with (first | ((with_reducible refine gate_builtin (b := .append) (xs := #[.tmp 44, .tmp 47]) rfl ?_); (try (refine gate_guard (by rfl) ?_; dsimp only)); at_builtin; refine Kd.R_append (Kd.int .i64) (w0 := w) w.heap.size rfl (.tmp 44) (.tmp 47) 55 3 (.int .i64 0) 8 rfl Tryz.underlying55 info3 rfl (by decide) (by omega) u5 x5_1 (Int.tmod x6_1 1000000000) [.int .i64 (Int.tmod x6_1 1000000000)] (fun _ => True) (fun _ => False) rfl rfl ?aP (fun _ hk => hk.elim) ?aF ?aO ?aB ?aS ?aL ?_; (case aP => exact rfl); (case aB => exact bq); (case aF => exact (fun _ _ => trivial)); (case aO => exact (by (with_reducible repeat (first | apply Kd.R_alloc | apply Kd.R_drewN | apply Kd.R_drew)); exact HO_5.out)); (case aS => exact (below_size bq)); (case aL => have := LMc18.out; omega); intro v568 w19 ho hb hg hat; rw [← Ny567.out] at ho; have n0_ := Aside0.mk (hb); have n1_ := Aside0.mk (ho); clear HB; clear HO_5; have HB := n0_; have HO569 := n1_; clear n0_ n1_; clear ho hb hg hat))
                  go_roundg kj2
                  case measure => have := HK1.out; have := HJ2.out; omega
                  case rel => exact ⟨(y567), (wrap64 (Int.tdiv x6_1 1000000000)), (wrap64 (x7_1 + 1)), (by first | rfl | (simp; done) | (simp [*]; done)), (by first | rfl | (simp; done) | (simp [*]; done)), H', ⟨by have := HK1.out; have := HJ2.out; omega⟩, ⟨by (with_reducible repeat (first | apply Kd.R_alloc | apply Kd.R_drewN | apply Kd.R_drew)); exact HO569.out⟩, ⟨bq⟩⟩
                · rw [if_neg c18] at H
                  exact absurd H (by simp)
          · replace c6 := Bool.eq_false_iff.mpr c6
            subst c6
            have H1 : (some x5_1) = some r := by rw [if_neg (show ¬ (false = true) by decide)] at H; exact H
            clear H
            have H := H1
            clear H1
            obtain rfl := Option.some.inj H
            go_wp2
            go_ret
            exact ⟨_, eq_, by (with_reducible repeat (first | apply Kd.R_alloc | apply Kd.R_drewN | apply Kd.R_drew)); exact HO_5.out, bq⟩
def schismaref02_order.l0 : Nat → List Int → List Int → Int → Option (Int)
  | 0, _, _, _ => none
  | k + 1, x0, x1, x5 => if x5 ≥ 0 then (if 0 ≤ x5 then (if x5 < (x0.length : Int) then (if x5 < (x1.length : Int) then (if (rd x0 x5) < (rd x1 x5) then (some (-1)) else (if (rd x0 x5) > (rd x1 x5) then (some 1) else (schismaref02_order.l0 k x0 x1 (wrap64 (x5 - 1))))) else (none)) else (none)) else (none)) else (some 0)
def schismaref02_order.f (k : Nat) (l0 : List Int) (l1 : List Int) : Option (Int) := if (l0.length : Int) = (l1.length : Int) then (schismaref02_order.l0 k l0 l1 (wrap64 ((l0.length : Int) - 1))) else (if (l0.length : Int) < (l1.length : Int) then (some (-1)) else (some 1))
theorem schismaref02_order.mono_l : ∀ k, (∀ y0 y1 y2, LeO (schismaref02_order.l0 k y0 y1 y2) (schismaref02_order.l0 (k + 1) y0 y1 y2))
  | 0 => fun _ _ _ r h => by simp [schismaref02_order.l0] at h
  | k + 1 => by
    have ih0 := schismaref02_order.mono_l k
    · intro y0 y1 y2
      unfold schismaref02_order.l0
      repeat' first
      | (with_reducible exact ih0 _ _ _)
      | (with_reducible exact LeO.refl _)
      | (with_reducible exact LeO.none _)
      | (with_reducible refine LeO.ite ?_ ?_)
      | (with_reducible refine LeO.bind ?_ (fun _ => ?_))
      | exact ih0 _ _ _
      | exact LeO.none _
      | refine LeO.ite ?_ ?_
      | refine LeO.bind ?_ (fun _ => ?_)
theorem schismaref02_order.mono : ∀ a0 a1 k, LeO (schismaref02_order.f k a0 a1) (schismaref02_order.f (k + 1) a0 a1) := by
  intro a0 a1 k
  have ih0 := schismaref02_order.mono_l k
  unfold schismaref02_order.f
  repeat' first
      | (with_reducible exact ih0 _ _ _)
      | (with_reducible exact LeO.refl _)
      | (with_reducible exact LeO.none _)
      | (with_reducible refine LeO.ite ?_ ?_)
      | (with_reducible refine LeO.bind ?_ (fun _ => ?_))
      | exact ih0 _ _ _
      | exact LeO.none _
      | refine LeO.ite ?_ ?_
      | refine LeO.bind ?_ (fun _ => ?_)
set_option maxHeartbeats 8000000 in
set_option maxRecDepth 100000 in
theorem schismaref02_order.calls (k : Nat) (A0 : Option Addr) (c0 : Nat) (l0 : List Int) (A1 : Option Addr) (c1 : Nat) (l1 : List Int) (r : Int) (w : World) (hr0 : Kd.C (Kd.int .i64) w A0 l0.length l0) (hc0 : l0.length ≤ c0) (hr1 : Kd.C (Kd.int .i64) w A1 l1.length l1) (hc1 : l1.length ≤ c1) (h : schismaref02_order.f k l0 l1 = some r) :
    Calls Tryz.prog 38 #[.slice A0 l0.length c0, .slice A1 l1.length c1] w fun e w' => e = .returned (.int .i64 r) ∧ Drawn0 w w' := by
  have HR0 := Aside0.mk hr0
  have HC0 := Aside0.mk hc0
  clear hr0 hc0
  have HR1 := Aside0.mk hr1
  have HC1 := Aside0.mk hc1
  clear hr1 hc1
  have H : (if (l0.length : Int) = (l1.length : Int) then (schismaref02_order.l0 k l0 l1 (wrap64 ((l0.length : Int) - 1))) else (if (l0.length : Int) < (l1.length : Int) then (some (-1)) else (some 1))) = some r := h
  clear h
  by_cases c3 : (l0.length : Int) = (l1.length : Int)
  · rw [if_pos c3] at H
    have c3b0 : ((l0.length : Int) == (l1.length : Int)) = true := beq_iff_eq.mpr c3
    have c3b1 : ((l0.length : Int) != (l1.length : Int)) = false := bne_eq_false_iff_eq.mpr c3
    have c3b2 : (l0.length == l1.length) = true := by first | simpa using c3 | (simp at c3 ⊢; omega)
    clear c3
    have H' := Aside0.mk H
    clear H
    go_enter Tryz.func38, Tryz.ntmps38
    go_wp2
    repeat (go_quiet (fail); try go_wp2)
    go_loopg [5] k (fun kq v5 w' => ∃ (x5_1 : Int), v5 = .int .i64 x5_1 ∧ Aside0 (schismaref02_order.l0 kq l0 l1 x5_1 = some r) ∧ Aside0 (kq ≤ k) ∧ Drawn0 w w')
    case atStart => exact ⟨(wrap64 ((l0.length : Int) - 1)), (by first | rfl | (simp; done) | (simp [*]; done)), H', ⟨Nat.le_refl _⟩, by repeat (first | exact Drawn0.refl _ | apply Drawn0.step)⟩
    case round =>
      clear H'
      try clear c1
      try clear p2
      try clear c3
      try clear c3b0
      try clear c3b1
      try clear c3b2
      obtain ⟨x5_1, rfl, HA, HK1, ⟨m1, rfl⟩⟩ := hrel
      cases gk with
      | zero => exact absurd HA.out (by simp [schismaref02_order.l0])
      | succ k1 =>
        have H := HA.out
        clear HA
        simp only [schismaref02_order.l0] at H
        by_cases c4 : x5_1 ≥ 0
        · rw [if_pos c4] at H
          have c4b0 : decide (0 ≤ x5_1) = true := decide_eq_true c4
          clear c4
          by_cases c5 : 0 ≤ x5_1
          · rw [if_pos c5] at H
            have c5b0 : decide (0 ≤ x5_1) = true := decide_eq_true c5
            clear c5
            by_cases c6 : x5_1 < (l0.length : Int)
            · rw [if_pos c6] at H
              have c6b0 : decide (x5_1 < (l0.length : Int)) = true := decide_eq_true c6
              clear c6
              by_cases c7 : x5_1 < (l1.length : Int)
              · rw [if_pos c7] at H
                have c7b0 : decide (x5_1 < (l1.length : Int)) = true := decide_eq_true c7
                clear c7
                by_cases c8 : (rd l0 x5_1) < (rd l1 x5_1)
                · rw [if_pos c8] at H
                  have c8b0 : decide ((rd l0 x5_1) < (rd l1 x5_1)) = true := decide_eq_true c8
                  clear c8
                  obtain rfl := Option.some.inj H
                  have p570 : 0 ≤ (x5_1 : Int) := of_decide_eq_true (by first | (with_reducible assumption) | assumption)
                  have q570 : x5_1 < (l0.length : Int) := of_decide_eq_true (by first | (with_reducible assumption) | assumption)
                  obtain ⟨ad570, e570, hx570_0⟩ := Kd.at_int HR0.out x5_1 p570 q570
                  cases e570
                  replace p570 := eq_true p570
                  replace q570 := eq_true q570
                  have p571 : 0 ≤ (x5_1 : Int) := of_decide_eq_true (by first | (with_reducible assumption) | assumption)
                  have q571 : x5_1 < (l1.length : Int) := of_decide_eq_true (by first | (with_reducible assumption) | assumption)
                  obtain ⟨ad571, e571, hx571_0⟩ := Kd.at_int HR1.out x5_1 p571 q571
                  cases e571
                  replace p571 := eq_true p571
                  replace q571 := eq_true q571
                  go_wp2
                  repeat (go_quiet (fail); try go_wp2)
                  go_ret
                  exact ⟨by first | rfl | (simp; done) | (simp [wrap64]; done) | (simp [*]; done), by repeat (first | exact Drawn0.refl _ | apply Drawn0.step)⟩
                · rw [if_neg c8] at H
                  have c8b0 : decide ((rd l0 x5_1) < (rd l1 x5_1)) = false := decide_eq_false c8
                  clear c8
                  by_cases c9 : (rd l0 x5_1) > (rd l1 x5_1)
                  · rw [if_pos c9] at H
                    have c9b0 : decide ((rd l1 x5_1) < (rd l0 x5_1)) = true := decide_eq_true c9
                    clear c9
                    obtain rfl := Option.some.inj H
                    have p570 : 0 ≤ (x5_1 : Int) := of_decide_eq_true (by first | (with_reducible assumption) | assumption)
                    have q570 : x5_1 < (l0.length : Int) := of_decide_eq_true (by first | (with_reducible assumption) | assumption)
                    obtain ⟨ad570, e570, hx570_0⟩ := Kd.at_int HR0.out x5_1 p570 q570
                    cases e570
                    replace p570 := eq_true p570
                    replace q570 := eq_true q570
                    have p571 : 0 ≤ (x5_1 : Int) := of_decide_eq_true (by first | (with_reducible assumption) | assumption)
                    have q571 : x5_1 < (l1.length : Int) := of_decide_eq_true (by first | (with_reducible assumption) | assumption)
                    obtain ⟨ad571, e571, hx571_0⟩ := Kd.at_int HR1.out x5_1 p571 q571
                    cases e571
                    replace p571 := eq_true p571
                    replace q571 := eq_true q571
                    have p572 : 0 ≤ (x5_1 : Int) := of_decide_eq_true (by first | (with_reducible assumption) | assumption)
                    have q572 : x5_1 < (l0.length : Int) := of_decide_eq_true (by first | (with_reducible assumption) | assumption)
                    obtain ⟨ad572, e572, hx572_0⟩ := Kd.at_int HR0.out x5_1 p572 q572
                    obtain rfl : ad570 = ad572 := (by injection e572)
                    replace p572 := eq_true p572
                    replace q572 := eq_true q572
                    have p573 : 0 ≤ (x5_1 : Int) := of_decide_eq_true (by first | (with_reducible assumption) | assumption)
                    have q573 : x5_1 < (l1.length : Int) := of_decide_eq_true (by first | (with_reducible assumption) | assumption)
                    obtain ⟨ad573, e573, hx573_0⟩ := Kd.at_int HR1.out x5_1 p573 q573
                    obtain rfl : ad571 = ad573 := (by injection e573)
                    replace p573 := eq_true p573
                    replace q573 := eq_true q573
                    go_wp2
                    repeat (go_quiet (fail); try go_wp2)
                    go_ret
                    exact ⟨by first | rfl | (simp; done) | (simp [wrap64]; done) | (simp [*]; done), by repeat (first | exact Drawn0.refl _ | apply Drawn0.step)⟩
                  · rw [if_neg c9] at H
                    have c9b0 : decide ((rd l1 x5_1) < (rd l0 x5_1)) = false := decide_eq_false c9
                    clear c9
                    have H' := Aside0.mk H
                    clear H
                    have p570 : 0 ≤ (x5_1 : Int) := of_decide_eq_true (by first | (with_reducible assumption) | assumption)
                    have q570 : x5_1 < (l0.length : Int) := of_decide_eq_true (by first | (with_reducible assumption) | assumption)
                    obtain ⟨ad570, e570, hx570_0⟩ := Kd.at_int HR0.out x5_1 p570 q570
                    cases e570
                    replace p570 := eq_true p570
                    replace q570 := eq_true q570
                    have p571 : 0 ≤ (x5_1 : Int) := of_decide_eq_true (by first | (with_reducible assumption) | assumption)
                    have q571 : x5_1 < (l1.length : Int) := of_decide_eq_true (by first | (with_reducible assumption) | assumption)
                    obtain ⟨ad571, e571, hx571_0⟩ := Kd.at_int HR1.out x5_1 p571 q571
                    cases e571
                    replace p571 := eq_true p571
                    replace q571 := eq_true q571
                    have p572 : 0 ≤ (x5_1 : Int) := of_decide_eq_true (by first | (with_reducible assumption) | assumption)
                    have q572 : x5_1 < (l0.length : Int) := of_decide_eq_true (by first | (with_reducible assumption) | assumption)
                    obtain ⟨ad572, e572, hx572_0⟩ := Kd.at_int HR0.out x5_1 p572 q572
                    obtain rfl : ad570 = ad572 := (by injection e572)
                    replace p572 := eq_true p572
                    replace q572 := eq_true q572
                    have p573 : 0 ≤ (x5_1 : Int) := of_decide_eq_true (by first | (with_reducible assumption) | assumption)
                    have q573 : x5_1 < (l1.length : Int) := of_decide_eq_true (by first | (with_reducible assumption) | assumption)
                    obtain ⟨ad573, e573, hx573_0⟩ := Kd.at_int HR1.out x5_1 p573 q573
                    obtain rfl : ad571 = ad573 := (by injection e573)
                    replace p573 := eq_true p573
                    replace q573 := eq_true q573
                    go_wp2
                    repeat (go_quiet (fail); try go_wp2)
                    go_roundg k1
                    case measure => have := HK1.out; omega
                    case rel => exact ⟨(wrap64 (x5_1 - 1)), (by first | rfl | (simp; done) | (simp [*]; done)), H', ⟨by have := HK1.out; omega⟩, by repeat (first | exact Drawn0.refl _ | apply Drawn0.step)⟩
              · rw [if_neg c7] at H
                exact absurd H (by simp)
            · rw [if_neg c6] at H
              exact absurd H (by simp)
          · rw [if_neg c5] at H
            exact absurd H (by simp)
        · rw [if_neg c4] at H
          have c4b0 : decide (0 ≤ x5_1) = false := decide_eq_false c4
          clear c4
          obtain rfl := Option.some.inj H
          go_wp2
          repeat (go_quiet (fail); try go_wp2)
          go_ret
          exact ⟨by first | rfl | (simp; done) | (simp [wrap64]; done) | (simp [*]; done), by repeat (first | exact Drawn0.refl _ | apply Drawn0.step)⟩
  · rw [if_neg c3] at H
    have c3b0 : ((l0.length : Int) == (l1.length : Int)) = false := beq_eq_false_iff_ne.mpr c3
    have c3b1 : ((l0.length : Int) != (l1.length : Int)) = true := bne_iff_ne.mpr c3
    have c3b2 : (l0.length == l1.length) = false := by first | simpa using c3 | (simp at c3 ⊢; omega)
    by_cases c10 : (l0.length : Int) < (l1.length : Int)
    · rw [if_pos c10] at H
      have c10b0 : decide ((l0.length : Int) < (l1.length : Int)) = true := decide_eq_true c10
      have c10b1 : decide (l0.length < l1.length) = true := decide_eq_true (Int.ofNat_lt.mp c10)
      clear c10
      obtain rfl := Option.some.inj H
      go_enter Tryz.func38, Tryz.ntmps38
      go_wp2
      repeat (go_quiet (fail); try go_wp2)
      go_ret
      exact ⟨by first | rfl | (simp; done) | (simp [wrap64]; done) | (simp [*]; done), by repeat (first | exact Drawn0.refl _ | apply Drawn0.step)⟩
    · rw [if_neg c10] at H
      have c10b0 : decide ((l0.length : Int) < (l1.length : Int)) = false := decide_eq_false c10
      have c10b1 : decide (l0.length < l1.length) = false := decide_eq_false (fun h => c10 (Int.ofNat_lt.mpr h))
      clear c10
      obtain rfl := Option.some.inj H
      go_enter Tryz.func38, Tryz.ntmps38
      go_wp2
      repeat (go_quiet (fail); try go_wp2)
      go_ret
      exact ⟨by first | rfl | (simp; done) | (simp [wrap64]; done) | (simp [*]; done), by repeat (first | exact Drawn0.refl _ | apply Drawn0.step)⟩
def schismaref02_minus.l0 : Nat → List Int → List Int → List Int → Int → Int → Option (List Int)
  | 0, _, _, _, _, _ => none
  | k + 1, x0, x1, x5, x6, x7 => if x7 < (x0.length : Int) then (if 0 ≤ x7 then (if x7 < (x1.length : Int) then (if (wrap64 ((wrap64 ((rd x0 x7) - x6)) - (rd x1 x7))) < 0 then (if x5.length < 17592186044416 then (schismaref02_minus.l0 k x0 x1 (x5 ++ [wrap64 ((wrap64 ((wrap64 ((rd x0 x7) - x6)) - (rd x1 x7))) + 1000000000)]) 1 (wrap64 (x7 + 1))) else (none)) else (if x5.length < 17592186044416 then (schismaref02_minus.l0 k x0 x1 (x5 ++ [wrap64 ((wrap64 ((rd x0 x7) - x6)) - (rd x1 x7))]) 0 (wrap64 (x7 + 1))) else (none))) else (if (wrap64 ((rd x0 x7) - x6)) < 0 then (if x5.length < 17592186044416 then (schismaref02_minus.l0 k x0 x1 (x5 ++ [wrap64 ((wrap64 ((rd x0 x7) - x6)) + 1000000000)]) 1 (wrap64 (x7 + 1))) else (none)) else (if x5.length < 17592186044416 then (schismaref02_minus.l0 k x0 x1 (x5 ++ [wrap64 ((rd x0 x7) - x6)]) 0 (wrap64 (x7 + 1))) else (none)))) else (none)) else ((schismaref02_trim.f k x5).bind fun t574 => (some t574))
def schismaref02_minus.f (k : Nat) (l0 : List Int) (l1 : List Int) : Option (List Int) := schismaref02_minus.l0 k l0 l1 ([] : List Int) 0 0
theorem schismaref02_minus.mono_l : ∀ k, (∀ y0 y1 y2 y3 y4, LeO (schismaref02_minus.l0 k y0 y1 y2 y3 y4) (schismaref02_minus.l0 (k + 1) y0 y1 y2 y3 y4))
  | 0 => fun _ _ _ _ _ r h => by simp [schismaref02_minus.l0] at h
  | k + 1 => by
    have ih0 := schismaref02_minus.mono_l k
    · intro y0 y1 y2 y3 y4
      unfold schismaref02_minus.l0
      repeat' first
      | (with_reducible exact ih0 _ _ _ _ _)
      | (with_reducible exact schismaref02_trim.mono _ _)
      | (with_reducible exact LeO.refl _)
      | (with_reducible exact LeO.none _)
      | (with_reducible refine LeO.ite ?_ ?_)
      | (with_reducible refine LeO.bind ?_ (fun _ => ?_))
      | exact ih0 _ _ _ _ _
      | exact schismaref02_trim.mono _ _
      | exact LeO.none _
      | refine LeO.ite ?_ ?_
      | refine LeO.bind ?_ (fun _ => ?_)
theorem schismaref02_minus.mono : ∀ a0 a1 k, LeO (schismaref02_minus.f k a0 a1) (schismaref02_minus.f (k + 1) a0 a1) := by
  intro a0 a1 k
  have ih0 := schismaref02_minus.mono_l k
  unfold schismaref02_minus.f
  repeat' first
      | (with_reducible exact ih0 _ _ _ _ _)
      | (with_reducible exact schismaref02_trim.mono _ _)
      | (with_reducible exact LeO.refl _)
      | (with_reducible exact LeO.none _)
      | (with_reducible refine LeO.ite ?_ ?_)
      | (with_reducible refine LeO.bind ?_ (fun _ => ?_))
      | exact ih0 _ _ _ _ _
      | exact schismaref02_trim.mono _ _
      | exact LeO.none _
      | refine LeO.ite ?_ ?_
      | refine LeO.bind ?_ (fun _ => ?_)
set_option maxHeartbeats 8000000 in
set_option maxRecDepth 100000 in
theorem schismaref02_minus.calls (k : Nat) (A0 : Option Addr) (c0 : Nat) (l0 : List Int) (A1 : Option Addr) (c1 : Nat) (l1 : List Int) (r : List Int) (w : World) (hr0 : Kd.C (Kd.int .i64) w A0 l0.length l0) (hc0 : l0.length ≤ c0) (hr1 : Kd.C (Kd.int .i64) w A1 l1.length l1) (hc1 : l1.length ≤ c1) (h : schismaref02_minus.f k l0 l1 = some r) :
    Calls Tryz.prog 39 #[.slice A0 l0.length c0, .slice A1 l1.length c1] w fun e w' => ∃ v0_ : Value, e = .returned (v0_) ∧ Kd.R (Kd.int .i64) 3 w' w.heap.size (fun _ => True) v0_ r ∧ Below w.heap.size w w' := by
  have HR0 := Aside0.mk hr0
  have HC0 := Aside0.mk hc0
  clear hr0 hc0
  have HR1 := Aside0.mk hr1
  have HC1 := Aside0.mk hc1
  clear hr1 hc1
  have HB := Aside0.mk (Below.refl w.heap.size w)
  have H : (schismaref02_minus.l0 k l0 l1 ([] : List Int) 0 0) = some r := h
  clear h
  have H' := Aside0.mk H
  clear H
  go_enter Tryz.func39, Tryz.ntmps39
  go_wp2
  go_loopg [5, 6, 7] k (fun kq v5 v6 v7 w' => ∃ (x5_1 : List Int) (x6_1 : Int) (x7_1 : Int), v6 = .int .i64 x6_1 ∧ v7 = .int .i64 x7_1 ∧ Aside0 (schismaref02_minus.l0 kq l0 l1 x5_1 x6_1 x7_1 = some r) ∧ Aside0 (kq ≤ k) ∧ Aside0 (Kd.R (Kd.int .i64) 3 w' w.heap.size (fun _ => True) v5 x5_1) ∧ Aside0 (Below w.heap.size w w'))
  case atStart => exact ⟨(([] : List Int)), (0), (0), (by first | rfl | (simp; done) | (simp [*]; done)), (by first | rfl | (simp; done) | (simp [*]; done)), H', ⟨Nat.le_refl _⟩, ⟨by first | exact Kd.R_nil _ _ _ _ _ | exact Kd.N_nil _ _ _ _ _ | exact Kd.V_nil _ _ _ _ _ | exact Kd.Q_nil _ _ _ _ _ | exact Kd.S_nil _ _ _ _ _⟩, ⟨bq⟩⟩
  case round =>
    clear H'
    try clear c1
    try clear p2
    obtain ⟨x5_1, x6_1, x7_1, rfl, rfl, HA, HK1, HO_5, HB⟩ := hrel
    cases gk with
    | zero => exact absurd HA.out (by simp [schismaref02_minus.l0])
    | succ k1 =>
      have H := HA.out
      clear HA
      simp only [schismaref02_minus.l0] at H
      by_cases c3 : x7_1 < (l0.length : Int)
      · rw [if_pos c3] at H
        have c3b0 : decide (x7_1 < (l0.length : Int)) = true := decide_eq_true c3
        clear c3
        by_cases c4 : 0 ≤ x7_1
        · rw [if_pos c4] at H
          have c4b0 : decide (0 ≤ x7_1) = true := decide_eq_true c4
          clear c4
          by_cases c5 : x7_1 < (l1.length : Int)
          · rw [if_pos c5] at H
            have c5b0 : decide (x7_1 < (l1.length : Int)) = true := decide_eq_true c5
            clear c5
            by_cases c6 : (wrap64 ((wrap64 ((rd l0 x7_1) - x6_1)) - (rd l1 x7_1))) < 0
            · rw [if_pos c6] at H
              have c6b0 : decide ((wrap64 ((wrap64 ((rd l0 x7_1) - x6_1)) - (rd l1 x7_1))) < 0) = true := decide_eq_true c6
              clear c6
              by_cases c7 : x5_1.length < 17592186044416
              · rw [if_pos c7] at H
                have LMc7 := Aside0.mk c7
                clear c7
                obtain ⟨y579, hy579⟩ : ∃ y_ : List Int, y_ = (x5_1 ++ [wrap64 ((wrap64 ((wrap64 ((rd l0 x7_1) - x6_1)) - (rd l1 x7_1))) + 1000000000)]) := ⟨_, rfl⟩
                replace H : (schismaref02_minus.l0 k1 l0 l1 y579 1 (wrap64 (x7_1 + 1))) = some r := by first | (rw [hy579]; with_reducible exact H) | (have H2_ := (Option.bind_some _ _).symm.trans H; rw [hy579]; with_reducible exact H2_) | (have H2_ := (Option.bind_some _ _).symm.trans H; with_reducible exact H2_) | with_reducible exact H | (rw [hy579]; exact H) | exact H
                have Ny579 := Aside0.mk hy579
                clear hy579
                have H' := Aside0.mk H
                clear H
                have p577 : 0 ≤ (x7_1 : Int) := of_decide_eq_true (by first | (with_reducible assumption) | assumption)
                have q577 : x7_1 < (l0.length : Int) := of_decide_eq_true (by first | (with_reducible assumption) | assumption)
                obtain ⟨ad577, e577, hx577_0⟩ := Kd.at_int HR0.out x7_1 p577 q577
                cases e577
                replace hx577_0 := (HB.out.cell (World.block_lt_of_cell? w _ hx577_0)).trans hx577_0
                replace p577 := eq_true p577
                replace q577 := eq_true q577
                have p578 : 0 ≤ (x7_1 : Int) := of_decide_eq_true (by first | (with_reducible assumption) | assumption)
                have q578 : x7_1 < (l1.length : Int) := of_decide_eq_true (by first | (with_reducible assumption) | assumption)
                obtain ⟨ad578, e578, hx578_0⟩ := Kd.at_int HR1.out x7_1 p578 q578
                cases e578
                replace hx578_0 := (HB.out.cell (World.block_lt_of_cell? w _ hx578_0)).trans hx578_0
                replace p578 := eq_true p578
                replace q578 := eq_true q578
                go_wp2_with (first | ((with_reducible refine gate_builtin (b := .append) (xs := #[.tmp 35, .tmp 37]) rfl ?_); at_builtin; refine Kd.R_append (Kd.int .i64) (w0 := w) w.heap.size rfl (.tmp 35) (.tmp 37) 55 3 (.int .i64 0) 8 rfl Tryz.underlying55 info3 rfl (by decide) (by omega) u5 x5_1 (wrap64 ((wrap64 ((wrap64 ((rd l0 x7_1) - x6_1)) - (rd l1 x7_1))) + 1000000000)) [.int .i64 (wrap64 ((wrap64 ((wrap64 ((rd l0 x7_1) - x6_1)) - (rd l1 x7_1))) + 1000000000))] (fun _ => True) (fun _ => False) rfl rfl ?aP (fun _ hk => hk.elim) ?aF ?aO ?aB ?aS ?aL ?_; (case aP => exact rfl); (case aB => exact bq); (case aF => exact (fun _ _ => trivial)); (case aO => exact (by (with_reducible repeat (first | apply Kd.R_alloc | apply Kd.R_drewN | apply Kd.R_drew)); exact HO_5.out)); (case aS => exact (below_size bq)); (case aL => have := LMc7.out; omega); intro v580 w8 ho hb hg hat; rw [← Ny579.out] at ho; have n0_ := Aside0.mk (hb); have n1_ := Aside0.mk (ho); clear HB; clear HO_5; have HB := n0_; have HO581 := n1_; clear n0_ n1_; clear ho hb hg hat))
                go_roundg k1
                case measure => have := HK1.out; omega
                case rel => exact ⟨(y579), (1), (wrap64 (x7_1 + 1)), (by first | rfl | (simp; done) | (simp [*]; done)), (by first | rfl | (simp; done) | (simp [*]; done)), H', ⟨by have := HK1.out; omega⟩, ⟨by (with_reducible repeat (first | apply Kd.R_alloc | apply Kd.R_drewN | apply Kd.R_drew)); exact HO581.out⟩, ⟨bq⟩⟩
              · rw [if_neg c7] at H
                exact absurd H (by simp)
            · rw [if_neg c6] at H
              have c6b0 : decide ((wrap64 ((wrap64 ((rd l0 x7_1) - x6_1)) - (rd l1 x7_1))) < 0) = false := decide_eq_false c6
              clear c6
              by_cases c9 : x5_1.length < 17592186044416
              · rw [if_pos c9] at H
                have LMc9 := Aside0.mk c9
                clear c9
                obtain ⟨y582, hy582⟩ : ∃ y_ : List Int, y_ = (x5_1 ++ [wrap64 ((wrap64 ((rd l0 x7_1) - x6_1)) - (rd l1 x7_1))]) := ⟨_, rfl⟩
                replace H : (schismaref02_minus.l0 k1 l0 l1 y582 0 (wrap64 (x7_1 + 1))) = some r := by first | (rw [hy582]; with_reducible exact H) | (have H2_ := (Option.bind_some _ _).symm.trans H; rw [hy582]; with_reducible exact H2_) | (have H2_ := (Option.bind_some _ _).symm.trans H; with_reducible exact H2_) | with_reducible exact H | (rw [hy582]; exact H) | exact H
                have Ny582 := Aside0.mk hy582
                clear hy582
                have H' := Aside0.mk H
                clear H
                have p577 : 0 ≤ (x7_1 : Int) := of_decide_eq_true (by first | (with_reducible assumption) | assumption)
                have q577 : x7_1 < (l0.length : Int) := of_decide_eq_true (by first | (with_reducible assumption) | assumption)
                obtain ⟨ad577, e577, hx577_0⟩ := Kd.at_int HR0.out x7_1 p577 q577
                cases e577
                replace hx577_0 := (HB.out.cell (World.block_lt_of_cell? w _ hx577_0)).trans hx577_0
                replace p577 := eq_true p577
                replace q577 := eq_true q577
                have p578 : 0 ≤ (x7_1 : Int) := of_decide_eq_true (by first | (with_reducible assumption) | assumption)
                have q578 : x7_1 < (l1.length : Int) := of_decide_eq_true (by first | (with_reducible assumption) | assumption)
                obtain ⟨ad578, e578, hx578_0⟩ := Kd.at_int HR1.out x7_1 p578 q578
                cases e578
                replace hx578_0 := (HB.out.cell (World.block_lt_of_cell? w _ hx578_0)).trans hx578_0
                replace p578 := eq_true p578
                replace q578 := eq_true q578
                go_wp2_with (first | ((with_reducible refine gate_builtin (b := .append) (xs := #[.tmp 35, .tmp 37]) rfl ?_); at_builtin; refine Kd.R_append (Kd.int .i64) (w0 := w) w.heap.size rfl (.tmp 35) (.tmp 37) 55 3 (.int .i64 0) 8 rfl Tryz.underlying55 info3 rfl (by decide) (by omega) u5 x5_1 (wrap64 ((wrap64 ((rd l0 x7_1) - x6_1)) - (rd l1 x7_1))) [.int .i64 (wrap64 ((wrap64 ((rd l0 x7_1) - x6_1)) - (rd l1 x7_1)))] (fun _ => True) (fun _ => False) rfl rfl ?aP (fun _ hk => hk.elim) ?aF ?aO ?aB ?aS ?aL ?_; (case aP => exact rfl); (case aB => exact bq); (case aF => exact (fun _ _ => trivial)); (case aO => exact (by (with_reducible repeat (first | apply Kd.R_alloc | apply Kd.R_drewN | apply Kd.R_drew)); exact HO_5.out)); (case aS => exact (below_size bq)); (case aL => have := LMc9.out; omega); intro v583 w10 ho hb hg hat; rw [← Ny582.out] at ho; have n0_ := Aside0.mk (hb); have n1_ := Aside0.mk (ho); clear HB; clear HO_5; have HB := n0_; have HO584 := n1_; clear n0_ n1_; clear ho hb hg hat))
                go_roundg k1
                case measure => have := HK1.out; omega
                case rel => exact ⟨(y582), (0), (wrap64 (x7_1 + 1)), (by first | rfl | (simp; done) | (simp [*]; done)), (by first | rfl | (simp; done) | (simp [*]; done)), H', ⟨by have := HK1.out; omega⟩, ⟨by (with_reducible repeat (first | apply Kd.R_alloc | apply Kd.R_drewN | apply Kd.R_drew)); exact HO584.out⟩, ⟨bq⟩⟩
              · rw [if_neg c9] at H
                exact absurd H (by simp)
          · rw [if_neg c5] at H
            have c5b0 : decide (x7_1 < (l1.length : Int)) = false := decide_eq_false c5
            clear c5
            by_cases c11 : (wrap64 ((rd l0 x7_1) - x6_1)) < 0
            · rw [if_pos c11] at H
              have c11b0 : decide ((wrap64 ((rd l0 x7_1) - x6_1)) < 0) = true := decide_eq_true c11
              clear c11
              by_cases c12 : x5_1.length < 17592186044416
              · rw [if_pos c12] at H
                have LMc12 := Aside0.mk c12
                clear c12
                obtain ⟨y585, hy585⟩ : ∃ y_ : List Int, y_ = (x5_1 ++ [wrap64 ((wrap64 ((rd l0 x7_1) - x6_1)) + 1000000000)]) := ⟨_, rfl⟩
                replace H : (schismaref02_minus.l0 k1 l0 l1 y585 1 (wrap64 (x7_1 + 1))) = some r := by first | (rw [hy585]; with_reducible exact H) | (have H2_ := (Option.bind_some _ _).symm.trans H; rw [hy585]; with_reducible exact H2_) | (have H2_ := (Option.bind_some _ _).symm.trans H; with_reducible exact H2_) | with_reducible exact H | (rw [hy585]; exact H) | exact H
                have Ny585 := Aside0.mk hy585
                clear hy585
                have H' := Aside0.mk H
                clear H
                have p577 : 0 ≤ (x7_1 : Int) := of_decide_eq_true (by first | (with_reducible assumption) | assumption)
                have q577 : x7_1 < (l0.length : Int) := of_decide_eq_true (by first | (with_reducible assumption) | assumption)
                obtain ⟨ad577, e577, hx577_0⟩ := Kd.at_int HR0.out x7_1 p577 q577
                cases e577
                replace hx577_0 := (HB.out.cell (World.block_lt_of_cell? w _ hx577_0)).trans hx577_0
                replace p577 := eq_true p577
                replace q577 := eq_true q577
                go_wp2_with (first | ((with_reducible refine gate_builtin (b := .append) (xs := #[.tmp 35, .tmp 37]) rfl ?_); at_builtin; refine Kd.R_append (Kd.int .i64) (w0 := w) w.heap.size rfl (.tmp 35) (.tmp 37) 55 3 (.int .i64 0) 8 rfl Tryz.underlying55 info3 rfl (by decide) (by omega) u5 x5_1 (wrap64 ((wrap64 ((rd l0 x7_1) - x6_1)) + 1000000000)) [.int .i64 (wrap64 ((wrap64 ((rd l0 x7_1) - x6_1)) + 1000000000))] (fun _ => True) (fun _ => False) rfl rfl ?aP (fun _ hk => hk.elim) ?aF ?aO ?aB ?aS ?aL ?_; (case aP => exact rfl); (case aB => exact bq); (case aF => exact (fun _ _ => trivial)); (case aO => exact (by (with_reducible repeat (first | apply Kd.R_alloc | apply Kd.R_drewN | apply Kd.R_drew)); exact HO_5.out)); (case aS => exact (below_size bq)); (case aL => have := LMc12.out; omega); intro v586 w13 ho hb hg hat; rw [← Ny585.out] at ho; have n0_ := Aside0.mk (hb); have n1_ := Aside0.mk (ho); clear HB; clear HO_5; have HB := n0_; have HO587 := n1_; clear n0_ n1_; clear ho hb hg hat))
                go_roundg k1
                case measure => have := HK1.out; omega
                case rel => exact ⟨(y585), (1), (wrap64 (x7_1 + 1)), (by first | rfl | (simp; done) | (simp [*]; done)), (by first | rfl | (simp; done) | (simp [*]; done)), H', ⟨by have := HK1.out; omega⟩, ⟨by (with_reducible repeat (first | apply Kd.R_alloc | apply Kd.R_drewN | apply Kd.R_drew)); exact HO587.out⟩, ⟨bq⟩⟩
              · rw [if_neg c12] at H
                exact absurd H (by simp)
            · rw [if_neg c11] at H
              have c11b0 : decide ((wrap64 ((rd l0 x7_1) - x6_1)) < 0) = false := decide_eq_false c11
              clear c11
              by_cases c14 : x5_1.length < 17592186044416
              · rw [if_pos c14] at H
                have LMc14 := Aside0.mk c14
                clear c14
                obtain ⟨y588, hy588⟩ : ∃ y_ : List Int, y_ = (x5_1 ++ [wrap64 ((rd l0 x7_1) - x6_1)]) := ⟨_, rfl⟩
                replace H : (schismaref02_minus.l0 k1 l0 l1 y588 0 (wrap64 (x7_1 + 1))) = some r := by first | (rw [hy588]; with_reducible exact H) | (have H2_ := (Option.bind_some _ _).symm.trans H; rw [hy588]; with_reducible exact H2_) | (have H2_ := (Option.bind_some _ _).symm.trans H; with_reducible exact H2_) | with_reducible exact H | (rw [hy588]; exact H) | exact H
                have Ny588 := Aside0.mk hy588
                clear hy588
                have H' := Aside0.mk H
                clear H
                have p577 : 0 ≤ (x7_1 : Int) := of_decide_eq_true (by first | (with_reducible assumption) | assumption)
                have q577 : x7_1 < (l0.length : Int) := of_decide_eq_true (by first | (with_reducible assumption) | assumption)
                obtain ⟨ad577, e577, hx577_0⟩ := Kd.at_int HR0.out x7_1 p577 q577
                cases e577
                replace hx577_0 := (HB.out.cell (World.block_lt_of_cell? w _ hx577_0)).trans hx577_0
                replace p577 := eq_true p577
                replace q577 := eq_true q577
                go_wp2_with (first | ((with_reducible refine gate_builtin (b := .append) (xs := #[.tmp 35, .tmp 37]) rfl ?_); at_builtin; refine Kd.R_append (Kd.int .i64) (w0 := w) w.heap.size rfl (.tmp 35) (.tmp 37) 55 3 (.int .i64 0) 8 rfl Tryz.underlying55 info3 rfl (by decide) (by omega) u5 x5_1 (wrap64 ((rd l0 x7_1) - x6_1)) [.int .i64 (wrap64 ((rd l0 x7_1) - x6_1))] (fun _ => True) (fun _ => False) rfl rfl ?aP (fun _ hk => hk.elim) ?aF ?aO ?aB ?aS ?aL ?_; (case aP => exact rfl); (case aB => exact bq); (case aF => exact (fun _ _ => trivial)); (case aO => exact (by (with_reducible repeat (first | apply Kd.R_alloc | apply Kd.R_drewN | apply Kd.R_drew)); exact HO_5.out)); (case aS => exact (below_size bq)); (case aL => have := LMc14.out; omega); intro v589 w15 ho hb hg hat; rw [← Ny588.out] at ho; have n0_ := Aside0.mk (hb); have n1_ := Aside0.mk (ho); clear HB; clear HO_5; have HB := n0_; have HO590 := n1_; clear n0_ n1_; clear ho hb hg hat))
                go_roundg k1
                case measure => have := HK1.out; omega
                case rel => exact ⟨(y588), (0), (wrap64 (x7_1 + 1)), (by first | rfl | (simp; done) | (simp [*]; done)), (by first | rfl | (simp; done) | (simp [*]; done)), H', ⟨by have := HK1.out; omega⟩, ⟨by (with_reducible repeat (first | apply Kd.R_alloc | apply Kd.R_drewN | apply Kd.R_drew)); exact HO590.out⟩, ⟨bq⟩⟩
              · rw [if_neg c14] at H
                exact absurd H (by simp)
        · rw [if_neg c4] at H
          exact absurd H (by simp)
      · rw [if_neg c3] at H
        have c3b0 : decide (x7_1 < (l0.length : Int)) = false := decide_eq_false c3
        clear c3
        replace H := Option.bind_eq_some_iff.mp H
        obtain ⟨t574, A160, H⟩ := H
        replace H : (some t574) = some r := H
        have A16 := Aside0.mk A160
        clear A160
        obtain rfl := Option.some.inj H
        obtain ⟨Ao17, co17, eo17⟩ := Kd.R_slice HO_5.out
        subst eo17
        go_wp2_with (first | ((with_reducible refine gate_callee (f := 65) rfl ?_); refine goesL_ (some 40) rfl rfl Tryz.func65 (by kernel_rfl) rfl #[.slice Ao17 x5_1.length co17] rfl mq ?_; (with_reducible refine (schismaref02_trim.calls k1 (fun k_ => some k_ = (.slice Ao17 x5_1.length co17 : Value).ownBlock) (.slice Ao17 x5_1.length co17) x5_1 t574 w _ ?side1 ?side2 A16.out).mono ?_); (case side1 => exact bq); (case side2 => exact Kd.R_tight rfl HO_5.out); rintro e w18 ⟨v575, rfl, ho0, hb, hkp⟩; refine ⟨_, rfl, ?_⟩; have n0_ := Aside0.mk (Kd.R_mono (ok' := fun k_ => True) ho0 (fun k_ hk_ => trivial)); have n1_ := Aside0.mk (hb); clear HB; clear HO_5; have HO576 := n0_; have HB := n1_; clear n0_ n1_; (try clear hb); (try clear hkp); (try clear ho0)))
        go_ret
        exact ⟨_, eq_, by (with_reducible repeat (first | apply Kd.R_alloc | apply Kd.R_drewN | apply Kd.R_drew)); exact HO576.out, bq⟩
end Go.Proofs.YtgicckcahhlbjaaGreatDoor.P
