/- Functions of the program, as functions of Lean, and the walks that show that the code answers as they do: written by a program. Conditions: those of each theorem. -/
import Derived.Test.YtgicckcahhlbjaaGreatDoorWholePowersF6
namespace Go.Proofs.YtgicckcahhlbjaaGreatDoor.P
open Go.RowKit Go.Proofs.YtgicckcahhlbjaaGreatDoorW.PrintWords Go.Proofs.YtgicckcahhlbjaaGreatDoorW.PrintLast Go.Proofs.YtgicckcahhlbjaaGreatDoorW.PrintMore
attribute [local go_sem] gtr_text max2_int min2_int max_two min_two max_three min_three max_four min_four
set_option linter.unusedVariables false
set_option linter.unusedSimpArgs false
mutual
def schismaref02_Parse.j0 : Nat → ByteArray → Bool → Option (ByteArray × Int)
  | 0, _, _ => none
  | k + 1, x0, x4 => if x0.toList = ([] : List UInt8) then (some ((⟨#[]⟩ : ByteArray), 15)) else (schismaref02_Parse.l0 k x0 x4 0)
def schismaref02_Parse.l0 : Nat → ByteArray → Bool → Int → Option (ByteArray × Int)
  | 0, _, _, _ => none
  | k + 1, x0, x4, x5 => if x5 < (x0.size : Int) then (if 0 ≤ x5 then (if (bt x0 x5) < 48 then (some ((⟨#[]⟩ : ByteArray), 15)) else (if (bt x0 x5) > 57 then (some ((⟨#[]⟩ : ByteArray), 15)) else (schismaref02_Parse.l0 k x0 x4 (wrap64 (x5 + 1))))) else (none)) else (schismaref02_Parse.l1 k x0 x4)
def schismaref02_Parse.j3 : Nat → ByteArray → Bool → Option (ByteArray × Int)
  | 0, _, _ => none
  | k + 1, x0, x4 => if (x0.size : Int) > 400 then (some ((⟨#[]⟩ : ByteArray), 4)) else (if x4 = true then (if x0.toList = ([48] : List UInt8) then (some (x0, 0)) else (if 1 + x0.size ≤ 9223372036854775807 then (some ((⟨#[45]⟩ : ByteArray) ++ x0, 0)) else (none))) else (some (x0, 0)))
def schismaref02_Parse.l1 : Nat → ByteArray → Bool → Option (ByteArray × Int)
  | 0, _, _ => none
  | k + 1, x0, x4 => if (x0.size : Int) > 1 then (if 0 < (x0.size : Int) then (if (bt x0 0) = 48 then (if 1 ≤ (x0.size : Int) then (schismaref02_Parse.l1 k (x0.extract 1 x0.size) x4) else (none)) else (schismaref02_Parse.j3 k x0 x4)) else (none)) else (schismaref02_Parse.j3 k x0 x4)
end
def schismaref02_Parse.f (k : Nat) (a0 : ByteArray) : Option (ByteArray × Int) := if a0.toList = ([] : List UInt8) then (some ((⟨#[]⟩ : ByteArray), 13)) else (if 0 < (a0.size : Int) then (if (bt a0 0) = 45 then (if 1 ≤ (a0.size : Int) then (schismaref02_Parse.j0 k (a0.extract 1 a0.size) ((bt a0 0) == 45)) else (none)) else (schismaref02_Parse.j0 k a0 ((bt a0 0) == 45))) else (none))
theorem schismaref02_Parse.mono_l : ∀ k, (∀ y0 y1, LeO (schismaref02_Parse.j0 k y0 y1) (schismaref02_Parse.j0 (k + 1) y0 y1)) ∧ (∀ y0 y1 y2, LeO (schismaref02_Parse.l0 k y0 y1 y2) (schismaref02_Parse.l0 (k + 1) y0 y1 y2)) ∧ (∀ y0 y1, LeO (schismaref02_Parse.j3 k y0 y1) (schismaref02_Parse.j3 (k + 1) y0 y1)) ∧ (∀ y0 y1, LeO (schismaref02_Parse.l1 k y0 y1) (schismaref02_Parse.l1 (k + 1) y0 y1))
  | 0 => ⟨fun _ _ r h => by simp [schismaref02_Parse.j0] at h, fun _ _ _ r h => by simp [schismaref02_Parse.l0] at h, fun _ _ r h => by simp [schismaref02_Parse.j3] at h, fun _ _ r h => by simp [schismaref02_Parse.l1] at h⟩
  | k + 1 => by
    obtain ⟨ih0, ih1, ih2, ih3⟩ := schismaref02_Parse.mono_l k
    refine ⟨?_, ?_, ?_, ?_⟩
    · intro y0 y1
      unfold schismaref02_Parse.j0
      repeat' first
      | (with_reducible exact ih0 _ _)
      | (with_reducible exact ih1 _ _ _)
      | (with_reducible exact ih2 _ _)
      | (with_reducible exact ih3 _ _)
      | (with_reducible exact LeO.refl _)
      | (with_reducible exact LeO.none _)
      | (with_reducible refine LeO.ite ?_ ?_)
      | (with_reducible refine LeO.bind ?_ (fun _ => ?_))
      | exact ih0 _ _
      | exact ih1 _ _ _
      | exact ih2 _ _
      | exact ih3 _ _
      | exact LeO.none _
      | refine LeO.ite ?_ ?_
      | refine LeO.bind ?_ (fun _ => ?_)
    · intro y0 y1 y2
      unfold schismaref02_Parse.l0
      repeat' first
      | (with_reducible exact ih0 _ _)
      | (with_reducible exact ih1 _ _ _)
      | (with_reducible exact ih2 _ _)
      | (with_reducible exact ih3 _ _)
      | (with_reducible exact LeO.refl _)
      | (with_reducible exact LeO.none _)
      | (with_reducible refine LeO.ite ?_ ?_)
      | (with_reducible refine LeO.bind ?_ (fun _ => ?_))
      | exact ih0 _ _
      | exact ih1 _ _ _
      | exact ih2 _ _
      | exact ih3 _ _
      | exact LeO.none _
      | refine LeO.ite ?_ ?_
      | refine LeO.bind ?_ (fun _ => ?_)
    · intro y0 y1
      unfold schismaref02_Parse.j3
      repeat' first
      | (with_reducible exact ih0 _ _)
      | (with_reducible exact ih1 _ _ _)
      | (with_reducible exact ih2 _ _)
      | (with_reducible exact ih3 _ _)
      | (with_reducible exact LeO.refl _)
      | (with_reducible exact LeO.none _)
      | (with_reducible refine LeO.ite ?_ ?_)
      | (with_reducible refine LeO.bind ?_ (fun _ => ?_))
      | exact ih0 _ _
      | exact ih1 _ _ _
      | exact ih2 _ _
      | exact ih3 _ _
      | exact LeO.none _
      | refine LeO.ite ?_ ?_
      | refine LeO.bind ?_ (fun _ => ?_)
    · intro y0 y1
      unfold schismaref02_Parse.l1
      repeat' first
      | (with_reducible exact ih0 _ _)
      | (with_reducible exact ih1 _ _ _)
      | (with_reducible exact ih2 _ _)
      | (with_reducible exact ih3 _ _)
      | (with_reducible exact LeO.refl _)
      | (with_reducible exact LeO.none _)
      | (with_reducible refine LeO.ite ?_ ?_)
      | (with_reducible refine LeO.bind ?_ (fun _ => ?_))
      | exact ih0 _ _
      | exact ih1 _ _ _
      | exact ih2 _ _
      | exact ih3 _ _
      | exact LeO.none _
      | refine LeO.ite ?_ ?_
      | refine LeO.bind ?_ (fun _ => ?_)
theorem schismaref02_Parse.mono : ∀ a0 k, LeO (schismaref02_Parse.f k a0) (schismaref02_Parse.f (k + 1) a0) := by
  intro a0 k
  obtain ⟨ih0, ih1, ih2, ih3⟩ := schismaref02_Parse.mono_l k
  unfold schismaref02_Parse.f
  repeat' first
      | (with_reducible exact ih0 _ _)
      | (with_reducible exact ih1 _ _ _)
      | (with_reducible exact ih2 _ _)
      | (with_reducible exact ih3 _ _)
      | (with_reducible exact LeO.refl _)
      | (with_reducible exact LeO.none _)
      | (with_reducible refine LeO.ite ?_ ?_)
      | (with_reducible refine LeO.bind ?_ (fun _ => ?_))
      | exact ih0 _ _
      | exact ih1 _ _ _
      | exact ih2 _ _
      | exact ih3 _ _
      | exact LeO.none _
      | refine LeO.ite ?_ ?_
      | refine LeO.bind ?_ (fun _ => ?_)
set_option maxHeartbeats 8000000 in
set_option maxRecDepth 100000 in
theorem schismaref02_Parse.calls (k : Nat) (a0 : ByteArray) (r1 : ByteArray) (r2 : Int) (w : World) (h : schismaref02_Parse.f k a0 = some (r1, r2)) :
    Calls Tryz.prog 27 #[.string a0] w fun e w' => e = .returned (.tuple #[.string r1, .int .i64 r2]) ∧ Drawn0 w w' := by
  have H : (if a0.toList = ([] : List UInt8) then (some ((⟨#[]⟩ : ByteArray), 13)) else (if 0 < (a0.size : Int) then (if (bt a0 0) = 45 then (if 1 ≤ (a0.size : Int) then (schismaref02_Parse.j0 k (a0.extract 1 a0.size) ((bt a0 0) == 45)) else (none)) else (schismaref02_Parse.j0 k a0 ((bt a0 0) == 45))) else (none))) = some (r1, r2) := h
  clear h
  by_cases c2 : a0.toList = ([] : List UInt8)
  · rw [if_pos c2] at H
    have c2b0 : (a0.toList == ([] : List UInt8)) = true := beq_iff_eq.mpr c2
    have c2b1 : (a0.toList != ([] : List UInt8)) = false := bne_eq_false_iff_eq.mpr c2
    clear c2
    simp only [Option.some.injEq, Prod.mk.injEq] at H
    obtain ⟨rfl, rfl⟩ := H
    go_enter Tryz.func27, Tryz.ntmps27
    go_wp2
    go_ret2
    exact ⟨by first | rfl | (simp; done) | (simp [wrap64]; done) | (simp [*]; done), by repeat (first | exact Drawn0.refl _ | apply Drawn0.step)⟩
  · rw [if_neg c2] at H
    have c2b0 : (a0.toList == ([] : List UInt8)) = false := beq_eq_false_iff_ne.mpr c2
    have c2b1 : (a0.toList != ([] : List UInt8)) = true := bne_iff_ne.mpr c2
    by_cases c3 : 0 < (a0.size : Int)
    · rw [if_pos c3] at H
      have c3b0 : decide (0 < (a0.size : Int)) = true := decide_eq_true c3
      have c3b1 : decide (0 < a0.size) = true := decide_eq_true (by omega)
      clear c3
      have HC5 := Aside0.mk H
      clear H
      have p4 : 0 ≤ (0 : Int) := (by omega)
      have q4 : 0 < a0.size := (by have : (0 : Int) < (a0.size : Int) := of_decide_eq_true (by first | (with_reducible assumption) | assumption); omega)
      have hx4 : ∀ h : 0 < a0.size, ((a0[0]'h).toNat : Int) = bt a0 0 := bt_at a0 0
      clear p4
      have qi4 : (0 < (a0.size : Int)) = True := eq_true (of_decide_eq_true (by first | (with_reducible assumption) | assumption))
      replace q4 := eq_true q4
      go_enter Tryz.func27, Tryz.ntmps27
      go_upto_if 11 with (fail)
      go_cut [0] (fun v0 wc => ∃ (kq : Nat) (x0_4 : ByteArray), v0 = .string x0_4 ∧ Aside0 (schismaref02_Parse.j0 kq x0_4 ((bt a0 0) == 45) = some (r1, r2)) ∧ Aside0 (kq ≤ k) ∧ Drawn0 w wc)
      case first =>
        have H := HC5.out
        clear HC5
        by_cases c6 : (bt a0 0) = 45
        · rw [if_pos c6] at H
          have c6b0 : ((bt a0 0) == 45) = true := beq_iff_eq.mpr c6
          have c6b1 : ((bt a0 0) != 45) = false := bne_eq_false_iff_eq.mpr c6
          clear c6
          (first | rw [c6b0] | (simp only [i64_w, i32_w]; rw [c6b0]) | skip)
          try simp only [c6b0] at *
          by_cases c7 : 1 ≤ (a0.size : Int)
          · rw [if_pos c7] at H
            have c7b0 := eq_true c7
            have c7b1 : decide (1 ≤ (a0.size : Int)) = true := decide_eq_true c7
            clear c7
            have H' := Aside0.mk H
            clear H
            go_wp2
            go_meet
            case rel => exact ⟨_, (a0.extract 1 a0.size), (by first | rfl | (simp; done) | (simp [*]; done)), H', ⟨by first | omega | exact Nat.le_refl _⟩, by repeat (first | exact Drawn0.refl _ | apply Drawn0.step)⟩
          · rw [if_neg c7] at H
            exact absurd H (by simp)
        · rw [if_neg c6] at H
          have c6b0 : ((bt a0 0) == 45) = false := beq_eq_false_iff_ne.mpr c6
          have c6b1 : ((bt a0 0) != 45) = true := bne_iff_ne.mpr c6
          (first | rw [c6b0] | (simp only [i64_w, i32_w]; rw [c6b0]) | skip)
          try simp only [c6b0] at *
          have H' := Aside0.mk H
          clear H
          go_wp2
          go_meet
          case rel => exact ⟨_, (a0), (by first | rfl | (simp; done) | (simp [*]; done)), H', ⟨by first | omega | exact Nat.le_refl _⟩, by repeat (first | exact Drawn0.refl _ | apply Drawn0.step)⟩
      case rest =>
        clear HC5
        try clear c2
        try clear c2b0
        try clear c2b1
        try clear p2
        try clear c3
        try clear c3b0
        try clear c3b1
        try clear p4
        try clear q4
        try clear hx4
        try clear qi4
        try clear c6
        try clear c6b0
        try clear c6b1
        try clear c7
        try clear c7b0
        try clear c7b1
        try clear p4
        try clear q4
        obtain ⟨kq, x0_4, rfl, HA, HJ4, ⟨mc4, rfl⟩⟩ := hcut
        cases kq with
        | zero => exact absurd HA.out (by simp [schismaref02_Parse.j0])
        | succ kj4 =>
          have H := HA.out
          clear HA
          simp only [schismaref02_Parse.j0] at H
          by_cases c8 : x0_4.toList = ([] : List UInt8)
          · rw [if_pos c8] at H
            have c8b0 : (x0_4.toList == ([] : List UInt8)) = true := beq_iff_eq.mpr c8
            have c8b1 : (x0_4.toList != ([] : List UInt8)) = false := bne_eq_false_iff_eq.mpr c8
            clear c8
            simp only [Option.some.injEq, Prod.mk.injEq] at H
            obtain ⟨rfl, rfl⟩ := H
            go_wp2
            go_ret2
            exact ⟨by first | rfl | (simp; done) | (simp [wrap64]; done) | (simp [*]; done), by repeat (first | exact Drawn0.refl _ | apply Drawn0.step)⟩
          · rw [if_neg c8] at H
            have c8b0 : (x0_4.toList == ([] : List UInt8)) = false := beq_eq_false_iff_ne.mpr c8
            have c8b1 : (x0_4.toList != ([] : List UInt8)) = true := bne_iff_ne.mpr c8
            have H' := Aside0.mk H
            clear H
            go_wp2
            go_loopg [5] kj4 (fun kq v5 w' => ∃ (x5_2 : Int), v5 = .int .i64 x5_2 ∧ Aside0 (schismaref02_Parse.l0 kq x0_4 ((bt a0 0) == 45) x5_2 = some (r1, r2)) ∧ Aside0 (kq ≤ kj4) ∧ Drawn0 w w')
            case atStart => exact ⟨(0), (by first | rfl | (simp; done) | (simp [*]; done)), H', ⟨Nat.le_refl _⟩, by repeat (first | exact Drawn0.refl _ | apply Drawn0.step)⟩
            case round =>
              clear H'
              try clear c2
              try clear c2b0
              try clear c2b1
              try clear p2
              try clear c3
              try clear c3b0
              try clear c3b1
              try clear c4
              try clear p4
              try clear q4
              try clear hx4
              try clear qi4
              try clear c6
              try clear c6b0
              try clear c6b1
              try clear c7
              try clear c7b0
              try clear c7b1
              try clear c8
              try clear c8b0
              try clear c8b1
              try clear p2
              try clear p4
              try clear q4
              obtain ⟨x5_2, rfl, HA, HK2, ⟨m2, rfl⟩⟩ := hrel
              cases gk with
              | zero => exact absurd HA.out (by simp [schismaref02_Parse.l0])
              | succ k2 =>
                have H := HA.out
                clear HA
                simp only [schismaref02_Parse.l0] at H
                by_cases c9 : x5_2 < (x0_4.size : Int)
                · rw [if_pos c9] at H
                  have c9b0 : decide (x5_2 < (x0_4.size : Int)) = true := decide_eq_true c9
                  clear c9
                  by_cases c10 : 0 ≤ x5_2
                  · rw [if_pos c10] at H
                    have c10b0 : decide (0 ≤ x5_2) = true := decide_eq_true c10
                    clear c10
                    by_cases c12 : (bt x0_4 x5_2) < 48
                    · rw [if_pos c12] at H
                      have c12b0 : decide ((bt x0_4 x5_2) < 48) = true := decide_eq_true c12
                      clear c12
                      simp only [Option.some.injEq, Prod.mk.injEq] at H
                      obtain ⟨rfl, rfl⟩ := H
                      have p11 : 0 ≤ (x5_2 : Int) := of_decide_eq_true (by first | (with_reducible assumption) | assumption)
                      have q11 : x5_2 < (x0_4.size : Int) := of_decide_eq_true (by first | (with_reducible assumption) | assumption)
                      have hx11 := bt_at x0_4 x5_2
                      replace p11 := eq_true p11
                      replace q11 := eq_true q11
                      go_wp2
                      go_ret2
                      exact ⟨by first | rfl | (simp; done) | (simp [wrap64]; done) | (simp [*]; done), by repeat (first | exact Drawn0.refl _ | apply Drawn0.step)⟩
                    · rw [if_neg c12] at H
                      have c12b0 : decide ((bt x0_4 x5_2) < 48) = false := decide_eq_false c12
                      clear c12
                      by_cases c14 : (bt x0_4 x5_2) > 57
                      · rw [if_pos c14] at H
                        have c14b0 : decide (57 < (bt x0_4 x5_2)) = true := decide_eq_true c14
                        clear c14
                        simp only [Option.some.injEq, Prod.mk.injEq] at H
                        obtain ⟨rfl, rfl⟩ := H
                        have p11 : 0 ≤ (x5_2 : Int) := of_decide_eq_true (by first | (with_reducible assumption) | assumption)
                        have q11 : x5_2 < (x0_4.size : Int) := of_decide_eq_true (by first | (with_reducible assumption) | assumption)
                        have hx11 := bt_at x0_4 x5_2
                        replace p11 := eq_true p11
                        replace q11 := eq_true q11
                        have p13 : 0 ≤ (x5_2 : Int) := of_decide_eq_true (by first | (with_reducible assumption) | assumption)
                        have q13 : x5_2 < (x0_4.size : Int) := of_decide_eq_true (by first | (with_reducible assumption) | assumption)
                        have hx13 := bt_at x0_4 x5_2
                        replace p13 := eq_true p13
                        replace q13 := eq_true q13
                        go_wp2
                        go_ret2
                        exact ⟨by first | rfl | (simp; done) | (simp [wrap64]; done) | (simp [*]; done), by repeat (first | exact Drawn0.refl _ | apply Drawn0.step)⟩
                      · rw [if_neg c14] at H
                        have c14b0 : decide (57 < (bt x0_4 x5_2)) = false := decide_eq_false c14
                        clear c14
                        have H' := Aside0.mk H
                        clear H
                        have p11 : 0 ≤ (x5_2 : Int) := of_decide_eq_true (by first | (with_reducible assumption) | assumption)
                        have q11 : x5_2 < (x0_4.size : Int) := of_decide_eq_true (by first | (with_reducible assumption) | assumption)
                        have hx11 := bt_at x0_4 x5_2
                        replace p11 := eq_true p11
                        replace q11 := eq_true q11
                        have p13 : 0 ≤ (x5_2 : Int) := of_decide_eq_true (by first | (with_reducible assumption) | assumption)
                        have q13 : x5_2 < (x0_4.size : Int) := of_decide_eq_true (by first | (with_reducible assumption) | assumption)
                        have hx13 := bt_at x0_4 x5_2
                        replace p13 := eq_true p13
                        replace q13 := eq_true q13
                        go_wp2
                        go_roundg k2
                        case measure => have := HJ4.out; have := HK2.out; omega
                        case rel => exact ⟨(wrap64 (x5_2 + 1)), (by first | rfl | (simp; done) | (simp [*]; done)), H', ⟨by have := HJ4.out; have := HK2.out; omega⟩, by repeat (first | exact Drawn0.refl _ | apply Drawn0.step)⟩
                  · rw [if_neg c10] at H
                    exact absurd H (by simp)
                · rw [if_neg c9] at H
                  have c9b0 : decide (x5_2 < (x0_4.size : Int)) = false := decide_eq_false c9
                  clear c9
                  have HC15 := Aside0.mk H
                  clear H
                  go_upto_block 2 with (fail)
                  go_cut [0] (fun v0 wc => ∃ (kq : Nat) (x0_14 : ByteArray), v0 = .string x0_14 ∧ Aside0 (schismaref02_Parse.j3 kq x0_14 ((bt a0 0) == 45) = some (r1, r2)) ∧ Aside0 (kq ≤ k2) ∧ Drawn0 w wc)
                  case first =>
                    have H := HC15.out
                    clear HC15
                    have H' := Aside0.mk H
                    clear H
                    go_wp2
                    go_loopg [0] k2 (fun kq v0 w' => ∃ (x0_3 : ByteArray), v0 = .string x0_3 ∧ Aside0 (schismaref02_Parse.l1 kq x0_3 ((bt a0 0) == 45) = some (r1, r2)) ∧ Aside0 (kq ≤ k2) ∧ Drawn0 w w')
                    case atStart => exact ⟨(x0_4), (by first | rfl | (simp; done) | (simp [*]; done)), H', ⟨Nat.le_refl _⟩, by repeat (first | exact Drawn0.refl _ | apply Drawn0.step)⟩
                    case round =>
                      clear H'
                      try clear c1
                      try clear p1
                      try clear q1
                      try clear hx1
                      try clear c2
                      try clear c2b0
                      try clear c2b1
                      try clear p2
                      try clear c3
                      try clear c3b0
                      try clear c3b1
                      try clear c4
                      try clear p4
                      try clear q4
                      try clear hx4
                      try clear qi4
                      try clear c6
                      try clear c6b0
                      try clear c6b1
                      try clear p6
                      try clear c7
                      try clear c7b0
                      try clear c7b1
                      try clear c8
                      try clear c8b0
                      try clear c8b1
                      try clear c9
                      try clear c9b0
                      try clear c10
                      try clear c10b0
                      try clear p11
                      try clear q11
                      try clear hx11
                      try clear c12
                      try clear c12b0
                      try clear p13
                      try clear q13
                      try clear hx13
                      try clear c14
                      try clear c14b0
                      try clear p11
                      try clear p13
                      try clear p2
                      try clear p4
                      try clear q11
                      try clear q13
                      try clear q4
                      obtain ⟨x0_3, rfl, HA, HK3, ⟨m3, rfl⟩⟩ := hrel
                      cases gk with
                      | zero => exact absurd HA.out (by simp [schismaref02_Parse.l1])
                      | succ k3 =>
                        have H := HA.out
                        clear HA
                        simp only [schismaref02_Parse.l1] at H
                        by_cases c16 : (x0_3.size : Int) > 1
                        · rw [if_pos c16] at H
                          have c16b0 : decide (1 < (x0_3.size : Int)) = true := decide_eq_true c16
                          have c16b1 : decide (1 < x0_3.size) = true := decide_eq_true (by omega)
                          clear c16
                          (first | rw [c16b0] | (simp only [i64_w, i32_w]; rw [c16b0]) | skip)
                          by_cases c17 : 0 < (x0_3.size : Int)
                          · rw [if_pos c17] at H
                            have c17b0 : decide (0 < (x0_3.size : Int)) = true := decide_eq_true c17
                            have c17b1 : decide (0 < x0_3.size) = true := decide_eq_true (by omega)
                            clear c17
                            by_cases c19 : (bt x0_3 0) = 48
                            · rw [if_pos c19] at H
                              have c19b0 : ((bt x0_3 0) == 48) = true := beq_iff_eq.mpr c19
                              have c19b1 : ((bt x0_3 0) != 48) = false := bne_eq_false_iff_eq.mpr c19
                              clear c19
                              by_cases c20 : 1 ≤ (x0_3.size : Int)
                              · rw [if_pos c20] at H
                                have c20b0 := eq_true c20
                                have c20b1 : decide (1 ≤ (x0_3.size : Int)) = true := decide_eq_true c20
                                clear c20
                                have H' := Aside0.mk H
                                clear H
                                have p18 : 0 ≤ (0 : Int) := (by omega)
                                have q18 : 0 < x0_3.size := (by have : (0 : Int) < (x0_3.size : Int) := of_decide_eq_true (by first | (with_reducible assumption) | assumption); omega)
                                have hx18 : ∀ h : 0 < x0_3.size, ((x0_3[0]'h).toNat : Int) = bt x0_3 0 := bt_at x0_3 0
                                clear p18
                                have qi18 : (0 < (x0_3.size : Int)) = True := eq_true (of_decide_eq_true (by first | (with_reducible assumption) | assumption))
                                replace q18 := eq_true q18
                                go_wp2
                                go_roundg k3
                                case measure => have := HJ4.out; have := HK2.out; have := HK3.out; omega
                                case rel => exact ⟨(x0_3.extract 1 x0_3.size), (by first | rfl | (simp; done) | (simp [*]; done)), H', ⟨by have := HJ4.out; have := HK2.out; have := HK3.out; omega⟩, by repeat (first | exact Drawn0.refl _ | apply Drawn0.step)⟩
                              · rw [if_neg c20] at H
                                exact absurd H (by simp)
                            · rw [if_neg c19] at H
                              have c19b0 : ((bt x0_3 0) == 48) = false := beq_eq_false_iff_ne.mpr c19
                              have c19b1 : ((bt x0_3 0) != 48) = true := bne_iff_ne.mpr c19
                              have H' := Aside0.mk H
                              clear H
                              have p18 : 0 ≤ (0 : Int) := (by omega)
                              have q18 : 0 < x0_3.size := (by have : (0 : Int) < (x0_3.size : Int) := of_decide_eq_true (by first | (with_reducible assumption) | assumption); omega)
                              have hx18 : ∀ h : 0 < x0_3.size, ((x0_3[0]'h).toNat : Int) = bt x0_3 0 := bt_at x0_3 0
                              clear p18
                              have qi18 : (0 < (x0_3.size : Int)) = True := eq_true (of_decide_eq_true (by first | (with_reducible assumption) | assumption))
                              replace q18 := eq_true q18
                              go_wp2
                              go_meet
                              case rel => exact ⟨_, (x0_3), (by first | rfl | (simp; done) | (simp [*]; done)), H', ⟨by have := HJ4.out; have := HK2.out; have := HK3.out; first | omega | exact Nat.le_refl _⟩, by repeat (first | exact Drawn0.refl _ | apply Drawn0.step)⟩
                          · rw [if_neg c17] at H
                            exact absurd H (by simp)
                        · rw [if_neg c16] at H
                          have c16b0 : decide (1 < (x0_3.size : Int)) = false := decide_eq_false c16
                          have c16b1 : decide (1 < x0_3.size) = false := decide_eq_false (by omega)
                          clear c16
                          (first | rw [c16b0] | (simp only [i64_w, i32_w]; rw [c16b0]) | skip)
                          have H' := Aside0.mk H
                          clear H
                          go_wp2
                          go_meet
                          case rel => exact ⟨_, (x0_3), (by first | rfl | (simp; done) | (simp [*]; done)), H', ⟨by have := HJ4.out; have := HK2.out; have := HK3.out; first | omega | exact Nat.le_refl _⟩, by repeat (first | exact Drawn0.refl _ | apply Drawn0.step)⟩
                  case rest =>
                    clear HC15
                    try clear c1
                    try clear p1
                    try clear q1
                    try clear hx1
                    try clear qi1
                    try clear c2
                    try clear c2b0
                    try clear c2b1
                    try clear p2
                    try clear c3
                    try clear c3b0
                    try clear c3b1
                    try clear c4
                    try clear p4
                    try clear q4
                    try clear hx4
                    try clear qi4
                    try clear c6
                    try clear c6b0
                    try clear c6b1
                    try clear p6
                    try clear c7
                    try clear c7b0
                    try clear c7b1
                    try clear c8
                    try clear c8b0
                    try clear c8b1
                    try clear c9
                    try clear c9b0
                    try clear c10
                    try clear c10b0
                    try clear p11
                    try clear q11
                    try clear hx11
                    try clear c12
                    try clear c12b0
                    try clear p13
                    try clear q13
                    try clear hx13
                    try clear c14
                    try clear c14b0
                    try clear c16
                    try clear c16b0
                    try clear c16b1
                    try clear c17
                    try clear c17b0
                    try clear c17b1
                    try clear p18
                    try clear q18
                    try clear hx18
                    try clear qi18
                    try clear c19
                    try clear c19b0
                    try clear c19b1
                    try clear c20
                    try clear c20b0
                    try clear c20b1
                    try clear p1
                    try clear p11
                    try clear p13
                    try clear p18
                    try clear p2
                    try clear p4
                    try clear p6
                    try clear q1
                    try clear q11
                    try clear q13
                    try clear q18
                    try clear q4
                    obtain ⟨kq, x0_14, rfl, HA, HJ14, ⟨mc14, rfl⟩⟩ := hcut
                    cases kq with
                    | zero => exact absurd HA.out (by simp [schismaref02_Parse.j3])
                    | succ kj14 =>
                      have H := HA.out
                      clear HA
                      simp only [schismaref02_Parse.j3] at H
                      by_cases c21 : (x0_14.size : Int) > 400
                      · rw [if_pos c21] at H
                        have c21b0 : decide (400 < (x0_14.size : Int)) = true := decide_eq_true c21
                        have c21b1 : decide (400 < x0_14.size) = true := decide_eq_true (by omega)
                        clear c21
                        simp only [Option.some.injEq, Prod.mk.injEq] at H
                        obtain ⟨rfl, rfl⟩ := H
                        go_wp2
                        go_ret2
                        exact ⟨by first | rfl | (simp; done) | (simp [wrap64]; done) | (simp [*]; done), by repeat (first | exact Drawn0.refl _ | apply Drawn0.step)⟩
                      · rw [if_neg c21] at H
                        have c21b0 : decide (400 < (x0_14.size : Int)) = false := decide_eq_false c21
                        have c21b1 : decide (400 < x0_14.size) = false := decide_eq_false (by omega)
                        clear c21
                        by_cases c22 : ((bt a0 0) == 45) = true
                        · rw [if_pos c22] at H
                          have c22b0 : ((bt a0 0) == 45) = true := c22
                          (try (have c22b1 : decide ((bt a0 0) = 45) = true := by simpa using c22))
                          (try (have c22b2 : ((bt a0 0) == 45) = true := by simpa using c22))
                          clear c22
                          by_cases c23 : x0_14.toList = ([48] : List UInt8)
                          · rw [if_pos c23] at H
                            have c23b0 : (x0_14.toList == ([48] : List UInt8)) = true := beq_iff_eq.mpr c23
                            have c23b1 : (x0_14.toList != ([48] : List UInt8)) = false := bne_eq_false_iff_eq.mpr c23
                            clear c23
                            simp only [Option.some.injEq, Prod.mk.injEq] at H
                            obtain ⟨rfl, rfl⟩ := H
                            go_wp2
                            go_ret2
                            exact ⟨by first | rfl | (simp; done) | (simp [wrap64]; done) | (simp [*]; done), by repeat (first | exact Drawn0.refl _ | apply Drawn0.step)⟩
                          · rw [if_neg c23] at H
                            have c23b0 : (x0_14.toList == ([48] : List UInt8)) = false := beq_eq_false_iff_ne.mpr c23
                            have c23b1 : (x0_14.toList != ([48] : List UInt8)) = true := bne_iff_ne.mpr c23
                            by_cases c24 : 1 + x0_14.size ≤ 9223372036854775807
                            · rw [if_pos c24] at H
                              have c24b0 := eq_true c24
                              have c24b1 : decide (1 + x0_14.size ≤ 9223372036854775807) = true := decide_eq_true c24
                              try have c24b2 : (9223372036854775807 < 1 + x0_14.size) = False := eq_false (Nat.not_lt.2 c24)
                              simp only [Option.some.injEq, Prod.mk.injEq] at H
                              obtain ⟨rfl, rfl⟩ := H
                              go_wp2
                              go_ret2
                              exact ⟨by first | rfl | (simp; done) | (simp [wrap64]; done) | (simp [*]; done), by repeat (first | exact Drawn0.refl _ | apply Drawn0.step)⟩
                            · rw [if_neg c24] at H
                              exact absurd H (by simp)
                        · rw [if_neg c22] at H
                          have c22b0 : ((bt a0 0) == 45) = false := by simpa using c22
                          (try (have c22b1 : decide ((bt a0 0) = 45) = false := by simpa using c22))
                          (try (have c22b2 : ((bt a0 0) == 45) = false := by simpa using c22))
                          (try (have c22b3 : ¬ ((bt a0 0) = 45) := by simpa using c22))
                          clear c22
                          simp only [Option.some.injEq, Prod.mk.injEq] at H
                          obtain ⟨rfl, rfl⟩ := H
                          go_wp2
                          go_ret2
                          exact ⟨by first | rfl | (simp; done) | (simp [wrap64]; done) | (simp [*]; done), by repeat (first | exact Drawn0.refl _ | apply Drawn0.step)⟩
    · rw [if_neg c3] at H
      exact absurd H (by simp)
mutual
def schismalaw02_Make.j1 : Nat → ByteArray → Bool → List Int → Option (ByteArray)
  | 0, _, _, _ => none
  | k + 1, x5, x436000, x436001 => if x5.toList = ([] : List UInt8) then (if x436000 = true then (if 1 + 1 ≤ 9223372036854775807 then ((schismaref02_Parse.f k ((⟨#[45]⟩ : ByteArray) ++ (⟨#[48]⟩ : ByteArray))).bind fun bt440 => (some bt440.1)) else (none)) else ((schismaref02_Parse.f k (⟨#[48]⟩ : ByteArray)).bind fun bt442 => (some bt442.1))) else (if x436000 = true then (if 1 + x5.size ≤ 9223372036854775807 then ((schismaref02_Parse.f k ((⟨#[45]⟩ : ByteArray) ++ x5)).bind fun bt444 => (some bt444.1)) else (none)) else ((schismaref02_Parse.f k x5).bind fun bt446 => (some bt446.1)))
def schismalaw02_Make.l0 : Nat → Int → ByteArray → Int → Bool → List Int → Option (ByteArray)
  | 0, _, _, _, _, _ => none
  | k + 1, x1, x5, x6, x436000, x436001 => if x6 < (x436001.length : Int) then (if x6 < x1 then (if 0 ≤ x6 then ((some (([(48 + (Int.tmod (rd x436001 x6) 10)) % 256] : List Int) : List Int)).bind fun y437 => (if x5.size + (strOfNums y437).size ≤ 9223372036854775807 then (schismalaw02_Make.l0 k x1 (x5 ++ (strOfNums y437)) (wrap64 (x6 + 1)) x436000 x436001) else (none))) else (none)) else (schismalaw02_Make.j1 k x5 x436000 x436001)) else (schismalaw02_Make.j1 k x5 x436000 x436001)
end
def schismalaw02_Make.f (k : Nat) (a0_0 : Bool) (l0_1 : List Int) (a1 : Int) : Option (ByteArray) := schismalaw02_Make.l0 k a1 (⟨#[]⟩ : ByteArray) 0 a0_0 l0_1
theorem schismalaw02_Make.mono_l : ∀ k, (∀ y0 y1 y2, LeO (schismalaw02_Make.j1 k y0 y1 y2) (schismalaw02_Make.j1 (k + 1) y0 y1 y2)) ∧ (∀ y0 y1 y2 y3 y4, LeO (schismalaw02_Make.l0 k y0 y1 y2 y3 y4) (schismalaw02_Make.l0 (k + 1) y0 y1 y2 y3 y4))
  | 0 => ⟨fun _ _ _ r h => by simp [schismalaw02_Make.j1] at h, fun _ _ _ _ _ r h => by simp [schismalaw02_Make.l0] at h⟩
  | k + 1 => by
    obtain ⟨ih0, ih1⟩ := schismalaw02_Make.mono_l k
    refine ⟨?_, ?_⟩
    · intro y0 y1 y2
      unfold schismalaw02_Make.j1
      repeat' first
      | (with_reducible exact ih0 _ _ _)
      | (with_reducible exact ih1 _ _ _ _ _)
      | (with_reducible exact schismaref02_Parse.mono _ _)
      | (with_reducible exact LeO.refl _)
      | (with_reducible exact LeO.none _)
      | (with_reducible refine LeO.ite ?_ ?_)
      | (with_reducible refine LeO.bind ?_ (fun _ => ?_))
      | exact ih0 _ _ _
      | exact ih1 _ _ _ _ _
      | exact schismaref02_Parse.mono _ _
      | exact LeO.none _
      | refine LeO.ite ?_ ?_
      | refine LeO.bind ?_ (fun _ => ?_)
    · intro y0 y1 y2 y3 y4
      unfold schismalaw02_Make.l0
      repeat' first
      | (with_reducible exact ih0 _ _ _)
      | (with_reducible exact ih1 _ _ _ _ _)
      | (with_reducible exact schismaref02_Parse.mono _ _)
      | (with_reducible exact LeO.refl _)
      | (with_reducible exact LeO.none _)
      | (with_reducible refine LeO.ite ?_ ?_)
      | (with_reducible refine LeO.bind ?_ (fun _ => ?_))
      | exact ih0 _ _ _
      | exact ih1 _ _ _ _ _
      | exact schismaref02_Parse.mono _ _
      | exact LeO.none _
      | refine LeO.ite ?_ ?_
      | refine LeO.bind ?_ (fun _ => ?_)
theorem schismalaw02_Make.mono : ∀ a0 a1 a2 k, LeO (schismalaw02_Make.f k a0 a1 a2) (schismalaw02_Make.f (k + 1) a0 a1 a2) := by
  intro a0 a1 a2 k
  obtain ⟨ih0, ih1⟩ := schismalaw02_Make.mono_l k
  unfold schismalaw02_Make.f
  repeat' first
      | (with_reducible exact ih0 _ _ _)
      | (with_reducible exact ih1 _ _ _ _ _)
      | (with_reducible exact schismaref02_Parse.mono _ _)
      | (with_reducible exact LeO.refl _)
      | (with_reducible exact LeO.none _)
      | (with_reducible refine LeO.ite ?_ ?_)
      | (with_reducible refine LeO.bind ?_ (fun _ => ?_))
      | exact ih0 _ _ _
      | exact ih1 _ _ _ _ _
      | exact schismaref02_Parse.mono _ _
      | exact LeO.none _
      | refine LeO.ite ?_ ?_
      | refine LeO.bind ?_ (fun _ => ?_)
set_option maxHeartbeats 8000000 in
set_option maxRecDepth 100000 in
theorem schismalaw02_Make.calls (k : Nat) (a0_0 : Bool) (A0_1 : Option Addr) (c0_1 : Nat) (l0_1 : List Int) (a1 : Int) (r : ByteArray) (w : World) (hr0_1 : Kd.C (Kd.int .u8) w A0_1 l0_1.length l0_1) (hc0_1 : l0_1.length ≤ c0_1) (h : schismalaw02_Make.f k a0_0 l0_1 a1 = some r) :
    Calls Tryz.prog 8 #[.agg #[.bool a0_0, .slice A0_1 l0_1.length c0_1], .int .i64 a1] w fun e w' => e = .returned (.string r) ∧ Below w.heap.size w w' := by
  have hu24 := Tryz.underlying24
  have HR0_1 := Aside0.mk hr0_1
  have HC0_1 := Aside0.mk hc0_1
  clear hr0_1 hc0_1
  have HB := Aside0.mk (Below.refl w.heap.size w)
  have H : (schismalaw02_Make.l0 k a1 (⟨#[]⟩ : ByteArray) 0 a0_0 l0_1) = some r := h
  clear h
  have HC3 := Aside0.mk H
  clear H
  go_enter Tryz.func8, Tryz.ntmps8
  go_upto_block 0 with (first | ((with_reducible refine gate_dst (N := 2) rfl ?_); refine box_event ?hg (N := 2) ?hd (cs := #[.bool a0_0, .slice A0_1 l0_1.length c0_1]) (t := 24) ?hr ?_; (case hd => rfl); (case hg => rfl); (case hr => first | (go_simp; done) | (go_simp; rfl)); intro gb435 hg w4 hbox hb; have n0_ := Aside0.mk (below_step bq hb); have n1_ := Aside0.mk (hbox); have n2_ := Aside0.mk ((by rw [hg]; exact (below_size bq) : w.heap.size ≤ gb435)); have n3_ := Aside0.mk ((by rw [hg]; exact (below_size bq) : w.heap.size ≤ gb435)); clear HB; have HB := n0_; have BK435 := n1_; have GW435 := n2_; have GE435 := n3_; clear n0_ n1_ n2_ n3_; clear hb hbox hg))
  (try simp only [Act.put, List.setIfInBounds_toArray, List.set_cons_zero, List.set_cons_succ])
  go_cut [5] (fun v5 wc => ∃ (kq : Nat) (x5_2 : ByteArray), v5 = .string x5_2 ∧ Aside0 (schismalaw02_Make.j1 kq x5_2 a0_0 l0_1 = some r) ∧ Aside0 (kq ≤ k) ∧ Aside0 (wc.heap[gb435]? = some (.cells #[.bool a0_0, (.slice A0_1 l0_1.length c0_1)] 24 (0, 0))) ∧ Aside0 (Below w.heap.size w wc))
  case first =>
    have H := HC3.out
    clear HC3
    have H' := Aside0.mk H
    clear H
    go_wp2
    go_loopg [5, 6] k (fun kq v5 v6 w' => ∃ (x5_1 : ByteArray) (x6_1 : Int), v5 = .string x5_1 ∧ v6 = .int .i64 x6_1 ∧ Aside0 (schismalaw02_Make.l0 kq a1 x5_1 x6_1 a0_0 l0_1 = some r) ∧ Aside0 (kq ≤ k) ∧ Aside0 (w'.heap[gb435]? = some (.cells #[.bool a0_0, (.slice A0_1 l0_1.length c0_1)] 24 (0, 0))) ∧ Aside0 (Below w.heap.size w w'))
    case atStart => exact ⟨((⟨#[]⟩ : ByteArray)), (0), (by first | rfl | (simp; done) | (simp [*]; done)), (by first | rfl | (simp; done) | (simp [*]; done)), H', ⟨Nat.le_refl _⟩, ⟨by (with_reducible repeat (first | refine blk_drewN ?_ _ | refine blk_drew ?_ | refine blk_alloc ?_ _)); exact BK435.out⟩, ⟨by repeat (first | (with_reducible first | exact HB.out | apply below_alloc | apply pw_below_drewN | apply below_drew1 | refine below_set ?_ GE435.out) | exact HB.out)⟩⟩
    case round =>
      clear H'
      try clear p2
      obtain ⟨x5_1, x6_1, rfl, rfl, HA, HK1, BK435, HB⟩ := hrel
      cases gk with
      | zero => exact absurd HA.out (by simp [schismalaw02_Make.l0])
      | succ k1 =>
        have H := HA.out
        clear HA
        simp only [schismalaw02_Make.l0] at H
        by_cases c5 : x6_1 < (l0_1.length : Int)
        · rw [if_pos c5] at H
          have c5b0 : decide (x6_1 < (l0_1.length : Int)) = true := decide_eq_true c5
          clear c5
          (first | rw [c5b0] | (simp only [i64_w, i32_w]; rw [c5b0]) | skip)
          by_cases c6 : x6_1 < a1
          · rw [if_pos c6] at H
            have c6b0 : decide (x6_1 < a1) = true := decide_eq_true c6
            clear c6
            by_cases c7 : 0 ≤ x6_1
            · rw [if_pos c7] at H
              have c7b0 : decide (0 ≤ x6_1) = true := decide_eq_true c7
              clear c7
              obtain ⟨y437, hy437⟩ : ∃ y_ : List Int, y_ = (([(48 + (Int.tmod (rd l0_1 x6_1) 10)) % 256] : List Int)) := ⟨_, rfl⟩
              replace H : (if x5_1.size + (strOfNums y437).size ≤ 9223372036854775807 then (schismalaw02_Make.l0 k1 a1 (x5_1 ++ (strOfNums y437)) (wrap64 (x6_1 + 1)) a0_0 l0_1) else (none)) = some r := by first | (rw [hy437]; with_reducible exact H) | (have H2_ := (Option.bind_some _ _).symm.trans H; rw [hy437]; with_reducible exact H2_) | (have H2_ := (Option.bind_some _ _).symm.trans H; with_reducible exact H2_) | with_reducible exact H | (rw [hy437]; exact H) | exact H
              have Ny437 := Aside0.mk hy437
              clear hy437
              by_cases c8 : x5_1.size + (strOfNums y437).size ≤ 9223372036854775807
              · rw [if_pos c8] at H
                have c8b0 := eq_true c8
                have c8b1 : decide (x5_1.size + (strOfNums y437).size ≤ 9223372036854775807) = true := decide_eq_true c8
                try have c8b2 : (9223372036854775807 < x5_1.size + (strOfNums y437).size) = False := eq_false (Nat.not_lt.2 c8)
                have H' := Aside0.mk H
                clear H
                have hcz9_0 : wr.cell? ⟨gb435, 0, none⟩ = some (.bool a0_0) := (blk_cell BK435.out 0).trans rfl
                have hcz9_1 : wr.cell? ⟨gb435, 1, none⟩ = some (.slice A0_1 l0_1.length c0_1) := (blk_cell BK435.out 1).trans rfl
                have hfz9_0 := blk_frozen BK435.out 0
                have hfz9_1 := blk_frozen BK435.out 1
                have p436 : 0 ≤ (x6_1 : Int) := of_decide_eq_true (by first | (with_reducible assumption) | assumption)
                have q436 : x6_1 < (l0_1.length : Int) := of_decide_eq_true (by first | (with_reducible assumption) | assumption)
                obtain ⟨ad436, e436, hx436_0⟩ := Kd.at_int HR0_1.out x6_1 p436 q436
                cases e436
                replace hx436_0 := (HB.out.cell (World.block_lt_of_cell? w _ hx436_0)).trans hx436_0
                replace p436 := eq_true p436
                replace q436 := eq_true q436
                go_wp2_with (first | ((with_reducible refine gate_dst (N := 29) rfl ?_); refine Kd.R_lit (Kd.int .u8) _ 5 ?hg (N := 29) ?hd (xs := ([(48 + (Int.tmod (rd l0_1 x6_1) 10)) % 256] : List Int)) (inner := [.int .u8 ((48 + (Int.tmod (rd l0_1 x6_1) 10)) % 256)]) (ok := fun _ => True) (okp := fun _ => True) ?hr ?hp (fun _ hk => hk) trivial (Below.refl _ _) (Nat.le_refl _) (by simp) ?_; (case hd => rfl); (case hg => rfl); (case hr => first | (go_simp; done) | (go_simp; rfl)); (case hp => exact (Reps.one (show Kd.M (Kd.int .u8) _ _ _ ((48 + (Int.tmod (rd l0_1 x6_1) 10)) % 256) [.int .u8 ((48 + (Int.tmod (rd l0_1 x6_1) 10)) % 256)] from rfl) (Reps.none _ _))); intro v438 w10 ho11 hb hg_ hnew_; clear hg_ hnew_; (first | rw [← Ny437.out] at ho11 | (simp only [Int.reduceToNat] at ho11; rw [← Ny437.out] at ho11)); have n0_ := Aside0.mk (Kd.R_lower ho11 (below_size (by repeat (first | (with_reducible first | exact HB.out | apply below_alloc | apply pw_below_drewN | apply below_drew1 | refine below_set ?_ GE435.out) | exact HB.out)))); have n1_ := Aside0.mk (blk_below (g := gb435) (o := .cells #[.bool a0_0, .slice (some ad436) l0_1.length c0_1] 24 (0, 0)) (by (with_reducible repeat (first | refine blk_drewN ?_ _ | refine blk_drew ?_ | refine blk_alloc ?_ _)); exact BK435.out) hb); have n2_ := Aside0.mk (below_step (by repeat (first | (with_reducible first | exact HB.out | apply below_alloc | apply pw_below_drewN | apply below_drew1 | refine below_set ?_ GE435.out) | exact HB.out)) hb); clear BK435; clear HB; have HO439 := n0_; have BK435 := n1_; have HB := n2_; clear n0_ n1_ n2_; clear hb ho11; have hcv12 := own_string (P := Tryz.prog) Tryz.underlying22 Tryz.underlying5 Tryz.underlying9 (Kd.own_of_R HO439.out)))
                go_roundg k1
                case measure => have := HK1.out; omega
                case rel => exact ⟨(x5_1 ++ (strOfNums y437)), (wrap64 (x6_1 + 1)), (by first | rfl | (simp; done) | (simp [*]; done)), (by first | rfl | (simp; done) | (simp [*]; done)), H', ⟨by have := HK1.out; omega⟩, ⟨by (with_reducible repeat (first | refine blk_drewN ?_ _ | refine blk_drew ?_ | refine blk_alloc ?_ _)); exact BK435.out⟩, ⟨by repeat (first | (with_reducible first | exact HB.out | apply below_alloc | apply pw_below_drewN | apply below_drew1 | refine below_set ?_ GE435.out) | exact HB.out)⟩⟩
              · rw [if_neg c8] at H
                exact absurd H (by simp)
            · rw [if_neg c7] at H
              exact absurd H (by simp)
          · rw [if_neg c6] at H
            have c6b0 : decide (x6_1 < a1) = false := decide_eq_false c6
            clear c6
            have H' := Aside0.mk H
            clear H
            have hcz13_0 : wr.cell? ⟨gb435, 0, none⟩ = some (.bool a0_0) := (blk_cell BK435.out 0).trans rfl
            have hcz13_1 : wr.cell? ⟨gb435, 1, none⟩ = some (.slice A0_1 l0_1.length c0_1) := (blk_cell BK435.out 1).trans rfl
            have hfz13_0 := blk_frozen BK435.out 0
            have hfz13_1 := blk_frozen BK435.out 1
            go_wp2
            go_meet
            case rel => exact ⟨_, (x5_1), (by first | rfl | (simp; done) | (simp [*]; done)), H', ⟨by have := HK1.out; first | omega | exact Nat.le_refl _⟩, ⟨by (with_reducible repeat (first | refine blk_drewN ?_ _ | refine blk_drew ?_ | refine blk_alloc ?_ _)); exact BK435.out⟩, ⟨by repeat (first | (with_reducible first | exact HB.out | apply below_alloc | apply pw_below_drewN | apply below_drew1 | refine below_set ?_ GE435.out) | exact HB.out)⟩⟩
        · rw [if_neg c5] at H
          have c5b0 : decide (x6_1 < (l0_1.length : Int)) = false := decide_eq_false c5
          clear c5
          (first | rw [c5b0] | (simp only [i64_w, i32_w]; rw [c5b0]) | skip)
          have H' := Aside0.mk H
          clear H
          have hcz14_0 : wr.cell? ⟨gb435, 0, none⟩ = some (.bool a0_0) := (blk_cell BK435.out 0).trans rfl
          have hcz14_1 : wr.cell? ⟨gb435, 1, none⟩ = some (.slice A0_1 l0_1.length c0_1) := (blk_cell BK435.out 1).trans rfl
          have hfz14_0 := blk_frozen BK435.out 0
          have hfz14_1 := blk_frozen BK435.out 1
          go_wp2
          go_meet
          case rel => exact ⟨_, (x5_1), (by first | rfl | (simp; done) | (simp [*]; done)), H', ⟨by have := HK1.out; first | omega | exact Nat.le_refl _⟩, ⟨by (with_reducible repeat (first | refine blk_drewN ?_ _ | refine blk_drew ?_ | refine blk_alloc ?_ _)); exact BK435.out⟩, ⟨by repeat (first | (with_reducible first | exact HB.out | apply below_alloc | apply pw_below_drewN | apply below_drew1 | refine below_set ?_ GE435.out) | exact HB.out)⟩⟩
  case rest =>
    clear HC3
    try clear hcv1
    try clear p2
    try clear p4
    try clear q4
    try clear hx4
    try clear c5
    try clear c5b0
    try clear c6
    try clear c6b0
    try clear p6
    try clear c7
    try clear c7b0
    try clear c8
    try clear c8b0
    try clear c8b1
    try clear c8b2
    try clear hcv12
    try clear hcz13_0
    try clear hcz13_1
    try clear hcz14_0
    try clear hcz14_1
    try clear hcz9_0
    try clear hcz9_1
    try clear hfz13_0
    try clear hfz13_1
    try clear hfz14_0
    try clear hfz14_1
    try clear hfz9_0
    try clear hfz9_1
    try clear hx436_0
    try clear p2
    try clear p436
    try clear q436
    obtain ⟨kq, x5_2, rfl, HA, HJ2, BK435, HB⟩ := hcut
    cases kq with
    | zero => exact absurd HA.out (by simp [schismalaw02_Make.j1])
    | succ kj2 =>
      have H := HA.out
      clear HA
      simp only [schismalaw02_Make.j1] at H
      by_cases c15 : x5_2.toList = ([] : List UInt8)
      · rw [if_pos c15] at H
        have c15b0 : (x5_2.toList == ([] : List UInt8)) = true := beq_iff_eq.mpr c15
        have c15b1 : (x5_2.toList != ([] : List UInt8)) = false := bne_eq_false_iff_eq.mpr c15
        clear c15
        by_cases c16 : a0_0 = true
        · subst c16
          have H1 : (if 1 + 1 ≤ 9223372036854775807 then ((schismaref02_Parse.f kj2 ((⟨#[45]⟩ : ByteArray) ++ (⟨#[48]⟩ : ByteArray))).bind fun bt440 => (some bt440.1)) else (none)) = some r := by rw [if_pos rfl] at H; exact H
          clear H
          have H := H1
          clear H1
          by_cases c17 : 1 + 1 ≤ 9223372036854775807
          · rw [if_pos c17] at H
            have c17b0 := eq_true c17
            have c17b1 : decide (1 + 1 ≤ 9223372036854775807) = true := decide_eq_true c17
            try have c17b2 : (9223372036854775807 < 1 + 1) = False := eq_false (Nat.not_lt.2 c17)
            replace H := Option.bind_eq_some_iff.mp H
            obtain ⟨⟨t440, t441⟩, A180, H⟩ := H
            replace H : (some t440) = some r := H
            have A18 := Aside0.mk A180
            clear A180
            obtain rfl := Option.some.inj H
            have hcz19_0 : wc.cell? ⟨gb435, 0, none⟩ = some (.bool true) := (blk_cell BK435.out 0).trans rfl
            have hcz19_1 : wc.cell? ⟨gb435, 1, none⟩ = some (.slice A0_1 l0_1.length c0_1) := (blk_cell BK435.out 1).trans rfl
            have hfz19_0 := blk_frozen BK435.out 0
            have hfz19_1 := blk_frozen BK435.out 1
            go_wp2_with (first | ((with_reducible refine gate_callee (f := 27) rfl ?_); refine goesL_ (some 40) rfl rfl Tryz.func27 (by kernel_rfl) rfl #[.string ((⟨#[45]⟩ : ByteArray) ++ (⟨#[48]⟩ : ByteArray))] rfl mq ?_; (with_reducible refine (schismaref02_Parse.calls kj2 ((⟨#[45]⟩ : ByteArray) ++ (⟨#[48]⟩ : ByteArray)) t440 t441 _ A18.out).mono ?_); rintro e w' ⟨rfl, ⟨nd, rfl⟩⟩; refine ⟨_, rfl, ?_⟩))
            go_ret
            exact ⟨eq_, by repeat (first | (with_reducible first | exact HB.out | apply below_alloc | apply pw_below_drewN | apply below_drew1 | refine below_set ?_ GE435.out) | exact HB.out)⟩
          · rw [if_neg c17] at H
            exact absurd H (by simp)
        · replace c16 := Bool.eq_false_iff.mpr c16
          subst c16
          have H1 : ((schismaref02_Parse.f kj2 (⟨#[48]⟩ : ByteArray)).bind fun bt442 => (some bt442.1)) = some r := by rw [if_neg (show ¬ (false = true) by decide)] at H; exact H
          clear H
          have H := H1
          clear H1
          replace H := Option.bind_eq_some_iff.mp H
          obtain ⟨⟨t442, t443⟩, A200, H⟩ := H
          replace H : (some t442) = some r := H
          have A20 := Aside0.mk A200
          clear A200
          obtain rfl := Option.some.inj H
          have hcz21_0 : wc.cell? ⟨gb435, 0, none⟩ = some (.bool false) := (blk_cell BK435.out 0).trans rfl
          have hcz21_1 : wc.cell? ⟨gb435, 1, none⟩ = some (.slice A0_1 l0_1.length c0_1) := (blk_cell BK435.out 1).trans rfl
          have hfz21_0 := blk_frozen BK435.out 0
          have hfz21_1 := blk_frozen BK435.out 1
          go_wp2_with (first | ((with_reducible refine gate_callee (f := 27) rfl ?_); refine goesL_ (some 40) rfl rfl Tryz.func27 (by kernel_rfl) rfl #[.string (⟨#[48]⟩ : ByteArray)] rfl mq ?_; (with_reducible refine (schismaref02_Parse.calls kj2 (⟨#[48]⟩ : ByteArray) t442 t443 _ A20.out).mono ?_); rintro e w' ⟨rfl, ⟨nd, rfl⟩⟩; refine ⟨_, rfl, ?_⟩))
          go_ret
          exact ⟨eq_, by repeat (first | (with_reducible first | exact HB.out | apply below_alloc | apply pw_below_drewN | apply below_drew1 | refine below_set ?_ GE435.out) | exact HB.out)⟩
      · rw [if_neg c15] at H
        have c15b0 : (x5_2.toList == ([] : List UInt8)) = false := beq_eq_false_iff_ne.mpr c15
        have c15b1 : (x5_2.toList != ([] : List UInt8)) = true := bne_iff_ne.mpr c15
        by_cases c22 : a0_0 = true
        · subst c22
          have H1 : (if 1 + x5_2.size ≤ 9223372036854775807 then ((schismaref02_Parse.f kj2 ((⟨#[45]⟩ : ByteArray) ++ x5_2)).bind fun bt444 => (some bt444.1)) else (none)) = some r := by rw [if_pos rfl] at H; exact H
          clear H
          have H := H1
          clear H1
          by_cases c23 : 1 + x5_2.size ≤ 9223372036854775807
          · rw [if_pos c23] at H
            have c23b0 := eq_true c23
            have c23b1 : decide (1 + x5_2.size ≤ 9223372036854775807) = true := decide_eq_true c23
            try have c23b2 : (9223372036854775807 < 1 + x5_2.size) = False := eq_false (Nat.not_lt.2 c23)
            replace H := Option.bind_eq_some_iff.mp H
            obtain ⟨⟨t444, t445⟩, A240, H⟩ := H
            replace H : (some t444) = some r := H
            have A24 := Aside0.mk A240
            clear A240
            obtain rfl := Option.some.inj H
            have hcz25_0 : wc.cell? ⟨gb435, 0, none⟩ = some (.bool true) := (blk_cell BK435.out 0).trans rfl
            have hcz25_1 : wc.cell? ⟨gb435, 1, none⟩ = some (.slice A0_1 l0_1.length c0_1) := (blk_cell BK435.out 1).trans rfl
            have hfz25_0 := blk_frozen BK435.out 0
            have hfz25_1 := blk_frozen BK435.out 1
            go_wp2_with (first | ((with_reducible refine gate_callee (f := 27) rfl ?_); refine goesL_ (some 40) rfl rfl Tryz.func27 (by kernel_rfl) rfl #[.string ((⟨#[45]⟩ : ByteArray) ++ x5_2)] rfl mq ?_; (with_reducible refine (schismaref02_Parse.calls kj2 ((⟨#[45]⟩ : ByteArray) ++ x5_2) t444 t445 _ A24.out).mono ?_); rintro e w' ⟨rfl, ⟨nd, rfl⟩⟩; refine ⟨_, rfl, ?_⟩))
            go_ret
            exact ⟨eq_, by repeat (first | (with_reducible first | exact HB.out | apply below_alloc | apply pw_below_drewN | apply below_drew1 | refine below_set ?_ GE435.out) | exact HB.out)⟩
          · rw [if_neg c23] at H
            exact absurd H (by simp)
        · replace c22 := Bool.eq_false_iff.mpr c22
          subst c22
          have H1 : ((schismaref02_Parse.f kj2 x5_2).bind fun bt446 => (some bt446.1)) = some r := by rw [if_neg (show ¬ (false = true) by decide)] at H; exact H
          clear H
          have H := H1
          clear H1
          replace H := Option.bind_eq_some_iff.mp H
          obtain ⟨⟨t446, t447⟩, A260, H⟩ := H
          replace H : (some t446) = some r := H
          have A26 := Aside0.mk A260
          clear A260
          obtain rfl := Option.some.inj H
          have hcz27_0 : wc.cell? ⟨gb435, 0, none⟩ = some (.bool false) := (blk_cell BK435.out 0).trans rfl
          have hcz27_1 : wc.cell? ⟨gb435, 1, none⟩ = some (.slice A0_1 l0_1.length c0_1) := (blk_cell BK435.out 1).trans rfl
          have hfz27_0 := blk_frozen BK435.out 0
          have hfz27_1 := blk_frozen BK435.out 1
          go_wp2_with (first | ((with_reducible refine gate_callee (f := 27) rfl ?_); refine goesL_ (some 40) rfl rfl Tryz.func27 (by kernel_rfl) rfl #[.string x5_2] rfl mq ?_; (with_reducible refine (schismaref02_Parse.calls kj2 x5_2 t446 t447 _ A26.out).mono ?_); rintro e w' ⟨rfl, ⟨nd, rfl⟩⟩; refine ⟨_, rfl, ?_⟩))
          go_ret
          exact ⟨eq_, by repeat (first | (with_reducible first | exact HB.out | apply below_alloc | apply pw_below_drewN | apply below_drew1 | refine below_set ?_ GE435.out) | exact HB.out)⟩
mutual
def decimal_Bits.l0 : Nat → List Int → List Int → Int → Option (Int)
  | 0, _, _, _ => none
  | k + 1, x5, x6, x7 => if x7 ≥ 0 then (if 0 ≤ x7 then (if x7 < (x6.length : Int) then (decimal_Bits.l1 k x5 x6 x7 (rd x6 x7) (x5.length : Int) 0) else (none)) else (none)) else (if 0 ≤ (wrap64 ((x5.length : Int) - 1)) then (if (wrap64 ((x5.length : Int) - 1)) < (x5.length : Int) then ((bits_Len64.f (rd x5 (wrap64 ((x5.length : Int) - 1)))).bind fun t455 => (some (wrap64 ((wrap64 (32 * (wrap64 ((x5.length : Int) - 1)))) + t455)))) else (none)) else (none))
def decimal_Bits.l1 : Nat → List Int → List Int → Int → Int → Int → Int → Option (Int)
  | 0, _, _, _, _, _, _ => none
  | k + 1, x5, x6, x7, x8, x32, x33 => if x33 < x32 then (if 0 ≤ x33 then (if x33 < (x5.length : Int) then (decimal_Bits.l1 k (x5.set (x33 : Int).toNat (Go.bits .and .u64 (IntKind.u64.wrap (x8 + (IntKind.u64.wrap ((rd x5 x33) * 1000000000)))) 4294967295)) x6 x7 ((IntKind.u64.wrap (x8 + (IntKind.u64.wrap ((rd x5 x33) * 1000000000)))) / 4294967296) x32 (wrap64 (x33 + 1))) else (none)) else (none)) else (if x8 > 0 then (if x5.length < 17592186044416 then (decimal_Bits.l0 k (x5 ++ [x8]) x6 (wrap64 (x7 - 1))) else (none)) else (decimal_Bits.l0 k x5 x6 (wrap64 (x7 - 1))))
end
def decimal_Bits.f (k : Nat) (a0 : ByteArray) : Option (Int) := (decimal_Small.f a0).bind fun bt448 => (if bt448.2 = true then ((bits_Len64.f bt448.1).bind fun t450 => (some t450)) else ((decimal_cut.f k a0).bind fun t451 => (decimal_Bits.l0 k ([] : List Int) t451 (wrap64 ((t451.length : Int) - 1)))))
theorem decimal_Bits.mono_l : ∀ k, (∀ y0 y1 y2, LeO (decimal_Bits.l0 k y0 y1 y2) (decimal_Bits.l0 (k + 1) y0 y1 y2)) ∧ (∀ y0 y1 y2 y3 y4 y5, LeO (decimal_Bits.l1 k y0 y1 y2 y3 y4 y5) (decimal_Bits.l1 (k + 1) y0 y1 y2 y3 y4 y5))
  | 0 => ⟨fun _ _ _ r h => by simp [decimal_Bits.l0] at h, fun _ _ _ _ _ _ r h => by simp [decimal_Bits.l1] at h⟩
  | k + 1 => by
    obtain ⟨ih0, ih1⟩ := decimal_Bits.mono_l k
    refine ⟨?_, ?_⟩
    · intro y0 y1 y2
      unfold decimal_Bits.l0
      repeat' first
      | (with_reducible exact ih0 _ _ _)
      | (with_reducible exact ih1 _ _ _ _ _ _)
      | (with_reducible exact decimal_cut.mono _ _)
      | (with_reducible exact LeO.refl _)
      | (with_reducible exact LeO.none _)
      | (with_reducible refine LeO.ite ?_ ?_)
      | (with_reducible refine LeO.bind ?_ (fun _ => ?_))
      | exact ih0 _ _ _
      | exact ih1 _ _ _ _ _ _
      | exact decimal_cut.mono _ _
      | exact LeO.none _
      | refine LeO.ite ?_ ?_
      | refine LeO.bind ?_ (fun _ => ?_)
    · intro y0 y1 y2 y3 y4 y5
      unfold decimal_Bits.l1
      repeat' first
      | (with_reducible exact ih0 _ _ _)
      | (with_reducible exact ih1 _ _ _ _ _ _)
      | (with_reducible exact decimal_cut.mono _ _)
      | (with_reducible exact LeO.refl _)
      | (with_reducible exact LeO.none _)
      | (with_reducible refine LeO.ite ?_ ?_)
      | (with_reducible refine LeO.bind ?_ (fun _ => ?_))
      | exact ih0 _ _ _
      | exact ih1 _ _ _ _ _ _
      | exact decimal_cut.mono _ _
      | exact LeO.none _
      | refine LeO.ite ?_ ?_
      | refine LeO.bind ?_ (fun _ => ?_)
theorem decimal_Bits.mono : ∀ a0 k, LeO (decimal_Bits.f k a0) (decimal_Bits.f (k + 1) a0) := by
  intro a0 k
  obtain ⟨ih0, ih1⟩ := decimal_Bits.mono_l k
  unfold decimal_Bits.f
  repeat' first
      | (with_reducible exact ih0 _ _ _)
      | (with_reducible exact ih1 _ _ _ _ _ _)
      | (with_reducible exact decimal_cut.mono _ _)
      | (with_reducible exact LeO.refl _)
      | (with_reducible exact LeO.none _)
      | (with_reducible refine LeO.ite ?_ ?_)
      | (with_reducible refine LeO.bind ?_ (fun _ => ?_))
      | exact ih0 _ _ _
      | exact ih1 _ _ _ _ _ _
      | exact decimal_cut.mono _ _
      | exact LeO.none _
      | refine LeO.ite ?_ ?_
      | refine LeO.bind ?_ (fun _ => ?_)
set_option maxHeartbeats 8000000 in
set_option maxRecDepth 100000 in
theorem decimal_Bits.calls (k : Nat) (a0 : ByteArray) (r : Int) (w : World) (hT : Tab w) (h : decimal_Bits.f k a0 = some r) :
    Calls Tryz.prog 59 #[.string a0] w fun e w' => e = .returned (.int .i64 r) ∧ Below w.heap.size w w' := by
  have HT := Aside0.mk hT
  clear hT
  have HB := Aside0.mk (Below.refl w.heap.size w)
  have H : ((decimal_Small.f a0).bind fun bt448 => (if bt448.2 = true then ((bits_Len64.f bt448.1).bind fun t450 => (some t450)) else ((decimal_cut.f k a0).bind fun t451 => (decimal_Bits.l0 k ([] : List Int) t451 (wrap64 ((t451.length : Int) - 1)))))) = some r := h
  clear h
  replace H := Option.bind_eq_some_iff.mp H
  obtain ⟨⟨t448, t449⟩, A20, H⟩ := H
  replace H : (if t449 = true then ((bits_Len64.f t448).bind fun t450 => (some t450)) else ((decimal_cut.f k a0).bind fun t451 => (decimal_Bits.l0 k ([] : List Int) t451 (wrap64 ((t451.length : Int) - 1))))) = some r := H
  have A2 := Aside0.mk A20
  clear A20
  by_cases c3 : t449 = true
  · subst c3
    have H1 : ((bits_Len64.f t448).bind fun t450 => (some t450)) = some r := by rw [if_pos rfl] at H; exact H
    clear H
    have H := H1
    clear H1
    replace H := Option.bind_eq_some_iff.mp H
    obtain ⟨t450, A40, H⟩ := H
    replace H : (some t450) = some r := H
    have A4 := Aside0.mk A40
    clear A40
    obtain rfl := Option.some.inj H
    go_enter Tryz.func59, Tryz.ntmps59
    go_wp2_with (first | ((with_reducible refine gate_callee (f := 82) rfl ?_); refine goesL_ (some 12) rfl rfl Tryz.func82 (by kernel_rfl) rfl #[.string a0] rfl mq ?_; (with_reducible refine (decimal_Small.calls (hT := HT.out.below bq) a0 t448 true _ A2.out).mono ?_); rintro e w5 ⟨rfl, hb⟩; refine ⟨_, rfl, ?_⟩; replace HB := Aside0.mk (below_step bq hb); (try clear hb); (try clear hb2); (try clear hk); (try clear hi)) | ((with_reducible refine gate_callee (f := 83) rfl ?_); refine goesL_ (some 17) rfl rfl Tryz.func83 (by kernel_rfl) rfl #[.int .u64 t448] rfl mq ?_; (with_reducible refine (bits_Len64.calls t448 t450 _ A4.out).mono ?_); rintro e w' ⟨rfl, ⟨nd, rfl⟩⟩; refine ⟨_, rfl, ?_⟩))
    go_ret
    exact ⟨eq_, bq⟩
  · replace c3 := Bool.eq_false_iff.mpr c3
    subst c3
    have H1 : ((decimal_cut.f k a0).bind fun t451 => (decimal_Bits.l0 k ([] : List Int) t451 (wrap64 ((t451.length : Int) - 1)))) = some r := by rw [if_neg (show ¬ (false = true) by decide)] at H; exact H
    clear H
    have H := H1
    clear H1
    replace H := Option.bind_eq_some_iff.mp H
    obtain ⟨t451, A60, H⟩ := H
    replace H : (decimal_Bits.l0 k ([] : List Int) t451 (wrap64 ((t451.length : Int) - 1))) = some r := H
    have A6 := Aside0.mk A60
    clear A60
    have H' := Aside0.mk H
    clear H
    go_enter Tryz.func59, Tryz.ntmps59
    go_wp2_with (first | ((with_reducible refine gate_callee (f := 82) rfl ?_); refine goesL_ (some 12) rfl rfl Tryz.func82 (by kernel_rfl) rfl #[.string a0] rfl mq ?_; (with_reducible refine (decimal_Small.calls (hT := HT.out.below bq) a0 t448 false _ A2.out).mono ?_); rintro e w7 ⟨rfl, hb⟩; refine ⟨_, rfl, ?_⟩; replace HB := Aside0.mk (below_step bq hb); (try clear hb); (try clear hb2); (try clear hk); (try clear hi)) | ((with_reducible refine gate_callee (f := 60) rfl ?_); refine goesL_ (some 19) rfl rfl Tryz.func60 (by kernel_rfl) rfl #[.string a0] rfl mq ?_; (with_reducible refine (decimal_cut.calls k a0 t451 _ A6.out).mono ?_); rintro e w8 ⟨v452, rfl, ho0, hb⟩; refine ⟨_, rfl, ?_⟩; have n0_ := Aside0.mk (Kd.R_lower ho0 (below_size bq)); have n1_ := Aside0.mk (below_step bq hb); clear HB; have HO453 := n0_; have HB := n1_; clear n0_ n1_; (try clear hb); (try clear hb2); (try clear hk); (try clear hi); (try clear ho0); obtain ⟨Ao9, co9, eo9⟩ := Kd.R_slice HO453.out; subst eo9))
    go_loopg [5, 7] k (fun kq v5 v7 w' => ∃ (x5_1 : List Int) (x6_1 : List Int) (x7_1 : Int), v7 = .int .i64 x7_1 ∧ Aside0 (decimal_Bits.l0 kq x5_1 x6_1 x7_1 = some r) ∧ Aside0 (kq ≤ k) ∧ Aside0 (Kd.R (Kd.int .u64) 70 w' w.heap.size (fun k_ => some k_ ≠ ((.slice Ao9 t451.length co9) : Value).ownBlock) v5 x5_1) ∧ Aside0 (Kd.R (Kd.int .u64) 70 w' w.heap.size (fun k_ => some k_ ≠ (v5 : Value).ownBlock) (.slice Ao9 t451.length co9) x6_1) ∧ Aside0 (Below w.heap.size w w'))
    case atStart => exact ⟨(([] : List Int)), (t451), (wrap64 ((t451.length : Int) - 1)), (by first | rfl | (simp; done) | (simp [*]; done)), H', ⟨Nat.le_refl _⟩, ⟨by first | exact Kd.R_nil _ _ _ _ _ | exact Kd.N_nil _ _ _ _ _ | exact Kd.V_nil _ _ _ _ _ | exact Kd.Q_nil _ _ _ _ _ | exact Kd.S_nil _ _ _ _ _⟩, ⟨by (with_reducible repeat (first | apply Kd.R_alloc | apply Kd.R_drewN | apply Kd.R_drew)); exact Kd.R_mono HO453.out (fun _ hk => (by simp [Value.ownBlock]))⟩, ⟨bq⟩⟩
    case round =>
      clear H'
      try clear p2
      try clear c3
      try clear c5
      try clear c6
      try clear p6
      try clear c8
      obtain ⟨x5_1, x6_1, x7_1, rfl, HA, HK1, HO_5, HO_6, HB⟩ := hrel
      have hl6_1 := (Kd.R_reads' HO_6.out).1
      rw [hl6_1] at HO_6
      (try simp only [hl6_1])
      (try simp only [hl6_1] at HO_5)
      cases gk with
      | zero => exact absurd HA.out (by simp [decimal_Bits.l0])
      | succ k1 =>
        have H := HA.out
        clear HA
        simp only [decimal_Bits.l0] at H
        by_cases c10 : x7_1 ≥ 0
        · rw [if_pos c10] at H
          have c10b0 : decide (0 ≤ x7_1) = true := decide_eq_true c10
          clear c10
          by_cases c11 : 0 ≤ x7_1
          · rw [if_pos c11] at H
            have c11b0 : decide (0 ≤ x7_1) = true := decide_eq_true c11
            clear c11
            by_cases c12 : x7_1 < (x6_1.length : Int)
            · rw [if_pos c12] at H
              have c12b0 : decide (x7_1 < (x6_1.length : Int)) = true := decide_eq_true c12
              clear c12
              have H' := Aside0.mk H
              clear H
              have p456 : 0 ≤ (x7_1 : Int) := of_decide_eq_true (by first | (with_reducible assumption) | assumption)
              have q456 : x7_1 < (x6_1.length : Int) := of_decide_eq_true (by first | (with_reducible assumption) | assumption)
              obtain ⟨ad456, e456, hx456_0⟩ := Kd.at_int (Kd.R_reads' HO_6.out).2.2 x7_1 p456 q456
              cases e456
              replace p456 := eq_true p456
              replace q456 := eq_true q456
              obtain ⟨Ao13, co13, eo13⟩ := Kd.R_slice HO_5.out
              subst eo13
              go_wp2
              go_loopg [8, 33] k1 (fun kq v8 v33 w' => ∃ (x5_2 : List Int) (x8_2 : Int) (x33_2 : Int), v8 = .int .u64 x8_2 ∧ v33 = .int .i64 x33_2 ∧ Aside0 (decimal_Bits.l1 kq x5_2 x6_1 x7_1 x8_2 (x5_1.length : Int) x33_2 = some r) ∧ Aside0 (kq ≤ k1) ∧ Aside0 (Kd.R (Kd.int .u64) 70 w' w.heap.size (fun k_ => some k_ ≠ ((.slice (some ad456) x6_1.length co9) : Value).ownBlock) (.slice Ao13 x5_1.length co13) x5_2) ∧ Aside0 (Kd.R (Kd.int .u64) 70 w' w.heap.size (fun k_ => some k_ ≠ ((.slice Ao13 x5_1.length co13) : Value).ownBlock) (.slice (some ad456) x6_1.length co9) x6_1) ∧ Aside0 (Below w.heap.size w w'))
              case atStart => exact ⟨(x5_1), (rd x6_1 x7_1), (0), (by first | rfl | (simp; done) | (simp [*]; done)), (by first | rfl | (simp; done) | (simp [*]; done)), H', ⟨Nat.le_refl _⟩, ⟨by (try simp only [hl6_1]); (with_reducible repeat (first | apply Kd.R_alloc | apply Kd.R_drewN | apply Kd.R_drew)); exact HO_5.out⟩, ⟨by (try simp only [hl6_1]); (with_reducible repeat (first | apply Kd.R_alloc | apply Kd.R_drewN | apply Kd.R_drew)); exact HO_6.out⟩, ⟨bq⟩⟩
              case round =>
                clear H'
                try clear c1
                try clear p2
                try clear c3
                try clear p4
                try clear q4
                try clear hx4
                try clear c5
                try clear c6
                try clear p6
                try clear c8
                try clear c10
                try clear c10b0
                try clear c11
                try clear c11b0
                try clear c12
                try clear c12b0
                try clear hx456_0
                try clear p2
                try clear p456
                try clear p6
                try clear q456
                obtain ⟨x5_2, x8_2, x33_2, rfl, rfl, HA, HK2, HO_5, HO_6, HB⟩ := hrel
                have hl5_2 := (Kd.R_reads' HO_5.out).1
                rw [hl5_2] at HO_5
                (try simp only [hl5_2])
                (try simp only [hl5_2] at HO_6)
                cases gk with
                | zero => exact absurd HA.out (by simp [decimal_Bits.l1])
                | succ k2 =>
                  have H := HA.out
                  clear HA
                  simp only [decimal_Bits.l1] at H
                  by_cases c14 : x33_2 < (x5_1.length : Int)
                  · rw [if_pos c14] at H
                    have c14b0 : decide (x33_2 < (x5_1.length : Int)) = true := decide_eq_true c14
                    have c14b0z5 := c14b0
                    try rw [hl5_2] at c14b0z5
                    clear c14
                    by_cases c15 : 0 ≤ x33_2
                    · rw [if_pos c15] at H
                      have c15b0 : decide (0 ≤ x33_2) = true := decide_eq_true c15
                      clear c15
                      by_cases c16 : x33_2 < (x5_2.length : Int)
                      · rw [if_pos c16] at H
                        have c16b0 : decide (x33_2 < (x5_2.length : Int)) = true := decide_eq_true c16
                        clear c16
                        obtain ⟨y458, hy458⟩ : ∃ y_ : List Int, y_ = (x5_2.set (x33_2 : Int).toNat (Go.bits .and .u64 (IntKind.u64.wrap (x8_2 + (IntKind.u64.wrap ((rd x5_2 x33_2) * 1000000000)))) 4294967295)) := ⟨_, rfl⟩
                        replace H : (decimal_Bits.l1 k2 y458 x6_1 x7_1 ((IntKind.u64.wrap (x8_2 + (IntKind.u64.wrap ((rd x5_2 x33_2) * 1000000000)))) / 4294967296) (x5_1.length : Int) (wrap64 (x33_2 + 1))) = some r := by first | (rw [hy458]; with_reducible exact H) | (have H2_ := (Option.bind_some _ _).symm.trans H; rw [hy458]; with_reducible exact H2_) | (have H2_ := (Option.bind_some _ _).symm.trans H; with_reducible exact H2_) | with_reducible exact H | (rw [hy458]; exact H) | exact H
                        have Ny458 := Aside0.mk hy458
                        clear hy458
                        have H' := Aside0.mk H
                        clear H
                        have p457 : 0 ≤ (x33_2 : Int) := of_decide_eq_true (by first | (with_reducible assumption) | assumption)
                        have q457 : x33_2 < (x5_2.length : Int) := of_decide_eq_true (by first | (with_reducible assumption) | assumption)
                        obtain ⟨ad457, e457, hx457_0⟩ := Kd.at_int (Kd.R_reads' HO_5.out).2.2 x33_2 p457 q457
                        cases e457
                        replace p457 := eq_true p457
                        replace q457 := eq_true q457
                        have p17 : 0 ≤ (x33_2 : Int) := of_decide_eq_true (by first | (with_reducible assumption) | assumption)
                        have q17 : (x33_2 : Int) < ((x5_2.length : Int) : Int) := of_decide_eq_true (by first | (with_reducible assumption) | assumption)
                        obtain ⟨go17, co17, eo17, gb17, gl17, cl17, HG17⟩ := Kd.R_form HO_5.out (by omega)
                        (first | cases eo17 | (injection eo17 with ea_ en_ ec_; (first | subst ea_ | (injection ea_ with ea_; subst ea_)); subst ec_; clear en_))
                        have GB17 := Aside0.mk gb17
                        have GG17 := Aside0.mk HG17
                        clear gb17 gl17 HG17
                        (first | simp only [add_plain] at hx457_0 | skip)
                        obtain ⟨hx17_0, hf17_0⟩ := Kd.R_celln 0 HO_5.out (x33_2 : Int) p17 q17
                        replace p17 := eq_true p17
                        replace q17 := eq_true q17
                        have HP18 := Kd.R_putg HO_5.out (x33_2 : Int) (Go.bits .and .u64 (IntKind.u64.wrap (x8_2 + (IntKind.u64.wrap ((rd x5_2 x33_2) * 1000000000)))) 4294967295)
                        go_wp2_with (first | ((with_reducible refine gate_store (t := 70) (p := 47) rfl ?_); refine store_event (t := 70) (p := 47) (v := ?vo_w19) (w1 := (wr.setCell ⟨go17, (x33_2 : Int).toNat, none⟩ (.int .u64 (Go.bits .and .u64 (IntKind.u64.wrap (x8_2 + (IntKind.u64.wrap ((rd x5_2 x33_2) * 1000000000)))) 4294967295)))) ?hg ?ho ?hn ?hr ?_; (case ho => rfl); (case hg => rfl); (case hn => rfl); (case hr => first | (go_simp; done) | (go_simp; rfl)); intro w19 hw; have hg : wr.grownBy w19 (some go17) := (by rw [hw]; exact HP18.2); have hp_ : Kd.R (Kd.int .u64) 70 w19 w.heap.size (fun k_ => some k_ ≠ (.slice (some ad456) x6_1.length co9 : Value).ownBlock) (.slice (some ⟨go17, 0, none⟩) x5_2.length co13) y458 := (by rw [hw, Ny458.out]; exact HP18.1); clear HP18; have n0_ := Aside0.mk (hp_); have n1_ := Aside0.mk (Kd.R_after (v := (.slice (some ⟨go17, 0, none⟩) x5_2.length co13)) (v1 := (.slice (some ⟨go17, 0, none⟩) x5_2.length co13)) (ok := (fun _ => True)) (by (with_reducible repeat (first | apply Kd.R_alloc | apply Kd.R_drewN | apply Kd.R_drew)); exact Kd.R_mono HO_6.out (fun _ hk => ⟨trivial, hk⟩)) hg (.inl rfl)); have n2_ := Aside0.mk ((by rw [hw]; exact below_set (HB.out) GB17.out : Below w.heap.size w w19)); clear HO_5; clear HO_6; clear HB; have HO_5 := n0_; have HO_6 := n1_; have HB := n2_; clear n0_ n1_ n2_; clear hg hw hp_))
                        (try simp only [← hl5_2])
                        go_roundg k2
                        case measure => have := HK1.out; have := HK2.out; omega
                        case rel => exact ⟨(y458), ((IntKind.u64.wrap (x8_2 + (IntKind.u64.wrap ((rd x5_2 x33_2) * 1000000000)))) / 4294967296), (wrap64 (x33_2 + 1)), (by first | rfl | (simp; done) | (simp [*]; done)), (by first | rfl | (simp; done) | (simp [*]; done)), H', ⟨by have := HK1.out; have := HK2.out; omega⟩, ⟨by (try simp only [hl6_1]); (try simp only [hl5_2]); (with_reducible repeat (first | apply Kd.R_alloc | apply Kd.R_drewN | apply Kd.R_drew)); exact HO_5.out⟩, ⟨by (try simp only [hl6_1]); (try simp only [hl5_2]); (with_reducible repeat (first | apply Kd.R_alloc | apply Kd.R_drewN | apply Kd.R_drew)); exact Kd.R_mono HO_6.out (fun _ hk => hk.2)⟩, ⟨bq⟩⟩
                      · rw [if_neg c16] at H
                        exact absurd H (by simp)
                    · rw [if_neg c15] at H
                      exact absurd H (by simp)
                  · rw [if_neg c14] at H
                    have c14b0 : decide (x33_2 < (x5_1.length : Int)) = false := decide_eq_false c14
                    have c14b0z5 := c14b0
                    try rw [hl5_2] at c14b0z5
                    clear c14
                    by_cases c20 : x8_2 > 0
                    · rw [if_pos c20] at H
                      have c20b0 : decide (0 < x8_2) = true := decide_eq_true c20
                      clear c20
                      by_cases c21 : x5_2.length < 17592186044416
                      · rw [if_pos c21] at H
                        have LMc21 := Aside0.mk c21
                        clear c21
                        obtain ⟨y459, hy459⟩ : ∃ y_ : List Int, y_ = (x5_2 ++ [x8_2]) := ⟨_, rfl⟩
                        replace H : (decimal_Bits.l0 k2 y459 x6_1 (wrap64 (x7_1 - 1))) = some r := by first | (rw [hy459]; with_reducible exact H) | (have H2_ := (Option.bind_some _ _).symm.trans H; rw [hy459]; with_reducible exact H2_) | (have H2_ := (Option.bind_some _ _).symm.trans H; with_reducible exact H2_) | with_reducible exact H | (rw [hy459]; exact H) | exact H
                        have Ny459 := Aside0.mk hy459
                        clear hy459
                        have H' := Aside0.mk H
                        clear H
                        go_wp2_with (first | ((with_reducible refine gate_builtin (b := .append) (xs := #[.tmp 53, .tmp 55]) rfl ?_); at_builtin; refine Kd.R_append (Kd.int .u64) (w0 := w) w.heap.size rfl (.tmp 53) (.tmp 55) 71 70 (.int .u64 0) 8 rfl Tryz.underlying71 info70 rfl (by decide) (by omega) (.slice Ao13 x5_2.length co13) x5_2 x8_2 [.int .u64 x8_2] (fun k_ => some k_ ≠ (.slice (some ad456) x6_1.length co9 : Value).ownBlock) (fun _ => False) rfl rfl ?aP (fun _ hk => hk.elim) ?aF ?aO ?aB ?aS ?aL ?_; (case aP => exact rfl); (case aB => exact bq); (case aF => exact (fun k_ hk => Kd.fresh' (Kd.R_lt (by (with_reducible repeat (first | apply Kd.R_alloc | apply Kd.R_drewN | apply Kd.R_drew)); exact HO_6.out)) k_ hk)); (case aO => exact (by (with_reducible repeat (first | apply Kd.R_alloc | apply Kd.R_drewN | apply Kd.R_drew)); exact HO_5.out)); (case aS => exact (below_size bq)); (case aL => have := LMc21.out; omega); intro v460 w22 ho hb hg hat; rw [← Ny459.out] at ho; have n0_ := Aside0.mk (Kd.R_after (ok := (fun _ => True)) (by (with_reducible repeat (first | apply Kd.R_alloc | apply Kd.R_drewN | apply Kd.R_drew)); exact Kd.R_mono HO_6.out (fun _ hk => ⟨trivial, hk⟩)) hg hat); have n1_ := Aside0.mk (hb); have n2_ := Aside0.mk (ho); clear HO_6; clear HB; clear HO_5; have HO_6 := n0_; have HB := n1_; have HO461 := n2_; clear n0_ n1_ n2_; clear ho hb hg hat))
                        (try simp only [← hl6_1, ← hl5_2])
                        go_roundg k2
                        case measure => have := HK1.out; have := HK2.out; omega
                        case rel => exact ⟨(y459), (x6_1), (wrap64 (x7_1 - 1)), (by first | rfl | (simp; done) | (simp [*]; done)), H', ⟨by have := HK1.out; have := HK2.out; omega⟩, ⟨by (try simp only [hl6_1]); (try simp only [hl5_2]); (with_reducible repeat (first | apply Kd.R_alloc | apply Kd.R_drewN | apply Kd.R_drew)); exact HO461.out⟩, ⟨by (try simp only [hl6_1]); (try simp only [hl5_2]); (with_reducible repeat (first | apply Kd.R_alloc | apply Kd.R_drewN | apply Kd.R_drew)); exact Kd.R_mono HO_6.out (fun _ hk => hk.2)⟩, ⟨bq⟩⟩
                      · rw [if_neg c21] at H
                        exact absurd H (by simp)
                    · rw [if_neg c20] at H
                      have c20b0 : decide (0 < x8_2) = false := decide_eq_false c20
                      clear c20
                      have H' := Aside0.mk H
                      clear H
                      go_wp2
                      (try simp only [← hl6_1, ← hl5_2])
                      go_roundg k2
                      case measure => have := HK1.out; have := HK2.out; omega
                      case rel => exact ⟨(x5_2), (x6_1), (wrap64 (x7_1 - 1)), (by first | rfl | (simp; done) | (simp [*]; done)), H', ⟨by have := HK1.out; have := HK2.out; omega⟩, ⟨by (try simp only [hl6_1]); (try simp only [hl5_2]); (with_reducible repeat (first | apply Kd.R_alloc | apply Kd.R_drewN | apply Kd.R_drew)); exact HO_5.out⟩, ⟨by (try simp only [hl6_1]); (try simp only [hl5_2]); (with_reducible repeat (first | apply Kd.R_alloc | apply Kd.R_drewN | apply Kd.R_drew)); exact HO_6.out⟩, ⟨bq⟩⟩
            · rw [if_neg c12] at H
              exact absurd H (by simp)
          · rw [if_neg c11] at H
            exact absurd H (by simp)
        · rw [if_neg c10] at H
          have c10b0 : decide (0 ≤ x7_1) = false := decide_eq_false c10
          clear c10
          obtain ⟨ji23, hji23⟩ : ∃ j_ : Int, (wrap64 ((x5_1.length : Int) - 1)) = j_ := ⟨_, rfl⟩
          replace H : (if 0 ≤ (ji23) then (if (ji23) < (x5_1.length : Int) then ((bits_Len64.f (rd x5_1 (ji23))).bind fun t455 => (some (wrap64 ((wrap64 (32 * (ji23))) + t455)))) else (none)) else (none)) = some r := by first | (rw [hji23] at H; exact H) | (simp only [hji23] at H ⊢; exact H)
          have hji23w : (IntKind.i64.wrap ((x5_1.length : Int) - 1)) = ji23 := (i64_w _).trans hji23
          by_cases c24 : 0 ≤ (ji23)
          · rw [if_pos c24] at H
            have c24b0 : decide (0 ≤ (ji23)) = true := decide_eq_true c24
            clear c24
            by_cases c25 : (ji23) < (x5_1.length : Int)
            · rw [if_pos c25] at H
              have c25b0 : decide ((ji23) < (x5_1.length : Int)) = true := decide_eq_true c25
              clear c25
              replace H := Option.bind_eq_some_iff.mp H
              obtain ⟨t455, A260, H⟩ := H
              replace H : (some (wrap64 ((wrap64 (32 * (ji23))) + t455))) = some r := H
              have A26 := Aside0.mk A260
              clear A260
              obtain rfl := Option.some.inj H
              obtain ⟨Ao27, co27, eo27⟩ := Kd.R_slice HO_5.out
              subst eo27
              have p454 : 0 ≤ ((ji23) : Int) := of_decide_eq_true (by first | (with_reducible assumption) | assumption)
              have q454 : (ji23) < (x5_1.length : Int) := of_decide_eq_true (by first | (with_reducible assumption) | assumption)
              obtain ⟨ad454, e454, hx454_0⟩ := Kd.at_int (Kd.R_reads' HO_5.out).2.2 (ji23) p454 q454
              cases e454
              replace p454 := eq_true p454
              replace q454 := eq_true q454
              go_wp2_with (first | ((with_reducible refine gate_callee (f := 83) rfl ?_); refine goesL_ (some 67) rfl rfl Tryz.func83 (by kernel_rfl) rfl #[.int .u64 (rd x5_1 (ji23))] rfl (by (try simp only [List.map_toArray, List.map_cons, List.map_nil]); first | done | (simp only [hji23]; rfl) | rfl | (simp only [List.length_drop, List.length_take]; rfl)) ?_; (with_reducible refine (bits_Len64.calls (rd x5_1 (ji23)) t455 _ A26.out).mono ?_); rintro e w' ⟨rfl, ⟨nd, rfl⟩⟩; refine ⟨_, rfl, ?_⟩))
              go_ret
              exact ⟨by first | rfl | (simp [errW_none, errW_some] <;> rfl) | (simp only [← hji23]; first | rfl | (simp [errW_none, errW_some] <;> rfl)) | (simp [*, errW_none, errW_some] <;> rfl), bq⟩
            · rw [if_neg c25] at H
              exact absurd H (by simp)
          · rw [if_neg c24] at H
            exact absurd H (by simp)
mutual
def decimal_Power.j0 : Nat → ByteArray → Int → Bool → Option (ByteArray × Int)
  | 0, _, _, _ => none
  | k + 1, x0, x1, x13 => if x13 = true then (some ((⟨#[49]⟩ : ByteArray), 0)) else (if x0.toList = ([48] : List UInt8) then (some ((⟨#[48]⟩ : ByteArray), 0)) else ((decimal_Bits.f k x0).bind fun t462 => (if (wrap64 (t462 - 1)) = 0 then (none) else (if x1 > (wrap64 (Int.tdiv (66439 : Int) (wrap64 (t462 - 1)))) then (some ((⟨#[]⟩ : ByteArray), 4)) else ((decimal_cut.f k x0).bind fun t466 => (decimal_Power.l0 k x1 (([1] : List Int)) t466))))))
def decimal_Power.l0 : Nat → Int → List Int → List Int → Option (ByteArray × Int)
  | 0, _, _, _ => none
  | k + 1, x1, x7, x8 => if x1 > 0 then (if (Go.bits .and .i64 x1 1) = 1 then ((decimal_pieces_times.f k x7 x8).bind fun t470 => (if x1 > 1 then ((decimal_pieces_times.f k x8 x8).bind fun t473 => (decimal_Power.l0 k (x1 / 2) t470 t473)) else (decimal_Power.l0 k (x1 / 2) t470 x8))) else (if x1 > 1 then ((decimal_pieces_times.f k x8 x8).bind fun t476 => (decimal_Power.l0 k (x1 / 2) x7 t476)) else (decimal_Power.l0 k (x1 / 2) x7 x8))) else ((decimal_pieces_text.f k x7).bind fun t469 => (if (t469.size : Int) > 20000 then (some ((⟨#[]⟩ : ByteArray), 4)) else (some (t469, 0))))
end
def decimal_Power.f (k : Nat) (a0 : ByteArray) (a1 : Int) : Option (ByteArray × Int) := if a1 < 0 then (some ((⟨#[]⟩ : ByteArray), 3)) else (if a1 = 0 then (decimal_Power.j0 k a0 a1 true) else (decimal_Power.j0 k a0 a1 (a0.toList == ([49] : List UInt8))))
theorem decimal_Power.mono_l : ∀ k, (∀ y0 y1 y2, LeO (decimal_Power.j0 k y0 y1 y2) (decimal_Power.j0 (k + 1) y0 y1 y2)) ∧ (∀ y0 y1 y2, LeO (decimal_Power.l0 k y0 y1 y2) (decimal_Power.l0 (k + 1) y0 y1 y2))
  | 0 => ⟨fun _ _ _ r h => by simp [decimal_Power.j0] at h, fun _ _ _ r h => by simp [decimal_Power.l0] at h⟩
  | k + 1 => by
    obtain ⟨ih0, ih1⟩ := decimal_Power.mono_l k
    refine ⟨?_, ?_⟩
    · intro y0 y1 y2
      unfold decimal_Power.j0
      repeat' first
      | (with_reducible exact ih0 _ _ _)
      | (with_reducible exact ih1 _ _ _)
      | (with_reducible exact decimal_Bits.mono _ _)
      | (with_reducible exact decimal_cut.mono _ _)
      | (with_reducible exact decimal_pieces_text.mono _ _)
      | (with_reducible exact decimal_pieces_times.mono _ _ _)
      | (with_reducible exact LeO.refl _)
      | (with_reducible exact LeO.none _)
      | (with_reducible refine LeO.ite ?_ ?_)
      | (with_reducible refine LeO.bind ?_ (fun _ => ?_))
      | exact ih0 _ _ _
      | exact ih1 _ _ _
      | exact decimal_Bits.mono _ _
      | exact decimal_cut.mono _ _
      | exact decimal_pieces_text.mono _ _
      | exact decimal_pieces_times.mono _ _ _
      | exact LeO.none _
      | refine LeO.ite ?_ ?_
      | refine LeO.bind ?_ (fun _ => ?_)
    · intro y0 y1 y2
      unfold decimal_Power.l0
      repeat' first
      | (with_reducible exact ih0 _ _ _)
      | (with_reducible exact ih1 _ _ _)
      | (with_reducible exact decimal_Bits.mono _ _)
      | (with_reducible exact decimal_cut.mono _ _)
      | (with_reducible exact decimal_pieces_text.mono _ _)
      | (with_reducible exact decimal_pieces_times.mono _ _ _)
      | (with_reducible exact LeO.refl _)
      | (with_reducible exact LeO.none _)
      | (with_reducible refine LeO.ite ?_ ?_)
      | (with_reducible refine LeO.bind ?_ (fun _ => ?_))
      | exact ih0 _ _ _
      | exact ih1 _ _ _
      | exact decimal_Bits.mono _ _
      | exact decimal_cut.mono _ _
      | exact decimal_pieces_text.mono _ _
      | exact decimal_pieces_times.mono _ _ _
      | exact LeO.none _
      | refine LeO.ite ?_ ?_
      | refine LeO.bind ?_ (fun _ => ?_)
theorem decimal_Power.mono : ∀ a0 a1 k, LeO (decimal_Power.f k a0 a1) (decimal_Power.f (k + 1) a0 a1) := by
  intro a0 a1 k
  obtain ⟨ih0, ih1⟩ := decimal_Power.mono_l k
  unfold decimal_Power.f
  repeat' first
      | (with_reducible exact ih0 _ _ _)
      | (with_reducible exact ih1 _ _ _)
      | (with_reducible exact decimal_Bits.mono _ _)
      | (with_reducible exact decimal_cut.mono _ _)
      | (with_reducible exact decimal_pieces_text.mono _ _)
      | (with_reducible exact decimal_pieces_times.mono _ _ _)
      | (with_reducible exact LeO.refl _)
      | (with_reducible exact LeO.none _)
      | (with_reducible refine LeO.ite ?_ ?_)
      | (with_reducible refine LeO.bind ?_ (fun _ => ?_))
      | exact ih0 _ _ _
      | exact ih1 _ _ _
      | exact decimal_Bits.mono _ _
      | exact decimal_cut.mono _ _
      | exact decimal_pieces_text.mono _ _
      | exact decimal_pieces_times.mono _ _ _
      | exact LeO.none _
      | refine LeO.ite ?_ ?_
      | refine LeO.bind ?_ (fun _ => ?_)
set_option maxHeartbeats 8000000 in
set_option maxRecDepth 100000 in
theorem decimal_Power.calls (k : Nat) (a0 : ByteArray) (a1 : Int) (r1 : ByteArray) (r2 : Int) (w : World) (hT : Tab w) (h : decimal_Power.f k a0 a1 = some (r1, r2)) :
    Calls Tryz.prog 29 #[.string a0, .int .i64 a1] w fun e w' => e = .returned (.tuple #[.string r1, .int .i64 r2]) ∧ Below w.heap.size w w' := by
  have HT := Aside0.mk hT
  clear hT
  have HB := Aside0.mk (Below.refl w.heap.size w)
  have H : (if a1 < 0 then (some ((⟨#[]⟩ : ByteArray), 3)) else (if a1 = 0 then (decimal_Power.j0 k a0 a1 true) else (decimal_Power.j0 k a0 a1 (a0.toList == ([49] : List UInt8))))) = some (r1, r2) := h
  clear h
  by_cases c3 : a1 < 0
  · rw [if_pos c3] at H
    have c3b0 : decide (a1 < 0) = true := decide_eq_true c3
    clear c3
    simp only [Option.some.injEq, Prod.mk.injEq] at H
    obtain ⟨rfl, rfl⟩ := H
    go_enter Tryz.func29, Tryz.ntmps29
    go_wp2
    go_ret2
    exact ⟨eq_, bq⟩
  · rw [if_neg c3] at H
    have c3b0 : decide (a1 < 0) = false := decide_eq_false c3
    clear c3
    have HC4 := Aside0.mk H
    clear H
    go_enter Tryz.func29, Tryz.ntmps29
    go_upto_region 3 with (fail)
    go_cut [13] (fun v13 wc => ∃ (kq : Nat) (x13_3 : Bool), v13 = .bool x13_3 ∧ Aside0 (decimal_Power.j0 kq a0 a1 x13_3 = some (r1, r2)) ∧ Aside0 (kq ≤ k) ∧ Aside0 (Below w.heap.size w wc))
    case first =>
      have H := HC4.out
      clear HC4
      by_cases c5 : a1 = 0
      · rw [if_pos c5] at H
        have c5b0 : (a1 == 0) = true := beq_iff_eq.mpr c5
        have c5b1 : (a1 != 0) = false := bne_eq_false_iff_eq.mpr c5
        clear c5
        (first | rw [c5b0] | (simp only [i64_w, i32_w]; rw [c5b0]) | skip)
        have H' := Aside0.mk H
        clear H
        go_wp2
        go_meet
        case rel => exact ⟨_, (true), (by first | rfl | (simp; done) | (simp [*]; done)), H', ⟨by first | omega | exact Nat.le_refl _⟩, ⟨bq⟩⟩
      · rw [if_neg c5] at H
        have c5b0 : (a1 == 0) = false := beq_eq_false_iff_ne.mpr c5
        have c5b1 : (a1 != 0) = true := bne_iff_ne.mpr c5
        (first | rw [c5b0] | (simp only [i64_w, i32_w]; rw [c5b0]) | skip)
        have H' := Aside0.mk H
        clear H
        go_wp2
        go_meet
        case rel => exact ⟨_, ((a0.toList == ([49] : List UInt8))), (by first | rfl | (simp; done) | (simp [*]; done)), H', ⟨by first | omega | exact Nat.le_refl _⟩, ⟨bq⟩⟩
    case rest =>
      clear HC4
      try clear c2
      try clear p2
      try clear c3
      try clear c3b0
      try clear c5
      try clear c5b0
      try clear c5b1
      obtain ⟨kq, x13_3, rfl, HA, HJ3, HB⟩ := hcut
      cases kq with
      | zero => exact absurd HA.out (by simp [decimal_Power.j0])
      | succ kj3 =>
        have H := HA.out
        clear HA
        simp only [decimal_Power.j0] at H
        by_cases c6 : x13_3 = true
        · subst c6
          have H1 : (some ((⟨#[49]⟩ : ByteArray), 0)) = some (r1, r2) := by rw [if_pos rfl] at H; exact H
          clear H
          have H := H1
          clear H1
          simp only [Option.some.injEq, Prod.mk.injEq] at H
          obtain ⟨rfl, rfl⟩ := H
          go_wp2
          go_ret2
          exact ⟨eq_, bq⟩
        · replace c6 := Bool.eq_false_iff.mpr c6
          subst c6
          have H1 : (if a0.toList = ([48] : List UInt8) then (some ((⟨#[48]⟩ : ByteArray), 0)) else ((decimal_Bits.f kj3 a0).bind fun t462 => (if (wrap64 (t462 - 1)) = 0 then (none) else (if a1 > (wrap64 (Int.tdiv (66439 : Int) (wrap64 (t462 - 1)))) then (some ((⟨#[]⟩ : ByteArray), 4)) else ((decimal_cut.f kj3 a0).bind fun t466 => (decimal_Power.l0 kj3 a1 (([1] : List Int)) t466)))))) = some (r1, r2) := by rw [if_neg (show ¬ (false = true) by decide)] at H; exact H
          clear H
          have H := H1
          clear H1
          by_cases c7 : a0.toList = ([48] : List UInt8)
          · rw [if_pos c7] at H
            have c7b0 : (a0.toList == ([48] : List UInt8)) = true := beq_iff_eq.mpr c7
            have c7b1 : (a0.toList != ([48] : List UInt8)) = false := bne_eq_false_iff_eq.mpr c7
            clear c7
            simp only [Option.some.injEq, Prod.mk.injEq] at H
            obtain ⟨rfl, rfl⟩ := H
            go_wp2
            go_ret2
            exact ⟨eq_, bq⟩
          · rw [if_neg c7] at H
            have c7b0 : (a0.toList == ([48] : List UInt8)) = false := beq_eq_false_iff_ne.mpr c7
            have c7b1 : (a0.toList != ([48] : List UInt8)) = true := bne_iff_ne.mpr c7
            replace H := Option.bind_eq_some_iff.mp H
            obtain ⟨t462, A80, H⟩ := H
            replace H : (if (wrap64 (t462 - 1)) = 0 then (none) else (if a1 > (wrap64 (Int.tdiv (66439 : Int) (wrap64 (t462 - 1)))) then (some ((⟨#[]⟩ : ByteArray), 4)) else ((decimal_cut.f kj3 a0).bind fun t466 => (decimal_Power.l0 kj3 a1 (([1] : List Int)) t466)))) = some (r1, r2) := H
            have A8 := Aside0.mk A80
            clear A80
            by_cases c9 : (wrap64 (t462 - 1)) = 0
            · rw [if_pos c9] at H
              exact absurd H (by simp)
            · rw [if_neg c9] at H
              have c9b0 : ((wrap64 (t462 - 1)) == 0) = false := beq_eq_false_iff_ne.mpr c9
              have c9b1 : ((wrap64 (t462 - 1)) != 0) = true := bne_iff_ne.mpr c9
              by_cases c10 : a1 > (wrap64 (Int.tdiv (66439 : Int) (wrap64 (t462 - 1))))
              · rw [if_pos c10] at H
                have c10b0 : decide ((wrap64 (Int.tdiv (66439 : Int) (wrap64 (t462 - 1)))) < a1) = true := decide_eq_true c10
                clear c10
                simp only [Option.some.injEq, Prod.mk.injEq] at H
                obtain ⟨rfl, rfl⟩ := H
                go_wp2_with (first | ((with_reducible refine gate_callee (f := 59) rfl ?_); refine goesL_ (some 24) rfl rfl Tryz.func59 (by kernel_rfl) rfl #[.string a0] rfl mq ?_; (with_reducible refine (decimal_Bits.calls (hT := HT.out.below bq) kj3 a0 t462 _ A8.out).mono ?_); rintro e w11 ⟨rfl, hb⟩; refine ⟨_, rfl, ?_⟩; replace HB := Aside0.mk (below_step bq hb); (try clear hb); (try clear hb2); (try clear hk); (try clear hi)))
                go_ret2
                exact ⟨eq_, bq⟩
              · rw [if_neg c10] at H
                have c10b0 : decide ((wrap64 (Int.tdiv (66439 : Int) (wrap64 (t462 - 1)))) < a1) = false := decide_eq_false c10
                clear c10
                obtain ⟨y463, hy463⟩ : ∃ y_ : List Int, y_ = (([1] : List Int)) := ⟨_, rfl⟩
                replace H : ((decimal_cut.f kj3 a0).bind fun t466 => (decimal_Power.l0 kj3 a1 y463 t466)) = some (r1, r2) := by first | (rw [hy463]; with_reducible exact H) | (have H2_ := (Option.bind_some _ _).symm.trans H; rw [hy463]; with_reducible exact H2_) | (have H2_ := (Option.bind_some _ _).symm.trans H; with_reducible exact H2_) | with_reducible exact H | (rw [hy463]; exact H) | exact H
                have Ny463 := Aside0.mk hy463
                clear hy463
                replace H := Option.bind_eq_some_iff.mp H
                obtain ⟨t466, A120, H⟩ := H
                replace H : (decimal_Power.l0 kj3 a1 y463 t466) = some (r1, r2) := H
                have A12 := Aside0.mk A120
                clear A120
                have H' := Aside0.mk H
                clear H
                go_wp2_with (first | ((with_reducible refine gate_callee (f := 59) rfl ?_); refine goesL_ (some 24) rfl rfl Tryz.func59 (by kernel_rfl) rfl #[.string a0] rfl mq ?_; (with_reducible refine (decimal_Bits.calls (hT := HT.out.below bq) kj3 a0 t462 _ A8.out).mono ?_); rintro e w13 ⟨rfl, hb⟩; refine ⟨_, rfl, ?_⟩; replace HB := Aside0.mk (below_step bq hb); (try clear hb); (try clear hb2); (try clear hk); (try clear hi)) | ((with_reducible refine gate_dst (N := 30) rfl ?_); refine Kd.R_lit (Kd.int .u64) _ 70 ?hg (N := 30) ?hd (xs := ([1] : List Int)) (inner := [.int .u64 1]) (ok := fun _ => True) (okp := fun _ => True) ?hr ?hp (fun _ hk => hk) trivial (Below.refl _ _) (Nat.le_refl _) (by simp) ?_; (case hd => rfl); (case hg => rfl); (case hr => first | (go_simp; done) | (go_simp; rfl)); (case hp => exact (Reps.one (show Kd.M (Kd.int .u64) _ _ _ 1 [.int .u64 1] from rfl) (Reps.none _ _))); intro v464 w14 ho15 hb hg_ hnew_; clear hg_ hnew_; (first | rw [← Ny463.out] at ho15 | (simp only [Int.reduceToNat] at ho15; rw [← Ny463.out] at ho15)); have n0_ := Aside0.mk (Kd.R_lower ho15 (below_size bq)); have n1_ := Aside0.mk (below_step bq hb); clear HB; have HO465 := n0_; have HB := n1_; clear n0_ n1_; clear hb ho15) | ((with_reducible refine gate_callee (f := 60) rfl ?_); refine goesL_ (some 32) rfl rfl Tryz.func60 (by kernel_rfl) rfl #[.string a0] rfl mq ?_; (with_reducible refine (decimal_cut.calls kj3 a0 t466 _ A12.out).mono ?_); rintro e w16 ⟨v467, rfl, ho0, hb⟩; refine ⟨_, rfl, ?_⟩; have n0_ := Aside0.mk (Kd.R_elder' (by (with_reducible repeat (first | apply Kd.R_alloc | apply Kd.R_drewN | apply Kd.R_drew)); exact HO465.out) (Kd.R_base ho0) hb); have n1_ := Aside0.mk (Kd.R_lower (Kd.R_new' ho0 (Kd.R_lt (by (with_reducible repeat (first | apply Kd.R_alloc | apply Kd.R_drewN | apply Kd.R_drew)); exact HO465.out))) (below_size bq)); have n2_ := Aside0.mk (below_step bq hb); clear HO465; clear HB; have HO465 := n0_; have HO468 := n1_; have HB := n2_; clear n0_ n1_ n2_; (try clear hb); (try clear hb2); (try clear hk); (try clear hi); (try clear ho0)))
                go_loopg [1, 7, 8] kj3 (fun kq v1 v7 v8 w' => ∃ (x1_2 : Int) (x7_2 : List Int) (x8_2 : List Int), v1 = .int .i64 x1_2 ∧ Aside0 (decimal_Power.l0 kq x1_2 x7_2 x8_2 = some (r1, r2)) ∧ Aside0 (kq ≤ kj3) ∧ Aside0 (Kd.R (Kd.int .u64) 70 w' w.heap.size (fun k_ => some k_ ≠ (v8 : Value).ownBlock) v7 x7_2) ∧ Aside0 (Kd.R (Kd.int .u64) 70 w' w.heap.size (fun k_ => some k_ ≠ (v7 : Value).ownBlock) v8 x8_2) ∧ Aside0 (Below w.heap.size w w'))
                case atStart => exact ⟨(a1), (y463), (t466), (by first | rfl | (simp; done) | (simp [*]; done)), H', ⟨Nat.le_refl _⟩, ⟨by (with_reducible repeat (first | apply Kd.R_alloc | apply Kd.R_drewN | apply Kd.R_drew)); exact Kd.R_mono HO465.out (fun _ hk => hk.2)⟩, ⟨by (with_reducible repeat (first | apply Kd.R_alloc | apply Kd.R_drewN | apply Kd.R_drew)); exact Kd.R_mono HO468.out (fun _ hk => hk.2)⟩, ⟨bq⟩⟩
                case round =>
                  clear H'
                  try clear c1
                  try clear c2
                  try clear p2
                  try clear c3
                  try clear c3b0
                  try clear c5
                  try clear c5b0
                  try clear c5b1
                  try clear c6
                  try clear p6
                  try clear c7
                  try clear c7b0
                  try clear c7b1
                  try clear c9
                  try clear c9b0
                  try clear c9b1
                  try clear c10
                  try clear c10b0
                  try clear p2
                  obtain ⟨x1_2, x7_2, x8_2, rfl, HA, HK2, HO_7, HO_8, HB⟩ := hrel
                  cases gk with
                  | zero => exact absurd HA.out (by simp [decimal_Power.l0])
                  | succ k2 =>
                    have H := HA.out
                    clear HA
                    simp only [decimal_Power.l0] at H
                    by_cases c17 : x1_2 > 0
                    · rw [if_pos c17] at H
                      have c17b0 : decide (0 < x1_2) = true := decide_eq_true c17
                      clear c17
                      by_cases c18 : (Go.bits .and .i64 x1_2 1) = 1
                      · rw [if_pos c18] at H
                        have c18b0 : ((Go.bits .and .i64 x1_2 1) == 1) = true := beq_iff_eq.mpr c18
                        have c18b1 : ((Go.bits .and .i64 x1_2 1) != 1) = false := bne_eq_false_iff_eq.mpr c18
                        clear c18
                        replace H := Option.bind_eq_some_iff.mp H
                        obtain ⟨t470, A190, H⟩ := H
                        replace H : (if x1_2 > 1 then ((decimal_pieces_times.f k2 x8_2 x8_2).bind fun t473 => (decimal_Power.l0 k2 (x1_2 / 2) t470 t473)) else (decimal_Power.l0 k2 (x1_2 / 2) t470 x8_2)) = some (r1, r2) := H
                        have A19 := Aside0.mk A190
                        clear A190
                        by_cases c20 : x1_2 > 1
                        · rw [if_pos c20] at H
                          have c20b0 : decide (1 < x1_2) = true := decide_eq_true c20
                          clear c20
                          replace H := Option.bind_eq_some_iff.mp H
                          obtain ⟨t473, A210, H⟩ := H
                          replace H : (decimal_Power.l0 k2 (x1_2 / 2) t470 t473) = some (r1, r2) := H
                          have A21 := Aside0.mk A210
                          clear A210
                          have H' := Aside0.mk H
                          clear H
                          obtain ⟨Ao22, co22, eo22⟩ := Kd.R_slice HO_7.out
                          subst eo22
                          obtain ⟨Ao23, co23, eo23⟩ := Kd.R_slice HO_8.out
                          subst eo23
                          go_wp2_with (first | ((with_reducible refine gate_callee (f := 61) rfl ?_); refine goesL_ (some 42) rfl rfl Tryz.func61 (by kernel_rfl) rfl #[.slice Ao22 x7_2.length co22, .slice Ao23 x8_2.length co23] rfl mq ?_; (with_reducible refine (decimal_pieces_times.calls k2 _ _ x7_2 _ _ x8_2 t470 _ ?side1 ?side2 ?side3 ?side4 A19.out).mono ?_); (case side1 => repeat (first | exact (Kd.R_reads' HO_7.out).2.2 | (with_reducible refine Kd.C_alloc ?_ _) | (with_reducible refine Kd.C_drewN ?_ _) | (with_reducible refine Kd.C_drew ?_))); (case side2 => exact (Kd.R_reads' HO_7.out).2.1); (case side3 => repeat (first | exact (Kd.R_reads' HO_8.out).2.2 | (with_reducible refine Kd.C_alloc ?_ _) | (with_reducible refine Kd.C_drewN ?_ _) | (with_reducible refine Kd.C_drew ?_))); (case side4 => exact (Kd.R_reads' HO_8.out).2.1); rintro e w24 ⟨v471, rfl, ho0, hb⟩; refine ⟨_, rfl, ?_⟩; have n0_ := Aside0.mk (Kd.R_elder' (by (with_reducible repeat (first | apply Kd.R_alloc | apply Kd.R_drewN | apply Kd.R_drew)); exact HO_7.out) (Kd.R_base ho0) hb); have n1_ := Aside0.mk (Kd.R_elder' (by (with_reducible repeat (first | apply Kd.R_alloc | apply Kd.R_drewN | apply Kd.R_drew)); exact HO_8.out) (Kd.R_base ho0) hb); have n2_ := Aside0.mk (Kd.R_lower (Kd.R_new' (Kd.R_new' ho0 (Kd.R_lt (by (with_reducible repeat (first | apply Kd.R_alloc | apply Kd.R_drewN | apply Kd.R_drew)); exact HO_7.out))) (Kd.R_lt (by (with_reducible repeat (first | apply Kd.R_alloc | apply Kd.R_drewN | apply Kd.R_drew)); exact HO_8.out))) (below_size bq)); have n3_ := Aside0.mk (below_step bq hb); clear HO_7; clear HO_8; clear HB; have HO_7 := n0_; have HO_8 := n1_; have HO472 := n2_; have HB := n3_; clear n0_ n1_ n2_ n3_; (try clear hb); (try clear hb2); (try clear hk); (try clear hi); (try clear ho0)) | ((with_reducible refine gate_callee (f := 61) rfl ?_); refine goesL_ (some 47) rfl rfl Tryz.func61 (by kernel_rfl) rfl #[.slice Ao23 x8_2.length co23, .slice Ao23 x8_2.length co23] rfl mq ?_; (with_reducible refine (decimal_pieces_times.calls k2 _ _ x8_2 _ _ x8_2 t473 _ ?side1 ?side2 ?side3 ?side4 A21.out).mono ?_); (case side1 => repeat (first | exact (Kd.R_reads' HO_8.out).2.2 | (with_reducible refine Kd.C_alloc ?_ _) | (with_reducible refine Kd.C_drewN ?_ _) | (with_reducible refine Kd.C_drew ?_))); (case side2 => exact (Kd.R_reads' HO_8.out).2.1); (case side3 => repeat (first | exact (Kd.R_reads' HO_8.out).2.2 | (with_reducible refine Kd.C_alloc ?_ _) | (with_reducible refine Kd.C_drewN ?_ _) | (with_reducible refine Kd.C_drew ?_))); (case side4 => exact (Kd.R_reads' HO_8.out).2.1); rintro e w25 ⟨v474, rfl, ho0, hb⟩; refine ⟨_, rfl, ?_⟩; have n0_ := Aside0.mk (Kd.R_elder' (by (with_reducible repeat (first | apply Kd.R_alloc | apply Kd.R_drewN | apply Kd.R_drew)); exact HO_7.out) (Kd.R_base ho0) hb); have n1_ := Aside0.mk (Kd.R_elder' (by (with_reducible repeat (first | apply Kd.R_alloc | apply Kd.R_drewN | apply Kd.R_drew)); exact HO_8.out) (Kd.R_base ho0) hb); have n2_ := Aside0.mk (Kd.R_elder' (by (with_reducible repeat (first | apply Kd.R_alloc | apply Kd.R_drewN | apply Kd.R_drew)); exact HO472.out) (Kd.R_base ho0) hb); have n3_ := Aside0.mk (Kd.R_lower (Kd.R_new' (Kd.R_new' (Kd.R_new' ho0 (Kd.R_lt (by (with_reducible repeat (first | apply Kd.R_alloc | apply Kd.R_drewN | apply Kd.R_drew)); exact HO_7.out))) (Kd.R_lt (by (with_reducible repeat (first | apply Kd.R_alloc | apply Kd.R_drewN | apply Kd.R_drew)); exact HO_8.out))) (Kd.R_lt (by (with_reducible repeat (first | apply Kd.R_alloc | apply Kd.R_drewN | apply Kd.R_drew)); exact HO472.out))) (below_size bq)); have n4_ := Aside0.mk (below_step bq hb); clear HO_7; clear HO_8; clear HO472; clear HB; have HO_7 := n0_; have HO_8 := n1_; have HO472 := n2_; have HO475 := n3_; have HB := n4_; clear n0_ n1_ n2_ n3_ n4_; (try clear hb); (try clear hb2); (try clear hk); (try clear hi); (try clear ho0)))
                          go_roundg k2
                          case measure => have := HJ3.out; have := HK2.out; omega
                          case rel => exact ⟨(x1_2 / 2), (t470), (t473), (by first | rfl | (simp; done) | (simp [*]; done)), H', ⟨by have := HJ3.out; have := HK2.out; omega⟩, ⟨by (with_reducible repeat (first | apply Kd.R_alloc | apply Kd.R_drewN | apply Kd.R_drew)); exact Kd.R_mono HO472.out (fun _ hk => hk.2)⟩, ⟨by (with_reducible repeat (first | apply Kd.R_alloc | apply Kd.R_drewN | apply Kd.R_drew)); exact Kd.R_mono HO475.out (fun _ hk => hk.2)⟩, ⟨bq⟩⟩
                        · rw [if_neg c20] at H
                          have c20b0 : decide (1 < x1_2) = false := decide_eq_false c20
                          clear c20
                          have H' := Aside0.mk H
                          clear H
                          obtain ⟨Ao26, co26, eo26⟩ := Kd.R_slice HO_7.out
                          subst eo26
                          obtain ⟨Ao27, co27, eo27⟩ := Kd.R_slice HO_8.out
                          subst eo27
                          go_wp2_with (first | ((with_reducible refine gate_callee (f := 61) rfl ?_); refine goesL_ (some 42) rfl rfl Tryz.func61 (by kernel_rfl) rfl #[.slice Ao26 x7_2.length co26, .slice Ao27 x8_2.length co27] rfl mq ?_; (with_reducible refine (decimal_pieces_times.calls k2 _ _ x7_2 _ _ x8_2 t470 _ ?side1 ?side2 ?side3 ?side4 A19.out).mono ?_); (case side1 => repeat (first | exact (Kd.R_reads' HO_7.out).2.2 | (with_reducible refine Kd.C_alloc ?_ _) | (with_reducible refine Kd.C_drewN ?_ _) | (with_reducible refine Kd.C_drew ?_))); (case side2 => exact (Kd.R_reads' HO_7.out).2.1); (case side3 => repeat (first | exact (Kd.R_reads' HO_8.out).2.2 | (with_reducible refine Kd.C_alloc ?_ _) | (with_reducible refine Kd.C_drewN ?_ _) | (with_reducible refine Kd.C_drew ?_))); (case side4 => exact (Kd.R_reads' HO_8.out).2.1); rintro e w28 ⟨v471, rfl, ho0, hb⟩; refine ⟨_, rfl, ?_⟩; have n0_ := Aside0.mk (Kd.R_elder' (by (with_reducible repeat (first | apply Kd.R_alloc | apply Kd.R_drewN | apply Kd.R_drew)); exact HO_7.out) (Kd.R_base ho0) hb); have n1_ := Aside0.mk (Kd.R_elder' (by (with_reducible repeat (first | apply Kd.R_alloc | apply Kd.R_drewN | apply Kd.R_drew)); exact HO_8.out) (Kd.R_base ho0) hb); have n2_ := Aside0.mk (Kd.R_lower (Kd.R_new' (Kd.R_new' ho0 (Kd.R_lt (by (with_reducible repeat (first | apply Kd.R_alloc | apply Kd.R_drewN | apply Kd.R_drew)); exact HO_7.out))) (Kd.R_lt (by (with_reducible repeat (first | apply Kd.R_alloc | apply Kd.R_drewN | apply Kd.R_drew)); exact HO_8.out))) (below_size bq)); have n3_ := Aside0.mk (below_step bq hb); clear HO_7; clear HO_8; clear HB; have HO_7 := n0_; have HO_8 := n1_; have HO472 := n2_; have HB := n3_; clear n0_ n1_ n2_ n3_; (try clear hb); (try clear hb2); (try clear hk); (try clear hi); (try clear ho0)))
                          go_roundg k2
                          case measure => have := HJ3.out; have := HK2.out; omega
                          case rel => exact ⟨(x1_2 / 2), (t470), (x8_2), (by first | rfl | (simp; done) | (simp [*]; done)), H', ⟨by have := HJ3.out; have := HK2.out; omega⟩, ⟨by (with_reducible repeat (first | apply Kd.R_alloc | apply Kd.R_drewN | apply Kd.R_drew)); exact Kd.R_mono HO472.out (fun _ hk => hk.2)⟩, ⟨by (with_reducible repeat (first | apply Kd.R_alloc | apply Kd.R_drewN | apply Kd.R_drew)); exact Kd.R_mono HO_8.out (fun _ hk => hk.2)⟩, ⟨bq⟩⟩
                      · rw [if_neg c18] at H
                        have c18b0 : ((Go.bits .and .i64 x1_2 1) == 1) = false := beq_eq_false_iff_ne.mpr c18
                        have c18b1 : ((Go.bits .and .i64 x1_2 1) != 1) = true := bne_iff_ne.mpr c18
                        by_cases c29 : x1_2 > 1
                        · rw [if_pos c29] at H
                          have c29b0 : decide (1 < x1_2) = true := decide_eq_true c29
                          clear c29
                          replace H := Option.bind_eq_some_iff.mp H
                          obtain ⟨t476, A300, H⟩ := H
                          replace H : (decimal_Power.l0 k2 (x1_2 / 2) x7_2 t476) = some (r1, r2) := H
                          have A30 := Aside0.mk A300
                          clear A300
                          have H' := Aside0.mk H
                          clear H
                          obtain ⟨Ao31, co31, eo31⟩ := Kd.R_slice HO_8.out
                          subst eo31
                          go_wp2_with (first | ((with_reducible refine gate_callee (f := 61) rfl ?_); refine goesL_ (some 47) rfl rfl Tryz.func61 (by kernel_rfl) rfl #[.slice Ao31 x8_2.length co31, .slice Ao31 x8_2.length co31] rfl mq ?_; (with_reducible refine (decimal_pieces_times.calls k2 _ _ x8_2 _ _ x8_2 t476 _ ?side1 ?side2 ?side3 ?side4 A30.out).mono ?_); (case side1 => repeat (first | exact (Kd.R_reads' HO_8.out).2.2 | (with_reducible refine Kd.C_alloc ?_ _) | (with_reducible refine Kd.C_drewN ?_ _) | (with_reducible refine Kd.C_drew ?_))); (case side2 => exact (Kd.R_reads' HO_8.out).2.1); (case side3 => repeat (first | exact (Kd.R_reads' HO_8.out).2.2 | (with_reducible refine Kd.C_alloc ?_ _) | (with_reducible refine Kd.C_drewN ?_ _) | (with_reducible refine Kd.C_drew ?_))); (case side4 => exact (Kd.R_reads' HO_8.out).2.1); rintro e w32 ⟨v477, rfl, ho0, hb⟩; refine ⟨_, rfl, ?_⟩; have n0_ := Aside0.mk (Kd.R_elder' (by (with_reducible repeat (first | apply Kd.R_alloc | apply Kd.R_drewN | apply Kd.R_drew)); exact HO_7.out) (Kd.R_base ho0) hb); have n1_ := Aside0.mk (Kd.R_elder' (by (with_reducible repeat (first | apply Kd.R_alloc | apply Kd.R_drewN | apply Kd.R_drew)); exact HO_8.out) (Kd.R_base ho0) hb); have n2_ := Aside0.mk (Kd.R_lower (Kd.R_new' (Kd.R_new' ho0 (Kd.R_lt (by (with_reducible repeat (first | apply Kd.R_alloc | apply Kd.R_drewN | apply Kd.R_drew)); exact HO_7.out))) (Kd.R_lt (by (with_reducible repeat (first | apply Kd.R_alloc | apply Kd.R_drewN | apply Kd.R_drew)); exact HO_8.out))) (below_size bq)); have n3_ := Aside0.mk (below_step bq hb); clear HO_7; clear HO_8; clear HB; have HO_7 := n0_; have HO_8 := n1_; have HO478 := n2_; have HB := n3_; clear n0_ n1_ n2_ n3_; (try clear hb); (try clear hb2); (try clear hk); (try clear hi); (try clear ho0)))
                          go_roundg k2
                          case measure => have := HJ3.out; have := HK2.out; omega
                          case rel => exact ⟨(x1_2 / 2), (x7_2), (t476), (by first | rfl | (simp; done) | (simp [*]; done)), H', ⟨by have := HJ3.out; have := HK2.out; omega⟩, ⟨by (with_reducible repeat (first | apply Kd.R_alloc | apply Kd.R_drewN | apply Kd.R_drew)); exact Kd.R_mono HO_7.out (fun _ hk => hk.2)⟩, ⟨by (with_reducible repeat (first | apply Kd.R_alloc | apply Kd.R_drewN | apply Kd.R_drew)); exact Kd.R_mono HO478.out (fun _ hk => hk.1.2)⟩, ⟨bq⟩⟩
                        · rw [if_neg c29] at H
                          have c29b0 : decide (1 < x1_2) = false := decide_eq_false c29
                          clear c29
                          have H' := Aside0.mk H
                          clear H
                          go_wp2
                          go_roundg k2
                          case measure => have := HJ3.out; have := HK2.out; omega
                          case rel => exact ⟨(x1_2 / 2), (x7_2), (x8_2), (by first | rfl | (simp; done) | (simp [*]; done)), H', ⟨by have := HJ3.out; have := HK2.out; omega⟩, ⟨by (with_reducible repeat (first | apply Kd.R_alloc | apply Kd.R_drewN | apply Kd.R_drew)); exact HO_7.out⟩, ⟨by (with_reducible repeat (first | apply Kd.R_alloc | apply Kd.R_drewN | apply Kd.R_drew)); exact HO_8.out⟩, ⟨bq⟩⟩
                    · rw [if_neg c17] at H
                      have c17b0 : decide (0 < x1_2) = false := decide_eq_false c17
                      clear c17
                      replace H := Option.bind_eq_some_iff.mp H
                      obtain ⟨t469, A330, H⟩ := H
                      replace H : (if (t469.size : Int) > 20000 then (some ((⟨#[]⟩ : ByteArray), 4)) else (some (t469, 0))) = some (r1, r2) := H
                      have A33 := Aside0.mk A330
                      clear A330
                      by_cases c34 : (t469.size : Int) > 20000
                      · rw [if_pos c34] at H
                        have c34b0 : decide (20000 < (t469.size : Int)) = true := decide_eq_true c34
                        have c34b1 : decide (20000 < t469.size) = true := decide_eq_true (by omega)
                        clear c34
                        simp only [Option.some.injEq, Prod.mk.injEq] at H
                        obtain ⟨rfl, rfl⟩ := H
                        obtain ⟨Ao35, co35, eo35⟩ := Kd.R_slice HO_7.out
                        subst eo35
                        go_wp2_with (first | ((with_reducible refine gate_callee (f := 62) rfl ?_); refine goesL_ (some 49) rfl rfl Tryz.func62 (by kernel_rfl) rfl #[.slice Ao35 x7_2.length co35] rfl mq ?_; (with_reducible refine (decimal_pieces_text.calls k2 _ _ x7_2 t469 _ ?side1 ?side2 A33.out).mono ?_); (case side1 => repeat (first | exact (Kd.R_reads' HO_7.out).2.2 | (with_reducible refine Kd.C_alloc ?_ _) | (with_reducible refine Kd.C_drewN ?_ _) | (with_reducible refine Kd.C_drew ?_))); (case side2 => exact (Kd.R_reads' HO_7.out).2.1); rintro e w36 ⟨rfl, hb⟩; refine ⟨_, rfl, ?_⟩; have n0_ := Aside0.mk (Kd.R_below (by (with_reducible repeat (first | apply Kd.R_alloc | apply Kd.R_drewN | apply Kd.R_drew)); exact HO_7.out) hb); have n1_ := Aside0.mk (Kd.R_below (by (with_reducible repeat (first | apply Kd.R_alloc | apply Kd.R_drewN | apply Kd.R_drew)); exact HO_8.out) hb); have n2_ := Aside0.mk (below_step bq hb); clear HO_7; clear HO_8; clear HB; have HO_7 := n0_; have HO_8 := n1_; have HB := n2_; clear n0_ n1_ n2_; (try clear hb); (try clear hb2); (try clear hk); (try clear hi)))
                        go_ret2
                        exact ⟨eq_, bq⟩
                      · rw [if_neg c34] at H
                        have c34b0 : decide (20000 < (t469.size : Int)) = false := decide_eq_false c34
                        have c34b1 : decide (20000 < t469.size) = false := decide_eq_false (by omega)
                        clear c34
                        simp only [Option.some.injEq, Prod.mk.injEq] at H
                        obtain ⟨rfl, rfl⟩ := H
                        obtain ⟨Ao37, co37, eo37⟩ := Kd.R_slice HO_7.out
                        subst eo37
                        go_wp2_with (first | ((with_reducible refine gate_callee (f := 62) rfl ?_); refine goesL_ (some 49) rfl rfl Tryz.func62 (by kernel_rfl) rfl #[.slice Ao37 x7_2.length co37] rfl mq ?_; (with_reducible refine (decimal_pieces_text.calls k2 _ _ x7_2 t469 _ ?side1 ?side2 A33.out).mono ?_); (case side1 => repeat (first | exact (Kd.R_reads' HO_7.out).2.2 | (with_reducible refine Kd.C_alloc ?_ _) | (with_reducible refine Kd.C_drewN ?_ _) | (with_reducible refine Kd.C_drew ?_))); (case side2 => exact (Kd.R_reads' HO_7.out).2.1); rintro e w38 ⟨rfl, hb⟩; refine ⟨_, rfl, ?_⟩; have n0_ := Aside0.mk (Kd.R_below (by (with_reducible repeat (first | apply Kd.R_alloc | apply Kd.R_drewN | apply Kd.R_drew)); exact HO_7.out) hb); have n1_ := Aside0.mk (Kd.R_below (by (with_reducible repeat (first | apply Kd.R_alloc | apply Kd.R_drewN | apply Kd.R_drew)); exact HO_8.out) hb); have n2_ := Aside0.mk (below_step bq hb); clear HO_7; clear HO_8; clear HB; have HO_7 := n0_; have HO_8 := n1_; have HB := n2_; clear n0_ n1_ n2_; (try clear hb); (try clear hb2); (try clear hk); (try clear hi)))
                        go_ret2
                        exact ⟨eq_, bq⟩
end Go.Proofs.YtgicckcahhlbjaaGreatDoor.P
