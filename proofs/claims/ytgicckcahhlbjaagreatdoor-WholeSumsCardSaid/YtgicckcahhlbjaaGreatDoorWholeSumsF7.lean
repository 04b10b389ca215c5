/- Functions of the program, as functions of Lean, and the walks that show that the code answers as they do: written by a program. Conditions: those of each theorem. -/
import Derived.Test.YtgicckcahhlbjaaGreatDoorWholeSumsF6
namespace Go.Proofs.YtgicckcahhlbjaaGreatDoor.P
open Go.RowKit Go.Proofs.YtgicckcahhlbjaaGreatDoorW.PrintWords Go.Proofs.YtgicckcahhlbjaaGreatDoorW.PrintLast Go.Proofs.YtgicckcahhlbjaaGreatDoorW.PrintMore
attribute [local go_sem] gtr_text max2_int min2_int max_two min_two max_three min_three max_four min_four
set_option linter.unusedVariables false
set_option linter.unusedSimpArgs false
mutual
def schismaref02_Parse.j0 : Nat → ByteArray → Bool → Option (ByteArray × Int)
  | 0, _, _ => none
  | k + 1, x0, x4 => if x0.toList = ([] : List UInt8) then (some ((⟨#[]⟩ : ByteArray), 15)) else (schismaref02_Parse.l0 k x0 x4 0)
def schismaref02_Parse.l0 : Nat → ByteArray → Bool → Int → Option (ByteArray × Int)
  | 0, _, _, _ => none
  | k + 1, x0, x4, x5 => if x5 < (x0.size : Int) then (if 0 ≤ x5 then (if (bt x0 x5) < 48 then (some ((⟨#[]⟩ : ByteArray), 15)) else (if (bt x0 x5) > 57 then (some ((⟨#[]⟩ : ByteArray), 15)) else (schismaref02_Parse.l0 k x0 x4 (wrap64 (x5 + 1))))) else (none)) else (schismaref02_Parse.l1 k x0 x4)
def schismaref02_Parse.j3 : Nat → ByteArray → Bool → Option (ByteArray × Int)
  | 0, _, _ => none
  | k + 1, x0, x4 => if (x0.size : Int) > 400 then (some ((⟨#[]⟩ : ByteArray), 4)) else (if x4 = true then (if x0.toList = ([48] : List UInt8) then (some (x0, 0)) else (if 1 + x0.size ≤ 9223372036854775807 then (some ((⟨#[45]⟩ : ByteArray) ++ x0, 0)) else (none))) else (some (x0, 0)))
def schismaref02_Parse.l1 : Nat → ByteArray → Bool → Option (ByteArray × Int)
  | 0, _, _ => none
  | k + 1, x0, x4 => if (x0.size : Int) > 1 then (if 0 < (x0.size : Int) then (if (bt x0 0) = 48 then (if 1 ≤ (x0.size : Int) then (schismaref02_Parse.l1 k (x0.extract 1 x0.size) x4) else (none)) else (schismaref02_Parse.j3 k x0 x4)) else (none)) else (schismaref02_Parse.j3 k x0 x4)
end
def schismaref02_Parse.f (k : Nat) (a0 : ByteArray) : Option (ByteArray × Int) := if a0.toList = ([] : List UInt8) then (some ((⟨#[]⟩ : ByteArray), 13)) else (if 0 < (a0.size : Int) then (if (bt a0 0) = 45 then (if 1 ≤ (a0.size : Int) then (schismaref02_Parse.j0 k (a0.extract 1 a0.size) ((bt a0 0) == 45)) else (none)) else (schismaref02_Parse.j0 k a0 ((bt a0 0) == 45))) else (none))
theorem schismaref02_Parse.mono_l : ∀ k, (∀ y0 y1, LeO (schismaref02_Parse.j0 k y0 y1) (schismaref02_Parse.j0 (k + 1) y0 y1)) ∧ (∀ y0 y1 y2, LeO (schismaref02_Parse.l0 k y0 y1 y2) (schismaref02_Parse.l0 (k + 1) y0 y1 y2)) ∧ (∀ y0 y1, LeO (schismaref02_Parse.j3 k y0 y1) (schismaref02_Parse.j3 (k + 1) y0 y1)) ∧ (∀ y0 y1, LeO (schismaref02_Parse.l1 k y0 y1) (schismaref02_Parse.l1 (k + 1) y0 y1))
  | 0 => ⟨fun _ _ r h => by simp [schismaref02_Parse.j0] at h, fun _ _ _ r h => by simp [schismaref02_Parse.l0] at h, fun _ _ r h => by simp [schismaref02_Parse.j3] at h, fun _ _ r h => by simp [schismaref02_Parse.l1] at h⟩
  | k + 1 => by
    obtain ⟨ih0, ih1, ih2, ih3⟩ := schismaref02_Parse.mono_l k
    refine ⟨?_, ?_, ?_, ?_⟩
    · intro y0 y1
      unfold schismaref02_Parse.j0
      repeat' first
      | (with_reducible exact ih0 _ _)
      | (with_reducible exact ih1 _ _ _)
      | (with_reducible exact ih2 _ _)
      | (with_reducible exact ih3 _ _)
      | (with_reducible exact LeO.refl _)
      | (with_reducible exact LeO.none _)
      | (with_reducible refine LeO.ite ?_ ?_)
      | (with_reducible refine LeO.bind ?_ (fun _ => ?_))
      | exact ih0 _ _
      | exact ih1 _ _ _
      | exact ih2 _ _
      | exact ih3 _ _
      | exact LeO.none _
      | refine LeO.ite ?_ ?_
      | refine LeO.bind ?_ (fun _ => ?_)
    · intro y0 y1 y2
      unfold schismaref02_Parse.l0
      repeat' first
      | (with_reducible exact ih0 _ _)
      | (with_reducible exact ih1 _ _ _)
      | (with_reducible exact ih2 _ _)
      | (with_reducible exact ih3 _ _)
      | (with_reducible exact LeO.refl _)
      | (with_reducible exact LeO.none _)
      | (with_reducible refine LeO.ite ?_ ?_)
      | (with_reducible refine LeO.bind ?_ (fun _ => ?_))
      | exact ih0 _ _
      | exact ih1 _ _ _
      | exact ih2 _ _
      | exact ih3 _ _
      | exact LeO.none _
      | refine LeO.ite ?_ ?_
      | refine LeO.bind ?_ (fun _ => ?_)
    · intro y0 y1
      unfold schismaref02_Parse.j3
      repeat' first
      | (with_reducible exact ih0 _ _)
      | (with_reducible exact ih1 _ _ _)
      | (with_reducible exact ih2 _ _)
      | (with_reducible exact ih3 _ _)
      | (with_reducible exact LeO.refl _)
      | (with_reducible exact LeO.none _)
      | (with_reducible refine LeO.ite ?_ ?_)
      | (with_reducible refine LeO.bind ?_ (fun _ => ?_))
      | exact ih0 _ _
      | exact ih1 _ _ _
      | exact ih2 _ _
      | exact ih3 _ _
      | exact LeO.none _
      | refine LeO.ite ?_ ?_
      | refine LeO.bind ?_ (fun _ => ?_)
    · intro y0 y1
      unfold schismaref02_Parse.l1
      repeat' first
      | (with_reducible exact ih0 _ _)
      | (with_reducible exact ih1 _ _ _)
      | (with_reducible exact ih2 _ _)
      | (with_reducible exact ih3 _ _)
      | (with_reducible exact LeO.refl _)
      | (with_reducible exact LeO.none _)
      | (with_reducible refine LeO.ite ?_ ?_)
      | (with_reducible refine LeO.bind ?_ (fun _ => ?_))
      | exact ih0 _ _
      | exact ih1 _ _ _
      | exact ih2 _ _
      | exact ih3 _ _
      | exact LeO.none _
      | refine LeO.ite ?_ ?_
      | refine LeO.bind ?_ (fun _ => ?_)
theorem schismaref02_Parse.mono : ∀ a0 k, LeO (schismaref02_Parse.f k a0) (schismaref02_Parse.f (k + 1) a0) := by
  intro a0 k
  obtain ⟨ih0, ih1, ih2, ih3⟩ := schismaref02_Parse.mono_l k
  unfold schismaref02_Parse.f
  repeat' first
      | (with_reducible exact ih0 _ _)
      | (with_reducible exact ih1 _ _ _)
      | (with_reducible exact ih2 _ _)
      | (with_reducible exact ih3 _ _)
      | (with_reducible exact LeO.refl _)
      | (with_reducible exact LeO.none _)
      | (with_reducible refine LeO.ite ?_ ?_)
      | (with_reducible refine LeO.bind ?_ (fun _ => ?_))
      | exact ih0 _ _
      | exact ih1 _ _ _
      | exact ih2 _ _
      | exact ih3 _ _
      | exact LeO.none _
      | refine LeO.ite ?_ ?_
      | refine LeO.bind ?_ (fun _ => ?_)
set_option maxHeartbeats 8000000 in
set_option maxRecDepth 100000 in
theorem schismaref02_Parse.calls (k : Nat) (a0 : ByteArray) (r1 : ByteArray) (r2 : Int) (w : World) (h : schismaref02_Parse.f k a0 = some (r1, r2)) :
    Calls Tryz.prog 27 #[.string a0] w fun e w' => e = .returned (.tuple #[.string r1, .int .i64 r2]) ∧ Drawn0 w w' := by
  have H : (if a0.toList = ([] : List UInt8) then (some ((⟨#[]⟩ : ByteArray), 13)) else (if 0 < (a0.size : Int) then (if (bt a0 0) = 45 then (if 1 ≤ (a0.size : Int) then (schismaref02_Parse.j0 k (a0.extract 1 a0.size) ((bt a0 0) == 45)) else (none)) else (schismaref02_Parse.j0 k a0 ((bt a0 0) == 45))) else (none))) = some (r1, r2) := h
  clear h
  by_cases c2 : a0.toList = ([] : List UInt8)
  · rw [if_pos c2] at H
    have c2b0 : (a0.toList == ([] : List UInt8)) = true := beq_iff_eq.mpr c2
    have c2b1 : (a0.toList != ([] : List UInt8)) = false := bne_eq_false_iff_eq.mpr c2
    clear c2
    simp only [Option.some.injEq, Prod.mk.injEq] at H
    obtain ⟨rfl, rfl⟩ := H
    go_enter Tryz.func27, Tryz.ntmps27
    go_wp2
    go_ret2
    exact ⟨by first | rfl | (simp; done) | (simp [wrap64]; done) | (simp [*]; done), by repeat (first | exact Drawn0.refl _ | apply Drawn0.step)⟩
  · rw [if_neg c2] at H
    have c2b0 : (a0.toList == ([] : List UInt8)) = false := beq_eq_false_iff_ne.mpr c2
    have c2b1 : (a0.toList != ([] : List UInt8)) = true := bne_iff_ne.mpr c2
    by_cases c3 : 0 < (a0.size : Int)
    · rw [if_pos c3] at H
      have c3b0 : decide (0 < (a0.size : Int)) = true := decide_eq_true c3
      have c3b1 : decide (0 < a0.size) = true := decide_eq_true (by omega)
      clear c3
      have HC5 := Aside0.mk H
      clear H
      have p4 : 0 ≤ (0 : Int) := (by omega)
      have q4 : 0 < a0.size := (by have : (0 : Int) < (a0.size : Int) := of_decide_eq_true (by first | (with_reducible assumption) | assumption); omega)
      have hx4 : ∀ h : 0 < a0.size, ((a0[0]'h).toNat : Int) = bt a0 0 := bt_at a0 0
      clear p4
      have qi4 : (0 < (a0.size : Int)) = True := eq_true (of_decide_eq_true (by first | (with_reducible assumption) | assumption))
      replace q4 := eq_true q4
      go_enter Tryz.func27, Tryz.ntmps27
      go_upto_if 11 with (fail)
      go_cut [0] (fun v0 wc => ∃ (kq : Nat) (x0_4 : ByteArray), v0 = .string x0_4 ∧ Aside0 (schismaref02_Parse.j0 kq x0_4 ((bt a0 0) == 45) = some (r1, r2)) ∧ Aside0 (kq ≤ k) ∧ Drawn0 w wc)
      case first =>
        have H := HC5.out
        clear HC5
        by_cases c6 : (bt a0 0) = 45
        · rw [if_pos c6] at H
          have c6b0 : ((bt a0 0) == 45) = true := beq_iff_eq.mpr c6
          have c6b1 : ((bt a0 0) != 45) = false := bne_eq_false_iff_eq.mpr c6
          clear c6
          (first | rw [c6b0] | (simp only [i64_w, i32_w]; rw [c6b0]) | skip)
          try simp only [c6b0] at *
          by_cases c7 : 1 ≤ (a0.size : Int)
          · rw [if_pos c7] at H
            have c7b0 := eq_true c7
            have c7b1 : decide (1 ≤ (a0.size : Int)) = true := decide_eq_true c7
            clear c7
            have H' := Aside0.mk H
            clear H
            go_wp2
            go_meet
            case rel => exact ⟨_, (a0.extract 1 a0.size), (by first | rfl | (simp; done) | (simp [*]; done)), H', ⟨by first | omega | exact Nat.le_refl _⟩, by repeat (first | exact Drawn0.refl _ | apply Drawn0.step)⟩
          · rw [if_neg c7] at H
            exact absurd H (by simp)
        · rw [if_neg c6] at H
          have c6b0 : ((bt a0 0) == 45) = false := beq_eq_false_iff_ne.mpr c6
          have c6b1 : ((bt a0 0) != 45) = true := bne_iff_ne.mpr c6
          (first | rw [c6b0] | (simp only [i64_w, i32_w]; rw [c6b0]) | skip)
          try simp only [c6b0] at *
          have H' := Aside0.mk H
          clear H
          go_wp2
          go_meet
          case rel => exact ⟨_, (a0), (by first | rfl | (simp; done) | (simp [*]; done)), H', ⟨by first | omega | exact Nat.le_refl _⟩, by repeat (first | exact Drawn0.refl _ | apply Drawn0.step)⟩
      case rest =>
        clear HC5
        try clear c2
        try clear c2b0
        try clear c2b1
        try clear p2
        try clear c3
        try clear c3b0
        try clear c3b1
        try clear p4
        try clear q4
        try clear hx4
        try clear qi4
        try clear c6
        try clear c6b0
        try clear c6b1
        try clear c7
        try clear c7b0
        try clear c7b1
        try clear p4
        try clear q4
        obtain ⟨kq, x0_4, rfl, HA, HJ4, ⟨mc4, rfl⟩⟩ := hcut
        cases kq with
        | zero => exact absurd HA.out (by simp [schismaref02_Parse.j0])
        | succ kj4 =>
          have H := HA.out
          clear HA
          simp only [schismaref02_Parse.j0] at H
          by_cases c8 : x0_4.toList = ([] : List UInt8)
          · rw [if_pos c8] at H
            have c8b0 : (x0_4.toList == ([] : List UInt8)) = true := beq_iff_eq.mpr c8
            have c8b1 : (x0_4.toList != ([] : List UInt8)) = false := bne_eq_false_iff_eq.mpr c8
            clear c8
            simp only [Option.some.injEq, Prod.mk.injEq] at H
            obtain ⟨rfl, rfl⟩ := H
            go_wp2
            go_ret2
            exact ⟨by first | rfl | (simp; done) | (simp [wrap64]; done) | (simp [*]; done), by repeat (first | exact Drawn0.refl _ | apply Drawn0.step)⟩
          · rw [if_neg c8] at H
            have c8b0 : (x0_4.toList == ([] : List UInt8)) = false := beq_eq_false_iff_ne.mpr c8
            have c8b1 : (x0_4.toList != ([] : List UInt8)) = true := bne_iff_ne.mpr c8
            have H' := Aside0.mk H
            clear H
            go_wp2
            go_loopg [5] kj4 (fun kq v5 w' => ∃ (x5_2 : Int), v5 = .int .i64 x5_2 ∧ Aside0 (schismaref02_Parse.l0 kq x0_4 ((bt a0 0) == 45) x5_2 = some (r1, r2)) ∧ Aside0 (kq ≤ kj4) ∧ Drawn0 w w')
            case atStart => exact ⟨(0), (by first | rfl | (simp; done) | (simp [*]; done)), H', ⟨Nat.le_refl _⟩, by repeat (first | exact Drawn0.refl _ | apply Drawn0.step)⟩
            case round =>
              clear H'
              try clear c2
              try clear c2b0
              try clear c2b1
              try clear p2
              try clear c3
              try clear c3b0
              try clear c3b1
              try clear c4
              try clear p4
              try clear q4
              try clear hx4
              try clear qi4
              try clear c6
              try clear c6b0
              try clear c6b1
              try clear c7
              try clear c7b0
              try clear c7b1
              try clear c8
              try clear c8b0
              try clear c8b1
              try clear p2
              try clear p4
              try clear q4
              obtain ⟨x5_2, rfl, HA, HK2, ⟨m2, rfl⟩⟩ := hrel
              cases gk with
              | zero => exact absurd HA.out (by simp [schismaref02_Parse.l0])
              | succ k2 =>
                have H := HA.out
                clear HA
                simp only [schismaref02_Parse.l0] at H
                by_cases c9 : x5_2 < (x0_4.size : Int)
                · rw [if_pos c9] at H
                  have c9b0 : decide (x5_2 < (x0_4.size : Int)) = true := decide_eq_true c9
                  clear c9
                  by_cases c10 : 0 ≤ x5_2
                  · rw [if_pos c10] at H
                    have c10b0 : decide (0 ≤ x5_2) = true := decide_eq_true c10
                    clear c10
                    by_cases c12 : (bt x0_4 x5_2) < 48
                    · rw [if_pos c12] at H
                      have c12b0 : decide ((bt x0_4 x5_2) < 48) = true := decide_eq_true c12
                      clear c12
                      simp only [Option.some.injEq, Prod.mk.injEq] at H
                      obtain ⟨rfl, rfl⟩ := H
                      have p11 : 0 ≤ (x5_2 : Int) := of_decide_eq_true (by first | (with_reducible assumption) | assumption)
                      have q11 : x5_2 < (x0_4.size : Int) := of_decide_eq_true (by first | (with_reducible assumption) | assumption)
                      have hx11 := bt_at x0_4 x5_2
                      replace p11 := eq_true p11
                      replace q11 := eq_true q11
                      go_wp2
                      go_ret2
                      exact ⟨by first | rfl | (simp; done) | (simp [wrap64]; done) | (simp [*]; done), by repeat (first | exact Drawn0.refl _ | apply Drawn0.step)⟩
                    · rw [if_neg c12] at H
                      have c12b0 : decide ((bt x0_4 x5_2) < 48) = false := decide_eq_false c12
                      clear c12
                      by_cases c14 : (bt x0_4 x5_2) > 57
                      · rw [if_pos c14] at H
                        have c14b0 : decide (57 < (bt x0_4 x5_2)) = true := decide_eq_true c14
                        clear c14
                        simp only [Option.some.injEq, Prod.mk.injEq] at H
                        obtain ⟨rfl, rfl⟩ := H
                        have p11 : 0 ≤ (x5_2 : Int) := of_decide_eq_true (by first | (with_reducible assumption) | assumption)
                        have q11 : x5_2 < (x0_4.size : Int) := of_decide_eq_true (by first | (with_reducible assumption) | assumption)
                        have hx11 := bt_at x0_4 x5_2
                        replace p11 := eq_true p11
                        replace q11 := eq_true q11
                        have p13 : 0 ≤ (x5_2 : Int) := of_decide_eq_true (by first | (with_reducible assumption) | assumption)
                        have q13 : x5_2 < (x0_4.size : Int) := of_decide_eq_true (by first | (with_reducible assumption) | assumption)
                        have hx13 := bt_at x0_4 x5_2
                        replace p13 := eq_true p13
                        replace q13 := eq_true q13
                        go_wp2
                        go_ret2
                        exact ⟨by first | rfl | (simp; done) | (simp [wrap64]; done) | (simp [*]; done), by repeat (first | exact Drawn0.refl _ | apply Drawn0.step)⟩
                      · rw [if_neg c14] at H
                        have c14b0 : decide (57 < (bt x0_4 x5_2)) = false := decide_eq_false c14
                        clear c14
                        have H' := Aside0.mk H
                        clear H
                        have p11 : 0 ≤ (x5_2 : Int) := of_decide_eq_true (by first | (with_reducible assumption) | assumption)
                        have q11 : x5_2 < (x0_4.size : Int) := of_decide_eq_true (by first | (with_reducible assumption) | assumption)
                        have hx11 := bt_at x0_4 x5_2
                        replace p11 := eq_true p11
                        replace q11 := eq_true q11
                        have p13 : 0 ≤ (x5_2 : Int) := of_decide_eq_true (by first | (with_reducible assumption) | assumption)
                        have q13 : x5_2 < (x0_4.size : Int) := of_decide_eq_true (by first | (with_reducible assumption) | assumption)
                        have hx13 := bt_at x0_4 x5_2
                        replace p13 := eq_true p13
                        replace q13 := eq_true q13
                        go_wp2
                        go_roundg k2
                        case measure => have := HJ4.out; have := HK2.out; omega
                        case rel => exact ⟨(wrap64 (x5_2 + 1)), (by first | rfl | (simp; done) | (simp [*]; done)), H', ⟨by have := HJ4.out; have := HK2.out; omega⟩, by repeat (first | exact Drawn0.refl _ | apply Drawn0.step)⟩
                  · rw [if_neg c10] at H
                    exact absurd H (by simp)
                · rw [if_neg c9] at H
                  have c9b0 : decide (x5_2 < (x0_4.size : Int)) = false := decide_eq_false c9
                  clear c9
                  have HC15 := Aside0.mk H
                  clear H
                  go_upto_block 2 with (fail)
                  go_cut [0] (fun v0 wc => ∃ (kq : Nat) (x0_14 : ByteArray), v0 = .string x0_14 ∧ Aside0 (schismaref02_Parse.j3 kq x0_14 ((bt a0 0) == 45) = some (r1, r2)) ∧ Aside0 (kq ≤ k2) ∧ Drawn0 w wc)
                  case first =>
                    have H := HC15.out
                    clear HC15
                    have H' := Aside0.mk H
                    clear H
                    go_wp2
                    go_loopg [0] k2 (fun kq v0 w' => ∃ (x0_3 : ByteArray), v0 = .string x0_3 ∧ Aside0 (schismaref02_Parse.l1 kq x0_3 ((bt a0 0) == 45) = some (r1, r2)) ∧ Aside0 (kq ≤ k2) ∧ Drawn0 w w')
                    case atStart => exact ⟨(x0_4), (by first | rfl | (simp; done) | (simp [*]; done)), H', ⟨Nat.le_refl _⟩, by repeat (first | exact Drawn0.refl _ | apply Drawn0.step)⟩
                    case round =>
                      clear H'
                      try clear c1
                      try clear p1
                      try clear q1
                      try clear hx1
                      try clear c2
                      try clear c2b0
                      try clear c2b1
                      try clear p2
                      try clear c3
                      try clear c3b0
                      try clear c3b1
                      try clear c4
                      try clear p4
                      try clear q4
                      try clear hx4
                      try clear qi4
                      try clear c6
                      try clear c6b0
                      try clear c6b1
                      try clear p6
                      try clear c7
                      try clear c7b0
                      try clear c7b1
                      try clear c8
                      try clear c8b0
                      try clear c8b1
                      try clear c9
                      try clear c9b0
                      try clear c10
                      try clear c10b0
                      try clear p11
                      try clear q11
                      try clear hx11
                      try clear c12
                      try clear c12b0
                      try clear p13
                      try clear q13
                      try clear hx13
                      try clear c14
                      try clear c14b0
                      try clear p11
                      try clear p13
                      try clear p2
                      try clear p4
                      try clear q11
                      try clear q13
                      try clear q4
                      obtain ⟨x0_3, rfl, HA, HK3, ⟨m3, rfl⟩⟩ := hrel
                      cases gk with
                      | zero => exact absurd HA.out (by simp [schismaref02_Parse.l1])
                      | succ k3 =>
                        have H := HA.out
                        clear HA
                        simp only [schismaref02_Parse.l1] at H
                        by_cases c16 : (x0_3.size : Int) > 1
                        · rw [if_pos c16] at H
                          have c16b0 : decide (1 < (x0_3.size : Int)) = true := decide_eq_true c16
                          have c16b1 : decide (1 < x0_3.size) = true := decide_eq_true (by omega)
                          clear c16
                          (first | rw [c16b0] | (simp only [i64_w, i32_w]; rw [c16b0]) | skip)
                          by_cases c17 : 0 < (x0_3.size : Int)
                          · rw [if_pos c17] at H
                            have c17b0 : decide (0 < (x0_3.size : Int)) = true := decide_eq_true c17
                            have c17b1 : decide (0 < x0_3.size) = true := decide_eq_true (by omega)
                            clear c17
                            by_cases c19 : (bt x0_3 0) = 48
                            · rw [if_pos c19] at H
                              have c19b0 : ((bt x0_3 0) == 48) = true := beq_iff_eq.mpr c19
                              have c19b1 : ((bt x0_3 0) != 48) = false := bne_eq_false_iff_eq.mpr c19
                              clear c19
                              by_cases c20 : 1 ≤ (x0_3.size : Int)
                              · rw [if_pos c20] at H
                                have c20b0 := eq_true c20
                                have c20b1 : decide (1 ≤ (x0_3.size : Int)) = true := decide_eq_true c20
                                clear c20
                                have H' := Aside0.mk H
                                clear H
                                have p18 : 0 ≤ (0 : Int) := (by omega)
                                have q18 : 0 < x0_3.size := (by have : (0 : Int) < (x0_3.size : Int) := of_decide_eq_true (by first | (with_reducible assumption) | assumption); omega)
                                have hx18 : ∀ h : 0 < x0_3.size, ((x0_3[0]'h).toNat : Int) = bt x0_3 0 := bt_at x0_3 0
                                clear p18
                                have qi18 : (0 < (x0_3.size : Int)) = True := eq_true (of_decide_eq_true (by first | (with_reducible assumption) | assumption))
                                replace q18 := eq_true q18
                                go_wp2
                                go_roundg k3
                                case measure => have := HJ4.out; have := HK2.out; have := HK3.out; omega
                                case rel => exact ⟨(x0_3.extract 1 x0_3.size), (by first | rfl | (simp; done) | (simp [*]; done)), H', ⟨by have := HJ4.out; have := HK2.out; have := HK3.out; omega⟩, by repeat (first | exact Drawn0.refl _ | apply Drawn0.step)⟩
                              · rw [if_neg c20] at H
                                exact absurd H (by simp)
                            · rw [if_neg c19] at H
                              have c19b0 : ((bt x0_3 0) == 48) = false := beq_eq_false_iff_ne.mpr c19
                              have c19b1 : ((bt x0_3 0) != 48) = true := bne_iff_ne.mpr c19
                              have H' := Aside0.mk H
                              clear H
                              have p18 : 0 ≤ (0 : Int) := (by omega)
                              have q18 : 0 < x0_3.size := (by have : (0 : Int) < (x0_3.size : Int) := of_decide_eq_true (by first | (with_reducible assumption) | assumption); omega)
                              have hx18 : ∀ h : 0 < x0_3.size, ((x0_3[0]'h).toNat : Int) = bt x0_3 0 := bt_at x0_3 0
                              clear p18
                              have qi18 : (0 < (x0_3.size : Int)) = True := eq_true (of_decide_eq_true (by first | (with_reducible assumption) | assumption))
                              replace q18 := eq_true q18
                              go_wp2
                              go_meet
                              case rel => exact ⟨_, (x0_3), (by first | rfl | (simp; done) | (simp [*]; done)), H', ⟨by have := HJ4.out; have := HK2.out; have := HK3.out; first | omega | exact Nat.le_refl _⟩, by repeat (first | exact Drawn0.refl _ | apply Drawn0.step)⟩
                          · rw [if_neg c17] at H
                            exact absurd H (by simp)
                        · rw [if_neg c16] at H
                          have c16b0 : decide (1 < (x0_3.size : Int)) = false := decide_eq_false c16
                          have c16b1 : decide (1 < x0_3.size) = false := decide_eq_false (by omega)
                          clear c16
                          (first | rw [c16b0] | (simp only [i64_w, i32_w]; rw [c16b0]) | skip)
                          have H' := Aside0.mk H
                          clear H
                          go_wp2
                          go_meet
                          case rel => exact ⟨_, (x0_3), (by first | rfl | (simp; done) | (simp [*]; done)), H', ⟨by have := HJ4.out; have := HK2.out; have := HK3.out; first | omega | exact Nat.le_refl _⟩, by repeat (first | exact Drawn0.refl _ | apply Drawn0.step)⟩
                  case rest =>
                    clear HC15
                    try clear c1
                    try clear p1
                    try clear q1
                    try clear hx1
                    try clear qi1
                    try clear c2
                    try clear c2b0
                    try clear c2b1
                    try clear p2
                    try clear c3
                    try clear c3b0
                    try clear c3b1
                    try clear c4
                    try clear p4
                    try clear q4
                    try clear hx4
                    try clear qi4
                    try clear c6
                    try clear c6b0
                    try clear c6b1
                    try clear p6
                    try clear c7
                    try clear c7b0
                    try clear c7b1
                    try clear c8
                    try clear c8b0
                    try clear c8b1
                    try clear c9
                    try clear c9b0
                    try clear c10
                    try clear c10b0
                    try clear p11
                    try clear q11
                    try clear hx11
                    try clear c12
                    try clear c12b0
                    try clear p13
                    try clear q13
                    try clear hx13
                    try clear c14
                    try clear c14b0
                    try clear c16
                    try clear c16b0
                    try clear c16b1
                    try clear c17
                    try clear c17b0
                    try clear c17b1
                    try clear p18
                    try clear q18
                    try clear hx18
                    try clear qi18
                    try clear c19
                    try clear c19b0
                    try clear c19b1
                    try clear c20
                    try clear c20b0
                    try clear c20b1
                    try clear p1
                    try clear p11
                    try clear p13
                    try clear p18
                    try clear p2
                    try clear p4
                    try clear p6
                    try clear q1
                    try clear q11
                    try clear q13
                    try clear q18
                    try clear q4
                    obtain ⟨kq, x0_14, rfl, HA, HJ14, ⟨mc14, rfl⟩⟩ := hcut
                    cases kq with
                    | zero => exact absurd HA.out (by simp [schismaref02_Parse.j3])
                    | succ kj14 =>
                      have H := HA.out
                      clear HA
                      simp only [schismaref02_Parse.j3] at H
                      by_cases c21 : (x0_14.size : Int) > 400
                      · rw [if_pos c21] at H
                        have c21b0 : decide (400 < (x0_14.size : Int)) = true := decide_eq_true c21
                        have c21b1 : decide (400 < x0_14.size) = true := decide_eq_true (by omega)
                        clear c21
                        simp only [Option.some.injEq, Prod.mk.injEq] at H
                        obtain ⟨rfl, rfl⟩ := H
                        go_wp2
                        go_ret2
                        exact ⟨by first | rfl | (simp; done) | (simp [wrap64]; done) | (simp [*]; done), by repeat (first | exact Drawn0.refl _ | apply Drawn0.step)⟩
                      · rw [if_neg c21] at H
                        have c21b0 : decide (400 < (x0_14.size : Int)) = false := decide_eq_false c21
                        have c21b1 : decide (400 < x0_14.size) = false := decide_eq_false (by omega)
                        clear c21
                        by_cases c22 : ((bt a0 0) == 45) = true
                        · rw [if_pos c22] at H
                          have c22b0 : ((bt a0 0) == 45) = true := c22
                          (try (have c22b1 : decide ((bt a0 0) = 45) = true := by simpa using c22))
                          (try (have c22b2 : ((bt a0 0) == 45) = true := by simpa using c22))
                          clear c22
                          by_cases c23 : x0_14.toList = ([48] : List UInt8)
                          · rw [if_pos c23] at H
                            have c23b0 : (x0_14.toList == ([48] : List UInt8)) = true := beq_iff_eq.mpr c23
                            have c23b1 : (x0_14.toList != ([48] : List UInt8)) = false := bne_eq_false_iff_eq.mpr c23
                            clear c23
                            simp only [Option.some.injEq, Prod.mk.injEq] at H
                            obtain ⟨rfl, rfl⟩ := H
                            go_wp2
                            go_ret2
                            exact ⟨by first | rfl | (simp; done) | (simp [wrap64]; done) | (simp [*]; done), by repeat (first | exact Drawn0.refl _ | apply Drawn0.step)⟩
                          · rw [if_neg c23] at H
                            have c23b0 : (x0_14.toList == ([48] : List UInt8)) = false := beq_eq_false_iff_ne.mpr c23
                            have c23b1 : (x0_14.toList != ([48] : List UInt8)) = true := bne_iff_ne.mpr c23
                            by_cases c24 : 1 + x0_14.size ≤ 9223372036854775807
                            · rw [if_pos c24] at H
                              have c24b0 := eq_true c24
                              have c24b1 : decide (1 + x0_14.size ≤ 9223372036854775807) = true := decide_eq_true c24
                              try have c24b2 : (9223372036854775807 < 1 + x0_14.size) = False := eq_false (Nat.not_lt.2 c24)
                              simp only [Option.some.injEq, Prod.mk.injEq] at H
                              obtain ⟨rfl, rfl⟩ := H
                              go_wp2
                              go_ret2
                              exact ⟨by first | rfl | (simp; done) | (simp [wrap64]; done) | (simp [*]; done), by repeat (first | exact Drawn0.refl _ | apply Drawn0.step)⟩
                            · rw [if_neg c24] at H
                              exact absurd H (by simp)
                        · rw [if_neg c22] at H
                          have c22b0 : ((bt a0 0) == 45) = false := by simpa using c22
                          (try (have c22b1 : decide ((bt a0 0) = 45) = false := by simpa using c22))
                          (try (have c22b2 : ((bt a0 0) == 45) = false := by simpa using c22))
                          (try (have c22b3 : ¬ ((bt a0 0) = 45) := by simpa using c22))
                          clear c22
                          simp only [Option.some.injEq, Prod.mk.injEq] at H
                          obtain ⟨rfl, rfl⟩ := H
                          go_wp2
                          go_ret2
                          exact ⟨by first | rfl | (simp; done) | (simp [wrap64]; done) | (simp [*]; done), by repeat (first | exact Drawn0.refl _ | apply Drawn0.step)⟩
    · rw [if_neg c3] at H
      exact absurd H (by simp)
mutual
def schismalaw02_Make.j1 : Nat → ByteArray → Bool → List Int → Option (ByteArray)
  | 0, _, _, _ => none
  | k + 1, x5, x436000, x436001 => if x5.toList = ([] : List UInt8) then (if x436000 = true then (if 1 + 1 ≤ 9223372036854775807 then ((schismaref02_Parse.f k ((⟨#[45]⟩ : ByteArray) ++ (⟨#[48]⟩ : ByteArray))).bind fun bt440 => (some bt440.1)) else (none)) else ((schismaref02_Parse.f k (⟨#[48]⟩ : ByteArray)).bind fun bt442 => (some bt442.1))) else (if x436000 = true then (if 1 + x5.size ≤ 9223372036854775807 then ((schismaref02_Parse.f k ((⟨#[45]⟩ : ByteArray) ++ x5)).bind fun bt444 => (some bt444.1)) else (none)) else ((schismaref02_Parse.f k x5).bind fun bt446 => (some bt446.1)))
def schismalaw02_Make.l0 : Nat → Int → ByteArray → Int → Bool → List Int → Option (ByteArray)
  | 0, _, _, _, _, _ => none
  | k + 1, x1, x5, x6, x436000, x436001 => if x6 < (x436001.length : Int) then (if x6 < x1 then (if 0 ≤ x6 then ((some (([(48 + (Int.tmod (rd x436001 x6) 10)) % 256] : List Int) : List Int)).bind fun y437 => (if x5.size + (strOfNums y437).size ≤ 9223372036854775807 then (schismalaw02_Make.l0 k x1 (x5 ++ (strOfNums y437)) (wrap64 (x6 + 1)) x436000 x436001) else (none))) else (none)) else (schismalaw02_Make.j1 k x5 x436000 x436001)) else (schismalaw02_Make.j1 k x5 x436000 x436001)
end
def schismalaw02_Make.f (k : Nat) (a0_0 : Bool) (l0_1 : List Int) (a1 : Int) : Option (ByteArray) := schismalaw02_Make.l0 k a1 (⟨#[]⟩ : ByteArray) 0 a0_0 l0_1
theorem schismalaw02_Make.mono_l : ∀ k, (∀ y0 y1 y2, LeO (schismalaw02_Make.j1 k y0 y1 y2) (schismalaw02_Make.j1 (k + 1) y0 y1 y2)) ∧ (∀ y0 y1 y2 y3 y4, LeO (schismalaw02_Make.l0 k y0 y1 y2 y3 y4) (schismalaw02_Make.l0 (k + 1) y0 y1 y2 y3 y4))
  | 0 => ⟨fun _ _ _ r h => by simp [schismalaw02_Make.j1] at h, fun _ _ _ _ _ r h => by simp [schismalaw02_Make.l0] at h⟩
  | k + 1 => by
    obtain ⟨ih0, ih1⟩ := schismalaw02_Make.mono_l k
    refine ⟨?_, ?_⟩
    · intro y0 y1 y2
      unfold schismalaw02_Make.j1
      repeat' first
      | (with_reducible exact ih0 _ _ _)
      | (with_reducible exact ih1 _ _ _ _ _)
      | (with_reducible exact schismaref02_Parse.mono _ _)
      | (with_reducible exact LeO.refl _)
      | (with_reducible exact LeO.none _)
      | (with_reducible refine LeO.ite ?_ ?_)
      | (with_reducible refine LeO.bind ?_ (fun _ => ?_))
      | exact ih0 _ _ _
      | exact ih1 _ _ _ _ _
      | exact schismaref02_Parse.mono _ _
      | exact LeO.none _
      | refine LeO.ite ?_ ?_
      | refine LeO.bind ?_ (fun _ => ?_)
    · intro y0 y1 y2 y3 y4
      unfold schismalaw02_Make.l0
      repeat' first
      | (with_reducible exact ih0 _ _ _)
      | (with_reducible exact ih1 _ _ _ _ _)
      | (with_reducible exact schismaref02_Parse.mono _ _)
      | (with_reducible exact LeO.refl _)
      | (with_reducible exact LeO.none _)
      | (with_reducible refine LeO.ite ?_ ?_)
      | (with_reducible refine LeO.bind ?_ (fun _ => ?_))
      | exact ih0 _ _ _
      | exact ih1 _ _ _ _ _
      | exact schismaref02_Parse.mono _ _
      | exact LeO.none _
      | refine LeO.ite ?_ ?_
      | refine LeO.bind ?_ (fun _ => ?_)
theorem schismalaw02_Make.mono : ∀ a0 a1 a2 k, LeO (schismalaw02_Make.f k a0 a1 a2) (schismalaw02_Make.f (k + 1) a0 a1 a2) := by
  intro a0 a1 a2 k
  obtain ⟨ih0, ih1⟩ := schismalaw02_Make.mono_l k
  unfold schismalaw02_Make.f
  repeat' first
      | (with_reducible exact ih0 _ _ _)
      | (with_reducible exact ih1 _ _ _ _ _)
      | (with_reducible exact schismaref02_Parse.mono _ _)
      | (with_reducible exact LeO.refl _)
      | (with_reducible exact LeO.none _)
      | (with_reducible refine LeO.ite ?_ ?_)
      | (with_reducible refine LeO.bind ?_ (fun _ => ?_))
      | exact ih0 _ _ _
      | exact ih1 _ _ _ _ _
      | exact schismaref02_Parse.mono _ _
      | exact LeO.none _
      | refine LeO.ite ?_ ?_
      | refine LeO.bind ?_ (fun _ => ?_)
set_option maxHeartbeats 8000000 in
set_option maxRecDepth 100000 in
theorem schismalaw02_Make.calls (k : Nat) (a0_0 : Bool) (A0_1 : Option Addr) (c0_1 : Nat) (l0_1 : List Int) (a1 : Int) (r : ByteArray) (w : World) (hr0_1 : Kd.C (Kd.int .u8) w A0_1 l0_1.length l0_1) (hc0_1 : l0_1.length ≤ c0_1) (h : schismalaw02_Make.f k a0_0 l0_1 a1 = some r) :
    Calls Tryz.prog 8 #[.agg #[.bool a0_0, .slice A0_1 l0_1.length c0_1], .int .i64 a1] w fun e w' => e = .returned (.string r) ∧ Below w.heap.size w w' := by
  have hu24 := Tryz.underlying24
  have HR0_1 := Aside0.mk hr0_1
  have HC0_1 := Aside0.mk hc0_1
  clear hr0_1 hc0_1
  have HB := Aside0.mk (Below.refl w.heap.size w)
  have H : (schismalaw02_Make.l0 k a1 (⟨#[]⟩ : ByteArray) 0 a0_0 l0_1) = some r := h
  clear h
  have HC3 := Aside0.mk H
  clear H
  go_enter Tryz.func8, Tryz.ntmps8
  go_upto_block 0 with (first | ((with_reducible refine gate_dst (N := 2) rfl ?_); refine box_event ?hg (N := 2) ?hd (cs := #[.bool a0_0, .slice A0_1 l0_1.length c0_1]) (t := 24) ?hr ?_; (case hd => rfl); (case hg => rfl); (case hr => first | (go_simp; done) | (go_simp; rfl)); intro gb435 hg w4 hbox hb; have n0_ := Aside0.mk (below_step bq hb); have n1_ := Aside0.mk (hbox); have n2_ := Aside0.mk ((by rw [hg]; exact (below_size bq) : w.heap.size ≤ gb435)); have n3_ := Aside0.mk ((by rw [hg]; exact (below_size bq) : w.heap.size ≤ gb435)); clear HB; have HB := n0_; have BK435 := n1_; have GW435 := n2_; have GE435 := n3_; clear n0_ n1_ n2_ n3_; clear hb hbox hg))
  (try simp only [Act.put, List.setIfInBounds_toArray, List.set_cons_zero, List.set_cons_succ])
  go_cut [5] (fun v5 wc => ∃ (kq : Nat) (x5_2 : ByteArray), v5 = .string x5_2 ∧ Aside0 (schismalaw02_Make.j1 kq x5_2 a0_0 l0_1 = some r) ∧ Aside0 (kq ≤ k) ∧ Aside0 (wc.heap[gb435]? = some (.cells #[.bool a0_0, (.slice A0_1 l0_1.length c0_1)] 24 (0, 0))) ∧ Aside0 (Below w.heap.size w wc))
  case first =>
    have H := HC3.out
    clear HC3
    have H' := Aside0.mk H
    clear H
    go_wp2
    go_loopg [5, 6] k (fun kq v5 v6 w' => ∃ (x5_1 : ByteArray) (x6_1 : Int), v5 = .string x5_1 ∧ v6 = .int .i64 x6_1 ∧ Aside0 (schismalaw02_Make.l0 kq a1 x5_1 x6_1 a0_0 l0_1 = some r) ∧ Aside0 (kq ≤ k) ∧ Aside0 (w'.heap[gb435]? = some (.cells #[.bool a0_0, (.slice A0_1 l0_1.length c0_1)] 24 (0, 0))) ∧ Aside0 (Below w.heap.size w w'))
    case atStart => exact ⟨((⟨#[]⟩ : ByteArray)), (0), (by first | rfl | (simp; done) | (simp [*]; done)), (by first | rfl | (simp; done) | (simp [*]; done)), H', ⟨Nat.le_refl _⟩, ⟨by (with_reducible repeat (first | refine blk_drewN ?_ _ | refine blk_drew ?_ | refine blk_alloc ?_ _)); exact BK435.out⟩, ⟨by repeat (first | (with_reducible first | exact HB.out | apply below_alloc | apply pw_below_drewN | apply below_drew1 | refine below_set ?_ GE435.out) | exact HB.out)⟩⟩
    case round =>
      clear H'
      try clear p2
      obtain ⟨x5_1, x6_1, rfl, rfl, HA, HK1, BK435, HB⟩ := hrel
      cases gk with
      | zero => exact absurd HA.out (by simp [schismalaw02_Make.l0])
      | succ k1 =>
        have H := HA.out
        clear HA
        simp only [schismalaw02_Make.l0] at H
        by_cases c5 : x6_1 < (l0_1.length : Int)
        · rw [if_pos c5] at H
          have c5b0 : decide (x6_1 < (l0_1.length : Int)) = true := decide_eq_true c5
          clear c5
          (first | rw [c5b0] | (simp only [i64_w, i32_w]; rw [c5b0]) | skip)
          by_cases c6 : x6_1 < a1
          · rw [if_pos c6] at H
            have c6b0 : decide (x6_1 < a1) = true := decide_eq_true c6
            clear c6
            by_cases c7 : 0 ≤ x6_1
            · rw [if_pos c7] at H
              have c7b0 : decide (0 ≤ x6_1) = true := decide_eq_true c7
              clear c7
              obtain ⟨y437, hy437⟩ : ∃ y_ : List Int, y_ = (([(48 + (Int.tmod (rd l0_1 x6_1) 10)) % 256] : List Int)) := ⟨_, rfl⟩
              replace H : (if x5_1.size + (strOfNums y437).size ≤ 9223372036854775807 then (schismalaw02_Make.l0 k1 a1 (x5_1 ++ (strOfNums y437)) (wrap64 (x6_1 + 1)) a0_0 l0_1) else (none)) = some r := by first | (rw [hy437]; with_reducible exact H) | (have H2_ := (Option.bind_some _ _).symm.trans H; rw [hy437]; with_reducible exact H2_) | (have H2_ := (Option.bind_some _ _).symm.trans H; with_reducible exact H2_) | with_reducible exact H | (rw [hy437]; exact H) | exact H
              have Ny437 := Aside0.mk hy437
              clear hy437
              by_cases c8 : x5_1.size + (strOfNums y437).size ≤ 9223372036854775807
              · rw [if_pos c8] at H
                have c8b0 := eq_true c8
                have c8b1 : decide (x5_1.size + (strOfNums y437).size ≤ 9223372036854775807) = true := decide_eq_true c8
                try have c8b2 : (9223372036854775807 < x5_1.size + (strOfNums y437).size) = False := eq_false (Nat.not_lt.2 c8)
                have H' := Aside0.mk H
                clear H
                have hcz9_0 : wr.cell? ⟨gb435, 0, none⟩ = some (.bool a0_0) := (blk_cell BK435.out 0).trans rfl
                have hcz9_1 : wr.cell? ⟨gb435, 1, none⟩ = some (.slice A0_1 l0_1.length c0_1) := (blk_cell BK435.out 1).trans rfl
                have hfz9_0 := blk_frozen BK435.out 0
                have hfz9_1 := blk_frozen BK435.out 1
                have p436 : 0 ≤ (x6_1 : Int) := of_decide_eq_true (by first | (with_reducible assumption) | assumption)
                have q436 : x6_1 < (l0_1.length : Int) := of_decide_eq_true (by first | (with_reducible assumption) | assumption)
                obtain ⟨ad436, e436, hx436_0⟩ := Kd.at_int HR0_1.out x6_1 p436 q436
                cases e436
                replace hx436_0 := (HB.out.cell (World.block_lt_of_cell? w _ hx436_0)).trans hx436_0
                replace p436 := eq_true p436
                replace q436 := eq_true q436
                go_wp2_with (first | ((with_reducible refine gate_dst (N := 29) rfl ?_); refine Kd.R_lit (Kd.int .u8) _ 5 ?hg (N := 29) ?hd (xs := ([(48 + (Int.tmod (rd l0_1 x6_1) 10)) % 256] : List Int)) (inner := [.int .u8 ((48 + (Int.tmod (rd l0_1 x6_1) 10)) % 256)]) (ok := fun _ => True) (okp := fun _ => True) ?hr ?hp (fun _ hk => hk) trivial (Below.refl _ _) (Nat.le_refl _) (by simp) ?_; (case hd => rfl); (case hg => rfl); (case hr => first | (go_simp; done) | (go_simp; rfl)); (case hp => exact (Reps.one (show Kd.M (Kd.int .u8) _ _ _ ((48 + (Int.tmod (rd l0_1 x6_1) 10)) % 256) [.int .u8 ((48 + (Int.tmod (rd l0_1 x6_1) 10)) % 256)] from rfl) (Reps.none _ _))); intro v438 w10 ho11 hb hg_ hnew_; clear hg_ hnew_; (first | rw [← Ny437.out] at ho11 | (simp only [Int.reduceToNat] at ho11; rw [← Ny437.out] at ho11)); have n0_ := Aside0.mk (Kd.R_lower ho11 (below_size (by repeat (first | (with_reducible first | exact HB.out | apply below_alloc | apply pw_below_drewN | apply below_drew1 | refine below_set ?_ GE435.out) | exact HB.out)))); have n1_ := Aside0.mk (blk_below (g := gb435) (o := .cells #[.bool a0_0, .slice (some ad436) l0_1.length c0_1] 24 (0, 0)) (by (with_reducible repeat (first | refine blk_drewN ?_ _ | refine blk_drew ?_ | refine blk_alloc ?_ _)); exact BK435.out) hb); have n2_ := Aside0.mk (below_step (by repeat (first | (with_reducible first | exact HB.out | apply below_alloc | apply pw_below_drewN | apply below_drew1 | refine below_set ?_ GE435.out) | exact HB.out)) hb); clear BK435; clear HB; have HO439 := n0_; have BK435 := n1_; have HB := n2_; clear n0_ n1_ n2_; clear hb ho11; have hcv12 := own_string (P := Tryz.prog) Tryz.underlying22 Tryz.underlying5 Tryz.underlying9 (Kd.own_of_R HO439.out)))
                go_roundg k1
                case measure => have := HK1.out; omega
                case rel => exact ⟨(x5_1 ++ (strOfNums y437)), (wrap64 (x6_1 + 1)), (by first | rfl | (simp; done) | (simp [*]; done)), (by first | rfl | (simp; done) | (simp [*]; done)), H', ⟨by have := HK1.out; omega⟩, ⟨by (with_reducible repeat (first | refine blk_drewN ?_ _ | refine blk_drew ?_ | refine blk_alloc ?_ _)); exact BK435.out⟩, ⟨by repeat (first | (with_reducible first | exact HB.out | apply below_alloc | apply pw_below_drewN | apply below_drew1 | refine below_set ?_ GE435.out) | exact HB.out)⟩⟩
              · rw [if_neg c8] at H
                exact absurd H (by simp)
            · rw [if_neg c7] at H
              exact absurd H (by simp)
          · rw [if_neg c6] at H
            have c6b0 : decide (x6_1 < a1) = false := decide_eq_false c6
            clear c6
            have H' := Aside0.mk H
            clear H
            have hcz13_0 : wr.cell? ⟨gb435, 0, none⟩ = some (.bool a0_0) := (blk_cell BK435.out 0).trans rfl
            have hcz13_1 : wr.cell? ⟨gb435, 1, none⟩ = some (.slice A0_1 l0_1.length c0_1) := (blk_cell BK435.out 1).trans rfl
            have hfz13_0 := blk_frozen BK435.out 0
            have hfz13_1 := blk_frozen BK435.out 1
            go_wp2
            go_meet
            case rel => exact ⟨_, (x5_1), (by first | rfl | (simp; done) | (simp [*]; done)), H', ⟨by have := HK1.out; first | omega | exact Nat.le_refl _⟩, ⟨by (with_reducible repeat (first | refine blk_drewN ?_ _ | refine blk_drew ?_ | refine blk_alloc ?_ _)); exact BK435.out⟩, ⟨by repeat (first | (with_reducible first | exact HB.out | apply below_alloc | apply pw_below_drewN | apply below_drew1 | refine below_set ?_ GE435.out) | exact HB.out)⟩⟩
        · rw [if_neg c5] at H
          have c5b0 : decide (x6_1 < (l0_1.length : Int)) = false := decide_eq_false c5
          clear c5
          (first | rw [c5b0] | (simp only [i64_w, i32_w]; rw [c5b0]) | skip)
          have H' := Aside0.mk H
          clear H
          have hcz14_0 : wr.cell? ⟨gb435, 0, none⟩ = some (.bool a0_0) := (blk_cell BK435.out 0).trans rfl
          have hcz14_1 : wr.cell? ⟨gb435, 1, none⟩ = some (.slice A0_1 l0_1.length c0_1) := (blk_cell BK435.out 1).trans rfl
          have hfz14_0 := blk_frozen BK435.out 0
          have hfz14_1 := blk_frozen BK435.out 1
          go_wp2
          go_meet
          case rel => exact ⟨_, (x5_1), (by first | rfl | (simp; done) | (simp [*]; done)), H', ⟨by have := HK1.out; first | omega | exact Nat.le_refl _⟩, ⟨by (with_reducible repeat (first | refine blk_drewN ?_ _ | refine blk_drew ?_ | refine blk_alloc ?_ _)); exact BK435.out⟩, ⟨by repeat (first | (with_reducible first | exact HB.out | apply below_alloc | apply pw_below_drewN | apply below_drew1 | refine below_set ?_ GE435.out) | exact HB.out)⟩⟩
  case rest =>
    clear HC3
    try clear hcv1
    try clear p2
    try clear p4
    try clear q4
    try clear hx4
    try clear c5
    try clear c5b0
    try clear c6
    try clear c6b0
    try clear p6
    try clear c7
    try clear c7b0
    try clear c8
    try clear c8b0
    try clear c8b1
    try clear c8b2
    try clear hcv12
    try clear hcz13_0
    try clear hcz13_1
    try clear hcz14_0
    try clear hcz14_1
    try clear hcz9_0
    try clear hcz9_1
    try clear hfz13_0
    try clear hfz13_1
    try clear hfz14_0
    try clear hfz14_1
    try clear hfz9_0
    try clear hfz9_1
    try clear hx436_0
    try clear p2
    try clear p436
    try clear q436
    obtain ⟨kq, x5_2, rfl, HA, HJ2, BK435, HB⟩ := hcut
    cases kq with
    | zero => exact absurd HA.out (by simp [schismalaw02_Make.j1])
    | succ kj2 =>
      have H := HA.out
      clear HA
      simp only [schismalaw02_Make.j1] at H
      by_cases c15 : x5_2.toList = ([] : List UInt8)
      · rw [if_pos c15] at H
        have c15b0 : (x5_2.toList == ([] : List UInt8)) = true := beq_iff_eq.mpr c15
        have c15b1 : (x5_2.toList != ([] : List UInt8)) = false := bne_eq_false_iff_eq.mpr c15
        clear c15
        by_cases c16 : a0_0 = true
        · subst c16
          have H1 : (if 1 + 1 ≤ 9223372036854775807 then ((schismaref02_Parse.f kj2 ((⟨#[45]⟩ : ByteArray) ++ (⟨#[48]⟩ : ByteArray))).bind fun bt440 => (some bt440.1)) else (none)) = some r := by rw [if_pos rfl] at H; exact H
          clear H
          have H := H1
          clear H1
          by_cases c17 : 1 + 1 ≤ 9223372036854775807
          · rw [if_pos c17] at H
            have c17b0 := eq_true c17
            have c17b1 : decide (1 + 1 ≤ 9223372036854775807) = true := decide_eq_true c17
            try have c17b2 : (9223372036854775807 < 1 + 1) = False := eq_false (Nat.not_lt.2 c17)
            replace H := Option.bind_eq_some_iff.mp H
            obtain ⟨⟨t440, t441⟩, A180, H⟩ := H
            replace H : (some t440) = some r := H
            have A18 := Aside0.mk A180
            clear A180
            obtain rfl := Option.some.inj H
            have hcz19_0 : wc.cell? ⟨gb435, 0, none⟩ = some (.bool true) := (blk_cell BK435.out 0).trans rfl
            have hcz19_1 : wc.cell? ⟨gb435, 1, none⟩ = some (.slice A0_1 l0_1.length c0_1) := (blk_cell BK435.out 1).trans rfl
            have hfz19_0 := blk_frozen BK435.out 0
            have hfz19_1 := blk_frozen BK435.out 1
            go_wp2_with (first | ((with_reducible refine gate_callee (f := 27) rfl ?_); refine goesL_ (some 40) rfl rfl Tryz.func27 (by kernel_rfl) rfl #[.string ((⟨#[45]⟩ : ByteArray) ++ (⟨#[48]⟩ : ByteArray))] rfl mq ?_; (with_reducible refine (schismaref02_Parse.calls kj2 ((⟨#[45]⟩ : ByteArray) ++ (⟨#[48]⟩ : ByteArray)) t440 t441 _ A18.out).mono ?_); rintro e w' ⟨rfl, ⟨nd, rfl⟩⟩; refine ⟨_, rfl, ?_⟩))
            go_ret
            exact ⟨eq_, by repeat (first | (with_reducible first | exact HB.out | apply below_alloc | apply pw_below_drewN | apply below_drew1 | refine below_set ?_ GE435.out) | exact HB.out)⟩
          · rw [if_neg c17] at H
            exact absurd H (by simp)
        · replace c16 := Bool.eq_false_iff.mpr c16
          subst c16
          have H1 : ((schismaref02_Parse.f kj2 (⟨#[48]⟩ : ByteArray)).bind fun bt442 => (some bt442.1)) = some r := by rw [if_neg (show ¬ (false = true) by decide)] at H; exact H
          clear H
          have H := H1
          clear H1
          replace H := Option.bind_eq_some_iff.mp H
          obtain ⟨⟨t442, t443⟩, A200, H⟩ := H
          replace H : (some t442) = some r := H
          have A20 := Aside0.mk A200
          clear A200
          obtain rfl := Option.some.inj H
          have hcz21_0 : wc.cell? ⟨gb435, 0, none⟩ = some (.bool false) := (blk_cell BK435.out 0).trans rfl
          have hcz21_1 : wc.cell? ⟨gb435, 1, none⟩ = some (.slice A0_1 l0_1.length c0_1) := (blk_cell BK435.out 1).trans rfl
          have hfz21_0 := blk_frozen BK435.out 0
          have hfz21_1 := blk_frozen BK435.out 1
          go_wp2_with (first | ((with_reducible refine gate_callee (f := 27) rfl ?_); refine goesL_ (some 40) rfl rfl Tryz.func27 (by kernel_rfl) rfl #[.string (⟨#[48]⟩ : ByteArray)] rfl mq ?_; (with_reducible refine (schismaref02_Parse.calls kj2 (⟨#[48]⟩ : ByteArray) t442 t443 _ A20.out).mono ?_); rintro e w' ⟨rfl, ⟨nd, rfl⟩⟩; refine ⟨_, rfl, ?_⟩))
          go_ret
          exact ⟨eq_, by repeat (first | (with_reducible first | exact HB.out | apply below_alloc | apply pw_below_drewN | apply below_drew1 | refine below_set ?_ GE435.out) | exact HB.out)⟩
      · rw [if_neg c15] at H
        have c15b0 : (x5_2.toList == ([] : List UInt8)) = false := beq_eq_false_iff_ne.mpr c15
        have c15b1 : (x5_2.toList != ([] : List UInt8)) = true := bne_iff_ne.mpr c15
        by_cases c22 : a0_0 = true
        · subst c22
          have H1 : (if 1 + x5_2.size ≤ 9223372036854775807 then ((schismaref02_Parse.f kj2 ((⟨#[45]⟩ : ByteArray) ++ x5_2)).bind fun bt444 => (some bt444.1)) else (none)) = some r := by rw [if_pos rfl] at H; exact H
          clear H
          have H := H1
          clear H1
          by_cases c23 : 1 + x5_2.size ≤ 9223372036854775807
          · rw [if_pos c23] at H
            have c23b0 := eq_true c23
            have c23b1 : decide (1 + x5_2.size ≤ 9223372036854775807) = true := decide_eq_true c23
            try have c23b2 : (9223372036854775807 < 1 + x5_2.size) = False := eq_false (Nat.not_lt.2 c23)
            replace H := Option.bind_eq_some_iff.mp H
            obtain ⟨⟨t444, t445⟩, A240, H⟩ := H
            replace H : (some t444) = some r := H
            have A24 := Aside0.mk A240
            clear A240
            obtain rfl := Option.some.inj H
            have hcz25_0 : wc.cell? ⟨gb435, 0, none⟩ = some (.bool true) := (blk_cell BK435.out 0).trans rfl
            have hcz25_1 : wc.cell? ⟨gb435, 1, none⟩ = some (.slice A0_1 l0_1.length c0_1) := (blk_cell BK435.out 1).trans rfl
            have hfz25_0 := blk_frozen BK435.out 0
            have hfz25_1 := blk_frozen BK435.out 1
            go_wp2_with (first | ((with_reducible refine gate_callee (f := 27) rfl ?_); refine goesL_ (some 40) rfl rfl Tryz.func27 (by kernel_rfl) rfl #[.string ((⟨#[45]⟩ : ByteArray) ++ x5_2)] rfl mq ?_; (with_reducible refine (schismaref02_Parse.calls kj2 ((⟨#[45]⟩ : ByteArray) ++ x5_2) t444 t445 _ A24.out).mono ?_); rintro e w' ⟨rfl, ⟨nd, rfl⟩⟩; refine ⟨_, rfl, ?_⟩))
            go_ret
            exact ⟨eq_, by repeat (first | (with_reducible first | exact HB.out | apply below_alloc | apply pw_below_drewN | apply below_drew1 | refine below_set ?_ GE435.out) | exact HB.out)⟩
          · rw [if_neg c23] at H
            exact absurd H (by simp)
        · replace c22 := Bool.eq_false_iff.mpr c22
          subst c22
          have H1 : ((schismaref02_Parse.f kj2 x5_2).bind fun bt446 => (some bt446.1)) = some r := by rw [if_neg (show ¬ (false = true) by decide)] at H; exact H
          clear H
          have H := H1
          clear H1
          replace H := Option.bind_eq_some_iff.mp H
          obtain ⟨⟨t446, t447⟩, A260, H⟩ := H
          replace H : (some t446) = some r := H
          have A26 := Aside0.mk A260
          clear A260
          obtain rfl := Option.some.inj H
          have hcz27_0 : wc.cell? ⟨gb435, 0, none⟩ = some (.bool false) := (blk_cell BK435.out 0).trans rfl
          have hcz27_1 : wc.cell? ⟨gb435, 1, none⟩ = some (.slice A0_1 l0_1.length c0_1) := (blk_cell BK435.out 1).trans rfl
          have hfz27_0 := blk_frozen BK435.out 0
          have hfz27_1 := blk_frozen BK435.out 1
          go_wp2_with (first | ((with_reducible refine gate_callee (f := 27) rfl ?_); refine goesL_ (some 40) rfl rfl Tryz.func27 (by kernel_rfl) rfl #[.string x5_2] rfl mq ?_; (with_reducible refine (schismaref02_Parse.calls kj2 x5_2 t446 t447 _ A26.out).mono ?_); rintro e w' ⟨rfl, ⟨nd, rfl⟩⟩; refine ⟨_, rfl, ?_⟩))
          go_ret
          exact ⟨eq_, by repeat (first | (with_reducible first | exact HB.out | apply below_alloc | apply pw_below_drewN | apply below_drew1 | refine below_set ?_ GE435.out) | exact HB.out)⟩
def schismaref02_digits.f (a0 : ByteArray) : Option (ByteArray) := if (a0.size : Int) > 0 then (if 0 < (a0.size : Int) then (if (bt a0 0) = 45 then (if 1 ≤ (a0.size : Int) then (some (a0.extract 1 a0.size)) else (none)) else (some a0)) else (none)) else (some a0)
set_option maxHeartbeats 8000000 in
set_option maxRecDepth 100000 in
theorem schismaref02_digits.calls (a0 : ByteArray) (r : ByteArray) (w : World) (h : schismaref02_digits.f a0 = some r) :
    Calls Tryz.prog 31 #[.string a0] w fun e w' => e = .returned (.string r) ∧ Drawn0 w w' := by
  have H : (if (a0.size : Int) > 0 then (if 0 < (a0.size : Int) then (if (bt a0 0) = 45 then (if 1 ≤ (a0.size : Int) then (some (a0.extract 1 a0.size)) else (none)) else (some a0)) else (none)) else (some a0)) = some r := h
  clear h
  by_cases c2 : (a0.size : Int) > 0
  · rw [if_pos c2] at H
    have c2b0 : decide (0 < (a0.size : Int)) = true := decide_eq_true c2
    have c2b1 : decide (0 < a0.size) = true := decide_eq_true (by omega)
    clear c2
    by_cases c3 : 0 < (a0.size : Int)
    · rw [if_pos c3] at H
      have c3b0 : decide (0 < (a0.size : Int)) = true := decide_eq_true c3
      have c3b1 : decide (0 < a0.size) = true := decide_eq_true (by omega)
      clear c3
      by_cases c5 : (bt a0 0) = 45
      · rw [if_pos c5] at H
        have c5b0 : ((bt a0 0) == 45) = true := beq_iff_eq.mpr c5
        have c5b1 : ((bt a0 0) != 45) = false := bne_eq_false_iff_eq.mpr c5
        clear c5
        by_cases c6 : 1 ≤ (a0.size : Int)
        · rw [if_pos c6] at H
          have c6b0 := eq_true c6
          have c6b1 : decide (1 ≤ (a0.size : Int)) = true := decide_eq_true c6
          clear c6
          obtain rfl := Option.some.inj H
          have p4 : 0 ≤ (0 : Int) := (by omega)
          have q4 : 0 < a0.size := (by have : (0 : Int) < (a0.size : Int) := of_decide_eq_true (by first | (with_reducible assumption) | assumption); omega)
          have hx4 : ∀ h : 0 < a0.size, ((a0[0]'h).toNat : Int) = bt a0 0 := bt_at a0 0
          clear p4
          have qi4 : (0 < (a0.size : Int)) = True := eq_true (of_decide_eq_true (by first | (with_reducible assumption) | assumption))
          replace q4 := eq_true q4
          go_enter Tryz.func31, Tryz.ntmps31
          go_wp2
          go_ret
          exact ⟨by first | rfl | (simp; done) | (simp [wrap64]; done) | (simp [*]; done), by repeat (first | exact Drawn0.refl _ | apply Drawn0.step)⟩
        · rw [if_neg c6] at H
          exact absurd H (by simp)
      · rw [if_neg c5] at H
        have c5b0 : ((bt a0 0) == 45) = false := beq_eq_false_iff_ne.mpr c5
        have c5b1 : ((bt a0 0) != 45) = true := bne_iff_ne.mpr c5
        obtain rfl := Option.some.inj H
        have p4 : 0 ≤ (0 : Int) := (by omega)
        have q4 : 0 < a0.size := (by have : (0 : Int) < (a0.size : Int) := of_decide_eq_true (by first | (with_reducible assumption) | assumption); omega)
        have hx4 : ∀ h : 0 < a0.size, ((a0[0]'h).toNat : Int) = bt a0 0 := bt_at a0 0
        clear p4
        have qi4 : (0 < (a0.size : Int)) = True := eq_true (of_decide_eq_true (by first | (with_reducible assumption) | assumption))
        replace q4 := eq_true q4
        go_enter Tryz.func31, Tryz.ntmps31
        go_wp2
        go_ret
        exact ⟨by first | rfl | (simp; done) | (simp [wrap64]; done) | (simp [*]; done), by repeat (first | exact Drawn0.refl _ | apply Drawn0.step)⟩
    · rw [if_neg c3] at H
      exact absurd H (by simp)
  · rw [if_neg c2] at H
    have c2b0 : decide (0 < (a0.size : Int)) = false := decide_eq_false c2
    have c2b1 : decide (0 < a0.size) = false := decide_eq_false (by omega)
    clear c2
    obtain rfl := Option.some.inj H
    go_enter Tryz.func31, Tryz.ntmps31
    go_wp2
    go_ret
    exact ⟨by first | rfl | (simp; done) | (simp [wrap64]; done) | (simp [*]; done), by repeat (first | exact Drawn0.refl _ | apply Drawn0.step)⟩
mutual
def schismaref02_Small.j0 : Nat → ByteArray → Int → Bool → Option (Int × Bool)
  | 0, _, _, _ => none
  | k + 1, x4, x5, x17 => if x17 = true then (schismaref02_Small.j1 k x4 1) else (schismaref02_Small.j1 k x4 x5)
def schismaref02_Small.j1 : Nat → ByteArray → Int → Option (Int × Bool)
  | 0, _, _ => none
  | k + 1, x4, x5 => if x5 = (x4.size : Int) then (some (0, false)) else (schismaref02_Small.l0 k x4 x5 (x5 == 1) 0)
def schismaref02_Small.l0 : Nat → ByteArray → Int → Bool → Int → Option (Int × Bool)
  | 0, _, _, _, _ => none
  | k + 1, x4, x5, x6, x7 => if x5 < (x4.size : Int) then (if 0 ≤ x5 then (if (wrap64 ((wrap64 (bt x4 x5)) - 48)) < 0 then (some (0, false)) else (if (wrap64 ((wrap64 (bt x4 x5)) - 48)) > 9 then (some (0, false)) else (if x7 < (wrap64 (Int.tdiv (wrap64 ((-9223372036854775808) + (wrap64 ((wrap64 (bt x4 x5)) - 48)))) 10)) then (some (0, false)) else (schismaref02_Small.l0 k x4 (wrap64 (x5 + 1)) x6 (wrap64 ((wrap64 (x7 * 10)) - (wrap64 ((wrap64 (bt x4 x5)) - 48)))))))) else (none)) else (if x6 = true then (some (x7, true)) else (if x7 = (-9223372036854775808) then (some (0, false)) else (some (wrap64 (-x7), true))))
end
def schismaref02_Small.f (k : Nat) (a0 : ByteArray) : Option (Int × Bool) := if (a0.size : Int) > 0 then (if 0 < (a0.size : Int) then (schismaref02_Small.j0 k a0 0 ((bt a0 0) == 45)) else (none)) else (schismaref02_Small.j0 k a0 0 false)
theorem schismaref02_Small.mono_l : ∀ k, (∀ y0 y1 y2, LeO (schismaref02_Small.j0 k y0 y1 y2) (schismaref02_Small.j0 (k + 1) y0 y1 y2)) ∧ (∀ y0 y1, LeO (schismaref02_Small.j1 k y0 y1) (schismaref02_Small.j1 (k + 1) y0 y1)) ∧ (∀ y0 y1 y2 y3, LeO (schismaref02_Small.l0 k y0 y1 y2 y3) (schismaref02_Small.l0 (k + 1) y0 y1 y2 y3))
  | 0 => ⟨fun _ _ _ r h => by simp [schismaref02_Small.j0] at h, fun _ _ r h => by simp [schismaref02_Small.j1] at h, fun _ _ _ _ r h => by simp [schismaref02_Small.l0] at h⟩
  | k + 1 => by
    obtain ⟨ih0, ih1, ih2⟩ := schismaref02_Small.mono_l k
    refine ⟨?_, ?_, ?_⟩
    · intro y0 y1 y2
      unfold schismaref02_Small.j0
      repeat' first
      | (with_reducible exact ih0 _ _ _)
      | (with_reducible exact ih1 _ _)
      | (with_reducible exact ih2 _ _ _ _)
      | (with_reducible exact LeO.refl _)
      | (with_reducible exact LeO.none _)
      | (with_reducible refine LeO.ite ?_ ?_)
      | (with_reducible refine LeO.bind ?_ (fun _ => ?_))
      | exact ih0 _ _ _
      | exact ih1 _ _
      | exact ih2 _ _ _ _
      | exact LeO.none _
      | refine LeO.ite ?_ ?_
      | refine LeO.bind ?_ (fun _ => ?_)
    · intro y0 y1
      unfold schismaref02_Small.j1
      repeat' first
      | (with_reducible exact ih0 _ _ _)
      | (with_reducible exact ih1 _ _)
      | (with_reducible exact ih2 _ _ _ _)
      | (with_reducible exact LeO.refl _)
      | (with_reducible exact LeO.none _)
      | (with_reducible refine LeO.ite ?_ ?_)
      | (with_reducible refine LeO.bind ?_ (fun _ => ?_))
      | exact ih0 _ _ _
      | exact ih1 _ _
      | exact ih2 _ _ _ _
      | exact LeO.none _
      | refine LeO.ite ?_ ?_
      | refine LeO.bind ?_ (fun _ => ?_)
    · intro y0 y1 y2 y3
      unfold schismaref02_Small.l0
      repeat' first
      | (with_reducible exact ih0 _ _ _)
      | (with_reducible exact ih1 _ _)
      | (with_reducible exact ih2 _ _ _ _)
      | (with_reducible exact LeO.refl _)
      | (with_reducible exact LeO.none _)
      | (with_reducible refine LeO.ite ?_ ?_)
      | (with_reducible refine LeO.bind ?_ (fun _ => ?_))
      | exact ih0 _ _ _
      | exact ih1 _ _
      | exact ih2 _ _ _ _
      | exact LeO.none _
      | refine LeO.ite ?_ ?_
      | refine LeO.bind ?_ (fun _ => ?_)
theorem schismaref02_Small.mono : ∀ a0 k, LeO (schismaref02_Small.f k a0) (schismaref02_Small.f (k + 1) a0) := by
  intro a0 k
  obtain ⟨ih0, ih1, ih2⟩ := schismaref02_Small.mono_l k
  unfold schismaref02_Small.f
  repeat' first
      | (with_reducible exact ih0 _ _ _)
      | (with_reducible exact ih1 _ _)
      | (with_reducible exact ih2 _ _ _ _)
      | (with_reducible exact LeO.refl _)
      | (with_reducible exact LeO.none _)
      | (with_reducible refine LeO.ite ?_ ?_)
      | (with_reducible refine LeO.bind ?_ (fun _ => ?_))
      | exact ih0 _ _ _
      | exact ih1 _ _
      | exact ih2 _ _ _ _
      | exact LeO.none _
      | refine LeO.ite ?_ ?_
      | refine LeO.bind ?_ (fun _ => ?_)
set_option maxHeartbeats 8000000 in
set_option maxRecDepth 100000 in
theorem schismaref02_Small.calls (k : Nat) (a0 : ByteArray) (r1 : Int) (r2 : Bool) (w : World) (h : schismaref02_Small.f k a0 = some (r1, r2)) :
    Calls Tryz.prog 63 #[.string a0] w fun e w' => e = .returned (.tuple #[.int .i64 r1, .bool r2]) ∧ Drawn0 w w' := by
  have H : (if (a0.size : Int) > 0 then (if 0 < (a0.size : Int) then (schismaref02_Small.j0 k a0 0 ((bt a0 0) == 45)) else (none)) else (schismaref02_Small.j0 k a0 0 false)) = some (r1, r2) := h
  clear h
  have HC2 := Aside0.mk H
  clear H
  go_enter Tryz.func63, Tryz.ntmps63
  go_upto_region 3 with (fail)
  go_cut [17] (fun v17 wc => ∃ (kq : Nat) (x17_1 : Bool), v17 = .bool x17_1 ∧ Aside0 (schismaref02_Small.j0 kq a0 0 x17_1 = some (r1, r2)) ∧ Aside0 (kq ≤ k) ∧ Drawn0 w wc)
  case first =>
    have H := HC2.out
    clear HC2
    by_cases c3 : (a0.size : Int) > 0
    · rw [if_pos c3] at H
      have c3b0 : decide (0 < (a0.size : Int)) = true := decide_eq_true c3
      have c3b1 : decide (0 < a0.size) = true := decide_eq_true (by omega)
      clear c3
      (first | rw [c3b0] | (simp only [i64_w, i32_w]; rw [c3b0]) | skip)
      by_cases c4 : 0 < (a0.size : Int)
      · rw [if_pos c4] at H
        have c4b0 : decide (0 < (a0.size : Int)) = true := decide_eq_true c4
        have c4b1 : decide (0 < a0.size) = true := decide_eq_true (by omega)
        clear c4
        have H' := Aside0.mk H
        clear H
        have p5 : 0 ≤ (0 : Int) := (by omega)
        have q5 : 0 < a0.size := (by have : (0 : Int) < (a0.size : Int) := of_decide_eq_true (by first | (with_reducible assumption) | assumption); omega)
        have hx5 : ∀ h : 0 < a0.size, ((a0[0]'h).toNat : Int) = bt a0 0 := bt_at a0 0
        clear p5
        have qi5 : (0 < (a0.size : Int)) = True := eq_true (of_decide_eq_true (by first | (with_reducible assumption) | assumption))
        replace q5 := eq_true q5
        go_wp2
        go_meet
        case rel => exact ⟨_, (((bt a0 0) == 45)), (by first | rfl | (simp; done) | (simp [*]; done)), H', ⟨by first | omega | exact Nat.le_refl _⟩, by repeat (first | exact Drawn0.refl _ | apply Drawn0.step)⟩
      · rw [if_neg c4] at H
        exact absurd H (by simp)
    · rw [if_neg c3] at H
      have c3b0 : decide (0 < (a0.size : Int)) = false := decide_eq_false c3
      have c3b1 : decide (0 < a0.size) = false := decide_eq_false (by omega)
      clear c3
      (first | rw [c3b0] | (simp only [i64_w, i32_w]; rw [c3b0]) | skip)
      have H' := Aside0.mk H
      clear H
      go_wp2
      go_meet
      case rel => exact ⟨_, (false), (by first | rfl | (simp; done) | (simp [*]; done)), H', ⟨by first | omega | exact Nat.le_refl _⟩, by repeat (first | exact Drawn0.refl _ | apply Drawn0.step)⟩
  case rest =>
    clear HC2
    try clear p2
    try clear c3
    try clear c3b0
    try clear c3b1
    try clear c4
    try clear c4b0
    try clear c4b1
    try clear p5
    try clear q5
    try clear hx5
    try clear qi5
    try clear p5
    try clear q5
    obtain ⟨kq, x17_1, rfl, HA, HJ1, ⟨mc1, rfl⟩⟩ := hcut
    cases kq with
    | zero => exact absurd HA.out (by simp [schismaref02_Small.j0])
    | succ kj1 =>
      have H := HA.out
      clear HA
      simp only [schismaref02_Small.j0] at H
      have HC6 := Aside0.mk H
      clear H
      go_upto_if 17 with (fail)
      go_cut [5] (fun v5 wc => ∃ (kq : Nat) (x5_5 : Int), v5 = .int .i64 x5_5 ∧ Aside0 (schismaref02_Small.j1 kq a0 x5_5 = some (r1, r2)) ∧ Aside0 (kq ≤ kj1) ∧ Drawn0 w wc)
      case first =>
        have H := HC6.out
        clear HC6
        by_cases c7 : x17_1 = true
        · subst c7
          have H1 : (schismaref02_Small.j1 kj1 a0 1) = some (r1, r2) := by rw [if_pos rfl] at H; exact H
          clear H
          have H := H1
          clear H1
          have H' := Aside0.mk H
          clear H
          go_wp2
          go_meet
          case rel => exact ⟨_, (1), (by first | rfl | (simp; done) | (simp [*]; done)), H', ⟨by have := HJ1.out; first | omega | exact Nat.le_refl _⟩, by repeat (first | exact Drawn0.refl _ | apply Drawn0.step)⟩
        · replace c7 := Bool.eq_false_iff.mpr c7
          subst c7
          have H1 : (schismaref02_Small.j1 kj1 a0 0) = some (r1, r2) := by rw [if_neg (show ¬ (false = true) by decide)] at H; exact H
          clear H
          have H := H1
          clear H1
          have H' := Aside0.mk H
          clear H
          go_wp2
          go_meet
          case rel => exact ⟨_, (0), (by first | rfl | (simp; done) | (simp [*]; done)), H', ⟨by have := HJ1.out; first | omega | exact Nat.le_refl _⟩, by repeat (first | exact Drawn0.refl _ | apply Drawn0.step)⟩
      case rest =>
        clear HC6
        try clear c1
        try clear p2
        try clear c3
        try clear c3b0
        try clear c3b1
        try clear c4
        try clear c4b0
        try clear c4b1
        try clear p5
        try clear q5
        try clear hx5
        try clear qi5
        try clear c6
        try clear c7
        try clear p2
        try clear p5
        try clear q5
        obtain ⟨kq, x5_5, rfl, HA, HJ5, ⟨mc5, rfl⟩⟩ := hcut
        cases kq with
        | zero => exact absurd HA.out (by simp [schismaref02_Small.j1])
        | succ kj5 =>
          have H := HA.out
          clear HA
          simp only [schismaref02_Small.j1] at H
          by_cases c8 : x5_5 = (a0.size : Int)
          · rw [if_pos c8] at H
            have c8b0 : (x5_5 == (a0.size : Int)) = true := beq_iff_eq.mpr c8
            have c8b1 : (x5_5 != (a0.size : Int)) = false := bne_eq_false_iff_eq.mpr c8
            clear c8
            simp only [Option.some.injEq, Prod.mk.injEq] at H
            obtain ⟨rfl, rfl⟩ := H
            go_wp2
            go_ret2
            exact ⟨by first | rfl | (simp; done) | (simp [wrap64]; done) | (simp [*]; done), by repeat (first | exact Drawn0.refl _ | apply Drawn0.step)⟩
          · rw [if_neg c8] at H
            have c8b0 : (x5_5 == (a0.size : Int)) = false := beq_eq_false_iff_ne.mpr c8
            have c8b1 : (x5_5 != (a0.size : Int)) = true := bne_iff_ne.mpr c8
            have H' := Aside0.mk H
            clear H
            go_wp2
            go_loopg [5, 7] kj5 (fun kq v5 v7 w' => ∃ (x5_3 : Int) (x7_3 : Int), v5 = .int .i64 x5_3 ∧ v7 = .int .i64 x7_3 ∧ Aside0 (schismaref02_Small.l0 kq a0 x5_3 (x5_5 == 1) x7_3 = some (r1, r2)) ∧ Aside0 (kq ≤ kj5) ∧ Drawn0 w w')
            case atStart => exact ⟨(x5_5), (0), (by first | rfl | (simp; done) | (simp [*]; done)), (by first | rfl | (simp; done) | (simp [*]; done)), H', ⟨Nat.le_refl _⟩, by repeat (first | exact Drawn0.refl _ | apply Drawn0.step)⟩
            case round =>
              clear H'
              try clear c1
              try clear p2
              try clear c3
              try clear c3b0
              try clear c3b1
              try clear c4
              try clear c4b0
              try clear c4b1
              try clear c5
              try clear p5
              try clear q5
              try clear hx5
              try clear qi5
              try clear c6
              try clear c7
              try clear c8
              try clear c8b0
              try clear c8b1
              try clear p2
              try clear p5
              try clear q5
              obtain ⟨x5_3, x7_3, rfl, rfl, HA, HK3, ⟨m3, rfl⟩⟩ := hrel
              cases gk with
              | zero => exact absurd HA.out (by simp [schismaref02_Small.l0])
              | succ k3 =>
                have H := HA.out
                clear HA
                simp only [schismaref02_Small.l0] at H
                by_cases c9 : x5_3 < (a0.size : Int)
                · rw [if_pos c9] at H
                  have c9b0 : decide (x5_3 < (a0.size : Int)) = true := decide_eq_true c9
                  clear c9
                  by_cases c10 : 0 ≤ x5_3
                  · rw [if_pos c10] at H
                    have c10b0 : decide (0 ≤ x5_3) = true := decide_eq_true c10
                    clear c10
                    by_cases c12 : (wrap64 ((wrap64 (bt a0 x5_3)) - 48)) < 0
                    · rw [if_pos c12] at H
                      have c12b0 : decide ((wrap64 ((wrap64 (bt a0 x5_3)) - 48)) < 0) = true := decide_eq_true c12
                      clear c12
                      simp only [Option.some.injEq, Prod.mk.injEq] at H
                      obtain ⟨rfl, rfl⟩ := H
                      have p11 : 0 ≤ (x5_3 : Int) := of_decide_eq_true (by first | (with_reducible assumption) | assumption)
                      have q11 : x5_3 < (a0.size : Int) := of_decide_eq_true (by first | (with_reducible assumption) | assumption)
                      have hx11 := bt_at a0 x5_3
                      replace p11 := eq_true p11
                      replace q11 := eq_true q11
                      go_wp2
                      go_ret2
                      exact ⟨by first | rfl | (simp; done) | (simp [wrap64]; done) | (simp [*]; done), by repeat (first | exact Drawn0.refl _ | apply Drawn0.step)⟩
                    · rw [if_neg c12] at H
                      have c12b0 : decide ((wrap64 ((wrap64 (bt a0 x5_3)) - 48)) < 0) = false := decide_eq_false c12
                      clear c12
                      by_cases c13 : (wrap64 ((wrap64 (bt a0 x5_3)) - 48)) > 9
                      · rw [if_pos c13] at H
                        have c13b0 : decide (9 < (wrap64 ((wrap64 (bt a0 x5_3)) - 48))) = true := decide_eq_true c13
                        clear c13
                        simp only [Option.some.injEq, Prod.mk.injEq] at H
                        obtain ⟨rfl, rfl⟩ := H
                        have p11 : 0 ≤ (x5_3 : Int) := of_decide_eq_true (by first | (with_reducible assumption) | assumption)
                        have q11 : x5_3 < (a0.size : Int) := of_decide_eq_true (by first | (with_reducible assumption) | assumption)
                        have hx11 := bt_at a0 x5_3
                        replace p11 := eq_true p11
                        replace q11 := eq_true q11
                        go_wp2
                        go_ret2
                        exact ⟨by first | rfl | (simp; done) | (simp [wrap64]; done) | (simp [*]; done), by repeat (first | exact Drawn0.refl _ | apply Drawn0.step)⟩
                      · rw [if_neg c13] at H
                        have c13b0 : decide (9 < (wrap64 ((wrap64 (bt a0 x5_3)) - 48))) = false := decide_eq_false c13
                        clear c13
                        by_cases c14 : x7_3 < (wrap64 (Int.tdiv (wrap64 ((-9223372036854775808) + (wrap64 ((wrap64 (bt a0 x5_3)) - 48)))) 10))
                        · rw [if_pos c14] at H
                          have c14b0 : decide (x7_3 < (wrap64 (Int.tdiv (wrap64 ((-9223372036854775808) + (wrap64 ((wrap64 (bt a0 x5_3)) - 48)))) 10))) = true := decide_eq_true c14
                          clear c14
                          simp only [Option.some.injEq, Prod.mk.injEq] at H
                          obtain ⟨rfl, rfl⟩ := H
                          have p11 : 0 ≤ (x5_3 : Int) := of_decide_eq_true (by first | (with_reducible assumption) | assumption)
                          have q11 : x5_3 < (a0.size : Int) := of_decide_eq_true (by first | (with_reducible assumption) | assumption)
                          have hx11 := bt_at a0 x5_3
                          replace p11 := eq_true p11
                          replace q11 := eq_true q11
                          go_wp2
                          go_ret2
                          exact ⟨by first | rfl | (simp; done) | (simp [wrap64]; done) | (simp [*]; done), by repeat (first | exact Drawn0.refl _ | apply Drawn0.step)⟩
                        · rw [if_neg c14] at H
                          have c14b0 : decide (x7_3 < (wrap64 (Int.tdiv (wrap64 ((-9223372036854775808) + (wrap64 ((wrap64 (bt a0 x5_3)) - 48)))) 10))) = false := decide_eq_false c14
                          clear c14
                          have H' := Aside0.mk H
                          clear H
                          have p11 : 0 ≤ (x5_3 : Int) := of_decide_eq_true (by first | (with_reducible assumption) | assumption)
                          have q11 : x5_3 < (a0.size : Int) := of_decide_eq_true (by first | (with_reducible assumption) | assumption)
                          have hx11 := bt_at a0 x5_3
                          replace p11 := eq_true p11
                          replace q11 := eq_true q11
                          go_wp2
                          go_roundg k3
                          case measure => have := HJ1.out; have := HJ5.out; have := HK3.out; omega
                          case rel => exact ⟨(wrap64 (x5_3 + 1)), (wrap64 ((wrap64 (x7_3 * 10)) - (wrap64 ((wrap64 (bt a0 x5_3)) - 48)))), (by first | rfl | (simp; done) | (simp [*]; done)), (by first | rfl | (simp; done) | (simp [*]; done)), H', ⟨by have := HJ1.out; have := HJ5.out; have := HK3.out; omega⟩, by repeat (first | exact Drawn0.refl _ | apply Drawn0.step)⟩
                  · rw [if_neg c10] at H
                    exact absurd H (by simp)
                · rw [if_neg c9] at H
                  have c9b0 : decide (x5_3 < (a0.size : Int)) = false := decide_eq_false c9
                  clear c9
                  by_cases c15 : (x5_5 == 1) = true
                  · rw [if_pos c15] at H
                    have c15b0 : (x5_5 == 1) = true := c15
                    (try (have c15b1 : decide (x5_5 = 1) = true := by simpa using c15))
                    (try (have c15b2 : (x5_5 == 1) = true := by simpa using c15))
                    clear c15
                    simp only [Option.some.injEq, Prod.mk.injEq] at H
                    obtain ⟨rfl, rfl⟩ := H
                    go_wp2
                    go_ret2
                    exact ⟨by first | rfl | (simp; done) | (simp [wrap64]; done) | (simp [*]; done), by repeat (first | exact Drawn0.refl _ | apply Drawn0.step)⟩
                  · rw [if_neg c15] at H
                    have c15b0 : (x5_5 == 1) = false := by simpa using c15
                    (try (have c15b1 : decide (x5_5 = 1) = false := by simpa using c15))
                    (try (have c15b2 : (x5_5 == 1) = false := by simpa using c15))
                    (try (have c15b3 : ¬ (x5_5 = 1) := by simpa using c15))
                    clear c15
                    by_cases c16 : x7_3 = (-9223372036854775808)
                    · rw [if_pos c16] at H
                      have c16b0 : (x7_3 == (-9223372036854775808)) = true := beq_iff_eq.mpr c16
                      have c16b1 : (x7_3 != (-9223372036854775808)) = false := bne_eq_false_iff_eq.mpr c16
                      clear c16
                      simp only [Option.some.injEq, Prod.mk.injEq] at H
                      obtain ⟨rfl, rfl⟩ := H
                      go_wp2
                      go_ret2
                      exact ⟨by first | rfl | (simp; done) | (simp [wrap64]; done) | (simp [*]; done), by repeat (first | exact Drawn0.refl _ | apply Drawn0.step)⟩
                    · rw [if_neg c16] at H
                      have c16b0 : (x7_3 == (-9223372036854775808)) = false := beq_eq_false_iff_ne.mpr c16
                      have c16b1 : (x7_3 != (-9223372036854775808)) = true := bne_iff_ne.mpr c16
                      simp only [Option.some.injEq, Prod.mk.injEq] at H
                      obtain ⟨rfl, rfl⟩ := H
                      go_wp2
                      go_ret2
                      exact ⟨by first | rfl | (simp; done) | (simp [wrap64]; done) | (simp [*]; done), by repeat (first | exact Drawn0.refl _ | apply Drawn0.step)⟩
def schismaref02_quick.f (k : Nat) (a0 : ByteArray) : Option (Int × Bool) := (schismaref02_digits.f a0).bind fun t486 => (if (t486.size : Int) > 18 then (some (0, false)) else ((schismaref02_Small.f k a0).bind fun bt487 => (some (bt487.1, bt487.2))))
theorem schismaref02_quick.mono : ∀ a0 k, LeO (schismaref02_quick.f k a0) (schismaref02_quick.f (k + 1) a0) := by
  intro a0 k
  unfold schismaref02_quick.f
  repeat' first
      | (with_reducible exact schismaref02_Small.mono _ _)
      | (with_reducible exact LeO.refl _)
      | (with_reducible exact LeO.none _)
      | (with_reducible refine LeO.ite ?_ ?_)
      | (with_reducible refine LeO.bind ?_ (fun _ => ?_))
      | exact schismaref02_Small.mono _ _
      | exact LeO.none _
      | refine LeO.ite ?_ ?_
      | refine LeO.bind ?_ (fun _ => ?_)
set_option maxHeartbeats 8000000 in
set_option maxRecDepth 100000 in
theorem schismaref02_quick.calls (k : Nat) (a0 : ByteArray) (r1 : Int) (r2 : Bool) (w : World) (h : schismaref02_quick.f k a0 = some (r1, r2)) :
    Calls Tryz.prog 32 #[.string a0] w fun e w' => e = .returned (.tuple #[.int .i64 r1, .bool r2]) ∧ Drawn0 w w' := by
  have H : ((schismaref02_digits.f a0).bind fun t486 => (if (t486.size : Int) > 18 then (some (0, false)) else ((schismaref02_Small.f k a0).bind fun bt487 => (some (bt487.1, bt487.2))))) = some (r1, r2) := h
  clear h
  replace H := Option.bind_eq_some_iff.mp H
  obtain ⟨t486, A20, H⟩ := H
  replace H : (if (t486.size : Int) > 18 then (some (0, false)) else ((schismaref02_Small.f k a0).bind fun bt487 => (some (bt487.1, bt487.2)))) = some (r1, r2) := H
  have A2 := Aside0.mk A20
  clear A20
  by_cases c3 : (t486.size : Int) > 18
  · rw [if_pos c3] at H
    have c3b0 : decide (18 < (t486.size : Int)) = true := decide_eq_true c3
    have c3b1 : decide (18 < t486.size) = true := decide_eq_true (by omega)
    clear c3
    simp only [Option.some.injEq, Prod.mk.injEq] at H
    obtain ⟨rfl, rfl⟩ := H
    go_enter Tryz.func32, Tryz.ntmps32
    go_wp2_with (first | ((with_reducible refine gate_callee (f := 31) rfl ?_); refine goesL_ (some 5) rfl rfl Tryz.func31 (by kernel_rfl) rfl #[.string a0] rfl mq ?_; (with_reducible refine (schismaref02_digits.calls a0 t486 _ A2.out).mono ?_); rintro e w' ⟨rfl, ⟨nd, rfl⟩⟩; refine ⟨_, rfl, ?_⟩))
    go_ret2
    exact ⟨by first | rfl | (simp; done) | (simp [wrap64]; done) | (simp [*]; done), by repeat (first | exact Drawn0.refl _ | apply Drawn0.step)⟩
  · rw [if_neg c3] at H
    have c3b0 : decide (18 < (t486.size : Int)) = false := decide_eq_false c3
    have c3b1 : decide (18 < t486.size) = false := decide_eq_false (by omega)
    clear c3
    replace H := Option.bind_eq_some_iff.mp H
    obtain ⟨⟨t487, t488⟩, A40, H⟩ := H
    replace H : (some (t487, t488)) = some (r1, r2) := H
    have A4 := Aside0.mk A40
    clear A40
    simp only [Option.some.injEq, Prod.mk.injEq] at H
    obtain ⟨rfl, rfl⟩ := H
    go_enter Tryz.func32, Tryz.ntmps32
    go_wp2_with (first | ((with_reducible refine gate_callee (f := 31) rfl ?_); refine goesL_ (some 5) rfl rfl Tryz.func31 (by kernel_rfl) rfl #[.string a0] rfl mq ?_; (with_reducible refine (schismaref02_digits.calls a0 t486 _ A2.out).mono ?_); rintro e w' ⟨rfl, ⟨nd, rfl⟩⟩; refine ⟨_, rfl, ?_⟩) | ((with_reducible refine gate_callee (f := 63) rfl ?_); refine goesL_ (some 9) rfl rfl Tryz.func63 (by kernel_rfl) rfl #[.string a0] rfl mq ?_; (with_reducible refine (schismaref02_Small.calls k a0 t487 t488 _ A4.out).mono ?_); rintro e w' ⟨rfl, ⟨nd, rfl⟩⟩; refine ⟨_, rfl, ?_⟩))
    go_ret2
    exact ⟨by first | rfl | (simp; done) | (simp [wrap64]; done) | (simp [*]; done), by repeat (first | exact Drawn0.refl _ | apply Drawn0.step)⟩
def schismaref02_Of.f (a0 : Int) : Option (ByteArray) := (strconv_Itoa.f a0).bind fun t489 => (some t489)
set_option maxHeartbeats 8000000 in
set_option maxRecDepth 100000 in
theorem schismaref02_Of.calls (a0 : Int) (r : ByteArray) (w : World) (hT : Tab w) (h : schismaref02_Of.f a0 = some r) :
    Calls Tryz.prog 33 #[.int .i64 a0] w fun e w' => e = .returned (.string r) ∧ Below w.heap.size w w' := by
  have HT := Aside0.mk hT
  clear hT
  have HB := Aside0.mk (Below.refl w.heap.size w)
  have H : ((strconv_Itoa.f a0).bind fun t489 => (some t489)) = some r := h
  clear h
  replace H := Option.bind_eq_some_iff.mp H
  obtain ⟨t489, A20, H⟩ := H
  replace H : (some t489) = some r := H
  have A2 := Aside0.mk A20
  clear A20
  obtain rfl := Option.some.inj H
  go_enter Tryz.func33, Tryz.ntmps33
  go_wp2_with (first | ((with_reducible refine gate_callee (f := 64) rfl ?_); refine goesL_ (some 4) rfl rfl Tryz.func64 (by kernel_rfl) rfl #[.int .i64 a0] rfl mq ?_; (with_reducible refine (strconv_Itoa.calls (hT := HT.out.below bq) a0 t489 _ A2.out).mono ?_); rintro e w3 ⟨rfl, hb⟩; refine ⟨_, rfl, ?_⟩; replace HB := Aside0.mk (below_step bq hb); (try clear hb); (try clear hb2); (try clear hk); (try clear hi)))
  go_ret
  exact ⟨eq_, bq⟩
def schismaref02_trim.l0 : Nat → List Int → Int → Option (List Int)
  | 0, _, _ => none
  | k + 1, x0, x3 => if x3 > 0 then (if 0 ≤ (wrap64 (x3 - 1)) then (if (wrap64 (x3 - 1)) < (x0.length : Int) then (if (rd x0 (wrap64 (x3 - 1))) = 0 then (schismaref02_trim.l0 k x0 (wrap64 (x3 - 1))) else (if 0 ≤ x3 then (if x3 ≤ (x0.length : Int) then (some (x0.take (x3 : Int).toNat)) else (none)) else (none))) else (none)) else (none)) else (if 0 ≤ x3 then (if x3 ≤ (x0.length : Int) then (some (x0.take (x3 : Int).toNat)) else (none)) else (none))
def schismaref02_trim.f (k : Nat) (l0 : List Int) : Option (List Int) := schismaref02_trim.l0 k l0 (l0.length : Int)
theorem schismaref02_trim.mono_l : ∀ k, (∀ y0 y1, LeO (schismaref02_trim.l0 k y0 y1) (schismaref02_trim.l0 (k + 1) y0 y1))
  | 0 => fun _ _ r h => by simp [schismaref02_trim.l0] at h
  | k + 1 => by
    have ih0 := schismaref02_trim.mono_l k
    · intro y0 y1
      unfold schismaref02_trim.l0
      repeat' first
      | (with_reducible exact ih0 _ _)
      | (with_reducible exact LeO.refl _)
      | (with_reducible exact LeO.none _)
      | (with_reducible refine LeO.ite ?_ ?_)
      | (with_reducible refine LeO.bind ?_ (fun _ => ?_))
      | exact ih0 _ _
      | exact LeO.none _
      | refine LeO.ite ?_ ?_
      | refine LeO.bind ?_ (fun _ => ?_)
theorem schismaref02_trim.mono : ∀ a0 k, LeO (schismaref02_trim.f k a0) (schismaref02_trim.f (k + 1) a0) := by
  intro a0 k
  have ih0 := schismaref02_trim.mono_l k
  unfold schismaref02_trim.f
  repeat' first
      | (with_reducible exact ih0 _ _)
      | (with_reducible exact LeO.refl _)
      | (with_reducible exact LeO.none _)
      | (with_reducible refine LeO.ite ?_ ?_)
      | (with_reducible refine LeO.bind ?_ (fun _ => ?_))
      | exact ih0 _ _
      | exact LeO.none _
      | refine LeO.ite ?_ ?_
      | refine LeO.bind ?_ (fun _ => ?_)
set_option maxHeartbeats 8000000 in
set_option maxRecDepth 100000 in
theorem schismaref02_trim.calls (k : Nat) (P0_ : Nat → Prop) (u9000_ : Value) (l0 : List Int) (r : List Int) (w0 w : World) (hB : Below w0.heap.size w0 w) (ho0 : Kd.R (Kd.int .i64) 3 w w0.heap.size P0_ u9000_ l0) (h : schismaref02_trim.f k l0 = some r) :
    Calls Tryz.prog 65 #[u9000_] w fun e w' => ∃ v0_ : Value, e = .returned (v0_) ∧ Kd.R (Kd.int .i64) 3 w' w0.heap.size (fun k_ => (P0_ k_ ∨ w.heap.size ≤ k_)) v0_ r ∧ Below w0.heap.size w0 w' ∧ Kept w w' (fun k_ => P0_ k_) := by
  have HO0 := Aside0.mk (show Kd.R (Kd.int .i64) 3 w w0.heap.size (fun k_ => (P0_ k_ ∨ w.heap.size ≤ k_)) u9000_ l0 from Kd.R_mono ho0 (fun k_ hk => (.inl hk)))
  have HK := Aside0.mk (Kept.refl w (fun k_ => P0_ k_))
  have HW0 := Aside0.mk hB.size
  have HB := Aside0.mk hB
  clear hB
  have H : (schismaref02_trim.l0 k l0 (l0.length : Int)) = some r := h
  clear h
  have H' := Aside0.mk H
  clear H
  obtain ⟨Ao2, co2, eo2⟩ := Kd.R_slice HO0.out
  subst eo2
  go_enter Tryz.func65, Tryz.ntmps65
  go_wp2
  go_loopg [3] k (fun kq v3 w' => ∃ (x3_1 : Int), v3 = .int .i64 x3_1 ∧ Aside0 (schismaref02_trim.l0 kq l0 x3_1 = some r) ∧ Aside0 (kq ≤ k) ∧ Aside0 (Kd.R (Kd.int .i64) 3 w' w0.heap.size (fun k_ => (P0_ k_ ∨ w.heap.size ≤ k_)) (.slice Ao2 l0.length co2) l0) ∧ Aside0 (Kept w w' (fun k_ => P0_ k_)) ∧ Aside0 (Below w0.heap.size w0 w'))
  case atStart => exact ⟨((l0.length : Int)), (by first | rfl | (simp; done) | (simp [*]; done)), H', ⟨Nat.le_refl _⟩, ⟨by (with_reducible repeat (first | apply Kd.R_alloc | apply Kd.R_drewN | apply Kd.R_drew)); exact HO0.out⟩, ⟨by repeat (first | (with_reducible first | exact HK.out | apply Kept.alloc | apply Kept.drewN | apply Kept.drew) | exact HK.out)⟩, ⟨bq⟩⟩
  case round =>
    clear H'
    try clear p2
    obtain ⟨x3_1, rfl, HA, HK1, HO_0, HK, HB⟩ := hrel
    cases gk with
    | zero => exact absurd HA.out (by simp [schismaref02_trim.l0])
    | succ k1 =>
      have H := HA.out
      clear HA
      simp only [schismaref02_trim.l0] at H
      by_cases c3 : x3_1 > 0
      · rw [if_pos c3] at H
        have c3b0 : decide (0 < x3_1) = true := decide_eq_true c3
        clear c3
        obtain ⟨ji4, hji4⟩ : ∃ j_ : Int, (wrap64 (x3_1 - 1)) = j_ := ⟨_, rfl⟩
        replace H : (if 0 ≤ (ji4) then (if (ji4) < (l0.length : Int) then (if (rd l0 (ji4)) = 0 then (schismaref02_trim.l0 k1 l0 ji4) else (if 0 ≤ x3_1 then (if x3_1 ≤ (l0.length : Int) then (some (l0.take (x3_1 : Int).toNat)) else (none)) else (none))) else (none)) else (none)) = some r := by first | (rw [hji4] at H; exact H) | (simp only [hji4] at H ⊢; exact H)
        have hji4w : (IntKind.i64.wrap (x3_1 - 1)) = ji4 := (i64_w _).trans hji4
        by_cases c5 : 0 ≤ (ji4)
        · rw [if_pos c5] at H
          have c5b0 : decide (0 ≤ (ji4)) = true := decide_eq_true c5
          clear c5
          by_cases c6 : (ji4) < (l0.length : Int)
          · rw [if_pos c6] at H
            have c6b0 : decide ((ji4) < (l0.length : Int)) = true := decide_eq_true c6
            clear c6
            by_cases c7 : (rd l0 (ji4)) = 0
            · rw [if_pos c7] at H
              have c7b0 : ((rd l0 (ji4)) == 0) = true := beq_iff_eq.mpr c7
              have c7b1 : ((rd l0 (ji4)) != 0) = false := bne_eq_false_iff_eq.mpr c7
              clear c7
              have H' := Aside0.mk H
              clear H
              have p490 : 0 ≤ ((ji4) : Int) := of_decide_eq_true (by first | (with_reducible assumption) | assumption)
              have q490 : (ji4) < (l0.length : Int) := of_decide_eq_true (by first | (with_reducible assumption) | assumption)
              obtain ⟨ad490, e490, hx490_0⟩ := Kd.at_int (Kd.R_reads' HO_0.out).2.2 (ji4) p490 q490
              cases e490
              replace p490 := eq_true p490
              replace q490 := eq_true q490
              go_wp2
              go_roundg k1
              case measure => have := HK1.out; omega
              case rel => exact ⟨(ji4), (by first | rfl | (simp; done) | (simp only [← hji4] <;> (first | rfl | simp)) | (simp [*]; done)), H', ⟨by have := HK1.out; omega⟩, ⟨by (with_reducible repeat (first | apply Kd.R_alloc | apply Kd.R_drewN | apply Kd.R_drew)); exact HO_0.out⟩, ⟨by repeat (first | (with_reducible first | exact HK.out | apply Kept.alloc | apply Kept.drewN | apply Kept.drew) | exact HK.out)⟩, ⟨bq⟩⟩
            · rw [if_neg c7] at H
              have c7b0 : ((rd l0 (ji4)) == 0) = false := beq_eq_false_iff_ne.mpr c7
              have c7b1 : ((rd l0 (ji4)) != 0) = true := bne_iff_ne.mpr c7
              by_cases c8 : 0 ≤ x3_1
              · rw [if_pos c8] at H
                have c8b0 := eq_true c8
                have c8b1 : decide (0 ≤ x3_1) = true := decide_eq_true c8
                clear c8
                by_cases c9 : x3_1 ≤ (l0.length : Int)
                · rw [if_pos c9] at H
                  have c9b0 := eq_true c9
                  have c9b1 : decide (x3_1 ≤ (l0.length : Int)) = true := decide_eq_true c9
                  clear c9
                  obtain ⟨y491, hy491⟩ : ∃ y_ : List Int, y_ = (l0.take (x3_1 : Int).toNat) := ⟨_, rfl⟩
                  replace H : (some y491) = some r := by first | (rw [hy491]; with_reducible exact H) | (have H2_ := (Option.bind_some _ _).symm.trans H; rw [hy491]; with_reducible exact H2_) | (have H2_ := (Option.bind_some _ _).symm.trans H; with_reducible exact H2_) | with_reducible exact H | (rw [hy491]; exact H) | exact H
                  have Ny491 := Aside0.mk hy491
                  clear hy491
                  obtain rfl := Option.some.inj H
                  have p490 : 0 ≤ ((ji4) : Int) := of_decide_eq_true (by first | (with_reducible assumption) | assumption)
                  have q490 : (ji4) < (l0.length : Int) := of_decide_eq_true (by first | (with_reducible assumption) | assumption)
                  obtain ⟨ad490, e490, hx490_0⟩ := Kd.at_int (Kd.R_reads' HO_0.out).2.2 (ji4) p490 q490
                  cases e490
                  replace p490 := eq_true p490
                  replace q490 := eq_true q490
                  have q10 : (x3_1 : Int) ≤ ((l0.length : Int) : Int) := of_decide_eq_true (by first | (with_reducible assumption) | assumption)
                  obtain ⟨i010, hi010, _, hsz10, _⟩ := info_parts info3
                  have hcut10 := cut_to (P := Tryz.prog) 55 3 .i64 Tryz.underlying55 hi010 (some ad490) l0.length co2 x3_1 (of_decide_eq_true (by first | (with_reducible assumption) | assumption)) q10 (Kd.R_reads' HO_0.out).2.1
                  have hr10 := Kd.R_take (m := (x3_1 : Int).toNat) HO_0.out (by omega)
                  have hy10 : y491.length = (x3_1 : Int).toNat := (by rw [Ny491.out, List.length_take]; omega)
                  rw [← Ny491.out] at hr10
                  rw [← hy10] at hr10 hcut10
                  clear hy10 hi010 hsz10 HO_0
                  have HO493 := Aside0.mk hr10
                  clear hr10
                  replace q10 := eq_true q10
                  go_wp2
                  go_ret
                  exact ⟨_, by first | rfl | (simp [errW_none, errW_some] <;> rfl) | (simp only [← hji4]; first | rfl | (simp [errW_none, errW_some] <;> rfl)) | (simp [*, errW_none, errW_some] <;> rfl), by (with_reducible repeat (first | apply Kd.R_alloc | apply Kd.R_drewN | apply Kd.R_drew)); exact HO493.out, bq, by repeat (first | (with_reducible first | exact HK.out | apply Kept.alloc | apply Kept.drewN | apply Kept.drew) | exact HK.out)⟩
                · rw [if_neg c9] at H
                  exact absurd H (by simp)
              · rw [if_neg c8] at H
                exact absurd H (by simp)
          · rw [if_neg c6] at H
            exact absurd H (by simp)
        · rw [if_neg c5] at H
          exact absurd H (by simp)
      · rw [if_neg c3] at H
        have c3b0 : decide (0 < x3_1) = false := decide_eq_false c3
        clear c3
        by_cases c11 : 0 ≤ x3_1
        · rw [if_pos c11] at H
          have c11b0 := eq_true c11
          have c11b1 : decide (0 ≤ x3_1) = true := decide_eq_true c11
          clear c11
          by_cases c12 : x3_1 ≤ (l0.length : Int)
          · rw [if_pos c12] at H
            have c12b0 := eq_true c12
            have c12b1 : decide (x3_1 ≤ (l0.length : Int)) = true := decide_eq_true c12
            clear c12
            obtain ⟨y494, hy494⟩ : ∃ y_ : List Int, y_ = (l0.take (x3_1 : Int).toNat) := ⟨_, rfl⟩
            replace H : (some y494) = some r := by first | (rw [hy494]; with_reducible exact H) | (have H2_ := (Option.bind_some _ _).symm.trans H; rw [hy494]; with_reducible exact H2_) | (have H2_ := (Option.bind_some _ _).symm.trans H; with_reducible exact H2_) | with_reducible exact H | (rw [hy494]; exact H) | exact H
            have Ny494 := Aside0.mk hy494
            clear hy494
            obtain rfl := Option.some.inj H
            have q13 : (x3_1 : Int) ≤ ((l0.length : Int) : Int) := of_decide_eq_true (by first | (with_reducible assumption) | assumption)
            obtain ⟨i013, hi013, _, hsz13, _⟩ := info_parts info3
            have hcut13 := cut_to (P := Tryz.prog) 55 3 .i64 Tryz.underlying55 hi013 Ao2 l0.length co2 x3_1 (of_decide_eq_true (by first | (with_reducible assumption) | assumption)) q13 (Kd.R_reads' HO_0.out).2.1
            have hr13 := Kd.R_take (m := (x3_1 : Int).toNat) HO_0.out (by omega)
            have hy13 : y494.length = (x3_1 : Int).toNat := (by rw [Ny494.out, List.length_take]; omega)
            rw [← Ny494.out] at hr13
            rw [← hy13] at hr13 hcut13
            clear hy13 hi013 hsz13 HO_0
            have HO496 := Aside0.mk hr13
            clear hr13
            replace q13 := eq_true q13
            go_wp2
            go_ret
            exact ⟨_, eq_, by (with_reducible repeat (first | apply Kd.R_alloc | apply Kd.R_drewN | apply Kd.R_drew)); exact HO496.out, bq, by repeat (first | (with_reducible first | exact HK.out | apply Kept.alloc | apply Kept.drewN | apply Kept.drew) | exact HK.out)⟩
          · rw [if_neg c12] at H
            exact absurd H (by simp)
        · rw [if_neg c11] at H
          exact absurd H (by simp)
mutual
def schismaref02_split.l0 : Nat → ByteArray → List Int → Option (List Int)
  | 0, _, _ => none
  | k + 1, x0, x3 => if (x0.size : Int) > 0 then (if (x0.size : Int) > 9 then (schismaref02_split.j1 k x0 x3 (wrap64 ((x0.size : Int) - 9))) else (schismaref02_split.j1 k x0 x3 0)) else ((schismaref02_trim.f k x3).bind fun t497 => (some t497))
def schismaref02_split.j1 : Nat → ByteArray → List Int → Int → Option (List Int)
  | 0, _, _, _ => none
  | k + 1, x0, x3, x4 => schismaref02_split.l1 k x0 x3 x4 0 x4
def schismaref02_split.l1 : Nat → ByteArray → List Int → Int → Int → Int → Option (List Int)
  | 0, _, _, _, _, _ => none
  | k + 1, x0, x3, x4, x5, x6 => if x6 < (x0.size : Int) then (if 0 ≤ x6 then (schismaref02_split.l1 k x0 x3 x4 (wrap64 ((wrap64 (10 * x5)) + (((bt x0 x6) - 48) % 256))) (wrap64 (x6 + 1))) else (none)) else (if x3.length < 17592186044416 then (if 0 ≤ x4 then (if x4 ≤ (x0.size : Int) then (schismaref02_split.l0 k (x0.extract 0 (x4 : Int).toNat) (x3 ++ [x5])) else (none)) else (none)) else (none))
end
def schismaref02_split.f (k : Nat) (a0 : ByteArray) : Option (List Int) := schismaref02_split.l0 k a0 ([] : List Int)
theorem schismaref02_split.mono_l : ∀ k, (∀ y0 y1, LeO (schismaref02_split.l0 k y0 y1) (schismaref02_split.l0 (k + 1) y0 y1)) ∧ (∀ y0 y1 y2, LeO (schismaref02_split.j1 k y0 y1 y2) (schismaref02_split.j1 (k + 1) y0 y1 y2)) ∧ (∀ y0 y1 y2 y3 y4, LeO (schismaref02_split.l1 k y0 y1 y2 y3 y4) (schismaref02_split.l1 (k + 1) y0 y1 y2 y3 y4))
  | 0 => ⟨fun _ _ r h => by simp [schismaref02_split.l0] at h, fun _ _ _ r h => by simp [schismaref02_split.j1] at h, fun _ _ _ _ _ r h => by simp [schismaref02_split.l1] at h⟩
  | k + 1 => by
    obtain ⟨ih0, ih1, ih2⟩ := schismaref02_split.mono_l k
    refine ⟨?_, ?_, ?_⟩
    · intro y0 y1
      unfold schismaref02_split.l0
      repeat' first
      | (with_reducible exact ih0 _ _)
      | (with_reducible exact ih1 _ _ _)
      | (with_reducible exact ih2 _ _ _ _ _)
      | (with_reducible exact schismaref02_trim.mono _ _)
      | (with_reducible exact LeO.refl _)
      | (with_reducible exact LeO.none _)
      | (with_reducible refine LeO.ite ?_ ?_)
      | (with_reducible refine LeO.bind ?_ (fun _ => ?_))
      | exact ih0 _ _
      | exact ih1 _ _ _
      | exact ih2 _ _ _ _ _
      | exact schismaref02_trim.mono _ _
      | exact LeO.none _
      | refine LeO.ite ?_ ?_
      | refine LeO.bind ?_ (fun _ => ?_)
    · intro y0 y1 y2
      unfold schismaref02_split.j1
      repeat' first
      | (with_reducible exact ih0 _ _)
      | (with_reducible exact ih1 _ _ _)
      | (with_reducible exact ih2 _ _ _ _ _)
      | (with_reducible exact schismaref02_trim.mono _ _)
      | (with_reducible exact LeO.refl _)
      | (with_reducible exact LeO.none _)
      | (with_reducible refine LeO.ite ?_ ?_)
      | (with_reducible refine LeO.bind ?_ (fun _ => ?_))
      | exact ih0 _ _
      | exact ih1 _ _ _
      | exact ih2 _ _ _ _ _
      | exact schismaref02_trim.mono _ _
      | exact LeO.none _
      | refine LeO.ite ?_ ?_
      | refine LeO.bind ?_ (fun _ => ?_)
    · intro y0 y1 y2 y3 y4
      unfold schismaref02_split.l1
      repeat' first
      | (with_reducible exact ih0 _ _)
      | (with_reducible exact ih1 _ _ _)
      | (with_reducible exact ih2 _ _ _ _ _)
      | (with_reducible exact schismaref02_trim.mono _ _)
      | (with_reducible exact LeO.refl _)
      | (with_reducible exact LeO.none _)
      | (with_reducible refine LeO.ite ?_ ?_)
      | (with_reducible refine LeO.bind ?_ (fun _ => ?_))
      | exact ih0 _ _
      | exact ih1 _ _ _
      | exact ih2 _ _ _ _ _
      | exact schismaref02_trim.mono _ _
      | exact LeO.none _
      | refine LeO.ite ?_ ?_
      | refine LeO.bind ?_ (fun _ => ?_)
theorem schismaref02_split.mono : ∀ a0 k, LeO (schismaref02_split.f k a0) (schismaref02_split.f (k + 1) a0) := by
  intro a0 k
  obtain ⟨ih0, ih1, ih2⟩ := schismaref02_split.mono_l k
  unfold schismaref02_split.f
  repeat' first
      | (with_reducible exact ih0 _ _)
      | (with_reducible exact ih1 _ _ _)
      | (with_reducible exact ih2 _ _ _ _ _)
      | (with_reducible exact schismaref02_trim.mono _ _)
      | (with_reducible exact LeO.refl _)
      | (with_reducible exact LeO.none _)
      | (with_reducible refine LeO.ite ?_ ?_)
      | (with_reducible refine LeO.bind ?_ (fun _ => ?_))
      | exact ih0 _ _
      | exact ih1 _ _ _
      | exact ih2 _ _ _ _ _
      | exact schismaref02_trim.mono _ _
      | exact LeO.none _
      | refine LeO.ite ?_ ?_
      | refine LeO.bind ?_ (fun _ => ?_)
set_option maxHeartbeats 8000000 in
set_option maxRecDepth 100000 in
theorem schismaref02_split.calls (k : Nat) (a0 : ByteArray) (r : List Int) (w : World) (h : schismaref02_split.f k a0 = some r) :
    Calls Tryz.prog 34 #[.string a0] w fun e w' => ∃ v0_ : Value, e = .returned (v0_) ∧ Kd.R (Kd.int .i64) 3 w' w.heap.size (fun _ => True) v0_ r ∧ Below w.heap.size w w' := by
  have HB := Aside0.mk (Below.refl w.heap.size w)
  have H : (schismaref02_split.l0 k a0 ([] : List Int)) = some r := h
  clear h
  have H' := Aside0.mk H
  clear H
  go_enter Tryz.func34, Tryz.ntmps34
  go_wp2
  go_loopg [0, 3] k (fun kq v0 v3 w' => ∃ (x0_1 : ByteArray) (x3_1 : List Int), v0 = .string x0_1 ∧ Aside0 (schismaref02_split.l0 kq x0_1 x3_1 = some r) ∧ Aside0 (kq ≤ k) ∧ Aside0 (Kd.R (Kd.int .i64) 3 w' w.heap.size (fun _ => True) v3 x3_1) ∧ Aside0 (Below w.heap.size w w'))
  case atStart => exact ⟨(a0), (([] : List Int)), (by first | rfl | (simp; done) | (simp [*]; done)), H', ⟨Nat.le_refl _⟩, ⟨by first | exact Kd.R_nil _ _ _ _ _ | exact Kd.N_nil _ _ _ _ _ | exact Kd.V_nil _ _ _ _ _ | exact Kd.Q_nil _ _ _ _ _ | exact Kd.S_nil _ _ _ _ _⟩, ⟨bq⟩⟩
  case round =>
    clear H'
    obtain ⟨x0_1, x3_1, rfl, HA, HK1, HO_3, HB⟩ := hrel
    cases gk with
    | zero => exact absurd HA.out (by simp [schismaref02_split.l0])
    | succ k1 =>
      have H := HA.out
      clear HA
      simp only [schismaref02_split.l0] at H
      by_cases c2 : (x0_1.size : Int) > 0
      · rw [if_pos c2] at H
        have c2b0 : decide (0 < (x0_1.size : Int)) = true := decide_eq_true c2
        have c2b1 : decide (0 < x0_1.size) = true := decide_eq_true (by omega)
        clear c2
        have HC3 := Aside0.mk H
        clear H
        go_upto_if 12 with (fail)
        go_cut [4] (fun v4 wc => ∃ (kq : Nat) (x4_2 : Int), v4 = .int .i64 x4_2 ∧ Aside0 (schismaref02_split.j1 kq x0_1 x3_1 x4_2 = some r) ∧ Aside0 (kq ≤ k1) ∧ Aside0 (Kd.R (Kd.int .i64) 3 wc w.heap.size (fun _ => True) u3 x3_1) ∧ Aside0 (Below w.heap.size w wc))
        case first =>
          have H := HC3.out
          clear HC3
          by_cases c4 : (x0_1.size : Int) > 9
          · rw [if_pos c4] at H
            have c4b0 : decide (9 < (x0_1.size : Int)) = true := decide_eq_true c4
            have c4b1 : decide (9 < x0_1.size) = true := decide_eq_true (by omega)
            clear c4
            (first | rw [c4b0] | (simp only [i64_w, i32_w]; rw [c4b0]) | skip)
            have H' := Aside0.mk H
            clear H
            go_wp2
            go_meet
            case rel => exact ⟨_, (wrap64 ((x0_1.size : Int) - 9)), (by first | rfl | (simp; done) | (simp [*]; done)), H', ⟨by have := HK1.out; first | omega | exact Nat.le_refl _⟩, ⟨by (with_reducible repeat (first | apply Kd.R_alloc | apply Kd.R_drewN | apply Kd.R_drew)); exact HO_3.out⟩, ⟨bq⟩⟩
          · rw [if_neg c4] at H
            have c4b0 : decide (9 < (x0_1.size : Int)) = false := decide_eq_false c4
            have c4b1 : decide (9 < x0_1.size) = false := decide_eq_false (by omega)
            clear c4
            (first | rw [c4b0] | (simp only [i64_w, i32_w]; rw [c4b0]) | skip)
            have H' := Aside0.mk H
            clear H
            go_wp2
            go_meet
            case rel => exact ⟨_, (0), (by first | rfl | (simp; done) | (simp [*]; done)), H', ⟨by have := HK1.out; first | omega | exact Nat.le_refl _⟩, ⟨by (with_reducible repeat (first | apply Kd.R_alloc | apply Kd.R_drewN | apply Kd.R_drew)); exact HO_3.out⟩, ⟨bq⟩⟩
        case rest =>
          clear HC3
          try clear c2
          try clear c2b0
          try clear c2b1
          try clear p2
          try clear c3
          try clear c4
          try clear c4b0
          try clear c4b1
          obtain ⟨kq, x4_2, rfl, HA, HJ2, HO_3, HB⟩ := hcut
          cases kq with
          | zero => exact absurd HA.out (by simp [schismaref02_split.j1])
          | succ kj2 =>
            have H := HA.out
            clear HA
            simp only [schismaref02_split.j1] at H
            have H' := Aside0.mk H
            clear H
            go_wp2
            go_loopg [5, 6] kj2 (fun kq v5 v6 w' => ∃ (x5_3 : Int) (x6_3 : Int), v5 = .int .i64 x5_3 ∧ v6 = .int .i64 x6_3 ∧ Aside0 (schismaref02_split.l1 kq x0_1 x3_1 x4_2 x5_3 x6_3 = some r) ∧ Aside0 (kq ≤ kj2) ∧ Aside0 (Kd.R (Kd.int .i64) 3 w' w.heap.size (fun _ => True) u3 x3_1) ∧ Aside0 (Below w.heap.size w w'))
            case atStart => exact ⟨(0), (x4_2), (by first | rfl | (simp; done) | (simp [*]; done)), (by first | rfl | (simp; done) | (simp [*]; done)), H', ⟨Nat.le_refl _⟩, ⟨by (with_reducible repeat (first | apply Kd.R_alloc | apply Kd.R_drewN | apply Kd.R_drew)); exact HO_3.out⟩, ⟨bq⟩⟩
            case round =>
              clear H'
              try clear c2
              try clear c2b0
              try clear c2b1
              try clear p2
              try clear c3
              try clear c4
              try clear c4b0
              try clear c4b1
              try clear p2
              obtain ⟨x5_3, x6_3, rfl, rfl, HA, HK3, HO_3, HB⟩ := hrel
              cases gk with
              | zero => exact absurd HA.out (by simp [schismaref02_split.l1])
              | succ k3 =>
                have H := HA.out
                clear HA
                simp only [schismaref02_split.l1] at H
                by_cases c5 : x6_3 < (x0_1.size : Int)
                · rw [if_pos c5] at H
                  have c5b0 : decide (x6_3 < (x0_1.size : Int)) = true := decide_eq_true c5
                  clear c5
                  by_cases c6 : 0 ≤ x6_3
                  · rw [if_pos c6] at H
                    have c6b0 : decide (0 ≤ x6_3) = true := decide_eq_true c6
                    clear c6
                    have H' := Aside0.mk H
                    clear H
                    have p7 : 0 ≤ (x6_3 : Int) := of_decide_eq_true (by first | (with_reducible assumption) | assumption)
                    have q7 : x6_3 < (x0_1.size : Int) := of_decide_eq_true (by first | (with_reducible assumption) | assumption)
                    have hx7 := bt_at x0_1 x6_3
                    replace p7 := eq_true p7
                    replace q7 := eq_true q7
                    go_wp2
                    go_roundg k3
                    case measure => have := HK1.out; have := HJ2.out; have := HK3.out; omega
                    case rel => exact ⟨(wrap64 ((wrap64 (10 * x5_3)) + (((bt x0_1 x6_3) - 48) % 256))), (wrap64 (x6_3 + 1)), (by first | rfl | (simp; done) | (simp [*]; done)), (by first | rfl | (simp; done) | (simp [*]; done)), H', ⟨by have := HK1.out; have := HJ2.out; have := HK3.out; omega⟩, ⟨by (with_reducible repeat (first | apply Kd.R_alloc | apply Kd.R_drewN | apply Kd.R_drew)); exact HO_3.out⟩, ⟨bq⟩⟩
                  · rw [if_neg c6] at H
                    exact absurd H (by simp)
                · rw [if_neg c5] at H
                  have c5b0 : decide (x6_3 < (x0_1.size : Int)) = false := decide_eq_false c5
                  clear c5
                  by_cases c8 : x3_1.length < 17592186044416
                  · rw [if_pos c8] at H
                    have LMc8 := Aside0.mk c8
                    clear c8
                    obtain ⟨y500, hy500⟩ : ∃ y_ : List Int, y_ = (x3_1 ++ [x5_3]) := ⟨_, rfl⟩
                    replace H : (if 0 ≤ x4_2 then (if x4_2 ≤ (x0_1.size : Int) then (schismaref02_split.l0 k3 (x0_1.extract 0 (x4_2 : Int).toNat) y500) else (none)) else (none)) = some r := by first | (rw [hy500]; with_reducible exact H) | (have H2_ := (Option.bind_some _ _).symm.trans H; rw [hy500]; with_reducible exact H2_) | (have H2_ := (Option.bind_some _ _).symm.trans H; with_reducible exact H2_) | with_reducible exact H | (rw [hy500]; exact H) | exact H
                    have Ny500 := Aside0.mk hy500
                    clear hy500
                    by_cases c9 : 0 ≤ x4_2
                    · rw [if_pos c9] at H
                      have c9b0 := eq_true c9
                      have c9b1 : decide (0 ≤ x4_2) = true := decide_eq_true c9
                      clear c9
                      by_cases c10 : x4_2 ≤ (x0_1.size : Int)
                      · rw [if_pos c10] at H
                        have c10b0 := eq_true c10
                        have c10b1 : decide (x4_2 ≤ (x0_1.size : Int)) = true := decide_eq_true c10
                        clear c10
                        have H' := Aside0.mk H
                        clear H
                        go_wp2_with (first | ((with_reducible refine gate_builtin (b := .append) (xs := #[.tmp 31, .tmp 33]) rfl ?_); at_builtin; refine Kd.R_append (Kd.int .i64) (w0 := w) w.heap.size rfl (.tmp 31) (.tmp 33) 55 3 (.int .i64 0) 8 rfl Tryz.underlying55 info3 rfl (by decide) (by omega) u3 x3_1 x5_3 [.int .i64 x5_3] (fun _ => True) (fun _ => False) rfl rfl ?aP (fun _ hk => hk.elim) ?aF ?aO ?aB ?aS ?aL ?_; (case aP => exact rfl); (case aB => exact bq); (case aF => exact (fun _ _ => trivial)); (case aO => exact (by (with_reducible repeat (first | apply Kd.R_alloc | apply Kd.R_drewN | apply Kd.R_drew)); exact HO_3.out)); (case aS => exact (below_size bq)); (case aL => have := LMc8.out; omega); intro v501 w11 ho hb hg hat; rw [← Ny500.out] at ho; have n0_ := Aside0.mk (hb); have n1_ := Aside0.mk (ho); clear HB; clear HO_3; have HB := n0_; have HO502 := n1_; clear n0_ n1_; clear ho hb hg hat))
                        go_roundg k3
                        case measure => have := HK1.out; have := HJ2.out; have := HK3.out; omega
                        case rel => exact ⟨(x0_1.extract 0 (x4_2 : Int).toNat), (y500), (by first | rfl | (simp; done) | (simp [*]; done)), H', ⟨by have := HK1.out; have := HJ2.out; have := HK3.out; omega⟩, ⟨by (with_reducible repeat (first | apply Kd.R_alloc | apply Kd.R_drewN | apply Kd.R_drew)); exact HO502.out⟩, ⟨bq⟩⟩
                      · rw [if_neg c10] at H
                        exact absurd H (by simp)
                    · rw [if_neg c9] at H
                      exact absurd H (by simp)
                  · rw [if_neg c8] at H
                    exact absurd H (by simp)
      · rw [if_neg c2] at H
        have c2b0 : decide (0 < (x0_1.size : Int)) = false := decide_eq_false c2
        have c2b1 : decide (0 < x0_1.size) = false := decide_eq_false (by omega)
        clear c2
        replace H := Option.bind_eq_some_iff.mp H
        obtain ⟨t497, A120, H⟩ := H
        replace H : (some t497) = some r := H
        have A12 := Aside0.mk A120
        clear A120
        obtain rfl := Option.some.inj H
        obtain ⟨Ao13, co13, eo13⟩ := Kd.R_slice HO_3.out
        subst eo13
        go_wp2_with (first | ((with_reducible refine gate_callee (f := 65) rfl ?_); refine goesL_ (some 39) rfl rfl Tryz.func65 (by kernel_rfl) rfl #[.slice Ao13 x3_1.length co13] rfl mq ?_; (with_reducible refine (schismaref02_trim.calls k1 (fun k_ => some k_ = (.slice Ao13 x3_1.length co13 : Value).ownBlock) (.slice Ao13 x3_1.length co13) x3_1 t497 w _ ?side1 ?side2 A12.out).mono ?_); (case side1 => exact bq); (case side2 => exact Kd.R_tight rfl HO_3.out); rintro e w14 ⟨v498, rfl, ho0, hb, hkp⟩; refine ⟨_, rfl, ?_⟩; have n0_ := Aside0.mk (Kd.R_mono (ok' := fun k_ => True) ho0 (fun k_ hk_ => trivial)); have n1_ := Aside0.mk (hb); clear HB; clear HO_3; have HO499 := n0_; have HB := n1_; clear n0_ n1_; (try clear hb); (try clear hkp); (try clear ho0)))
        go_ret
        exact ⟨_, eq_, by (with_reducible repeat (first | apply Kd.R_alloc | apply Kd.R_drewN | apply Kd.R_drew)); exact HO499.out, bq⟩
def schismaref02_Sign.f (a0 : ByteArray) : Option (Int) := if a0.toList = ([48] : List UInt8) then (some 0) else (if 0 < (a0.size : Int) then (if (bt a0 0) = 45 then (some (-1)) else (some 1)) else (none))
set_option maxHeartbeats 8000000 in
set_option maxRecDepth 100000 in
theorem schismaref02_Sign.calls (a0 : ByteArray) (r : Int) (w : World) (h : schismaref02_Sign.f a0 = some r) :
    Calls Tryz.prog 53 #[.string a0] w fun e w' => e = .returned (.int .i64 r) ∧ Drawn0 w w' := by
  have H : (if a0.toList = ([48] : List UInt8) then (some 0) else (if 0 < (a0.size : Int) then (if (bt a0 0) = 45 then (some (-1)) else (some 1)) else (none))) = some r := h
  clear h
  by_cases c2 : a0.toList = ([48] : List UInt8)
  · rw [if_pos c2] at H
    have c2b0 : (a0.toList == ([48] : List UInt8)) = true := beq_iff_eq.mpr c2
    have c2b1 : (a0.toList != ([48] : List UInt8)) = false := bne_eq_false_iff_eq.mpr c2
    clear c2
    obtain rfl := Option.some.inj H
    go_enter Tryz.func53, Tryz.ntmps53
    go_wp2
    go_ret
    exact ⟨by first | rfl | (simp; done) | (simp [wrap64]; done) | (simp [*]; done), by repeat (first | exact Drawn0.refl _ | apply Drawn0.step)⟩
  · rw [if_neg c2] at H
    have c2b0 : (a0.toList == ([48] : List UInt8)) = false := beq_eq_false_iff_ne.mpr c2
    have c2b1 : (a0.toList != ([48] : List UInt8)) = true := bne_iff_ne.mpr c2
    by_cases c3 : 0 < (a0.size : Int)
    · rw [if_pos c3] at H
      have c3b0 : decide (0 < (a0.size : Int)) = true := decide_eq_true c3
      have c3b1 : decide (0 < a0.size) = true := decide_eq_true (by omega)
      clear c3
      by_cases c5 : (bt a0 0) = 45
      · rw [if_pos c5] at H
        have c5b0 : ((bt a0 0) == 45) = true := beq_iff_eq.mpr c5
        have c5b1 : ((bt a0 0) != 45) = false := bne_eq_false_iff_eq.mpr c5
        clear c5
        obtain rfl := Option.some.inj H
        have p4 : 0 ≤ (0 : Int) := (by omega)
        have q4 : 0 < a0.size := (by have : (0 : Int) < (a0.size : Int) := of_decide_eq_true (by first | (with_reducible assumption) | assumption); omega)
        have hx4 : ∀ h : 0 < a0.size, ((a0[0]'h).toNat : Int) = bt a0 0 := bt_at a0 0
        clear p4
        have qi4 : (0 < (a0.size : Int)) = True := eq_true (of_decide_eq_true (by first | (with_reducible assumption) | assumption))
        replace q4 := eq_true q4
        go_enter Tryz.func53, Tryz.ntmps53
        go_wp2
        go_ret
        exact ⟨by first | rfl | (simp; done) | (simp [wrap64]; done) | (simp [*]; done), by repeat (first | exact Drawn0.refl _ | apply Drawn0.step)⟩
      · rw [if_neg c5] at H
        have c5b0 : ((bt a0 0) == 45) = false := beq_eq_false_iff_ne.mpr c5
        have c5b1 : ((bt a0 0) != 45) = true := bne_iff_ne.mpr c5
        obtain rfl := Option.some.inj H
        have p4 : 0 ≤ (0 : Int) := (by omega)
        have q4 : 0 < a0.size := (by have : (0 : Int) < (a0.size : Int) := of_decide_eq_true (by first | (with_reducible assumption) | assumption); omega)
        have hx4 : ∀ h : 0 < a0.size, ((a0[0]'h).toNat : Int) = bt a0 0 := bt_at a0 0
        clear p4
        have qi4 : (0 < (a0.size : Int)) = True := eq_true (of_decide_eq_true (by first | (with_reducible assumption) | assumption))
        replace q4 := eq_true q4
        go_enter Tryz.func53, Tryz.ntmps53
        go_wp2
        go_ret
        exact ⟨by first | rfl | (simp; done) | (simp [wrap64]; done) | (simp [*]; done), by repeat (first | exact Drawn0.refl _ | apply Drawn0.step)⟩
    · rw [if_neg c3] at H
      exact absurd H (by simp)
def schismaref02_side.f (a0 : ByteArray) : Option (Int) := (schismaref02_Sign.f a0).bind fun t503 => (if t503 < 0 then (some (-1)) else (some 1))
set_option maxHeartbeats 8000000 in
set_option maxRecDepth 100000 in
theorem schismaref02_side.calls (a0 : ByteArray) (r : Int) (w : World) (h : schismaref02_side.f a0 = some r) :
    Calls Tryz.prog 35 #[.string a0] w fun e w' => e = .returned (.int .i64 r) ∧ Drawn0 w w' := by
  have H : ((schismaref02_Sign.f a0).bind fun t503 => (if t503 < 0 then (some (-1)) else (some 1))) = some r := h
  clear h
  replace H := Option.bind_eq_some_iff.mp H
  obtain ⟨t503, A20, H⟩ := H
  replace H : (if t503 < 0 then (some (-1)) else (some 1)) = some r := H
  have A2 := Aside0.mk A20
  clear A20
  by_cases c3 : t503 < 0
  · rw [if_pos c3] at H
    have c3b0 : decide (t503 < 0) = true := decide_eq_true c3
    clear c3
    obtain rfl := Option.some.inj H
    go_enter Tryz.func35, Tryz.ntmps35
    go_wp2_with (first | ((with_reducible refine gate_callee (f := 53) rfl ?_); refine goesL_ (some 4) rfl rfl Tryz.func53 (by kernel_rfl) rfl #[.string a0] rfl mq ?_; (with_reducible refine (schismaref02_Sign.calls a0 t503 _ A2.out).mono ?_); rintro e w' ⟨rfl, ⟨nd, rfl⟩⟩; refine ⟨_, rfl, ?_⟩))
    go_ret
    exact ⟨by first | rfl | (simp; done) | (simp [wrap64]; done) | (simp [*]; done), by repeat (first | exact Drawn0.refl _ | apply Drawn0.step)⟩
  · rw [if_neg c3] at H
    have c3b0 : decide (t503 < 0) = false := decide_eq_false c3
    clear c3
    obtain rfl := Option.some.inj H
    go_enter Tryz.func35, Tryz.ntmps35
    go_wp2_with (first | ((with_reducible refine gate_callee (f := 53) rfl ?_); refine goesL_ (some 4) rfl rfl Tryz.func53 (by kernel_rfl) rfl #[.string a0] rfl mq ?_; (with_reducible refine (schismaref02_Sign.calls a0 t503 _ A2.out).mono ?_); rintro e w' ⟨rfl, ⟨nd, rfl⟩⟩; refine ⟨_, rfl, ?_⟩))
    go_ret
    exact ⟨by first | rfl | (simp; done) | (simp [wrap64]; done) | (simp [*]; done), by repeat (first | exact Drawn0.refl _ | apply Drawn0.step)⟩
end Go.Proofs.YtgicckcahhlbjaaGreatDoor.P
