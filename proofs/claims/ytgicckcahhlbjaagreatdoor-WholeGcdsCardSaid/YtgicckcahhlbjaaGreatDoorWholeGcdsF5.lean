/- Functions of the program, as functions of Lean, and the walks that show that the code answers as they do: written by a program. Conditions: those of each theorem. -/
import Derived.Test.YtgicckcahhlbjaaGreatDoorWholeGcdsF4
namespace Go.Proofs.YtgicckcahhlbjaaGreatDoor.P
open Go.RowKit Go.Proofs.YtgicckcahhlbjaaGreatDoorW.PrintWords Go.Proofs.YtgicckcahhlbjaaGreatDoorW.PrintLast Go.Proofs.YtgicckcahhlbjaaGreatDoorW.PrintMore
attribute [local go_sem] gtr_text max2_int min2_int max_two min_two max_three min_three max_four min_four
set_option linter.unusedVariables false
set_option linter.unusedSimpArgs false
mutual
def r_Parse.j0 : Nat → ByteArray → Bool → Option (ByteArray × Int)
  | 0, _, _ => none
  | k + 1, x0, x4 => if x0.toList = ([] : List UInt8) then (some ((⟨#[]⟩ : ByteArray), 15)) else (r_Parse.l0 k x0 x4 0)
def r_Parse.l0 : Nat → ByteArray → Bool → Int → Option (ByteArray × Int)
  | 0, _, _, _ => none
  | k + 1, x0, x4, x5 => if x5 < (x0.size : Int) then (if 0 ≤ x5 then (if (bt x0 x5) < 48 then (some ((⟨#[]⟩ : ByteArray), 15)) else (if (bt x0 x5) > 57 then (some ((⟨#[]⟩ : ByteArray), 15)) else (r_Parse.l0 k x0 x4 (wrap64 (x5 + 1))))) else (none)) else (r_Parse.l1 k x0 x4)
def r_Parse.j3 : Nat → ByteArray → Bool → Option (ByteArray × Int)
  | 0, _, _ => none
  | k + 1, x0, x4 => if (x0.size : Int) > 400 then (some ((⟨#[]⟩ : ByteArray), 4)) else (if x4 = true then (if x0.toList = ([48] : List UInt8) then (some (x0, 0)) else (if 1 + x0.size ≤ 9223372036854775807 then (some ((⟨#[45]⟩ : ByteArray) ++ x0, 0)) else (none))) else (some (x0, 0)))
def r_Parse.l1 : Nat → ByteArray → Bool → Option (ByteArray × Int)
  | 0, _, _ => none
  | k + 1, x0, x4 => if (x0.size : Int) > 1 then (if 0 < (x0.size : Int) then (if (bt x0 0) = 48 then (if 1 ≤ (x0.size : Int) then (r_Parse.l1 k (x0.extract 1 x0.size) x4) else (none)) else (r_Parse.j3 k x0 x4)) else (none)) else (r_Parse.j3 k x0 x4)
end
def r_Parse.f (k : Nat) (a0 : ByteArray) : Option (ByteArray × Int) := if a0.toList = ([] : List UInt8) then (some ((⟨#[]⟩ : ByteArray), 13)) else (if 0 < (a0.size : Int) then (if (bt a0 0) = 45 then (if 1 ≤ (a0.size : Int) then (r_Parse.j0 k (a0.extract 1 a0.size) ((bt a0 0) == 45)) else (none)) else (r_Parse.j0 k a0 ((bt a0 0) == 45))) else (none))
theorem r_Parse.mono_l : ∀ k, (∀ y0 y1, LeO (r_Parse.j0 k y0 y1) (r_Parse.j0 (k + 1) y0 y1)) ∧ (∀ y0 y1 y2, LeO (r_Parse.l0 k y0 y1 y2) (r_Parse.l0 (k + 1) y0 y1 y2)) ∧ (∀ y0 y1, LeO (r_Parse.j3 k y0 y1) (r_Parse.j3 (k + 1) y0 y1)) ∧ (∀ y0 y1, LeO (r_Parse.l1 k y0 y1) (r_Parse.l1 (k + 1) y0 y1))
  | 0 => ⟨fun _ _ r h => by simp [r_Parse.j0] at h, fun _ _ _ r h => by simp [r_Parse.l0] at h, fun _ _ r h => by simp [r_Parse.j3] at h, fun _ _ r h => by simp [r_Parse.l1] at h⟩
  | k + 1 => by
    obtain ⟨ih0, ih1, ih2, ih3⟩ := r_Parse.mono_l k; refine ⟨?_, ?_, ?_, ?_⟩
    · intro y0 y1; unfold r_Parse.j0
      repeat' with_reducible first | apply ih0 | apply ih1 | apply ih2 | apply ih3 | apply LeO.refl | apply LeO.none | refine LeO.ite ?_ ?_ | refine LeO.bind ?_ (fun _ => ?_)
    · intro y0 y1 y2; unfold r_Parse.l0
      repeat' with_reducible first | apply ih0 | apply ih1 | apply ih2 | apply ih3 | apply LeO.refl | apply LeO.none | refine LeO.ite ?_ ?_ | refine LeO.bind ?_ (fun _ => ?_)
    · intro y0 y1; unfold r_Parse.j3
      repeat' with_reducible first | apply ih0 | apply ih1 | apply ih2 | apply ih3 | apply LeO.refl | apply LeO.none | refine LeO.ite ?_ ?_ | refine LeO.bind ?_ (fun _ => ?_)
    · intro y0 y1; unfold r_Parse.l1
      repeat' with_reducible first | apply ih0 | apply ih1 | apply ih2 | apply ih3 | apply LeO.refl | apply LeO.none | refine LeO.ite ?_ ?_ | refine LeO.bind ?_ (fun _ => ?_)
theorem r_Parse.mono : ∀ a0 k, LeO (r_Parse.f k a0) (r_Parse.f (k + 1) a0) := by
  intro a0 k; obtain ⟨ih0, ih1, ih2, ih3⟩ := r_Parse.mono_l k; unfold r_Parse.f
  repeat' with_reducible first | apply ih0 | apply ih1 | apply ih2 | apply ih3 | apply LeO.refl | apply LeO.none | refine LeO.ite ?_ ?_ | refine LeO.bind ?_ (fun _ => ?_)
set_option maxHeartbeats 8000000 in
set_option maxRecDepth 100000 in
theorem r_Parse.calls (k : Nat) (a0 : ByteArray) (r1 : ByteArray) (r2 : Int) (w : World) (h : r_Parse.f k a0 = some (r1, r2)) :
    Calls Tryz.prog 27 #[.string a0] w fun e w' => e = .returned (.tuple #[.string r1, .int .i64 r2]) ∧ Drawn0 w w' := by
  have H : (if a0.toList = ([] : List UInt8) then (some ((⟨#[]⟩ : ByteArray), 13)) else (if 0 < (a0.size : Int) then (if (bt a0 0) = 45 then (if 1 ≤ (a0.size : Int) then (r_Parse.j0 k (a0.extract 1 a0.size) ((bt a0 0) == 45)) else (none)) else (r_Parse.j0 k a0 ((bt a0 0) == 45))) else (none))) = some (r1, r2) := h
  clear h; by_cases c2 : a0.toList = ([] : List UInt8)
  · rw [if_pos c2] at H; have c2b0 : (a0.toList == ([] : List UInt8)) = true := beq_iff_eq.mpr c2; have c2b1 : (a0.toList != ([] : List UInt8)) = false := bne_eq_false_iff_eq.mpr c2; clear c2; simp only [Option.some.injEq, Prod.mk.injEq] at H
    obtain ⟨rfl, rfl⟩ := H
    go_enter Tryz.func27, Tryz.ntmps27
    go_wp2
    go_ret2
    exact ⟨sw, by repeat (first | exact Drawn0.refl _ | apply Drawn0.step)⟩
  · rw [if_neg c2] at H; have c2b0 : (a0.toList == ([] : List UInt8)) = false := beq_eq_false_iff_ne.mpr c2; have c2b1 : (a0.toList != ([] : List UInt8)) = true := bne_iff_ne.mpr c2; by_cases c3 : 0 < (a0.size : Int)
    · rw [if_pos c3] at H; have c3b0 : decide (0 < (a0.size : Int)) = true := decide_eq_true c3; have c3b1 : decide (0 < a0.size) = true := decide_eq_true (by omega)
      clear c3; have HC5 := Aside0.mk H; clear H; have p4 : 0 ≤ (0 : Int) := (by omega)
      have q4 : 0 < a0.size := (by have : (0 : Int) < (a0.size : Int) := of_decide_eq_true as_; omega)
      have hx4 : ∀ h : 0 < a0.size, ((a0[0]'h).toNat : Int) = bt a0 0 := bt_at a0 0; clear p4; have qi4 : (0 < (a0.size : Int)) = True := eq_true (of_decide_eq_true as_); replace q4 := eq_true q4
      go_enter Tryz.func27, Tryz.ntmps27
      go_upto_if 11 with (fail)
      go_cut [0] (fun v0 wc => ∃ (kq : Nat) (x0_4 : ByteArray), v0 = .string x0_4 ∧ Aside0 (r_Parse.j0 kq x0_4 ((bt a0 0) == 45) = some (r1, r2)) ∧ Aside0 (kq ≤ k) ∧ Drawn0 w wc)
      case first =>
        have H := HC5.out; clear HC5; by_cases c6 : (bt a0 0) = 45
        · rw [if_pos c6] at H; have c6b0 : ((bt a0 0) == 45) = true := beq_iff_eq.mpr c6; have c6b1 : ((bt a0 0) != 45) = false := bne_eq_false_iff_eq.mpr c6; clear c6
          (first | rw [c6b0] | (simp only [i64_w, i32_w]; rw [c6b0]) | skip)
          try simp only [c6b0] at *
          by_cases c7 : 1 ≤ (a0.size : Int)
          · rw [if_pos c7] at H; have c7b0 := eq_true c7; have c7b1 : decide (1 ≤ (a0.size : Int)) = true := decide_eq_true c7; clear c7; have H' := Aside0.mk H; clear H
            go_wp2
            go_meet
            case rel => exact ⟨_, (a0.extract 1 a0.size), sq, H', ⟨by first | omega | exact Nat.le_refl _⟩, by repeat (first | exact Drawn0.refl _ | apply Drawn0.step)⟩
          · rw [if_neg c7] at H; exact absurd H (by simp)
        · rw [if_neg c6] at H; have c6b0 : ((bt a0 0) == 45) = false := beq_eq_false_iff_ne.mpr c6; have c6b1 : ((bt a0 0) != 45) = true := bne_iff_ne.mpr c6
          (first | rw [c6b0] | (simp only [i64_w, i32_w]; rw [c6b0]) | skip)
          try simp only [c6b0] at *
          have H' := Aside0.mk H; clear H
          go_wp2
          go_meet
          case rel => exact ⟨_, (a0), sq, H', ⟨by first | omega | exact Nat.le_refl _⟩, by repeat (first | exact Drawn0.refl _ | apply Drawn0.step)⟩
      case rest =>
        clear HC5; (try clear c2); (try clear c2b0); (try clear c2b1); (try clear p2); (try clear c3); (try clear c3b0); (try clear c3b1); (try clear p4); (try clear q4); (try clear hx4); (try clear qi4); (try clear c6); (try clear c6b0); (try clear c6b1); (try clear c7); (try clear c7b0); (try clear c7b1); (try clear p4); (try clear q4); obtain ⟨kq, x0_4, rfl, HA, HJ4, ⟨mc4, rfl⟩⟩ := hcut; cases kq with
        | zero => exact absurd HA.out (by simp [r_Parse.j0])
        | succ kj4 =>
          have H := HA.out; clear HA; simp only [r_Parse.j0] at H
          by_cases c8 : x0_4.toList = ([] : List UInt8)
          · rw [if_pos c8] at H; have c8b0 : (x0_4.toList == ([] : List UInt8)) = true := beq_iff_eq.mpr c8; have c8b1 : (x0_4.toList != ([] : List UInt8)) = false := bne_eq_false_iff_eq.mpr c8; clear c8; simp only [Option.some.injEq, Prod.mk.injEq] at H
            obtain ⟨rfl, rfl⟩ := H
            go_wp2
            go_ret2
            exact ⟨sw, by repeat (first | exact Drawn0.refl _ | apply Drawn0.step)⟩
          · rw [if_neg c8] at H; have c8b0 : (x0_4.toList == ([] : List UInt8)) = false := beq_eq_false_iff_ne.mpr c8; have c8b1 : (x0_4.toList != ([] : List UInt8)) = true := bne_iff_ne.mpr c8; have H' := Aside0.mk H; clear H
            go_wp2
            go_loopg [5] kj4 (fun kq v5 w' => ∃ (x5_2 : Int), v5 = .int .i64 x5_2 ∧ Aside0 (r_Parse.l0 kq x0_4 ((bt a0 0) == 45) x5_2 = some (r1, r2)) ∧ Aside0 (kq ≤ kj4) ∧ Drawn0 w w')
            case atStart => exact ⟨(0), sq, H', ⟨Nat.le_refl _⟩, by repeat (first | exact Drawn0.refl _ | apply Drawn0.step)⟩
            case round =>
              clear H'; (try clear c2); (try clear c2b0); (try clear c2b1); (try clear p2); (try clear c3); (try clear c3b0); (try clear c3b1); (try clear c4); (try clear p4); (try clear q4); (try clear hx4); (try clear qi4); (try clear c6); (try clear c6b0); (try clear c6b1); (try clear c7); (try clear c7b0); (try clear c7b1); (try clear c8); (try clear c8b0); (try clear c8b1); (try clear p2); (try clear p4); (try clear q4); obtain ⟨x5_2, rfl, HA, HK2, ⟨m2, rfl⟩⟩ := hrel; cases gk with
              | zero => exact absurd HA.out (by simp [r_Parse.l0])
              | succ k2 =>
                have H := HA.out; clear HA; simp only [r_Parse.l0] at H
                by_cases c9 : x5_2 < (x0_4.size : Int)
                · rw [if_pos c9] at H; have c9b0 : decide (x5_2 < (x0_4.size : Int)) = true := decide_eq_true c9; clear c9; by_cases c10 : 0 ≤ x5_2
                  · rw [if_pos c10] at H; have c10b0 : decide (0 ≤ x5_2) = true := decide_eq_true c10; clear c10; by_cases c12 : (bt x0_4 x5_2) < 48
                    · rw [if_pos c12] at H; have c12b0 : decide ((bt x0_4 x5_2) < 48) = true := decide_eq_true c12; clear c12; simp only [Option.some.injEq, Prod.mk.injEq] at H
                      obtain ⟨rfl, rfl⟩ := H; have p11 : 0 ≤ (x5_2 : Int) := of_decide_eq_true as_; have q11 : x5_2 < (x0_4.size : Int) := of_decide_eq_true as_; have hx11 := bt_at x0_4 x5_2; replace p11 := eq_true p11; replace q11 := eq_true q11
                      go_wp2
                      go_ret2
                      exact ⟨sw, by repeat (first | exact Drawn0.refl _ | apply Drawn0.step)⟩
                    · rw [if_neg c12] at H; have c12b0 : decide ((bt x0_4 x5_2) < 48) = false := decide_eq_false c12; clear c12; by_cases c14 : (bt x0_4 x5_2) > 57
                      · rw [if_pos c14] at H; have c14b0 : decide (57 < (bt x0_4 x5_2)) = true := decide_eq_true c14; clear c14; simp only [Option.some.injEq, Prod.mk.injEq] at H
                        obtain ⟨rfl, rfl⟩ := H; have p11 : 0 ≤ (x5_2 : Int) := of_decide_eq_true as_; have q11 : x5_2 < (x0_4.size : Int) := of_decide_eq_true as_; have hx11 := bt_at x0_4 x5_2; replace p11 := eq_true p11; replace q11 := eq_true q11; have p13 : 0 ≤ (x5_2 : Int) := of_decide_eq_true as_; have q13 : x5_2 < (x0_4.size : Int) := of_decide_eq_true as_; have hx13 := bt_at x0_4 x5_2; replace p13 := eq_true p13; replace q13 := eq_true q13
                        go_wp2
                        go_ret2
                        exact ⟨sw, by repeat (first | exact Drawn0.refl _ | apply Drawn0.step)⟩
                      · rw [if_neg c14] at H; have c14b0 : decide (57 < (bt x0_4 x5_2)) = false := decide_eq_false c14; clear c14; have H' := Aside0.mk H; clear H; have p11 : 0 ≤ (x5_2 : Int) := of_decide_eq_true as_; have q11 : x5_2 < (x0_4.size : Int) := of_decide_eq_true as_; have hx11 := bt_at x0_4 x5_2; replace p11 := eq_true p11; replace q11 := eq_true q11; have p13 : 0 ≤ (x5_2 : Int) := of_decide_eq_true as_; have q13 : x5_2 < (x0_4.size : Int) := of_decide_eq_true as_; have hx13 := bt_at x0_4 x5_2; replace p13 := eq_true p13; replace q13 := eq_true q13
                        go_wp2
                        go_roundg k2
                        case measure => have := HJ4.out; have := HK2.out; omega
                        case rel => exact ⟨(wrap64 (x5_2 + 1)), sq, H', ⟨by have := HJ4.out; have := HK2.out; omega⟩, by repeat (first | exact Drawn0.refl _ | apply Drawn0.step)⟩
                  · rw [if_neg c10] at H; exact absurd H (by simp)
                · rw [if_neg c9] at H; have c9b0 : decide (x5_2 < (x0_4.size : Int)) = false := decide_eq_false c9; clear c9; have HC15 := Aside0.mk H; clear H
                  go_upto_block 2 with (fail)
                  go_cut [0] (fun v0 wc => ∃ (kq : Nat) (x0_14 : ByteArray), v0 = .string x0_14 ∧ Aside0 (r_Parse.j3 kq x0_14 ((bt a0 0) == 45) = some (r1, r2)) ∧ Aside0 (kq ≤ k2) ∧ Drawn0 w wc)
                  case first =>
                    have H := HC15.out; clear HC15; have H' := Aside0.mk H; clear H
                    go_wp2
                    go_loopg [0] k2 (fun kq v0 w' => ∃ (x0_3 : ByteArray), v0 = .string x0_3 ∧ Aside0 (r_Parse.l1 kq x0_3 ((bt a0 0) == 45) = some (r1, r2)) ∧ Aside0 (kq ≤ k2) ∧ Drawn0 w w')
                    case atStart => exact ⟨(x0_4), sq, H', ⟨Nat.le_refl _⟩, by repeat (first | exact Drawn0.refl _ | apply Drawn0.step)⟩
                    case round =>
                      clear H'; (try clear c1); (try clear p1); (try clear q1); (try clear hx1); (try clear c2); (try clear c2b0); (try clear c2b1); (try clear p2); (try clear c3); (try clear c3b0); (try clear c3b1); (try clear c4); (try clear p4); (try clear q4); (try clear hx4); (try clear qi4); (try clear c6); (try clear c6b0); (try clear c6b1); (try clear p6); (try clear c7); (try clear c7b0); (try clear c7b1); (try clear c8); (try clear c8b0); (try clear c8b1); (try clear c9); (try clear c9b0); (try clear c10); (try clear c10b0); (try clear p11); (try clear q11); (try clear hx11); (try clear c12); (try clear c12b0); (try clear p13); (try clear q13); (try clear hx13); (try clear c14); (try clear c14b0); (try clear p11); (try clear p13); (try clear p2); (try clear p4); (try clear q11); (try clear q13); (try clear q4); obtain ⟨x0_3, rfl, HA, HK3, ⟨m3, rfl⟩⟩ := hrel; cases gk with
                      | zero => exact absurd HA.out (by simp [r_Parse.l1])
                      | succ k3 =>
                        have H := HA.out; clear HA; simp only [r_Parse.l1] at H
                        by_cases c16 : (x0_3.size : Int) > 1
                        · rw [if_pos c16] at H; have c16b0 : decide (1 < (x0_3.size : Int)) = true := decide_eq_true c16; have c16b1 : decide (1 < x0_3.size) = true := decide_eq_true (by omega)
                          clear c16
                          (first | rw [c16b0] | (simp only [i64_w, i32_w]; rw [c16b0]) | skip)
                          by_cases c17 : 0 < (x0_3.size : Int)
                          · rw [if_pos c17] at H; have c17b0 : decide (0 < (x0_3.size : Int)) = true := decide_eq_true c17; have c17b1 : decide (0 < x0_3.size) = true := decide_eq_true (by omega)
                            clear c17; by_cases c19 : (bt x0_3 0) = 48
                            · rw [if_pos c19] at H; have c19b0 : ((bt x0_3 0) == 48) = true := beq_iff_eq.mpr c19; have c19b1 : ((bt x0_3 0) != 48) = false := bne_eq_false_iff_eq.mpr c19; clear c19; by_cases c20 : 1 ≤ (x0_3.size : Int)
                              · rw [if_pos c20] at H; have c20b0 := eq_true c20; have c20b1 : decide (1 ≤ (x0_3.size : Int)) = true := decide_eq_true c20; clear c20; have H' := Aside0.mk H; clear H; have p18 : 0 ≤ (0 : Int) := (by omega)
                                have q18 : 0 < x0_3.size := (by have : (0 : Int) < (x0_3.size : Int) := of_decide_eq_true as_; omega)
                                have hx18 : ∀ h : 0 < x0_3.size, ((x0_3[0]'h).toNat : Int) = bt x0_3 0 := bt_at x0_3 0; clear p18; have qi18 : (0 < (x0_3.size : Int)) = True := eq_true (of_decide_eq_true as_); replace q18 := eq_true q18
                                go_wp2
                                go_roundg k3
                                case measure => have := HJ4.out; have := HK2.out; have := HK3.out; omega
                                case rel => exact ⟨(x0_3.extract 1 x0_3.size), sq, H', ⟨by have := HJ4.out; have := HK2.out; have := HK3.out; omega⟩, by repeat (first | exact Drawn0.refl _ | apply Drawn0.step)⟩
                              · rw [if_neg c20] at H; exact absurd H (by simp)
                            · rw [if_neg c19] at H; have c19b0 : ((bt x0_3 0) == 48) = false := beq_eq_false_iff_ne.mpr c19; have c19b1 : ((bt x0_3 0) != 48) = true := bne_iff_ne.mpr c19; have H' := Aside0.mk H; clear H; have p18 : 0 ≤ (0 : Int) := (by omega)
                              have q18 : 0 < x0_3.size := (by have : (0 : Int) < (x0_3.size : Int) := of_decide_eq_true as_; omega)
                              have hx18 : ∀ h : 0 < x0_3.size, ((x0_3[0]'h).toNat : Int) = bt x0_3 0 := bt_at x0_3 0; clear p18; have qi18 : (0 < (x0_3.size : Int)) = True := eq_true (of_decide_eq_true as_); replace q18 := eq_true q18
                              go_wp2
                              go_meet
                              case rel => exact ⟨_, (x0_3), sq, H', ⟨by have := HJ4.out; have := HK2.out; have := HK3.out; first | omega | exact Nat.le_refl _⟩, by repeat (first | exact Drawn0.refl _ | apply Drawn0.step)⟩
                          · rw [if_neg c17] at H; exact absurd H (by simp)
                        · rw [if_neg c16] at H; have c16b0 : decide (1 < (x0_3.size : Int)) = false := decide_eq_false c16; have c16b1 : decide (1 < x0_3.size) = false := decide_eq_false (by omega)
                          clear c16
                          (first | rw [c16b0] | (simp only [i64_w, i32_w]; rw [c16b0]) | skip)
                          have H' := Aside0.mk H; clear H
                          go_wp2
                          go_meet
                          case rel => exact ⟨_, (x0_3), sq, H', ⟨by have := HJ4.out; have := HK2.out; have := HK3.out; first | omega | exact Nat.le_refl _⟩, by repeat (first | exact Drawn0.refl _ | apply Drawn0.step)⟩
                  case rest =>
                    clear HC15; (try clear c1); (try clear p1); (try clear q1); (try clear hx1); (try clear qi1); (try clear c2); (try clear c2b0); (try clear c2b1); (try clear p2); (try clear c3); (try clear c3b0); (try clear c3b1); (try clear c4); (try clear p4); (try clear q4); (try clear hx4); (try clear qi4); (try clear c6); (try clear c6b0); (try clear c6b1); (try clear p6); (try clear c7); (try clear c7b0); (try clear c7b1); (try clear c8); (try clear c8b0); (try clear c8b1); (try clear c9); (try clear c9b0); (try clear c10); (try clear c10b0); (try clear p11); (try clear q11); (try clear hx11); (try clear c12); (try clear c12b0); (try clear p13); (try clear q13); (try clear hx13); (try clear c14); (try clear c14b0); (try clear c16); (try clear c16b0); (try clear c16b1); (try clear c17); (try clear c17b0); (try clear c17b1); (try clear p18); (try clear q18); (try clear hx18); (try clear qi18); (try clear c19); (try clear c19b0); (try clear c19b1); (try clear c20); (try clear c20b0); (try clear c20b1); (try clear p1); (try clear p11); (try clear p13); (try clear p18); (try clear p2); (try clear p4); (try clear p6); (try clear q1); (try clear q11); (try clear q13); (try clear q18); (try clear q4); obtain ⟨kq, x0_14, rfl, HA, HJ14, ⟨mc14, rfl⟩⟩ := hcut; cases kq with
                    | zero => exact absurd HA.out (by simp [r_Parse.j3])
                    | succ kj14 =>
                      have H := HA.out; clear HA; simp only [r_Parse.j3] at H
                      by_cases c21 : (x0_14.size : Int) > 400
                      · rw [if_pos c21] at H; have c21b0 : decide (400 < (x0_14.size : Int)) = true := decide_eq_true c21; have c21b1 : decide (400 < x0_14.size) = true := decide_eq_true (by omega)
                        clear c21; simp only [Option.some.injEq, Prod.mk.injEq] at H
                        obtain ⟨rfl, rfl⟩ := H
                        go_wp2
                        go_ret2
                        exact ⟨sw, by repeat (first | exact Drawn0.refl _ | apply Drawn0.step)⟩
                      · rw [if_neg c21] at H; have c21b0 : decide (400 < (x0_14.size : Int)) = false := decide_eq_false c21; have c21b1 : decide (400 < x0_14.size) = false := decide_eq_false (by omega)
                        clear c21; by_cases c22 : ((bt a0 0) == 45) = true
                        · rw [if_pos c22] at H; have c22b0 : ((bt a0 0) == 45) = true := c22
                          (try (have c22b1 : decide ((bt a0 0) = 45) = true := by simpa using c22))
                          (try (have c22b2 : ((bt a0 0) == 45) = true := by simpa using c22))
                          clear c22; by_cases c23 : x0_14.toList = ([48] : List UInt8)
                          · rw [if_pos c23] at H; have c23b0 : (x0_14.toList == ([48] : List UInt8)) = true := beq_iff_eq.mpr c23; have c23b1 : (x0_14.toList != ([48] : List UInt8)) = false := bne_eq_false_iff_eq.mpr c23; clear c23; simp only [Option.some.injEq, Prod.mk.injEq] at H
                            obtain ⟨rfl, rfl⟩ := H
                            go_wp2
                            go_ret2
                            exact ⟨sw, by repeat (first | exact Drawn0.refl _ | apply Drawn0.step)⟩
                          · rw [if_neg c23] at H; have c23b0 : (x0_14.toList == ([48] : List UInt8)) = false := beq_eq_false_iff_ne.mpr c23; have c23b1 : (x0_14.toList != ([48] : List UInt8)) = true := bne_iff_ne.mpr c23; by_cases c24 : 1 + x0_14.size ≤ 9223372036854775807
                            · rw [if_pos c24] at H; have c24b0 := eq_true c24; have c24b1 : decide (1 + x0_14.size ≤ 9223372036854775807) = true := decide_eq_true c24
                              try have c24b2 : (9223372036854775807 < 1 + x0_14.size) = False := eq_false (Nat.not_lt.2 c24)
                              simp only [Option.some.injEq, Prod.mk.injEq] at H
                              obtain ⟨rfl, rfl⟩ := H
                              go_wp2
                              go_ret2
                              exact ⟨sw, by repeat (first | exact Drawn0.refl _ | apply Drawn0.step)⟩
                            · rw [if_neg c24] at H; exact absurd H (by simp)
                        · rw [if_neg c22] at H; have c22b0 : ((bt a0 0) == 45) = false := by simpa using c22
                          (try (have c22b1 : decide ((bt a0 0) = 45) = false := by simpa using c22))
                          (try (have c22b2 : ((bt a0 0) == 45) = false := by simpa using c22))
                          (try (have c22b3 : ¬ ((bt a0 0) = 45) := by simpa using c22))
                          clear c22; simp only [Option.some.injEq, Prod.mk.injEq] at H
                          obtain ⟨rfl, rfl⟩ := H
                          go_wp2
                          go_ret2
                          exact ⟨sw, by repeat (first | exact Drawn0.refl _ | apply Drawn0.step)⟩
    · rw [if_neg c3] at H; exact absurd H (by simp)
mutual
def w_Make.j1 : Nat → ByteArray → Bool → List Int → Option (ByteArray)
  | 0, _, _, _ => none
  | k + 1, x5, x436000, x436001 => if x5.toList = ([] : List UInt8) then (if x436000 = true then (if 1 + 1 ≤ 9223372036854775807 then ((r_Parse.f k ((⟨#[45]⟩ : ByteArray) ++ (⟨#[48]⟩ : ByteArray))).bind fun bt440 => (some bt440.1)) else (none)) else ((r_Parse.f k (⟨#[48]⟩ : ByteArray)).bind fun bt442 => (some bt442.1))) else (if x436000 = true then (if 1 + x5.size ≤ 9223372036854775807 then ((r_Parse.f k ((⟨#[45]⟩ : ByteArray) ++ x5)).bind fun bt444 => (some bt444.1)) else (none)) else ((r_Parse.f k x5).bind fun bt446 => (some bt446.1)))
def w_Make.l0 : Nat → Int → ByteArray → Int → Bool → List Int → Option (ByteArray)
  | 0, _, _, _, _, _ => none
  | k + 1, x1, x5, x6, x436000, x436001 => if x6 < (x436001.length : Int) then (if x6 < x1 then (if 0 ≤ x6 then ((some (([(48 + (Int.tmod (rd x436001 x6) 10)) % 256] : List Int) : List Int)).bind fun y437 => (if x5.size + (strOfNums y437).size ≤ 9223372036854775807 then (w_Make.l0 k x1 (x5 ++ (strOfNums y437)) (wrap64 (x6 + 1)) x436000 x436001) else (none))) else (none)) else (w_Make.j1 k x5 x436000 x436001)) else (w_Make.j1 k x5 x436000 x436001)
end
def w_Make.f (k : Nat) (a0_0 : Bool) (l0_1 : List Int) (a1 : Int) : Option (ByteArray) := w_Make.l0 k a1 (⟨#[]⟩ : ByteArray) 0 a0_0 l0_1
theorem w_Make.mono_l : ∀ k, (∀ y0 y1 y2, LeO (w_Make.j1 k y0 y1 y2) (w_Make.j1 (k + 1) y0 y1 y2)) ∧ (∀ y0 y1 y2 y3 y4, LeO (w_Make.l0 k y0 y1 y2 y3 y4) (w_Make.l0 (k + 1) y0 y1 y2 y3 y4))
  | 0 => ⟨fun _ _ _ r h => by simp [w_Make.j1] at h, fun _ _ _ _ _ r h => by simp [w_Make.l0] at h⟩
  | k + 1 => by
    obtain ⟨ih0, ih1⟩ := w_Make.mono_l k; refine ⟨?_, ?_⟩
    · intro y0 y1 y2; unfold w_Make.j1
      repeat' with_reducible first | apply ih0 | apply ih1 | apply r_Parse.mono | apply LeO.refl | apply LeO.none | refine LeO.ite ?_ ?_ | refine LeO.bind ?_ (fun _ => ?_)
    · intro y0 y1 y2 y3 y4; unfold w_Make.l0
      repeat' with_reducible first | apply ih0 | apply ih1 | apply r_Parse.mono | apply LeO.refl | apply LeO.none | refine LeO.ite ?_ ?_ | refine LeO.bind ?_ (fun _ => ?_)
theorem w_Make.mono : ∀ a0 a1 a2 k, LeO (w_Make.f k a0 a1 a2) (w_Make.f (k + 1) a0 a1 a2) := by
  intro a0 a1 a2 k; obtain ⟨ih0, ih1⟩ := w_Make.mono_l k; unfold w_Make.f
  repeat' with_reducible first | apply ih0 | apply ih1 | apply r_Parse.mono | apply LeO.refl | apply LeO.none | refine LeO.ite ?_ ?_ | refine LeO.bind ?_ (fun _ => ?_)
set_option maxHeartbeats 8000000 in
set_option maxRecDepth 100000 in
theorem w_Make.calls (k : Nat) (a0_0 : Bool) (A0_1 : Option Addr) (c0_1 : Nat) (l0_1 : List Int) (a1 : Int) (r : ByteArray) (w : World) (hr0_1 : Kd.C (Kd.int .u8) w A0_1 l0_1.length l0_1) (hc0_1 : l0_1.length ≤ c0_1) (h : w_Make.f k a0_0 l0_1 a1 = some r) :
    Calls Tryz.prog 8 #[.agg #[.bool a0_0, .slice A0_1 l0_1.length c0_1], .int .i64 a1] w fun e w' => e = .returned (.string r) ∧ Below w.heap.size w w' := by
  have hu24 := Tryz.underlying24; have HR0_1 := Aside0.mk hr0_1; have HC0_1 := Aside0.mk hc0_1; clear hr0_1 hc0_1; have HB := Aside0.mk (Below.refl w.heap.size w); have H : (w_Make.l0 k a1 (⟨#[]⟩ : ByteArray) 0 a0_0 l0_1) = some r := h; clear h; have HC3 := Aside0.mk H; clear H
  go_enter Tryz.func8, Tryz.ntmps8
  go_upto_block 0 with (first | ((with_reducible refine gate_dst (N := 2) rfl ?_); refine box_event ?hg (N := 2) ?hd (cs := #[.bool a0_0, .slice A0_1 l0_1.length c0_1]) (t := 24) ?hr ?_; (case hd => rfl); (case hg => rfl); (case hr => first | (go_simp; done) | (go_simp; rfl)); intro gb435 hg w4 hbox hb; have n0_ := Aside0.mk (below_step bq hb); have n1_ := Aside0.mk (hbox); have n2_ := Aside0.mk ((by rw [hg]; exact (below_size bq) : w.heap.size ≤ gb435)); have n3_ := Aside0.mk ((by rw [hg]; exact (below_size bq) : w.heap.size ≤ gb435)); clear HB; have HB := n0_; have BK435 := n1_; have GW435 := n2_; have GE435 := n3_; clear n0_ n1_ n2_ n3_; clear hb hbox hg))
  (try simp only [Act.put, List.setIfInBounds_toArray, List.set_cons_zero, List.set_cons_succ])
  go_cut [5] (fun v5 wc => ∃ (kq : Nat) (x5_2 : ByteArray), v5 = .string x5_2 ∧ Aside0 (w_Make.j1 kq x5_2 a0_0 l0_1 = some r) ∧ Aside0 (kq ≤ k) ∧ Aside0 (wc.heap[gb435]? = some (.cells #[.bool a0_0, (.slice A0_1 l0_1.length c0_1)] 24 (0, 0))) ∧ Aside0 (Below w.heap.size w wc))
  case first =>
    have H := HC3.out; clear HC3; have H' := Aside0.mk H; clear H
    go_wp2
    go_loopg [5, 6] k (fun kq v5 v6 w' => ∃ (x5_1 : ByteArray) (x6_1 : Int), v5 = .string x5_1 ∧ v6 = .int .i64 x6_1 ∧ Aside0 (w_Make.l0 kq a1 x5_1 x6_1 a0_0 l0_1 = some r) ∧ Aside0 (kq ≤ k) ∧ Aside0 (w'.heap[gb435]? = some (.cells #[.bool a0_0, (.slice A0_1 l0_1.length c0_1)] 24 (0, 0))) ∧ Aside0 (Below w.heap.size w w'))
    case atStart => exact ⟨((⟨#[]⟩ : ByteArray)), (0), sq, sq, H', ⟨Nat.le_refl _⟩, ⟨pb BK435.out⟩, ⟨by repeat (first | (with_reducible first | exact HB.out | apply below_alloc | apply pw_below_drewN | apply below_drew1 | refine below_set ?_ GE435.out) | exact HB.out)⟩⟩
    case round =>
      clear H'; (try clear p2); obtain ⟨x5_1, x6_1, rfl, rfl, HA, HK1, BK435, HB⟩ := hrel; cases gk with
      | zero => exact absurd HA.out (by simp [w_Make.l0])
      | succ k1 =>
        have H := HA.out; clear HA; simp only [w_Make.l0] at H
        by_cases c5 : x6_1 < (l0_1.length : Int)
        · rw [if_pos c5] at H; have c5b0 : decide (x6_1 < (l0_1.length : Int)) = true := decide_eq_true c5; clear c5
          (first | rw [c5b0] | (simp only [i64_w, i32_w]; rw [c5b0]) | skip)
          by_cases c6 : x6_1 < a1
          · rw [if_pos c6] at H; have c6b0 : decide (x6_1 < a1) = true := decide_eq_true c6; clear c6; by_cases c7 : 0 ≤ x6_1
            · rw [if_pos c7] at H; have c7b0 : decide (0 ≤ x6_1) = true := decide_eq_true c7; clear c7; obtain ⟨y437, hy437⟩ : ∃ y_ : List Int, y_ = (([(48 + (Int.tmod (rd l0_1 x6_1) 10)) % 256] : List Int)) := ⟨_, rfl⟩; first | rw [Option.bind_some, ← hy437] at H | rw [← hy437] at H | rw [Option.bind_some] at H | skip
              have Ny437 := Aside0.mk hy437; clear hy437; by_cases c8 : x5_1.size + (strOfNums y437).size ≤ 9223372036854775807
              · rw [if_pos c8] at H; have c8b0 := eq_true c8; have c8b1 : decide (x5_1.size + (strOfNums y437).size ≤ 9223372036854775807) = true := decide_eq_true c8
                try have c8b2 : (9223372036854775807 < x5_1.size + (strOfNums y437).size) = False := eq_false (Nat.not_lt.2 c8)
                have H' := Aside0.mk H; clear H; have hcz9_0 : wr.cell? ⟨gb435, 0, none⟩ = some (.bool a0_0) := (blk_cell BK435.out 0).trans rfl; have hcz9_1 : wr.cell? ⟨gb435, 1, none⟩ = some (.slice A0_1 l0_1.length c0_1) := (blk_cell BK435.out 1).trans rfl; have hfz9_0 := blk_frozen BK435.out 0; have hfz9_1 := blk_frozen BK435.out 1; have p436 : 0 ≤ (x6_1 : Int) := of_decide_eq_true as_; have q436 : x6_1 < (l0_1.length : Int) := of_decide_eq_true as_; obtain ⟨ad436, e436, hx436_0⟩ := Kd.at_int HR0_1.out x6_1 p436 q436; cases e436; replace hx436_0 := (HB.out.cell (World.block_lt_of_cell? w _ hx436_0)).trans hx436_0; replace p436 := eq_true p436; replace q436 := eq_true q436
                go_wp2_with (first | ((with_reducible refine gate_dst (N := 29) rfl ?_); refine Kd.R_lit (Kd.int .u8) _ 5 ?hg (N := 29) ?hd (xs := ([(48 + (Int.tmod (rd l0_1 x6_1) 10)) % 256] : List Int)) (inner := [.int .u8 ((48 + (Int.tmod (rd l0_1 x6_1) 10)) % 256)]) (ok := fun _ => True) (okp := fun _ => True) ?hr ?hp (fun _ hk => hk) trivial (Below.refl _ _) (Nat.le_refl _) (by simp) ?_; (case hd => rfl); (case hg => rfl); (case hr => first | (go_simp; done) | (go_simp; rfl)); (case hp => exact (Reps.one (show Kd.M (Kd.int .u8) _ _ _ ((48 + (Int.tmod (rd l0_1 x6_1) 10)) % 256) [.int .u8 ((48 + (Int.tmod (rd l0_1 x6_1) 10)) % 256)] from rfl) (Reps.none _ _))); intro v438 w10 ho11 hb hg_ hnew_; clear hg_ hnew_; (first | rw [← Ny437.out] at ho11 | (simp only [Int.reduceToNat] at ho11; rw [← Ny437.out] at ho11)); have n0_ := Aside0.mk (Kd.R_lower ho11 (below_size (bg GE435.out))); have n1_ := Aside0.mk (blk_below (g := gb435) (o := .cells #[.bool a0_0, .slice (some ad436) l0_1.length c0_1] 24 (0, 0)) (pb BK435.out) hb); have n2_ := Aside0.mk (below_step (bg GE435.out) hb); clear BK435; clear HB; have HO439 := n0_; have BK435 := n1_; have HB := n2_; clear n0_ n1_ n2_; clear hb ho11; have hcv12 := own_string (P := Tryz.prog) Tryz.underlying22 Tryz.underlying5 Tryz.underlying9 (Kd.own_of_R HO439.out)))
                go_roundg k1
                case measure => have := HK1.out; omega
                case rel => exact ⟨(x5_1 ++ (strOfNums y437)), (wrap64 (x6_1 + 1)), sq, sq, H', ⟨by have := HK1.out; omega⟩, ⟨pb BK435.out⟩, ⟨by repeat (first | (with_reducible first | exact HB.out | apply below_alloc | apply pw_below_drewN | apply below_drew1 | refine below_set ?_ GE435.out) | exact HB.out)⟩⟩
              · rw [if_neg c8] at H; exact absurd H (by simp)
            · rw [if_neg c7] at H; exact absurd H (by simp)
          · rw [if_neg c6] at H; have c6b0 : decide (x6_1 < a1) = false := decide_eq_false c6; clear c6; have H' := Aside0.mk H; clear H; have hcz13_0 : wr.cell? ⟨gb435, 0, none⟩ = some (.bool a0_0) := (blk_cell BK435.out 0).trans rfl; have hcz13_1 : wr.cell? ⟨gb435, 1, none⟩ = some (.slice A0_1 l0_1.length c0_1) := (blk_cell BK435.out 1).trans rfl; have hfz13_0 := blk_frozen BK435.out 0; have hfz13_1 := blk_frozen BK435.out 1
            go_wp2
            go_meet
            case rel => exact ⟨_, (x5_1), sq, H', ⟨by have := HK1.out; first | omega | exact Nat.le_refl _⟩, ⟨pb BK435.out⟩, ⟨by repeat (first | (with_reducible first | exact HB.out | apply below_alloc | apply pw_below_drewN | apply below_drew1 | refine below_set ?_ GE435.out) | exact HB.out)⟩⟩
        · rw [if_neg c5] at H; have c5b0 : decide (x6_1 < (l0_1.length : Int)) = false := decide_eq_false c5; clear c5
          (first | rw [c5b0] | (simp only [i64_w, i32_w]; rw [c5b0]) | skip)
          have H' := Aside0.mk H; clear H; have hcz14_0 : wr.cell? ⟨gb435, 0, none⟩ = some (.bool a0_0) := (blk_cell BK435.out 0).trans rfl; have hcz14_1 : wr.cell? ⟨gb435, 1, none⟩ = some (.slice A0_1 l0_1.length c0_1) := (blk_cell BK435.out 1).trans rfl; have hfz14_0 := blk_frozen BK435.out 0; have hfz14_1 := blk_frozen BK435.out 1
          go_wp2
          go_meet
          case rel => exact ⟨_, (x5_1), sq, H', ⟨by have := HK1.out; first | omega | exact Nat.le_refl _⟩, ⟨pb BK435.out⟩, ⟨by repeat (first | (with_reducible first | exact HB.out | apply below_alloc | apply pw_below_drewN | apply below_drew1 | refine below_set ?_ GE435.out) | exact HB.out)⟩⟩
  case rest =>
    clear HC3; (try clear hcv1); (try clear p2); (try clear p4); (try clear q4); (try clear hx4); (try clear c5); (try clear c5b0); (try clear c6); (try clear c6b0); (try clear p6); (try clear c7); (try clear c7b0); (try clear c8); (try clear c8b0); (try clear c8b1); (try clear c8b2); (try clear hcv12); (try clear hcz13_0); (try clear hcz13_1); (try clear hcz14_0); (try clear hcz14_1); (try clear hcz9_0); (try clear hcz9_1); (try clear hfz13_0); (try clear hfz13_1); (try clear hfz14_0); (try clear hfz14_1); (try clear hfz9_0); (try clear hfz9_1); (try clear hx436_0); (try clear p2); (try clear p436); (try clear q436); obtain ⟨kq, x5_2, rfl, HA, HJ2, BK435, HB⟩ := hcut; cases kq with
    | zero => exact absurd HA.out (by simp [w_Make.j1])
    | succ kj2 =>
      have H := HA.out; clear HA; simp only [w_Make.j1] at H
      by_cases c15 : x5_2.toList = ([] : List UInt8)
      · rw [if_pos c15] at H; have c15b0 : (x5_2.toList == ([] : List UInt8)) = true := beq_iff_eq.mpr c15; have c15b1 : (x5_2.toList != ([] : List UInt8)) = false := bne_eq_false_iff_eq.mpr c15; clear c15; by_cases c16 : a0_0 = true
        · subst c16; have H1 : (if 1 + 1 ≤ 9223372036854775807 then ((r_Parse.f kj2 ((⟨#[45]⟩ : ByteArray) ++ (⟨#[48]⟩ : ByteArray))).bind fun bt440 => (some bt440.1)) else (none)) = some r := by rw [if_pos rfl] at H; exact H
          clear H; have H := H1; clear H1; by_cases c17 : 1 + 1 ≤ 9223372036854775807
          · rw [if_pos c17] at H; have c17b0 := eq_true c17; have c17b1 : decide (1 + 1 ≤ 9223372036854775807) = true := decide_eq_true c17
            try have c17b2 : (9223372036854775807 < 1 + 1) = False := eq_false (Nat.not_lt.2 c17)
            replace H := Option.bind_eq_some_iff.mp H; obtain ⟨⟨t440, t441⟩, A180, H⟩ := H; have A18 := Aside0.mk A180; clear A180; obtain rfl := Option.some.inj H; have hcz19_0 : wc.cell? ⟨gb435, 0, none⟩ = some (.bool true) := (blk_cell BK435.out 0).trans rfl; have hcz19_1 : wc.cell? ⟨gb435, 1, none⟩ = some (.slice A0_1 l0_1.length c0_1) := (blk_cell BK435.out 1).trans rfl; have hfz19_0 := blk_frozen BK435.out 0; have hfz19_1 := blk_frozen BK435.out 1
            go_wp2_with (first | ((with_reducible refine gate_callee (f := 27) rfl ?_); refine goesL_ (some 40) rfl rfl Tryz.func27 (by kernel_rfl) rfl #[.string ((⟨#[45]⟩ : ByteArray) ++ (⟨#[48]⟩ : ByteArray))] rfl mq ?_; (with_reducible refine (r_Parse.calls kj2 ((⟨#[45]⟩ : ByteArray) ++ (⟨#[48]⟩ : ByteArray)) t440 t441 _ A18.out).mono ?_); rintro e w' ⟨rfl, ⟨nd, rfl⟩⟩; refine ⟨_, rfl, ?_⟩))
            go_ret
            exact ⟨eq_, by repeat (first | (with_reducible first | exact HB.out | apply below_alloc | apply pw_below_drewN | apply below_drew1 | refine below_set ?_ GE435.out) | exact HB.out)⟩
          · rw [if_neg c17] at H; exact absurd H (by simp)
        · replace c16 := Bool.eq_false_iff.mpr c16; subst c16; have H1 : ((r_Parse.f kj2 (⟨#[48]⟩ : ByteArray)).bind fun bt442 => (some bt442.1)) = some r := by rw [if_neg (show ¬ (false = true) by decide)] at H; exact H
          clear H; have H := H1; clear H1; replace H := Option.bind_eq_some_iff.mp H; obtain ⟨⟨t442, t443⟩, A200, H⟩ := H; have A20 := Aside0.mk A200; clear A200; obtain rfl := Option.some.inj H; have hcz21_0 : wc.cell? ⟨gb435, 0, none⟩ = some (.bool false) := (blk_cell BK435.out 0).trans rfl; have hcz21_1 : wc.cell? ⟨gb435, 1, none⟩ = some (.slice A0_1 l0_1.length c0_1) := (blk_cell BK435.out 1).trans rfl; have hfz21_0 := blk_frozen BK435.out 0; have hfz21_1 := blk_frozen BK435.out 1
          go_wp2_with (first | ((with_reducible refine gate_callee (f := 27) rfl ?_); refine goesL_ (some 40) rfl rfl Tryz.func27 (by kernel_rfl) rfl #[.string (⟨#[48]⟩ : ByteArray)] rfl mq ?_; (with_reducible refine (r_Parse.calls kj2 (⟨#[48]⟩ : ByteArray) t442 t443 _ A20.out).mono ?_); rintro e w' ⟨rfl, ⟨nd, rfl⟩⟩; refine ⟨_, rfl, ?_⟩))
          go_ret
          exact ⟨eq_, by repeat (first | (with_reducible first | exact HB.out | apply below_alloc | apply pw_below_drewN | apply below_drew1 | refine below_set ?_ GE435.out) | exact HB.out)⟩
      · rw [if_neg c15] at H; have c15b0 : (x5_2.toList == ([] : List UInt8)) = false := beq_eq_false_iff_ne.mpr c15; have c15b1 : (x5_2.toList != ([] : List UInt8)) = true := bne_iff_ne.mpr c15; by_cases c22 : a0_0 = true
        · subst c22; have H1 : (if 1 + x5_2.size ≤ 9223372036854775807 then ((r_Parse.f kj2 ((⟨#[45]⟩ : ByteArray) ++ x5_2)).bind fun bt444 => (some bt444.1)) else (none)) = some r := by rw [if_pos rfl] at H; exact H
          clear H; have H := H1; clear H1; by_cases c23 : 1 + x5_2.size ≤ 9223372036854775807
          · rw [if_pos c23] at H; have c23b0 := eq_true c23; have c23b1 : decide (1 + x5_2.size ≤ 9223372036854775807) = true := decide_eq_true c23
            try have c23b2 : (9223372036854775807 < 1 + x5_2.size) = False := eq_false (Nat.not_lt.2 c23)
            replace H := Option.bind_eq_some_iff.mp H; obtain ⟨⟨t444, t445⟩, A240, H⟩ := H; have A24 := Aside0.mk A240; clear A240; obtain rfl := Option.some.inj H; have hcz25_0 : wc.cell? ⟨gb435, 0, none⟩ = some (.bool true) := (blk_cell BK435.out 0).trans rfl; have hcz25_1 : wc.cell? ⟨gb435, 1, none⟩ = some (.slice A0_1 l0_1.length c0_1) := (blk_cell BK435.out 1).trans rfl; have hfz25_0 := blk_frozen BK435.out 0; have hfz25_1 := blk_frozen BK435.out 1
            go_wp2_with (first | ((with_reducible refine gate_callee (f := 27) rfl ?_); refine goesL_ (some 40) rfl rfl Tryz.func27 (by kernel_rfl) rfl #[.string ((⟨#[45]⟩ : ByteArray) ++ x5_2)] rfl mq ?_; (with_reducible refine (r_Parse.calls kj2 ((⟨#[45]⟩ : ByteArray) ++ x5_2) t444 t445 _ A24.out).mono ?_); rintro e w' ⟨rfl, ⟨nd, rfl⟩⟩; refine ⟨_, rfl, ?_⟩))
            go_ret
            exact ⟨eq_, by repeat (first | (with_reducible first | exact HB.out | apply below_alloc | apply pw_below_drewN | apply below_drew1 | refine below_set ?_ GE435.out) | exact HB.out)⟩
          · rw [if_neg c23] at H; exact absurd H (by simp)
        · replace c22 := Bool.eq_false_iff.mpr c22; subst c22; have H1 : ((r_Parse.f kj2 x5_2).bind fun bt446 => (some bt446.1)) = some r := by rw [if_neg (show ¬ (false = true) by decide)] at H; exact H
          clear H; have H := H1; clear H1; replace H := Option.bind_eq_some_iff.mp H; obtain ⟨⟨t446, t447⟩, A260, H⟩ := H; have A26 := Aside0.mk A260; clear A260; obtain rfl := Option.some.inj H; have hcz27_0 : wc.cell? ⟨gb435, 0, none⟩ = some (.bool false) := (blk_cell BK435.out 0).trans rfl; have hcz27_1 : wc.cell? ⟨gb435, 1, none⟩ = some (.slice A0_1 l0_1.length c0_1) := (blk_cell BK435.out 1).trans rfl; have hfz27_0 := blk_frozen BK435.out 0; have hfz27_1 := blk_frozen BK435.out 1
          go_wp2_with (first | ((with_reducible refine gate_callee (f := 27) rfl ?_); refine goesL_ (some 40) rfl rfl Tryz.func27 (by kernel_rfl) rfl #[.string x5_2] rfl mq ?_; (with_reducible refine (r_Parse.calls kj2 x5_2 t446 t447 _ A26.out).mono ?_); rintro e w' ⟨rfl, ⟨nd, rfl⟩⟩; refine ⟨_, rfl, ?_⟩))
          go_ret
          exact ⟨eq_, by repeat (first | (with_reducible first | exact HB.out | apply below_alloc | apply pw_below_drewN | apply below_drew1 | refine below_set ?_ GE435.out) | exact HB.out)⟩
def r_digits.f (a0 : ByteArray) : Option (ByteArray) := if (a0.size : Int) > 0 then (if 0 < (a0.size : Int) then (if (bt a0 0) = 45 then (if 1 ≤ (a0.size : Int) then (some (a0.extract 1 a0.size)) else (none)) else (some a0)) else (none)) else (some a0)
set_option maxHeartbeats 8000000 in
set_option maxRecDepth 100000 in
theorem r_digits.calls (a0 : ByteArray) (r : ByteArray) (w : World) (h : r_digits.f a0 = some r) :
    Calls Tryz.prog 31 #[.string a0] w fun e w' => e = .returned (.string r) ∧ Drawn0 w w' := by
  have H : (if (a0.size : Int) > 0 then (if 0 < (a0.size : Int) then (if (bt a0 0) = 45 then (if 1 ≤ (a0.size : Int) then (some (a0.extract 1 a0.size)) else (none)) else (some a0)) else (none)) else (some a0)) = some r := h
  clear h; by_cases c2 : (a0.size : Int) > 0
  · rw [if_pos c2] at H; have c2b0 : decide (0 < (a0.size : Int)) = true := decide_eq_true c2; have c2b1 : decide (0 < a0.size) = true := decide_eq_true (by omega)
    clear c2; by_cases c3 : 0 < (a0.size : Int)
    · rw [if_pos c3] at H; have c3b0 : decide (0 < (a0.size : Int)) = true := decide_eq_true c3; have c3b1 : decide (0 < a0.size) = true := decide_eq_true (by omega)
      clear c3; by_cases c5 : (bt a0 0) = 45
      · rw [if_pos c5] at H; have c5b0 : ((bt a0 0) == 45) = true := beq_iff_eq.mpr c5; have c5b1 : ((bt a0 0) != 45) = false := bne_eq_false_iff_eq.mpr c5; clear c5; by_cases c6 : 1 ≤ (a0.size : Int)
        · rw [if_pos c6] at H; have c6b0 := eq_true c6; have c6b1 : decide (1 ≤ (a0.size : Int)) = true := decide_eq_true c6; clear c6; obtain rfl := Option.some.inj H; have p4 : 0 ≤ (0 : Int) := (by omega)
          have q4 : 0 < a0.size := (by have : (0 : Int) < (a0.size : Int) := of_decide_eq_true as_; omega)
          have hx4 : ∀ h : 0 < a0.size, ((a0[0]'h).toNat : Int) = bt a0 0 := bt_at a0 0; clear p4; have qi4 : (0 < (a0.size : Int)) = True := eq_true (of_decide_eq_true as_); replace q4 := eq_true q4
          go_enter Tryz.func31, Tryz.ntmps31
          go_wp2
          go_ret
          exact ⟨sw, by repeat (first | exact Drawn0.refl _ | apply Drawn0.step)⟩
        · rw [if_neg c6] at H; exact absurd H (by simp)
      · rw [if_neg c5] at H; have c5b0 : ((bt a0 0) == 45) = false := beq_eq_false_iff_ne.mpr c5; have c5b1 : ((bt a0 0) != 45) = true := bne_iff_ne.mpr c5; obtain rfl := Option.some.inj H; have p4 : 0 ≤ (0 : Int) := (by omega)
        have q4 : 0 < a0.size := (by have : (0 : Int) < (a0.size : Int) := of_decide_eq_true as_; omega)
        have hx4 : ∀ h : 0 < a0.size, ((a0[0]'h).toNat : Int) = bt a0 0 := bt_at a0 0; clear p4; have qi4 : (0 < (a0.size : Int)) = True := eq_true (of_decide_eq_true as_); replace q4 := eq_true q4
        go_enter Tryz.func31, Tryz.ntmps31
        go_wp2
        go_ret
        exact ⟨sw, by repeat (first | exact Drawn0.refl _ | apply Drawn0.step)⟩
    · rw [if_neg c3] at H; exact absurd H (by simp)
  · rw [if_neg c2] at H; have c2b0 : decide (0 < (a0.size : Int)) = false := decide_eq_false c2; have c2b1 : decide (0 < a0.size) = false := decide_eq_false (by omega)
    clear c2; obtain rfl := Option.some.inj H
    go_enter Tryz.func31, Tryz.ntmps31
    go_wp2
    go_ret
    exact ⟨sw, by repeat (first | exact Drawn0.refl _ | apply Drawn0.step)⟩
def r_Abs.f (a0 : ByteArray) : Option (ByteArray) := (r_digits.f a0).bind fun t485 => (some t485)
set_option maxHeartbeats 8000000 in
set_option maxRecDepth 100000 in
theorem r_Abs.calls (a0 : ByteArray) (r : ByteArray) (w : World) (h : r_Abs.f a0 = some r) :
    Calls Tryz.prog 10 #[.string a0] w fun e w' => e = .returned (.string r) ∧ Drawn0 w w' := by
  have H : ((r_digits.f a0).bind fun t485 => (some t485)) = some r := h
  clear h; replace H := Option.bind_eq_some_iff.mp H; obtain ⟨t485, A20, H⟩ := H; have A2 := Aside0.mk A20; clear A20; obtain rfl := Option.some.inj H
  go_enter Tryz.func10, Tryz.ntmps10
  go_wp2_with (first | ((with_reducible refine gate_callee (f := 31) rfl ?_); refine goesL_ (some 4) rfl rfl Tryz.func31 (by kernel_rfl) rfl #[.string a0] rfl mq ?_; (with_reducible refine (r_digits.calls a0 t485 _ A2.out).mono ?_); rintro e w' ⟨rfl, ⟨nd, rfl⟩⟩; refine ⟨_, rfl, ?_⟩))
  go_ret
  exact ⟨sw, by repeat (first | exact Drawn0.refl _ | apply Drawn0.step)⟩
mutual
def r_Small.j0 : Nat → ByteArray → Int → Bool → Option (Int × Bool)
  | 0, _, _, _ => none
  | k + 1, x4, x5, x17 => if x17 = true then (r_Small.j1 k x4 1) else (r_Small.j1 k x4 x5)
def r_Small.j1 : Nat → ByteArray → Int → Option (Int × Bool)
  | 0, _, _ => none
  | k + 1, x4, x5 => if x5 = (x4.size : Int) then (some (0, false)) else (r_Small.l0 k x4 x5 (x5 == 1) 0)
def r_Small.l0 : Nat → ByteArray → Int → Bool → Int → Option (Int × Bool)
  | 0, _, _, _, _ => none
  | k + 1, x4, x5, x6, x7 => if x5 < (x4.size : Int) then (if 0 ≤ x5 then (if (wrap64 ((wrap64 (bt x4 x5)) - 48)) < 0 then (some (0, false)) else (if (wrap64 ((wrap64 (bt x4 x5)) - 48)) > 9 then (some (0, false)) else (if x7 < (wrap64 (Int.tdiv (wrap64 ((-9223372036854775808) + (wrap64 ((wrap64 (bt x4 x5)) - 48)))) 10)) then (some (0, false)) else (r_Small.l0 k x4 (wrap64 (x5 + 1)) x6 (wrap64 ((wrap64 (x7 * 10)) - (wrap64 ((wrap64 (bt x4 x5)) - 48)))))))) else (none)) else (if x6 = true then (some (x7, true)) else (if x7 = (-9223372036854775808) then (some (0, false)) else (some (wrap64 (-x7), true))))
end
def r_Small.f (k : Nat) (a0 : ByteArray) : Option (Int × Bool) := if (a0.size : Int) > 0 then (if 0 < (a0.size : Int) then (r_Small.j0 k a0 0 ((bt a0 0) == 45)) else (none)) else (r_Small.j0 k a0 0 false)
theorem r_Small.mono_l : ∀ k, (∀ y0 y1 y2, LeO (r_Small.j0 k y0 y1 y2) (r_Small.j0 (k + 1) y0 y1 y2)) ∧ (∀ y0 y1, LeO (r_Small.j1 k y0 y1) (r_Small.j1 (k + 1) y0 y1)) ∧ (∀ y0 y1 y2 y3, LeO (r_Small.l0 k y0 y1 y2 y3) (r_Small.l0 (k + 1) y0 y1 y2 y3))
  | 0 => ⟨fun _ _ _ r h => by simp [r_Small.j0] at h, fun _ _ r h => by simp [r_Small.j1] at h, fun _ _ _ _ r h => by simp [r_Small.l0] at h⟩
  | k + 1 => by
    obtain ⟨ih0, ih1, ih2⟩ := r_Small.mono_l k; refine ⟨?_, ?_, ?_⟩
    · intro y0 y1 y2; unfold r_Small.j0
      repeat' with_reducible first | apply ih0 | apply ih1 | apply ih2 | apply LeO.refl | apply LeO.none | refine LeO.ite ?_ ?_ | refine LeO.bind ?_ (fun _ => ?_)
    · intro y0 y1; unfold r_Small.j1
      repeat' with_reducible first | apply ih0 | apply ih1 | apply ih2 | apply LeO.refl | apply LeO.none | refine LeO.ite ?_ ?_ | refine LeO.bind ?_ (fun _ => ?_)
    · intro y0 y1 y2 y3; unfold r_Small.l0
      repeat' with_reducible first | apply ih0 | apply ih1 | apply ih2 | apply LeO.refl | apply LeO.none | refine LeO.ite ?_ ?_ | refine LeO.bind ?_ (fun _ => ?_)
theorem r_Small.mono : ∀ a0 k, LeO (r_Small.f k a0) (r_Small.f (k + 1) a0) := by
  intro a0 k; obtain ⟨ih0, ih1, ih2⟩ := r_Small.mono_l k; unfold r_Small.f
  repeat' with_reducible first | apply ih0 | apply ih1 | apply ih2 | apply LeO.refl | apply LeO.none | refine LeO.ite ?_ ?_ | refine LeO.bind ?_ (fun _ => ?_)
set_option maxHeartbeats 8000000 in
set_option maxRecDepth 100000 in
theorem r_Small.calls (k : Nat) (a0 : ByteArray) (r1 : Int) (r2 : Bool) (w : World) (h : r_Small.f k a0 = some (r1, r2)) :
    Calls Tryz.prog 63 #[.string a0] w fun e w' => e = .returned (.tuple #[.int .i64 r1, .bool r2]) ∧ Drawn0 w w' := by
  have H : (if (a0.size : Int) > 0 then (if 0 < (a0.size : Int) then (r_Small.j0 k a0 0 ((bt a0 0) == 45)) else (none)) else (r_Small.j0 k a0 0 false)) = some (r1, r2) := h
  clear h; have HC2 := Aside0.mk H; clear H
  go_enter Tryz.func63, Tryz.ntmps63
  go_upto_region 3 with (fail)
  go_cut [17] (fun v17 wc => ∃ (kq : Nat) (x17_1 : Bool), v17 = .bool x17_1 ∧ Aside0 (r_Small.j0 kq a0 0 x17_1 = some (r1, r2)) ∧ Aside0 (kq ≤ k) ∧ Drawn0 w wc)
  case first =>
    have H := HC2.out; clear HC2; by_cases c3 : (a0.size : Int) > 0
    · rw [if_pos c3] at H; have c3b0 : decide (0 < (a0.size : Int)) = true := decide_eq_true c3; have c3b1 : decide (0 < a0.size) = true := decide_eq_true (by omega)
      clear c3
      (first | rw [c3b0] | (simp only [i64_w, i32_w]; rw [c3b0]) | skip)
      by_cases c4 : 0 < (a0.size : Int)
      · rw [if_pos c4] at H; have c4b0 : decide (0 < (a0.size : Int)) = true := decide_eq_true c4; have c4b1 : decide (0 < a0.size) = true := decide_eq_true (by omega)
        clear c4; have H' := Aside0.mk H; clear H; have p5 : 0 ≤ (0 : Int) := (by omega)
        have q5 : 0 < a0.size := (by have : (0 : Int) < (a0.size : Int) := of_decide_eq_true as_; omega)
        have hx5 : ∀ h : 0 < a0.size, ((a0[0]'h).toNat : Int) = bt a0 0 := bt_at a0 0; clear p5; have qi5 : (0 < (a0.size : Int)) = True := eq_true (of_decide_eq_true as_); replace q5 := eq_true q5
        go_wp2
        go_meet
        case rel => exact ⟨_, (((bt a0 0) == 45)), sq, H', ⟨by first | omega | exact Nat.le_refl _⟩, by repeat (first | exact Drawn0.refl _ | apply Drawn0.step)⟩
      · rw [if_neg c4] at H; exact absurd H (by simp)
    · rw [if_neg c3] at H; have c3b0 : decide (0 < (a0.size : Int)) = false := decide_eq_false c3; have c3b1 : decide (0 < a0.size) = false := decide_eq_false (by omega)
      clear c3
      (first | rw [c3b0] | (simp only [i64_w, i32_w]; rw [c3b0]) | skip)
      have H' := Aside0.mk H; clear H
      go_wp2
      go_meet
      case rel => exact ⟨_, (false), sq, H', ⟨by first | omega | exact Nat.le_refl _⟩, by repeat (first | exact Drawn0.refl _ | apply Drawn0.step)⟩
  case rest =>
    clear HC2; (try clear p2); (try clear c3); (try clear c3b0); (try clear c3b1); (try clear c4); (try clear c4b0); (try clear c4b1); (try clear p5); (try clear q5); (try clear hx5); (try clear qi5); (try clear p5); (try clear q5); obtain ⟨kq, x17_1, rfl, HA, HJ1, ⟨mc1, rfl⟩⟩ := hcut; cases kq with
    | zero => exact absurd HA.out (by simp [r_Small.j0])
    | succ kj1 =>
      have H := HA.out; clear HA; simp only [r_Small.j0] at H
      have HC6 := Aside0.mk H; clear H
      go_upto_if 17 with (fail)
      go_cut [5] (fun v5 wc => ∃ (kq : Nat) (x5_5 : Int), v5 = .int .i64 x5_5 ∧ Aside0 (r_Small.j1 kq a0 x5_5 = some (r1, r2)) ∧ Aside0 (kq ≤ kj1) ∧ Drawn0 w wc)
      case first =>
        have H := HC6.out; clear HC6; by_cases c7 : x17_1 = true
        · subst c7; have H1 : (r_Small.j1 kj1 a0 1) = some (r1, r2) := by rw [if_pos rfl] at H; exact H
          clear H; have H := H1; clear H1; have H' := Aside0.mk H; clear H
          go_wp2
          go_meet
          case rel => exact ⟨_, (1), sq, H', ⟨by have := HJ1.out; first | omega | exact Nat.le_refl _⟩, by repeat (first | exact Drawn0.refl _ | apply Drawn0.step)⟩
        · replace c7 := Bool.eq_false_iff.mpr c7; subst c7; have H1 : (r_Small.j1 kj1 a0 0) = some (r1, r2) := by rw [if_neg (show ¬ (false = true) by decide)] at H; exact H
          clear H; have H := H1; clear H1; have H' := Aside0.mk H; clear H
          go_wp2
          go_meet
          case rel => exact ⟨_, (0), sq, H', ⟨by have := HJ1.out; first | omega | exact Nat.le_refl _⟩, by repeat (first | exact Drawn0.refl _ | apply Drawn0.step)⟩
      case rest =>
        clear HC6; (try clear c1); (try clear p2); (try clear c3); (try clear c3b0); (try clear c3b1); (try clear c4); (try clear c4b0); (try clear c4b1); (try clear p5); (try clear q5); (try clear hx5); (try clear qi5); (try clear c6); (try clear c7); (try clear p2); (try clear p5); (try clear q5); obtain ⟨kq, x5_5, rfl, HA, HJ5, ⟨mc5, rfl⟩⟩ := hcut; cases kq with
        | zero => exact absurd HA.out (by simp [r_Small.j1])
        | succ kj5 =>
          have H := HA.out; clear HA; simp only [r_Small.j1] at H
          by_cases c8 : x5_5 = (a0.size : Int)
          · rw [if_pos c8] at H; have c8b0 : (x5_5 == (a0.size : Int)) = true := beq_iff_eq.mpr c8; have c8b1 : (x5_5 != (a0.size : Int)) = false := bne_eq_false_iff_eq.mpr c8; clear c8; simp only [Option.some.injEq, Prod.mk.injEq] at H
            obtain ⟨rfl, rfl⟩ := H
            go_wp2
            go_ret2
            exact ⟨sw, by repeat (first | exact Drawn0.refl _ | apply Drawn0.step)⟩
          · rw [if_neg c8] at H; have c8b0 : (x5_5 == (a0.size : Int)) = false := beq_eq_false_iff_ne.mpr c8; have c8b1 : (x5_5 != (a0.size : Int)) = true := bne_iff_ne.mpr c8; have H' := Aside0.mk H; clear H
            go_wp2
            go_loopg [5, 7] kj5 (fun kq v5 v7 w' => ∃ (x5_3 : Int) (x7_3 : Int), v5 = .int .i64 x5_3 ∧ v7 = .int .i64 x7_3 ∧ Aside0 (r_Small.l0 kq a0 x5_3 (x5_5 == 1) x7_3 = some (r1, r2)) ∧ Aside0 (kq ≤ kj5) ∧ Drawn0 w w')
            case atStart => exact ⟨(x5_5), (0), sq, sq, H', ⟨Nat.le_refl _⟩, by repeat (first | exact Drawn0.refl _ | apply Drawn0.step)⟩
            case round =>
              clear H'; (try clear c1); (try clear p2); (try clear c3); (try clear c3b0); (try clear c3b1); (try clear c4); (try clear c4b0); (try clear c4b1); (try clear c5); (try clear p5); (try clear q5); (try clear hx5); (try clear qi5); (try clear c6); (try clear c7); (try clear c8); (try clear c8b0); (try clear c8b1); (try clear p2); (try clear p5); (try clear q5); obtain ⟨x5_3, x7_3, rfl, rfl, HA, HK3, ⟨m3, rfl⟩⟩ := hrel; cases gk with
              | zero => exact absurd HA.out (by simp [r_Small.l0])
              | succ k3 =>
                have H := HA.out; clear HA; simp only [r_Small.l0] at H
                by_cases c9 : x5_3 < (a0.size : Int)
                · rw [if_pos c9] at H; have c9b0 : decide (x5_3 < (a0.size : Int)) = true := decide_eq_true c9; clear c9; by_cases c10 : 0 ≤ x5_3
                  · rw [if_pos c10] at H; have c10b0 : decide (0 ≤ x5_3) = true := decide_eq_true c10; clear c10; by_cases c12 : (wrap64 ((wrap64 (bt a0 x5_3)) - 48)) < 0
                    · rw [if_pos c12] at H; have c12b0 : decide ((wrap64 ((wrap64 (bt a0 x5_3)) - 48)) < 0) = true := decide_eq_true c12; clear c12; simp only [Option.some.injEq, Prod.mk.injEq] at H
                      obtain ⟨rfl, rfl⟩ := H; have p11 : 0 ≤ (x5_3 : Int) := of_decide_eq_true as_; have q11 : x5_3 < (a0.size : Int) := of_decide_eq_true as_; have hx11 := bt_at a0 x5_3; replace p11 := eq_true p11; replace q11 := eq_true q11
                      go_wp2
                      go_ret2
                      exact ⟨sw, by repeat (first | exact Drawn0.refl _ | apply Drawn0.step)⟩
                    · rw [if_neg c12] at H; have c12b0 : decide ((wrap64 ((wrap64 (bt a0 x5_3)) - 48)) < 0) = false := decide_eq_false c12; clear c12; by_cases c13 : (wrap64 ((wrap64 (bt a0 x5_3)) - 48)) > 9
                      · rw [if_pos c13] at H; have c13b0 : decide (9 < (wrap64 ((wrap64 (bt a0 x5_3)) - 48))) = true := decide_eq_true c13; clear c13; simp only [Option.some.injEq, Prod.mk.injEq] at H
                        obtain ⟨rfl, rfl⟩ := H; have p11 : 0 ≤ (x5_3 : Int) := of_decide_eq_true as_; have q11 : x5_3 < (a0.size : Int) := of_decide_eq_true as_; have hx11 := bt_at a0 x5_3; replace p11 := eq_true p11; replace q11 := eq_true q11
                        go_wp2
                        go_ret2
                        exact ⟨sw, by repeat (first | exact Drawn0.refl _ | apply Drawn0.step)⟩
                      · rw [if_neg c13] at H; have c13b0 : decide (9 < (wrap64 ((wrap64 (bt a0 x5_3)) - 48))) = false := decide_eq_false c13; clear c13; by_cases c14 : x7_3 < (wrap64 (Int.tdiv (wrap64 ((-9223372036854775808) + (wrap64 ((wrap64 (bt a0 x5_3)) - 48)))) 10))
                        · rw [if_pos c14] at H; have c14b0 : decide (x7_3 < (wrap64 (Int.tdiv (wrap64 ((-9223372036854775808) + (wrap64 ((wrap64 (bt a0 x5_3)) - 48)))) 10))) = true := decide_eq_true c14; clear c14; simp only [Option.some.injEq, Prod.mk.injEq] at H
                          obtain ⟨rfl, rfl⟩ := H; have p11 : 0 ≤ (x5_3 : Int) := of_decide_eq_true as_; have q11 : x5_3 < (a0.size : Int) := of_decide_eq_true as_; have hx11 := bt_at a0 x5_3; replace p11 := eq_true p11; replace q11 := eq_true q11
                          go_wp2
                          go_ret2
                          exact ⟨sw, by repeat (first | exact Drawn0.refl _ | apply Drawn0.step)⟩
                        · rw [if_neg c14] at H; have c14b0 : decide (x7_3 < (wrap64 (Int.tdiv (wrap64 ((-9223372036854775808) + (wrap64 ((wrap64 (bt a0 x5_3)) - 48)))) 10))) = false := decide_eq_false c14; clear c14; have H' := Aside0.mk H; clear H; have p11 : 0 ≤ (x5_3 : Int) := of_decide_eq_true as_; have q11 : x5_3 < (a0.size : Int) := of_decide_eq_true as_; have hx11 := bt_at a0 x5_3; replace p11 := eq_true p11; replace q11 := eq_true q11
                          go_wp2
                          go_roundg k3
                          case measure => have := HJ1.out; have := HJ5.out; have := HK3.out; omega
                          case rel => exact ⟨(wrap64 (x5_3 + 1)), (wrap64 ((wrap64 (x7_3 * 10)) - (wrap64 ((wrap64 (bt a0 x5_3)) - 48)))), sq, sq, H', ⟨by have := HJ1.out; have := HJ5.out; have := HK3.out; omega⟩, by repeat (first | exact Drawn0.refl _ | apply Drawn0.step)⟩
                  · rw [if_neg c10] at H; exact absurd H (by simp)
                · rw [if_neg c9] at H; have c9b0 : decide (x5_3 < (a0.size : Int)) = false := decide_eq_false c9; clear c9; by_cases c15 : (x5_5 == 1) = true
                  · rw [if_pos c15] at H; have c15b0 : (x5_5 == 1) = true := c15
                    (try (have c15b1 : decide (x5_5 = 1) = true := by simpa using c15))
                    (try (have c15b2 : (x5_5 == 1) = true := by simpa using c15))
                    clear c15; simp only [Option.some.injEq, Prod.mk.injEq] at H
                    obtain ⟨rfl, rfl⟩ := H
                    go_wp2
                    go_ret2
                    exact ⟨sw, by repeat (first | exact Drawn0.refl _ | apply Drawn0.step)⟩
                  · rw [if_neg c15] at H; have c15b0 : (x5_5 == 1) = false := by simpa using c15
                    (try (have c15b1 : decide (x5_5 = 1) = false := by simpa using c15))
                    (try (have c15b2 : (x5_5 == 1) = false := by simpa using c15))
                    (try (have c15b3 : ¬ (x5_5 = 1) := by simpa using c15))
                    clear c15; by_cases c16 : x7_3 = (-9223372036854775808)
                    · rw [if_pos c16] at H; have c16b0 : (x7_3 == (-9223372036854775808)) = true := beq_iff_eq.mpr c16; have c16b1 : (x7_3 != (-9223372036854775808)) = false := bne_eq_false_iff_eq.mpr c16; clear c16; simp only [Option.some.injEq, Prod.mk.injEq] at H
                      obtain ⟨rfl, rfl⟩ := H
                      go_wp2
                      go_ret2
                      exact ⟨sw, by repeat (first | exact Drawn0.refl _ | apply Drawn0.step)⟩
                    · rw [if_neg c16] at H; have c16b0 : (x7_3 == (-9223372036854775808)) = false := beq_eq_false_iff_ne.mpr c16; have c16b1 : (x7_3 != (-9223372036854775808)) = true := bne_iff_ne.mpr c16; simp only [Option.some.injEq, Prod.mk.injEq] at H
                      obtain ⟨rfl, rfl⟩ := H
                      go_wp2
                      go_ret2
                      exact ⟨sw, by repeat (first | exact Drawn0.refl _ | apply Drawn0.step)⟩
def r_quick.f (k : Nat) (a0 : ByteArray) : Option (Int × Bool) := (r_digits.f a0).bind fun t486 => (if (t486.size : Int) > 18 then (some (0, false)) else ((r_Small.f k a0).bind fun bt487 => (some (bt487.1, bt487.2))))
theorem r_quick.mono : ∀ a0 k, LeO (r_quick.f k a0) (r_quick.f (k + 1) a0) := by
  intro a0 k; unfold r_quick.f
  repeat' with_reducible first | apply r_Small.mono | apply LeO.refl | apply LeO.none | refine LeO.ite ?_ ?_ | refine LeO.bind ?_ (fun _ => ?_)
set_option maxHeartbeats 8000000 in
set_option maxRecDepth 100000 in
theorem r_quick.calls (k : Nat) (a0 : ByteArray) (r1 : Int) (r2 : Bool) (w : World) (h : r_quick.f k a0 = some (r1, r2)) :
    Calls Tryz.prog 32 #[.string a0] w fun e w' => e = .returned (.tuple #[.int .i64 r1, .bool r2]) ∧ Drawn0 w w' := by
  have H : ((r_digits.f a0).bind fun t486 => (if (t486.size : Int) > 18 then (some (0, false)) else ((r_Small.f k a0).bind fun bt487 => (some (bt487.1, bt487.2))))) = some (r1, r2) := h
  clear h; replace H := Option.bind_eq_some_iff.mp H; obtain ⟨t486, A20, H⟩ := H; have A2 := Aside0.mk A20; clear A20; by_cases c3 : (t486.size : Int) > 18
  · rw [if_pos c3] at H; have c3b0 : decide (18 < (t486.size : Int)) = true := decide_eq_true c3; have c3b1 : decide (18 < t486.size) = true := decide_eq_true (by omega)
    clear c3; simp only [Option.some.injEq, Prod.mk.injEq] at H
    obtain ⟨rfl, rfl⟩ := H
    go_enter Tryz.func32, Tryz.ntmps32
    go_wp2_with (first | ((with_reducible refine gate_callee (f := 31) rfl ?_); refine goesL_ (some 5) rfl rfl Tryz.func31 (by kernel_rfl) rfl #[.string a0] rfl mq ?_; (with_reducible refine (r_digits.calls a0 t486 _ A2.out).mono ?_); rintro e w' ⟨rfl, ⟨nd, rfl⟩⟩; refine ⟨_, rfl, ?_⟩))
    go_ret2
    exact ⟨sw, by repeat (first | exact Drawn0.refl _ | apply Drawn0.step)⟩
  · rw [if_neg c3] at H; have c3b0 : decide (18 < (t486.size : Int)) = false := decide_eq_false c3; have c3b1 : decide (18 < t486.size) = false := decide_eq_false (by omega)
    clear c3; replace H := Option.bind_eq_some_iff.mp H; obtain ⟨⟨t487, t488⟩, A40, H⟩ := H; have A4 := Aside0.mk A40; clear A40; simp only [Option.some.injEq, Prod.mk.injEq] at H
    obtain ⟨rfl, rfl⟩ := H
    go_enter Tryz.func32, Tryz.ntmps32
    go_wp2_with (first | ((with_reducible refine gate_callee (f := 31) rfl ?_); refine goesL_ (some 5) rfl rfl Tryz.func31 (by kernel_rfl) rfl #[.string a0] rfl mq ?_; (with_reducible refine (r_digits.calls a0 t486 _ A2.out).mono ?_); rintro e w' ⟨rfl, ⟨nd, rfl⟩⟩; refine ⟨_, rfl, ?_⟩) | ((with_reducible refine gate_callee (f := 63) rfl ?_); refine goesL_ (some 9) rfl rfl Tryz.func63 (by kernel_rfl) rfl #[.string a0] rfl mq ?_; (with_reducible refine (r_Small.calls k a0 t487 t488 _ A4.out).mono ?_); rintro e w' ⟨rfl, ⟨nd, rfl⟩⟩; refine ⟨_, rfl, ?_⟩))
    go_ret2
    exact ⟨sw, by repeat (first | exact Drawn0.refl _ | apply Drawn0.step)⟩
def r_Of.f (a0 : Int) : Option (ByteArray) := (strconv_Itoa.f a0).bind fun t489 => (some t489)
set_option maxHeartbeats 8000000 in
set_option maxRecDepth 100000 in
theorem r_Of.calls (a0 : Int) (r : ByteArray) (w : World) (hT : Tab w) (h : r_Of.f a0 = some r) :
    Calls Tryz.prog 33 #[.int .i64 a0] w fun e w' => e = .returned (.string r) ∧ Below w.heap.size w w' := by
  have HT := Aside0.mk hT; clear hT; have HB := Aside0.mk (Below.refl w.heap.size w); have H : ((strconv_Itoa.f a0).bind fun t489 => (some t489)) = some r := h
  clear h; replace H := Option.bind_eq_some_iff.mp H; obtain ⟨t489, A20, H⟩ := H; have A2 := Aside0.mk A20; clear A20; obtain rfl := Option.some.inj H
  go_enter Tryz.func33, Tryz.ntmps33
  go_wp2_with (first | ((with_reducible refine gate_callee (f := 64) rfl ?_); refine goesL_ (some 4) rfl rfl Tryz.func64 (by kernel_rfl) rfl #[.int .i64 a0] rfl mq ?_; (with_reducible refine (strconv_Itoa.calls (hT := HT.out.below bq) a0 t489 _ A2.out).mono ?_); rintro e w3 ⟨rfl, hb⟩; refine ⟨_, rfl, ?_⟩; replace HB := Aside0.mk (below_step bq hb); (try clear hb); (try clear hb2); (try clear hk); (try clear hi)))
  go_ret
  exact ⟨eq_, bq⟩
def r_trim.l0 : Nat → List Int → Int → Option (List Int)
  | 0, _, _ => none
  | k + 1, x0, x3 => if x3 > 0 then (if 0 ≤ (wrap64 (x3 - 1)) then (if (wrap64 (x3 - 1)) < (x0.length : Int) then (if (rd x0 (wrap64 (x3 - 1))) = 0 then (r_trim.l0 k x0 (wrap64 (x3 - 1))) else (if 0 ≤ x3 then (if x3 ≤ (x0.length : Int) then (some (x0.take (x3 : Int).toNat)) else (none)) else (none))) else (none)) else (none)) else (if 0 ≤ x3 then (if x3 ≤ (x0.length : Int) then (some (x0.take (x3 : Int).toNat)) else (none)) else (none))
def r_trim.f (k : Nat) (l0 : List Int) : Option (List Int) := r_trim.l0 k l0 (l0.length : Int)
theorem r_trim.mono_l : ∀ k, (∀ y0 y1, LeO (r_trim.l0 k y0 y1) (r_trim.l0 (k + 1) y0 y1))
  | 0 => fun _ _ r h => by simp [r_trim.l0] at h
  | k + 1 => by
    have ih0 := r_trim.mono_l k
    · intro y0 y1; unfold r_trim.l0
      repeat' with_reducible first | apply ih0 | apply LeO.refl | apply LeO.none | refine LeO.ite ?_ ?_ | refine LeO.bind ?_ (fun _ => ?_)
theorem r_trim.mono : ∀ a0 k, LeO (r_trim.f k a0) (r_trim.f (k + 1) a0) := by
  intro a0 k; have ih0 := r_trim.mono_l k; unfold r_trim.f
  repeat' with_reducible first | apply ih0 | apply LeO.refl | apply LeO.none | refine LeO.ite ?_ ?_ | refine LeO.bind ?_ (fun _ => ?_)
set_option maxHeartbeats 8000000 in
set_option maxRecDepth 100000 in
theorem r_trim.calls (k : Nat) (P0_ : Nat → Prop) (u9000_ : Value) (l0 : List Int) (r : List Int) (w0 w : World) (hB : Below w0.heap.size w0 w) (ho0 : Kd.R (Kd.int .i64) 3 w w0.heap.size P0_ u9000_ l0) (h : r_trim.f k l0 = some r) :
    Calls Tryz.prog 65 #[u9000_] w fun e w' => ∃ v0_ : Value, e = .returned (v0_) ∧ Kd.R (Kd.int .i64) 3 w' w0.heap.size (fun k_ => (P0_ k_ ∨ w.heap.size ≤ k_)) v0_ r ∧ Below w0.heap.size w0 w' ∧ Kept w w' (fun k_ => P0_ k_) := by
  have HO0 := Aside0.mk (show Kd.R (Kd.int .i64) 3 w w0.heap.size (fun k_ => (P0_ k_ ∨ w.heap.size ≤ k_)) u9000_ l0 from Kd.R_mono ho0 (fun k_ hk => (.inl hk)))
  have HK := Aside0.mk (Kept.refl w (fun k_ => P0_ k_))
  have HW0 := Aside0.mk hB.size; have HB := Aside0.mk hB; clear hB; have H : (r_trim.l0 k l0 (l0.length : Int)) = some r := h; clear h; have H' := Aside0.mk H; clear H; obtain ⟨Ao2, co2, eo2⟩ := Kd.R_slice HO0.out; subst eo2
  go_enter Tryz.func65, Tryz.ntmps65
  go_wp2
  go_loopg [3] k (fun kq v3 w' => ∃ (x3_1 : Int), v3 = .int .i64 x3_1 ∧ Aside0 (r_trim.l0 kq l0 x3_1 = some r) ∧ Aside0 (kq ≤ k) ∧ Aside0 (Kd.R (Kd.int .i64) 3 w' w0.heap.size (fun k_ => (P0_ k_ ∨ w.heap.size ≤ k_)) (.slice Ao2 l0.length co2) l0) ∧ Aside0 (Kept w w' (fun k_ => P0_ k_)) ∧ Aside0 (Below w0.heap.size w0 w'))
  case atStart => exact ⟨((l0.length : Int)), sq, H', ⟨Nat.le_refl _⟩, ⟨pl HO0.out⟩, ⟨kpq⟩, ⟨bq⟩⟩
  case round =>
    clear H'; (try clear p2); obtain ⟨x3_1, rfl, HA, HK1, HO_0, HK, HB⟩ := hrel; cases gk with
    | zero => exact absurd HA.out (by simp [r_trim.l0])
    | succ k1 =>
      have H := HA.out; clear HA; simp only [r_trim.l0] at H
      by_cases c3 : x3_1 > 0
      · rw [if_pos c3] at H; have c3b0 : decide (0 < x3_1) = true := decide_eq_true c3; clear c3; obtain ⟨ji4, hji4⟩ : ∃ j_ : Int, (wrap64 (x3_1 - 1)) = j_ := ⟨_, rfl⟩; first | rw [hji4] at H | simp only [hji4] at H
        have hji4w : (IntKind.i64.wrap (x3_1 - 1)) = ji4 := (i64_w _).trans hji4; by_cases c5 : 0 ≤ (ji4)
        · rw [if_pos c5] at H; have c5b0 : decide (0 ≤ (ji4)) = true := decide_eq_true c5; clear c5; by_cases c6 : (ji4) < (l0.length : Int)
          · rw [if_pos c6] at H; have c6b0 : decide ((ji4) < (l0.length : Int)) = true := decide_eq_true c6; clear c6; by_cases c7 : (rd l0 (ji4)) = 0
            · rw [if_pos c7] at H; have c7b0 : ((rd l0 (ji4)) == 0) = true := beq_iff_eq.mpr c7; have c7b1 : ((rd l0 (ji4)) != 0) = false := bne_eq_false_iff_eq.mpr c7; clear c7; have H' := Aside0.mk H; clear H; have p490 : 0 ≤ ((ji4) : Int) := of_decide_eq_true as_; have q490 : (ji4) < (l0.length : Int) := of_decide_eq_true as_; obtain ⟨ad490, e490, hx490_0⟩ := Kd.at_int (Kd.R_reads' HO_0.out).2.2 (ji4) p490 q490; cases e490; replace p490 := eq_true p490; replace q490 := eq_true q490
              go_wp2
              go_roundg k1
              case measure => have := HK1.out; omega
              case rel => exact ⟨(ji4), (by first | rfl | (simp; done) | (simp only [← hji4] <;> (first | rfl | simp)) | (simp [*]; done)), H', ⟨by have := HK1.out; omega⟩, ⟨pl HO_0.out⟩, ⟨kpq⟩, ⟨bq⟩⟩
            · rw [if_neg c7] at H; have c7b0 : ((rd l0 (ji4)) == 0) = false := beq_eq_false_iff_ne.mpr c7; have c7b1 : ((rd l0 (ji4)) != 0) = true := bne_iff_ne.mpr c7; by_cases c8 : 0 ≤ x3_1
              · rw [if_pos c8] at H; have c8b0 := eq_true c8; have c8b1 : decide (0 ≤ x3_1) = true := decide_eq_true c8; clear c8; by_cases c9 : x3_1 ≤ (l0.length : Int)
                · rw [if_pos c9] at H; have c9b0 := eq_true c9; have c9b1 : decide (x3_1 ≤ (l0.length : Int)) = true := decide_eq_true c9; clear c9; obtain ⟨y491, hy491⟩ : ∃ y_ : List Int, y_ = (l0.take (x3_1 : Int).toNat) := ⟨_, rfl⟩; first | rw [Option.bind_some, ← hy491] at H | rw [← hy491] at H | rw [Option.bind_some] at H | skip
                  have Ny491 := Aside0.mk hy491; clear hy491; obtain rfl := Option.some.inj H; have p490 : 0 ≤ ((ji4) : Int) := of_decide_eq_true as_; have q490 : (ji4) < (l0.length : Int) := of_decide_eq_true as_; obtain ⟨ad490, e490, hx490_0⟩ := Kd.at_int (Kd.R_reads' HO_0.out).2.2 (ji4) p490 q490; cases e490; replace p490 := eq_true p490; replace q490 := eq_true q490; have q10 : (x3_1 : Int) ≤ ((l0.length : Int) : Int) := of_decide_eq_true as_; obtain ⟨i010, hi010, _, hsz10, _⟩ := info_parts info3; have hcut10 := cut_to (P := Tryz.prog) 55 3 .i64 Tryz.underlying55 hi010 (some ad490) l0.length co2 x3_1 (of_decide_eq_true as_) q10 (Kd.R_reads' HO_0.out).2.1; have hr10 := Kd.R_take (m := (x3_1 : Int).toNat) HO_0.out (by omega)
                  have hy10 : y491.length = (x3_1 : Int).toNat := (by rw [Ny491.out, List.length_take]; omega)
                  rw [← Ny491.out] at hr10; rw [← hy10] at hr10 hcut10; clear hy10 hi010 hsz10 HO_0; have HO493 := Aside0.mk hr10; clear hr10; replace q10 := eq_true q10
                  go_wp2
                  go_ret
                  exact ⟨_, by first | rfl | (simp [errW_none, errW_some] <;> rfl) | (simp only [← hji4]; first | rfl | (simp [errW_none, errW_some] <;> rfl)) | (simp [*, errW_none, errW_some] <;> rfl), pl HO493.out, bq, kpq⟩
                · rw [if_neg c9] at H; exact absurd H (by simp)
              · rw [if_neg c8] at H; exact absurd H (by simp)
          · rw [if_neg c6] at H; exact absurd H (by simp)
        · rw [if_neg c5] at H; exact absurd H (by simp)
      · rw [if_neg c3] at H; have c3b0 : decide (0 < x3_1) = false := decide_eq_false c3; clear c3; by_cases c11 : 0 ≤ x3_1
        · rw [if_pos c11] at H; have c11b0 := eq_true c11; have c11b1 : decide (0 ≤ x3_1) = true := decide_eq_true c11; clear c11; by_cases c12 : x3_1 ≤ (l0.length : Int)
          · rw [if_pos c12] at H; have c12b0 := eq_true c12; have c12b1 : decide (x3_1 ≤ (l0.length : Int)) = true := decide_eq_true c12; clear c12; obtain ⟨y494, hy494⟩ : ∃ y_ : List Int, y_ = (l0.take (x3_1 : Int).toNat) := ⟨_, rfl⟩; first | rw [Option.bind_some, ← hy494] at H | rw [← hy494] at H | rw [Option.bind_some] at H | skip
            have Ny494 := Aside0.mk hy494; clear hy494; obtain rfl := Option.some.inj H; have q13 : (x3_1 : Int) ≤ ((l0.length : Int) : Int) := of_decide_eq_true as_; obtain ⟨i013, hi013, _, hsz13, _⟩ := info_parts info3; have hcut13 := cut_to (P := Tryz.prog) 55 3 .i64 Tryz.underlying55 hi013 Ao2 l0.length co2 x3_1 (of_decide_eq_true as_) q13 (Kd.R_reads' HO_0.out).2.1; have hr13 := Kd.R_take (m := (x3_1 : Int).toNat) HO_0.out (by omega)
            have hy13 : y494.length = (x3_1 : Int).toNat := (by rw [Ny494.out, List.length_take]; omega)
            rw [← Ny494.out] at hr13; rw [← hy13] at hr13 hcut13; clear hy13 hi013 hsz13 HO_0; have HO496 := Aside0.mk hr13; clear hr13; replace q13 := eq_true q13
            go_wp2
            go_ret
            exact ⟨_, eq_, pl HO496.out, bq, kpq⟩
          · rw [if_neg c12] at H; exact absurd H (by simp)
        · rw [if_neg c11] at H; exact absurd H (by simp)
mutual
def r_split.l0 : Nat → ByteArray → List Int → Option (List Int)
  | 0, _, _ => none
  | k + 1, x0, x3 => if (x0.size : Int) > 0 then (if (x0.size : Int) > 9 then (r_split.j1 k x0 x3 (wrap64 ((x0.size : Int) - 9))) else (r_split.j1 k x0 x3 0)) else ((r_trim.f k x3).bind fun t497 => (some t497))
def r_split.j1 : Nat → ByteArray → List Int → Int → Option (List Int)
  | 0, _, _, _ => none
  | k + 1, x0, x3, x4 => r_split.l1 k x0 x3 x4 0 x4
def r_split.l1 : Nat → ByteArray → List Int → Int → Int → Int → Option (List Int)
  | 0, _, _, _, _, _ => none
  | k + 1, x0, x3, x4, x5, x6 => if x6 < (x0.size : Int) then (if 0 ≤ x6 then (r_split.l1 k x0 x3 x4 (wrap64 ((wrap64 (10 * x5)) + (((bt x0 x6) - 48) % 256))) (wrap64 (x6 + 1))) else (none)) else (if x3.length < 17592186044416 then (if 0 ≤ x4 then (if x4 ≤ (x0.size : Int) then (r_split.l0 k (x0.extract 0 (x4 : Int).toNat) (x3 ++ [x5])) else (none)) else (none)) else (none))
end
def r_split.f (k : Nat) (a0 : ByteArray) : Option (List Int) := r_split.l0 k a0 ([] : List Int)
theorem r_split.mono_l : ∀ k, (∀ y0 y1, LeO (r_split.l0 k y0 y1) (r_split.l0 (k + 1) y0 y1)) ∧ (∀ y0 y1 y2, LeO (r_split.j1 k y0 y1 y2) (r_split.j1 (k + 1) y0 y1 y2)) ∧ (∀ y0 y1 y2 y3 y4, LeO (r_split.l1 k y0 y1 y2 y3 y4) (r_split.l1 (k + 1) y0 y1 y2 y3 y4))
  | 0 => ⟨fun _ _ r h => by simp [r_split.l0] at h, fun _ _ _ r h => by simp [r_split.j1] at h, fun _ _ _ _ _ r h => by simp [r_split.l1] at h⟩
  | k + 1 => by
    obtain ⟨ih0, ih1, ih2⟩ := r_split.mono_l k; refine ⟨?_, ?_, ?_⟩
    · intro y0 y1; unfold r_split.l0
      repeat' with_reducible first | apply ih0 | apply ih1 | apply ih2 | apply r_trim.mono | apply LeO.refl | apply LeO.none | refine LeO.ite ?_ ?_ | refine LeO.bind ?_ (fun _ => ?_)
    · intro y0 y1 y2; unfold r_split.j1
      repeat' with_reducible first | apply ih0 | apply ih1 | apply ih2 | apply r_trim.mono | apply LeO.refl | apply LeO.none | refine LeO.ite ?_ ?_ | refine LeO.bind ?_ (fun _ => ?_)
    · intro y0 y1 y2 y3 y4; unfold r_split.l1
      repeat' with_reducible first | apply ih0 | apply ih1 | apply ih2 | apply r_trim.mono | apply LeO.refl | apply LeO.none | refine LeO.ite ?_ ?_ | refine LeO.bind ?_ (fun _ => ?_)
theorem r_split.mono : ∀ a0 k, LeO (r_split.f k a0) (r_split.f (k + 1) a0) := by
  intro a0 k; obtain ⟨ih0, ih1, ih2⟩ := r_split.mono_l k; unfold r_split.f
  repeat' with_reducible first | apply ih0 | apply ih1 | apply ih2 | apply r_trim.mono | apply LeO.refl | apply LeO.none | refine LeO.ite ?_ ?_ | refine LeO.bind ?_ (fun _ => ?_)
set_option maxHeartbeats 8000000 in
set_option maxRecDepth 100000 in
theorem r_split.calls (k : Nat) (a0 : ByteArray) (r : List Int) (w : World) (h : r_split.f k a0 = some r) :
    Calls Tryz.prog 34 #[.string a0] w fun e w' => ∃ v0_ : Value, e = .returned (v0_) ∧ Kd.R (Kd.int .i64) 3 w' w.heap.size (fun _ => True) v0_ r ∧ Below w.heap.size w w' := by
  have HB := Aside0.mk (Below.refl w.heap.size w); have H : (r_split.l0 k a0 ([] : List Int)) = some r := h; clear h; have H' := Aside0.mk H; clear H
  go_enter Tryz.func34, Tryz.ntmps34
  go_wp2
  go_loopg [0, 3] k (fun kq v0 v3 w' => ∃ (x0_1 : ByteArray) (x3_1 : List Int), v0 = .string x0_1 ∧ Aside0 (r_split.l0 kq x0_1 x3_1 = some r) ∧ Aside0 (kq ≤ k) ∧ Aside0 (Kd.R (Kd.int .i64) 3 w' w.heap.size (fun _ => True) v3 x3_1) ∧ Aside0 (Below w.heap.size w w'))
  case atStart => exact ⟨(a0), (([] : List Int)), sq, H', ⟨Nat.le_refl _⟩, ⟨by first | exact Kd.R_nil _ _ _ _ _ | exact Kd.N_nil _ _ _ _ _ | exact Kd.V_nil _ _ _ _ _ | exact Kd.Q_nil _ _ _ _ _ | exact Kd.S_nil _ _ _ _ _⟩, ⟨bq⟩⟩
  case round =>
    clear H'; obtain ⟨x0_1, x3_1, rfl, HA, HK1, HO_3, HB⟩ := hrel; cases gk with
    | zero => exact absurd HA.out (by simp [r_split.l0])
    | succ k1 =>
      have H := HA.out; clear HA; simp only [r_split.l0] at H
      by_cases c2 : (x0_1.size : Int) > 0
      · rw [if_pos c2] at H; have c2b0 : decide (0 < (x0_1.size : Int)) = true := decide_eq_true c2; have c2b1 : decide (0 < x0_1.size) = true := decide_eq_true (by omega)
        clear c2; have HC3 := Aside0.mk H; clear H
        go_upto_if 12 with (fail)
        go_cut [4] (fun v4 wc => ∃ (kq : Nat) (x4_2 : Int), v4 = .int .i64 x4_2 ∧ Aside0 (r_split.j1 kq x0_1 x3_1 x4_2 = some r) ∧ Aside0 (kq ≤ k1) ∧ Aside0 (Kd.R (Kd.int .i64) 3 wc w.heap.size (fun _ => True) u3 x3_1) ∧ Aside0 (Below w.heap.size w wc))
        case first =>
          have H := HC3.out; clear HC3; by_cases c4 : (x0_1.size : Int) > 9
          · rw [if_pos c4] at H; have c4b0 : decide (9 < (x0_1.size : Int)) = true := decide_eq_true c4; have c4b1 : decide (9 < x0_1.size) = true := decide_eq_true (by omega)
            clear c4
            (first | rw [c4b0] | (simp only [i64_w, i32_w]; rw [c4b0]) | skip)
            have H' := Aside0.mk H; clear H
            go_wp2
            go_meet
            case rel => exact ⟨_, (wrap64 ((x0_1.size : Int) - 9)), sq, H', ⟨by have := HK1.out; first | omega | exact Nat.le_refl _⟩, ⟨pl HO_3.out⟩, ⟨bq⟩⟩
          · rw [if_neg c4] at H; have c4b0 : decide (9 < (x0_1.size : Int)) = false := decide_eq_false c4; have c4b1 : decide (9 < x0_1.size) = false := decide_eq_false (by omega)
            clear c4
            (first | rw [c4b0] | (simp only [i64_w, i32_w]; rw [c4b0]) | skip)
            have H' := Aside0.mk H; clear H
            go_wp2
            go_meet
            case rel => exact ⟨_, (0), sq, H', ⟨by have := HK1.out; first | omega | exact Nat.le_refl _⟩, ⟨pl HO_3.out⟩, ⟨bq⟩⟩
        case rest =>
          clear HC3; (try clear c2); (try clear c2b0); (try clear c2b1); (try clear p2); (try clear c3); (try clear c4); (try clear c4b0); (try clear c4b1); obtain ⟨kq, x4_2, rfl, HA, HJ2, HO_3, HB⟩ := hcut; cases kq with
          | zero => exact absurd HA.out (by simp [r_split.j1])
          | succ kj2 =>
            have H := HA.out; clear HA; simp only [r_split.j1] at H
            have H' := Aside0.mk H; clear H
            go_wp2
            go_loopg [5, 6] kj2 (fun kq v5 v6 w' => ∃ (x5_3 : Int) (x6_3 : Int), v5 = .int .i64 x5_3 ∧ v6 = .int .i64 x6_3 ∧ Aside0 (r_split.l1 kq x0_1 x3_1 x4_2 x5_3 x6_3 = some r) ∧ Aside0 (kq ≤ kj2) ∧ Aside0 (Kd.R (Kd.int .i64) 3 w' w.heap.size (fun _ => True) u3 x3_1) ∧ Aside0 (Below w.heap.size w w'))
            case atStart => exact ⟨(0), (x4_2), sq, sq, H', ⟨Nat.le_refl _⟩, ⟨pl HO_3.out⟩, ⟨bq⟩⟩
            case round =>
              clear H'; (try clear c2); (try clear c2b0); (try clear c2b1); (try clear p2); (try clear c3); (try clear c4); (try clear c4b0); (try clear c4b1); (try clear p2); obtain ⟨x5_3, x6_3, rfl, rfl, HA, HK3, HO_3, HB⟩ := hrel; cases gk with
              | zero => exact absurd HA.out (by simp [r_split.l1])
              | succ k3 =>
                have H := HA.out; clear HA; simp only [r_split.l1] at H
                by_cases c5 : x6_3 < (x0_1.size : Int)
                · rw [if_pos c5] at H; have c5b0 : decide (x6_3 < (x0_1.size : Int)) = true := decide_eq_true c5; clear c5; by_cases c6 : 0 ≤ x6_3
                  · rw [if_pos c6] at H; have c6b0 : decide (0 ≤ x6_3) = true := decide_eq_true c6; clear c6; have H' := Aside0.mk H; clear H; have p7 : 0 ≤ (x6_3 : Int) := of_decide_eq_true as_; have q7 : x6_3 < (x0_1.size : Int) := of_decide_eq_true as_; have hx7 := bt_at x0_1 x6_3; replace p7 := eq_true p7; replace q7 := eq_true q7
                    go_wp2
                    go_roundg k3
                    case measure => have := HK1.out; have := HJ2.out; have := HK3.out; omega
                    case rel => exact ⟨(wrap64 ((wrap64 (10 * x5_3)) + (((bt x0_1 x6_3) - 48) % 256))), (wrap64 (x6_3 + 1)), sq, sq, H', ⟨by have := HK1.out; have := HJ2.out; have := HK3.out; omega⟩, ⟨pl HO_3.out⟩, ⟨bq⟩⟩
                  · rw [if_neg c6] at H; exact absurd H (by simp)
                · rw [if_neg c5] at H; have c5b0 : decide (x6_3 < (x0_1.size : Int)) = false := decide_eq_false c5; clear c5; by_cases c8 : x3_1.length < 17592186044416
                  · rw [if_pos c8] at H; have LMc8 := Aside0.mk c8; clear c8; obtain ⟨y500, hy500⟩ : ∃ y_ : List Int, y_ = (x3_1 ++ [x5_3]) := ⟨_, rfl⟩; first | rw [Option.bind_some, ← hy500] at H | rw [← hy500] at H | rw [Option.bind_some] at H | skip
                    have Ny500 := Aside0.mk hy500; clear hy500; by_cases c9 : 0 ≤ x4_2
                    · rw [if_pos c9] at H; have c9b0 := eq_true c9; have c9b1 : decide (0 ≤ x4_2) = true := decide_eq_true c9; clear c9; by_cases c10 : x4_2 ≤ (x0_1.size : Int)
                      · rw [if_pos c10] at H; have c10b0 := eq_true c10; have c10b1 : decide (x4_2 ≤ (x0_1.size : Int)) = true := decide_eq_true c10; clear c10; have H' := Aside0.mk H; clear H
                        go_wp2_with (first | ((with_reducible refine gate_builtin (b := .append) (xs := #[.tmp 31, .tmp 33]) rfl ?_); at_builtin; refine Kd.R_append (Kd.int .i64) (w0 := w) w.heap.size rfl (.tmp 31) (.tmp 33) 55 3 (.int .i64 0) 8 rfl Tryz.underlying55 info3 rfl (by decide) (by omega) u3 x3_1 x5_3 [.int .i64 x5_3] (fun _ => True) (fun _ => False) rfl rfl ?aP (fun _ hk => hk.elim) ?aF ?aO ?aB ?aS ?aL ?_; (case aP => exact rfl); (case aB => exact bq); (case aF => exact (fun _ _ => trivial)); (case aO => exact (pl HO_3.out)); (case aS => exact (below_size bq)); (case aL => have := LMc8.out; omega); intro v501 w11 ho hb hg hat; rw [← Ny500.out] at ho; have n0_ := Aside0.mk (hb); have n1_ := Aside0.mk (ho); clear HB; clear HO_3; have HB := n0_; have HO502 := n1_; clear n0_ n1_; clear ho hb hg hat))
                        go_roundg k3
                        case measure => have := HK1.out; have := HJ2.out; have := HK3.out; omega
                        case rel => exact ⟨(x0_1.extract 0 (x4_2 : Int).toNat), (y500), sq, H', ⟨by have := HK1.out; have := HJ2.out; have := HK3.out; omega⟩, ⟨pl HO502.out⟩, ⟨bq⟩⟩
                      · rw [if_neg c10] at H; exact absurd H (by simp)
                    · rw [if_neg c9] at H; exact absurd H (by simp)
                  · rw [if_neg c8] at H; exact absurd H (by simp)
      · rw [if_neg c2] at H; have c2b0 : decide (0 < (x0_1.size : Int)) = false := decide_eq_false c2; have c2b1 : decide (0 < x0_1.size) = false := decide_eq_false (by omega)
        clear c2; replace H := Option.bind_eq_some_iff.mp H; obtain ⟨t497, A120, H⟩ := H; have A12 := Aside0.mk A120; clear A120; obtain rfl := Option.some.inj H; obtain ⟨Ao13, co13, eo13⟩ := Kd.R_slice HO_3.out; subst eo13
        go_wp2_with (first | ((with_reducible refine gate_callee (f := 65) rfl ?_); refine goesL_ (some 39) rfl rfl Tryz.func65 (by kernel_rfl) rfl #[.slice Ao13 x3_1.length co13] rfl mq ?_; (with_reducible refine (r_trim.calls k1 (fun k_ => some k_ = (.slice Ao13 x3_1.length co13 : Value).ownBlock) (.slice Ao13 x3_1.length co13) x3_1 t497 w _ ?side1 ?side2 A12.out).mono ?_); (case side1 => exact bq); (case side2 => exact Kd.R_tight rfl HO_3.out); rintro e w14 ⟨v498, rfl, ho0, hb, hkp⟩; refine ⟨_, rfl, ?_⟩; have n0_ := Aside0.mk (Kd.R_mono (ok' := fun k_ => True) ho0 (fun k_ hk_ => trivial)); have n1_ := Aside0.mk (hb); clear HB; clear HO_3; have HO499 := n0_; have HB := n1_; clear n0_ n1_; (try clear hb); (try clear hkp); (try clear ho0)))
        go_ret
        exact ⟨_, eq_, pl HO499.out, bq⟩
def r_Sign.f (a0 : ByteArray) : Option (Int) := if a0.toList = ([48] : List UInt8) then (some 0) else (if 0 < (a0.size : Int) then (if (bt a0 0) = 45 then (some (-1)) else (some 1)) else (none))
set_option maxHeartbeats 8000000 in
set_option maxRecDepth 100000 in
theorem r_Sign.calls (a0 : ByteArray) (r : Int) (w : World) (h : r_Sign.f a0 = some r) :
    Calls Tryz.prog 53 #[.string a0] w fun e w' => e = .returned (.int .i64 r) ∧ Drawn0 w w' := by
  have H : (if a0.toList = ([48] : List UInt8) then (some 0) else (if 0 < (a0.size : Int) then (if (bt a0 0) = 45 then (some (-1)) else (some 1)) else (none))) = some r := h
  clear h; by_cases c2 : a0.toList = ([48] : List UInt8)
  · rw [if_pos c2] at H; have c2b0 : (a0.toList == ([48] : List UInt8)) = true := beq_iff_eq.mpr c2; have c2b1 : (a0.toList != ([48] : List UInt8)) = false := bne_eq_false_iff_eq.mpr c2; clear c2; obtain rfl := Option.some.inj H
    go_enter Tryz.func53, Tryz.ntmps53
    go_wp2
    go_ret
    exact ⟨sw, by repeat (first | exact Drawn0.refl _ | apply Drawn0.step)⟩
  · rw [if_neg c2] at H; have c2b0 : (a0.toList == ([48] : List UInt8)) = false := beq_eq_false_iff_ne.mpr c2; have c2b1 : (a0.toList != ([48] : List UInt8)) = true := bne_iff_ne.mpr c2; by_cases c3 : 0 < (a0.size : Int)
    · rw [if_pos c3] at H; have c3b0 : decide (0 < (a0.size : Int)) = true := decide_eq_true c3; have c3b1 : decide (0 < a0.size) = true := decide_eq_true (by omega)
      clear c3; by_cases c5 : (bt a0 0) = 45
      · rw [if_pos c5] at H; have c5b0 : ((bt a0 0) == 45) = true := beq_iff_eq.mpr c5; have c5b1 : ((bt a0 0) != 45) = false := bne_eq_false_iff_eq.mpr c5; clear c5; obtain rfl := Option.some.inj H; have p4 : 0 ≤ (0 : Int) := (by omega)
        have q4 : 0 < a0.size := (by have : (0 : Int) < (a0.size : Int) := of_decide_eq_true as_; omega)
        have hx4 : ∀ h : 0 < a0.size, ((a0[0]'h).toNat : Int) = bt a0 0 := bt_at a0 0; clear p4; have qi4 : (0 < (a0.size : Int)) = True := eq_true (of_decide_eq_true as_); replace q4 := eq_true q4
        go_enter Tryz.func53, Tryz.ntmps53
        go_wp2
        go_ret
        exact ⟨sw, by repeat (first | exact Drawn0.refl _ | apply Drawn0.step)⟩
      · rw [if_neg c5] at H; have c5b0 : ((bt a0 0) == 45) = false := beq_eq_false_iff_ne.mpr c5; have c5b1 : ((bt a0 0) != 45) = true := bne_iff_ne.mpr c5; obtain rfl := Option.some.inj H; have p4 : 0 ≤ (0 : Int) := (by omega)
        have q4 : 0 < a0.size := (by have : (0 : Int) < (a0.size : Int) := of_decide_eq_true as_; omega)
        have hx4 : ∀ h : 0 < a0.size, ((a0[0]'h).toNat : Int) = bt a0 0 := bt_at a0 0; clear p4; have qi4 : (0 < (a0.size : Int)) = True := eq_true (of_decide_eq_true as_); replace q4 := eq_true q4
        go_enter Tryz.func53, Tryz.ntmps53
        go_wp2
        go_ret
        exact ⟨sw, by repeat (first | exact Drawn0.refl _ | apply Drawn0.step)⟩
    · rw [if_neg c3] at H; exact absurd H (by simp)
def r_side.f (a0 : ByteArray) : Option (Int) := (r_Sign.f a0).bind fun t503 => (if t503 < 0 then (some (-1)) else (some 1))
set_option maxHeartbeats 8000000 in
set_option maxRecDepth 100000 in
theorem r_side.calls (a0 : ByteArray) (r : Int) (w : World) (h : r_side.f a0 = some r) :
    Calls Tryz.prog 35 #[.string a0] w fun e w' => e = .returned (.int .i64 r) ∧ Drawn0 w w' := by
  have H : ((r_Sign.f a0).bind fun t503 => (if t503 < 0 then (some (-1)) else (some 1))) = some r := h
  clear h; replace H := Option.bind_eq_some_iff.mp H; obtain ⟨t503, A20, H⟩ := H; have A2 := Aside0.mk A20; clear A20; by_cases c3 : t503 < 0
  · rw [if_pos c3] at H; have c3b0 : decide (t503 < 0) = true := decide_eq_true c3; clear c3; obtain rfl := Option.some.inj H
    go_enter Tryz.func35, Tryz.ntmps35
    go_wp2_with (first | ((with_reducible refine gate_callee (f := 53) rfl ?_); refine goesL_ (some 4) rfl rfl Tryz.func53 (by kernel_rfl) rfl #[.string a0] rfl mq ?_; (with_reducible refine (r_Sign.calls a0 t503 _ A2.out).mono ?_); rintro e w' ⟨rfl, ⟨nd, rfl⟩⟩; refine ⟨_, rfl, ?_⟩))
    go_ret
    exact ⟨sw, by repeat (first | exact Drawn0.refl _ | apply Drawn0.step)⟩
  · rw [if_neg c3] at H; have c3b0 : decide (t503 < 0) = false := decide_eq_false c3; clear c3; obtain rfl := Option.some.inj H
    go_enter Tryz.func35, Tryz.ntmps35
    go_wp2_with (first | ((with_reducible refine gate_callee (f := 53) rfl ?_); refine goesL_ (some 4) rfl rfl Tryz.func53 (by kernel_rfl) rfl #[.string a0] rfl mq ?_; (with_reducible refine (r_Sign.calls a0 t503 _ A2.out).mono ?_); rintro e w' ⟨rfl, ⟨nd, rfl⟩⟩; refine ⟨_, rfl, ?_⟩))
    go_ret
    exact ⟨sw, by repeat (first | exact Drawn0.refl _ | apply Drawn0.step)⟩
mutual
def r_join.l0 : Nat → List Int → ByteArray → Int → Option (ByteArray)
  | 0, _, _, _ => none
  | k + 1, x0, x3, x4 => if x4 ≥ 0 then (if 0 ≤ x4 then (if x4 < (x0.length : Int) then ((strconv_Itoa.f (rd x0 x4)).bind fun t507 => (r_join.l1 k x0 x3 x4 t507)) else (none)) else (none)) else (some x3)
def r_join.l1 : Nat → List Int → ByteArray → Int → ByteArray → Option (ByteArray)
  | 0, _, _, _, _ => none
  | k + 1, x0, x3, x4, x5 => if (x5.size : Int) < 9 then (if 1 + x5.size ≤ 9223372036854775807 then (r_join.l1 k x0 x3 x4 ((⟨#[48]⟩ : ByteArray) ++ x5)) else (none)) else (if x3.size + x5.size ≤ 9223372036854775807 then (r_join.l0 k x0 (x3 ++ x5) (wrap64 (x4 - 1))) else (none))
end
def r_join.f (k : Nat) (l0 : List Int) : Option (ByteArray) := if (l0.length : Int) = 0 then (some (⟨#[48]⟩ : ByteArray)) else (if 0 ≤ (wrap64 ((l0.length : Int) - 1)) then (if (wrap64 ((l0.length : Int) - 1)) < (l0.length : Int) then ((strconv_Itoa.f (rd l0 (wrap64 ((l0.length : Int) - 1)))).bind fun t505 => (r_join.l0 k l0 t505 (wrap64 ((l0.length : Int) - 2)))) else (none)) else (none))
theorem r_join.mono_l : ∀ k, (∀ y0 y1 y2, LeO (r_join.l0 k y0 y1 y2) (r_join.l0 (k + 1) y0 y1 y2)) ∧ (∀ y0 y1 y2 y3, LeO (r_join.l1 k y0 y1 y2 y3) (r_join.l1 (k + 1) y0 y1 y2 y3))
  | 0 => ⟨fun _ _ _ r h => by simp [r_join.l0] at h, fun _ _ _ _ r h => by simp [r_join.l1] at h⟩
  | k + 1 => by
    obtain ⟨ih0, ih1⟩ := r_join.mono_l k; refine ⟨?_, ?_⟩
    · intro y0 y1 y2; unfold r_join.l0
      repeat' with_reducible first | apply ih0 | apply ih1 | apply LeO.refl | apply LeO.none | refine LeO.ite ?_ ?_ | refine LeO.bind ?_ (fun _ => ?_)
    · intro y0 y1 y2 y3; unfold r_join.l1
      repeat' with_reducible first | apply ih0 | apply ih1 | apply LeO.refl | apply LeO.none | refine LeO.ite ?_ ?_ | refine LeO.bind ?_ (fun _ => ?_)
theorem r_join.mono : ∀ a0 k, LeO (r_join.f k a0) (r_join.f (k + 1) a0) := by
  intro a0 k; obtain ⟨ih0, ih1⟩ := r_join.mono_l k; unfold r_join.f
  repeat' with_reducible first | apply ih0 | apply ih1 | apply LeO.refl | apply LeO.none | refine LeO.ite ?_ ?_ | refine LeO.bind ?_ (fun _ => ?_)
set_option maxHeartbeats 8000000 in
set_option maxRecDepth 100000 in
theorem r_join.calls (k : Nat) (A0 : Option Addr) (c0 : Nat) (l0 : List Int) (r : ByteArray) (w : World) (hr0 : Kd.C (Kd.int .i64) w A0 l0.length l0) (hc0 : l0.length ≤ c0) (hT : Tab w) (h : r_join.f k l0 = some r) :
    Calls Tryz.prog 66 #[.slice A0 l0.length c0] w fun e w' => e = .returned (.string r) ∧ Below w.heap.size w w' := by
  have HT := Aside0.mk hT; clear hT; have HR0 := Aside0.mk hr0; have HC0 := Aside0.mk hc0; clear hr0 hc0; have HB := Aside0.mk (Below.refl w.heap.size w); have H : (if (l0.length : Int) = 0 then (some (⟨#[48]⟩ : ByteArray)) else (if 0 ≤ (wrap64 ((l0.length : Int) - 1)) then (if (wrap64 ((l0.length : Int) - 1)) < (l0.length : Int) then ((strconv_Itoa.f (rd l0 (wrap64 ((l0.length : Int) - 1)))).bind fun t505 => (r_join.l0 k l0 t505 (wrap64 ((l0.length : Int) - 2)))) else (none)) else (none))) = some r := h
  clear h; by_cases c2 : (l0.length : Int) = 0
  · rw [if_pos c2] at H; have c2b0 : ((l0.length : Int) == 0) = true := beq_iff_eq.mpr c2; have c2b1 : ((l0.length : Int) != 0) = false := bne_eq_false_iff_eq.mpr c2; clear c2; obtain rfl := Option.some.inj H
    go_enter Tryz.func66, Tryz.ntmps66
    go_wp2
    go_ret
    exact ⟨eq_, bq⟩
  · rw [if_neg c2] at H; have c2b0 : ((l0.length : Int) == 0) = false := beq_eq_false_iff_ne.mpr c2; have c2b1 : ((l0.length : Int) != 0) = true := bne_iff_ne.mpr c2; have c2b2 : ¬ (l0 = []) := fun h_ => c2 (by rw [h_]; rfl)
    obtain ⟨ji3, hji3⟩ : ∃ j_ : Int, (wrap64 ((l0.length : Int) - 1)) = j_ := ⟨_, rfl⟩; first | rw [hji3] at H | simp only [hji3] at H
    have hji3w : (IntKind.i64.wrap ((l0.length : Int) - 1)) = ji3 := (i64_w _).trans hji3; by_cases c4 : 0 ≤ (ji3)
    · rw [if_pos c4] at H; have c4b0 : decide (0 ≤ (ji3)) = true := decide_eq_true c4; clear c4; by_cases c5 : (ji3) < (l0.length : Int)
      · rw [if_pos c5] at H; have c5b0 : decide ((ji3) < (l0.length : Int)) = true := decide_eq_true c5; clear c5; replace H := Option.bind_eq_some_iff.mp H; obtain ⟨t505, A60, H⟩ := H; have A6 := Aside0.mk A60; clear A60; have H' := Aside0.mk H; clear H; have p504 : 0 ≤ ((ji3) : Int) := of_decide_eq_true as_; have q504 : (ji3) < (l0.length : Int) := of_decide_eq_true as_; obtain ⟨ad504, e504, hx504_0⟩ := Kd.at_int HR0.out (ji3) p504 q504; cases e504; replace p504 := eq_true p504; replace q504 := eq_true q504
        go_enter Tryz.func66, Tryz.ntmps66
        go_wp2_with (first | ((with_reducible refine gate_callee (f := 64) rfl ?_); refine goesL_ (some 15) rfl rfl Tryz.func64 (by kernel_rfl) rfl #[.int .i64 (rd l0 (ji3))] rfl (by (try simp only [List.map_toArray, List.map_cons, List.map_nil]); first | done | (simp only [hji3]; rfl) | rfl | (simp only [List.length_drop, List.length_take]; rfl)) ?_; (with_reducible refine (strconv_Itoa.calls (hT := HT.out.below bq) (rd l0 (ji3)) t505 _ A6.out).mono ?_); rintro e w7 ⟨rfl, hb⟩; refine ⟨_, rfl, ?_⟩; replace HB := Aside0.mk (below_step bq hb); (try clear hb); (try clear hb2); (try clear hk); (try clear hi)))
        go_loopg [3, 4] k (fun kq v3 v4 w' => ∃ (x3_1 : ByteArray) (x4_1 : Int), v3 = .string x3_1 ∧ v4 = .int .i64 x4_1 ∧ Aside0 (r_join.l0 kq l0 x3_1 x4_1 = some r) ∧ Aside0 (kq ≤ k) ∧ Aside0 (Below w.heap.size w w'))
        case atStart => exact ⟨(t505), (wrap64 ((l0.length : Int) - 2)), sq, sq, H', ⟨Nat.le_refl _⟩, ⟨bq⟩⟩
        case round =>
          clear H'; (try clear c2); (try clear c2b0); (try clear c2b1); (try clear c2b2); (try clear p2); (try clear c4); (try clear c4b0); (try clear c5); (try clear c5b0); (try clear p5); (try clear q5); (try clear hx5); (try clear c6); (try clear p6); (try clear hx504_0); (try clear p504); (try clear q504); obtain ⟨x3_1, x4_1, rfl, rfl, HA, HK1, HB⟩ := hrel; cases gk with
          | zero => exact absurd HA.out (by simp [r_join.l0])
          | succ k1 =>
            have H := HA.out; clear HA; simp only [r_join.l0] at H
            by_cases c8 : x4_1 ≥ 0
            · rw [if_pos c8] at H; have c8b0 : decide (0 ≤ x4_1) = true := decide_eq_true c8; clear c8; by_cases c9 : 0 ≤ x4_1
              · rw [if_pos c9] at H; have c9b0 : decide (0 ≤ x4_1) = true := decide_eq_true c9; clear c9; by_cases c10 : x4_1 < (l0.length : Int)
                · rw [if_pos c10] at H; have c10b0 : decide (x4_1 < (l0.length : Int)) = true := decide_eq_true c10; clear c10; replace H := Option.bind_eq_some_iff.mp H; obtain ⟨t507, A110, H⟩ := H; have A11 := Aside0.mk A110; clear A110; have H' := Aside0.mk H; clear H; have p506 : 0 ≤ (x4_1 : Int) := of_decide_eq_true as_; have q506 : x4_1 < (l0.length : Int) := of_decide_eq_true as_; obtain ⟨ad506, e506, hx506_0⟩ := Kd.at_int HR0.out x4_1 p506 q506; obtain rfl : ad504 = ad506 := (by injection e506)
                  replace hx506_0 := (HB.out.cell (World.block_lt_of_cell? w _ hx506_0)).trans hx506_0; replace p506 := eq_true p506; replace q506 := eq_true q506
                  go_wp2_with (first | ((with_reducible refine gate_callee (f := 64) rfl ?_); refine goesL_ (some 27) rfl rfl Tryz.func64 (by kernel_rfl) rfl #[.int .i64 (rd l0 x4_1)] rfl mq ?_; (with_reducible refine (strconv_Itoa.calls (hT := HT.out.below bq) (rd l0 x4_1) t507 _ A11.out).mono ?_); rintro e w12 ⟨rfl, hb⟩; refine ⟨_, rfl, ?_⟩; replace HB := Aside0.mk (below_step bq hb); (try clear hb); (try clear hb2); (try clear hk); (try clear hi)))
                  go_loopg [5] k1 (fun kq v5 w' => ∃ (x5_2 : ByteArray), v5 = .string x5_2 ∧ Aside0 (r_join.l1 kq l0 x3_1 x4_1 x5_2 = some r) ∧ Aside0 (kq ≤ k1) ∧ Aside0 (Below w.heap.size w w'))
                  case atStart => exact ⟨(t507), sq, H', ⟨Nat.le_refl _⟩, ⟨bq⟩⟩
                  case round =>
                    clear H'; (try clear c1); (try clear c2); (try clear c2b0); (try clear c2b1); (try clear c2b2); (try clear p2); (try clear c4); (try clear c4b0); (try clear c5); (try clear c5b0); (try clear p5); (try clear q5); (try clear hx5); (try clear c6); (try clear p6); (try clear c8); (try clear c8b0); (try clear c9); (try clear c9b0); (try clear c10); (try clear c10b0); (try clear hx504_0); (try clear hx506_0); (try clear p2); (try clear p5); (try clear p504); (try clear p506); (try clear p6); (try clear q5); (try clear q504); (try clear q506); obtain ⟨x5_2, rfl, HA, HK2, HB⟩ := hrel; cases gk with
                    | zero => exact absurd HA.out (by simp [r_join.l1])
                    | succ k2 =>
                      have H := HA.out; clear HA; simp only [r_join.l1] at H
                      by_cases c13 : (x5_2.size : Int) < 9
                      · rw [if_pos c13] at H; have c13b0 : decide ((x5_2.size : Int) < 9) = true := decide_eq_true c13; have c13b1 : decide (x5_2.size < 9) = true := decide_eq_true (by omega)
                        clear c13; by_cases c14 : 1 + x5_2.size ≤ 9223372036854775807
                        · rw [if_pos c14] at H; have c14b0 := eq_true c14; have c14b1 : decide (1 + x5_2.size ≤ 9223372036854775807) = true := decide_eq_true c14
                          try have c14b2 : (9223372036854775807 < 1 + x5_2.size) = False := eq_false (Nat.not_lt.2 c14)
                          have H' := Aside0.mk H; clear H
                          go_wp2
                          go_roundg k2
                          case measure => have := HK1.out; have := HK2.out; omega
                          case rel => exact ⟨((⟨#[48]⟩ : ByteArray) ++ x5_2), sq, H', ⟨by have := HK1.out; have := HK2.out; omega⟩, ⟨bq⟩⟩
                        · rw [if_neg c14] at H; exact absurd H (by simp)
                      · rw [if_neg c13] at H; have c13b0 : decide ((x5_2.size : Int) < 9) = false := decide_eq_false c13; have c13b1 : decide (x5_2.size < 9) = false := decide_eq_false (by omega)
                        clear c13; by_cases c15 : x3_1.size + x5_2.size ≤ 9223372036854775807
                        · rw [if_pos c15] at H; have c15b0 := eq_true c15; have c15b1 : decide (x3_1.size + x5_2.size ≤ 9223372036854775807) = true := decide_eq_true c15
                          try have c15b2 : (9223372036854775807 < x3_1.size + x5_2.size) = False := eq_false (Nat.not_lt.2 c15)
                          have H' := Aside0.mk H; clear H
                          go_wp2
                          go_roundg k2
                          case measure => have := HK1.out; have := HK2.out; omega
                          case rel => exact ⟨(x3_1 ++ x5_2), (wrap64 (x4_1 - 1)), sq, sq, H', ⟨by have := HK1.out; have := HK2.out; omega⟩, ⟨bq⟩⟩
                        · rw [if_neg c15] at H; exact absurd H (by simp)
                · rw [if_neg c10] at H; exact absurd H (by simp)
              · rw [if_neg c9] at H; exact absurd H (by simp)
            · rw [if_neg c8] at H; have c8b0 : decide (0 ≤ x4_1) = false := decide_eq_false c8; clear c8; obtain rfl := Option.some.inj H
              go_wp2
              go_ret
              exact ⟨by first | rfl | (simp [errW_none, errW_some] <;> rfl) | (simp only [← hji3]; first | rfl | (simp [errW_none, errW_some] <;> rfl)) | (simp [*, errW_none, errW_some] <;> rfl), bq⟩
      · rw [if_neg c5] at H; exact absurd H (by simp)
    · rw [if_neg c4] at H; exact absurd H (by simp)
def r_signed.j0 : Nat → List Int → Bool → Option (ByteArray)
  | 0, _, _ => none
  | k + 1, x1, x12 => if x12 = true then ((r_join.f k x1).bind fun t511 => (if 1 + t511.size ≤ 9223372036854775807 then (some ((⟨#[45]⟩ : ByteArray) ++ t511)) else (none))) else ((r_join.f k x1).bind fun t512 => (some t512))
def r_signed.f (k : Nat) (a0 : Bool) (l1 : List Int) : Option (ByteArray) := (r_trim.f k l1).bind fun t508 => (if a0 = true then (r_signed.j0 k t508 (decide ((t508.length : Int) > 0))) else (r_signed.j0 k t508 false))
theorem r_signed.mono_l : ∀ k, (∀ y0 y1, LeO (r_signed.j0 k y0 y1) (r_signed.j0 (k + 1) y0 y1))
  | 0 => fun _ _ r h => by simp [r_signed.j0] at h
  | k + 1 => by
    have ih0 := r_signed.mono_l k
    · intro y0 y1; unfold r_signed.j0
      repeat' with_reducible first | apply ih0 | apply r_join.mono | apply r_trim.mono | apply LeO.refl | apply LeO.none | refine LeO.ite ?_ ?_ | refine LeO.bind ?_ (fun _ => ?_)
theorem r_signed.mono : ∀ a0 a1 k, LeO (r_signed.f k a0 a1) (r_signed.f (k + 1) a0 a1) := by
  intro a0 a1 k; have ih0 := r_signed.mono_l k; unfold r_signed.f
  repeat' with_reducible first | apply ih0 | apply r_join.mono | apply r_trim.mono | apply LeO.refl | apply LeO.none | refine LeO.ite ?_ ?_ | refine LeO.bind ?_ (fun _ => ?_)
set_option maxHeartbeats 8000000 in
set_option maxRecDepth 100000 in
theorem r_signed.calls (k : Nat) (a0 : Bool) (P1_ : Nat → Prop) (u9000_ : Value) (l1 : List Int) (r : ByteArray) (w0 w : World) (hB : Below w0.heap.size w0 w) (ho1 : Kd.R (Kd.int .i64) 3 w w0.heap.size P1_ u9000_ l1) (hT : Tab w0) (h : r_signed.f k a0 l1 = some r) :
    Calls Tryz.prog 36 #[.bool a0, u9000_] w fun e w' => e = .returned (.string r) ∧ Below w0.heap.size w0 w' ∧ Kept w w' (fun k_ => P1_ k_) := by
  have HT := Aside0.mk hT; clear hT; have HO1 := Aside0.mk (show Kd.R (Kd.int .i64) 3 w w0.heap.size (fun k_ => (P1_ k_ ∨ w.heap.size ≤ k_)) u9000_ l1 from Kd.R_mono ho1 (fun k_ hk => (.inl hk)))
  have HK := Aside0.mk (Kept.refl w (fun k_ => P1_ k_))
  have HW0 := Aside0.mk hB.size; have HB := Aside0.mk hB; clear hB; have H : ((r_trim.f k l1).bind fun t508 => (if a0 = true then (r_signed.j0 k t508 (decide ((t508.length : Int) > 0))) else (r_signed.j0 k t508 false))) = some r := h
  clear h; replace H := Option.bind_eq_some_iff.mp H; obtain ⟨t508, A30, H⟩ := H; have A3 := Aside0.mk A30; clear A30; have HC4 := Aside0.mk H; clear H; obtain ⟨Ao5, co5, eo5⟩ := Kd.R_slice HO1.out; subst eo5
  go_enter Tryz.func36, Tryz.ntmps36
  go_upto_region 2 with (first | ((with_reducible refine gate_callee (f := 65) rfl ?_); refine goesL_ (some 6) rfl rfl Tryz.func65 (by kernel_rfl) rfl #[.slice Ao5 l1.length co5] rfl mq ?_; (with_reducible refine (r_trim.calls k (fun k_ => some k_ = (.slice Ao5 l1.length co5 : Value).ownBlock) (.slice Ao5 l1.length co5) l1 t508 w0 _ ?side1 ?side2 A3.out).mono ?_); (case side1 => exact bq); (case side2 => exact Kd.R_tight rfl HO1.out); rintro e w6 ⟨v509, rfl, ho0, hb, hkp⟩; refine ⟨_, rfl, ?_⟩; have n0_ := Aside0.mk (Kd.R_mono (ok' := fun k_ => (P1_ k_ ∨ w.heap.size ≤ k_)) ho0 (fun k_ hk_ => Or.elim hk_ (fun hs_ => (HO1.out.1 k_ (hs_).symm)) (fun hn_ => (.inr (Nat.le_trans (by first | exact HK.out.1 | exact (show Kept w _ (fun k_ => P1_ k_) from kpq).1) hn_))))); have n1_ := Aside0.mk (Kept.then_ (S := (fun k_ => P1_ k_)) kpq hkp (fun k_ hs_ => (fun e_ => (HO1.out.1 k_ e_.symm)) hs_)); have n2_ := Aside0.mk (hb); clear HK; clear HB; clear HO1; have HO510 := n0_; have HK := n1_; have HB := n2_; clear n0_ n1_ n2_; (try clear hb); (try clear hkp); (try clear ho0)))
  (try simp only [Act.put, List.setIfInBounds_toArray, List.set_cons_zero, List.set_cons_succ])
  go_cut [12] (fun v12 wc => ∃ (kq : Nat) (x12_3 : Bool), v12 = .bool x12_3 ∧ Aside0 (r_signed.j0 kq t508 x12_3 = some r) ∧ Aside0 (kq ≤ k) ∧ Aside0 (Kd.R (Kd.int .i64) 3 wc w0.heap.size (fun k_ => (P1_ k_ ∨ w.heap.size ≤ k_)) v509 t508) ∧ Aside0 (Kept w wc (fun k_ => P1_ k_)) ∧ Aside0 (Below w0.heap.size w0 wc))
  case first =>
    have H := HC4.out; clear HC4; by_cases c7 : a0 = true
    · subst c7; have H1 : (r_signed.j0 k t508 (decide ((t508.length : Int) > 0))) = some r := by rw [if_pos rfl] at H; exact H
      clear H; have H := H1; clear H1; have H' := Aside0.mk H; clear H; obtain ⟨Ao8, co8, eo8⟩ := Kd.R_slice HO510.out; subst eo8
      go_wp2
      go_meet
      case rel => exact ⟨_, (decide ((t508.length : Int) > 0)), sq, H', ⟨by first | omega | exact Nat.le_refl _⟩, ⟨pl HO510.out⟩, ⟨kpq⟩, ⟨bq⟩⟩
    · replace c7 := Bool.eq_false_iff.mpr c7; subst c7; have H1 : (r_signed.j0 k t508 false) = some r := by rw [if_neg (show ¬ (false = true) by decide)] at H; exact H
      clear H; have H := H1; clear H1; have H' := Aside0.mk H; clear H
      go_wp2
      go_meet
      case rel => exact ⟨_, (false), sq, H', ⟨by first | omega | exact Nat.le_refl _⟩, ⟨pl HO510.out⟩, ⟨kpq⟩, ⟨bq⟩⟩
  case rest =>
    clear HC4; (try clear p2); (try clear c3); (try clear c6); (try clear c7); obtain ⟨kq, x12_3, rfl, HA, HJ3, HO_1, HK, HB⟩ := hcut; cases kq with
    | zero => exact absurd HA.out (by simp [r_signed.j0])
    | succ kj3 =>
      have H := HA.out; clear HA; simp only [r_signed.j0] at H
      by_cases c9 : x12_3 = true
      · subst c9; have H1 : ((r_join.f kj3 t508).bind fun t511 => (if 1 + t511.size ≤ 9223372036854775807 then (some ((⟨#[45]⟩ : ByteArray) ++ t511)) else (none))) = some r := by rw [if_pos rfl] at H; exact H
        clear H; have H := H1; clear H1; replace H := Option.bind_eq_some_iff.mp H; obtain ⟨t511, A100, H⟩ := H; have A10 := Aside0.mk A100; clear A100; by_cases c11 : 1 + t511.size ≤ 9223372036854775807
        · rw [if_pos c11] at H; have c11b0 := eq_true c11; have c11b1 : decide (1 + t511.size ≤ 9223372036854775807) = true := decide_eq_true c11
          try have c11b2 : (9223372036854775807 < 1 + t511.size) = False := eq_false (Nat.not_lt.2 c11)
          obtain rfl := Option.some.inj H; obtain ⟨Ao12, co12, eo12⟩ := Kd.R_slice HO_1.out; subst eo12
          go_wp2_with (first | ((with_reducible refine gate_callee (f := 66) rfl ?_); refine goesL_ (some 14) rfl rfl Tryz.func66 (by kernel_rfl) rfl #[.slice Ao12 t508.length co12] rfl mq ?_; (with_reducible refine (r_join.calls (hT := HT.out.below bq) kj3 _ _ t508 t511 _ ?side1 ?side2 A10.out).mono ?_); (case side1 => exact cq ((Kd.R_reads' HO_1.out).2.2)); (case side2 => exact (Kd.R_reads' HO_1.out).2.1); rintro e w13 ⟨rfl, hb⟩; refine ⟨_, rfl, ?_⟩; have n0_ := Aside0.mk (Kd.R_below (pl HO_1.out) hb); have n1_ := Aside0.mk (Kept.below (S := (fun k_ => P1_ k_)) kpq hb); have n2_ := Aside0.mk (below_step bq hb); clear HO_1; clear HK; clear HB; have HO_1 := n0_; have HK := n1_; have HB := n2_; clear n0_ n1_ n2_; (try clear hb); (try clear hb2); (try clear hk); (try clear hi)))
          go_ret
          exact ⟨eq_, bq, kpq⟩
        · rw [if_neg c11] at H; exact absurd H (by simp)
      · replace c9 := Bool.eq_false_iff.mpr c9; subst c9; have H1 : ((r_join.f kj3 t508).bind fun t512 => (some t512)) = some r := by rw [if_neg (show ¬ (false = true) by decide)] at H; exact H
        clear H; have H := H1; clear H1; replace H := Option.bind_eq_some_iff.mp H; obtain ⟨t512, A140, H⟩ := H; have A14 := Aside0.mk A140; clear A140; obtain rfl := Option.some.inj H; obtain ⟨Ao15, co15, eo15⟩ := Kd.R_slice HO_1.out; subst eo15
        go_wp2_with (first | ((with_reducible refine gate_callee (f := 66) rfl ?_); refine goesL_ (some 17) rfl rfl Tryz.func66 (by kernel_rfl) rfl #[.slice Ao15 t508.length co15] rfl mq ?_; (with_reducible refine (r_join.calls (hT := HT.out.below bq) kj3 _ _ t508 t512 _ ?side1 ?side2 A14.out).mono ?_); (case side1 => exact cq ((Kd.R_reads' HO_1.out).2.2)); (case side2 => exact (Kd.R_reads' HO_1.out).2.1); rintro e w16 ⟨rfl, hb⟩; refine ⟨_, rfl, ?_⟩; have n0_ := Aside0.mk (Kd.R_below (pl HO_1.out) hb); have n1_ := Aside0.mk (Kept.below (S := (fun k_ => P1_ k_)) kpq hb); have n2_ := Aside0.mk (below_step bq hb); clear HO_1; clear HK; clear HB; have HO_1 := n0_; have HK := n1_; have HB := n2_; clear n0_ n1_ n2_; (try clear hb); (try clear hb2); (try clear hk); (try clear hi)))
        go_ret
        exact ⟨eq_, bq, kpq⟩
end Go.Proofs.YtgicckcahhlbjaaGreatDoor.P
