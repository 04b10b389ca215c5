/- Functions of the program, as functions of Lean, and the walks that show that the code answers as they do: written by a program. Conditions: those of each theorem. -/
import Derived.Test.YtgicckcahhlbjaaGreatDoorWholeGcdsF0
namespace Go.Proofs.YtgicckcahhlbjaaGreatDoor.P
open Go.RowKit Go.Proofs.YtgicckcahhlbjaaGreatDoorW.PrintWords Go.Proofs.YtgicckcahhlbjaaGreatDoorW.PrintLast Go.Proofs.YtgicckcahhlbjaaGreatDoorW.PrintMore
attribute [local go_sem] gtr_text max2_int min2_int max_two min_two max_three min_three max_four min_four
set_option linter.unusedVariables false
set_option linter.unusedSimpArgs false
def z_split.f (a0 : ByteArray) : Option (Bool × ByteArray) := if (a0.size : Int) > 0 then (if 0 < (a0.size : Int) then (if (bt a0 0) = 45 then (if 1 ≤ (a0.size : Int) then (some (true, a0.extract 1 a0.size)) else (none)) else (some (false, a0))) else (none)) else (some (false, a0))
set_option maxHeartbeats 8000000 in
set_option maxRecDepth 100000 in
theorem z_split.calls (a0 : ByteArray) (r1 : Bool) (r2 : ByteArray) (w : World) (h : z_split.f a0 = some (r1, r2)) :
    Calls Tryz.prog 28 #[.string a0] w fun e w' => e = .returned (.tuple #[.bool r1, .string r2]) ∧ Drawn0 w w' := by
  have H : (if (a0.size : Int) > 0 then (if 0 < (a0.size : Int) then (if (bt a0 0) = 45 then (if 1 ≤ (a0.size : Int) then (some (true, a0.extract 1 a0.size)) else (none)) else (some (false, a0))) else (none)) else (some (false, a0))) = some (r1, r2) := h
  clear h; by_cases c2 : (a0.size : Int) > 0
  · rw [if_pos c2] at H; have c2b0 : decide (0 < (a0.size : Int)) = true := decide_eq_true c2; have c2b1 : decide (0 < a0.size) = true := decide_eq_true (by omega)
    clear c2; by_cases c3 : 0 < (a0.size : Int)
    · rw [if_pos c3] at H; have c3b0 : decide (0 < (a0.size : Int)) = true := decide_eq_true c3; have c3b1 : decide (0 < a0.size) = true := decide_eq_true (by omega)
      clear c3; by_cases c5 : (bt a0 0) = 45
      · rw [if_pos c5] at H; have c5b0 : ((bt a0 0) == 45) = true := beq_iff_eq.mpr c5; have c5b1 : ((bt a0 0) != 45) = false := bne_eq_false_iff_eq.mpr c5; clear c5; by_cases c6 : 1 ≤ (a0.size : Int)
        · rw [if_pos c6] at H; have c6b0 := eq_true c6; have c6b1 : decide (1 ≤ (a0.size : Int)) = true := decide_eq_true c6; clear c6; simp only [Option.some.injEq, Prod.mk.injEq] at H
          obtain ⟨rfl, rfl⟩ := H; have p4 : 0 ≤ (0 : Int) := (by omega)
          have q4 : 0 < a0.size := (by have : (0 : Int) < (a0.size : Int) := of_decide_eq_true as_; omega)
          have hx4 : ∀ h : 0 < a0.size, ((a0[0]'h).toNat : Int) = bt a0 0 := bt_at a0 0; clear p4; have qi4 : (0 < (a0.size : Int)) = True := eq_true (of_decide_eq_true as_); replace q4 := eq_true q4
          go_enter Tryz.func28, Tryz.ntmps28
          go_wp2
          repeat (go_quiet (fail); try go_wp2)
          go_ret2
          exact ⟨sw, by repeat (first | exact Drawn0.refl _ | apply Drawn0.step)⟩
        · rw [if_neg c6] at H; exact absurd H (by simp)
      · rw [if_neg c5] at H; have c5b0 : ((bt a0 0) == 45) = false := beq_eq_false_iff_ne.mpr c5; have c5b1 : ((bt a0 0) != 45) = true := bne_iff_ne.mpr c5; simp only [Option.some.injEq, Prod.mk.injEq] at H
        obtain ⟨rfl, rfl⟩ := H; have p4 : 0 ≤ (0 : Int) := (by omega)
        have q4 : 0 < a0.size := (by have : (0 : Int) < (a0.size : Int) := of_decide_eq_true as_; omega)
        have hx4 : ∀ h : 0 < a0.size, ((a0[0]'h).toNat : Int) = bt a0 0 := bt_at a0 0; clear p4; have qi4 : (0 < (a0.size : Int)) = True := eq_true (of_decide_eq_true as_); replace q4 := eq_true q4
        go_enter Tryz.func28, Tryz.ntmps28
        go_wp2
        repeat (go_quiet (fail); try go_wp2)
        go_ret2
        exact ⟨sw, by repeat (first | exact Drawn0.refl _ | apply Drawn0.step)⟩
    · rw [if_neg c3] at H; exact absurd H (by simp)
  · rw [if_neg c2] at H; have c2b0 : decide (0 < (a0.size : Int)) = false := decide_eq_false c2; have c2b1 : decide (0 < a0.size) = false := decide_eq_false (by omega)
    clear c2; simp only [Option.some.injEq, Prod.mk.injEq] at H
    obtain ⟨rfl, rfl⟩ := H
    go_enter Tryz.func28, Tryz.ntmps28
    go_wp2
    repeat (go_quiet (fail); try go_wp2)
    go_ret2
    exact ⟨sw, by repeat (first | exact Drawn0.refl _ | apply Drawn0.step)⟩
def z_join.f (a0 : Bool) (a1 : ByteArray) : Option (ByteArray) := if a0 = true then (if a1.toList = ([48] : List UInt8) then (some a1) else (if 1 + a1.size ≤ 9223372036854775807 then (some ((⟨#[45]⟩ : ByteArray) ++ a1)) else (none))) else (some a1)
set_option maxHeartbeats 8000000 in
set_option maxRecDepth 100000 in
theorem z_join.calls (a0 : Bool) (a1 : ByteArray) (r : ByteArray) (w : World) (h : z_join.f a0 a1 = some r) :
    Calls Tryz.prog 30 #[.bool a0, .string a1] w fun e w' => e = .returned (.string r) ∧ Drawn0 w w' := by
  have H : (if a0 = true then (if a1.toList = ([48] : List UInt8) then (some a1) else (if 1 + a1.size ≤ 9223372036854775807 then (some ((⟨#[45]⟩ : ByteArray) ++ a1)) else (none))) else (some a1)) = some r := h
  clear h; by_cases c3 : a0 = true
  · subst c3; have H1 : (if a1.toList = ([48] : List UInt8) then (some a1) else (if 1 + a1.size ≤ 9223372036854775807 then (some ((⟨#[45]⟩ : ByteArray) ++ a1)) else (none))) = some r := by rw [if_pos rfl] at H; exact H
    clear H; have H := H1; clear H1; by_cases c4 : a1.toList = ([48] : List UInt8)
    · rw [if_pos c4] at H; have c4b0 : (a1.toList == ([48] : List UInt8)) = true := beq_iff_eq.mpr c4; have c4b1 : (a1.toList != ([48] : List UInt8)) = false := bne_eq_false_iff_eq.mpr c4; clear c4; obtain rfl := Option.some.inj H
      go_enter Tryz.func30, Tryz.ntmps30
      go_wp2
      go_ret
      exact ⟨sw, by repeat (first | exact Drawn0.refl _ | apply Drawn0.step)⟩
    · rw [if_neg c4] at H; have c4b0 : (a1.toList == ([48] : List UInt8)) = false := beq_eq_false_iff_ne.mpr c4; have c4b1 : (a1.toList != ([48] : List UInt8)) = true := bne_iff_ne.mpr c4; by_cases c5 : 1 + a1.size ≤ 9223372036854775807
      · rw [if_pos c5] at H; have c5b0 := eq_true c5; have c5b1 : decide (1 + a1.size ≤ 9223372036854775807) = true := decide_eq_true c5
        try have c5b2 : (9223372036854775807 < 1 + a1.size) = False := eq_false (Nat.not_lt.2 c5)
        obtain rfl := Option.some.inj H
        go_enter Tryz.func30, Tryz.ntmps30
        go_wp2
        go_ret
        exact ⟨sw, by repeat (first | exact Drawn0.refl _ | apply Drawn0.step)⟩
      · rw [if_neg c5] at H; exact absurd H (by simp)
  · replace c3 := Bool.eq_false_iff.mpr c3; subst c3; have H1 : (some a1) = some r := by rw [if_neg (show ¬ (false = true) by decide)] at H; exact H
    clear H; have H := H1; clear H1; obtain rfl := Option.some.inj H
    go_enter Tryz.func30, Tryz.ntmps30
    go_wp2
    go_ret
    exact ⟨sw, by repeat (first | exact Drawn0.refl _ | apply Drawn0.step)⟩
def z_Of.f (a0 : Int) : Option (ByteArray) := (strconv_Itoa.f a0).bind fun t101 => (some t101)
set_option maxHeartbeats 8000000 in
set_option maxRecDepth 100000 in
theorem z_Of.calls (a0 : Int) (r : ByteArray) (w : World) (hT : Tab w) (h : z_Of.f a0 = some r) :
    Calls Tryz.prog 41 #[.int .i64 a0] w fun e w' => e = .returned (.string r) ∧ Below w.heap.size w w' := by
  have HT := Aside0.mk hT; clear hT; have HB := Aside0.mk (Below.refl w.heap.size w); have H : ((strconv_Itoa.f a0).bind fun t101 => (some t101)) = some r := h
  clear h; replace H := Option.bind_eq_some_iff.mp H; obtain ⟨t101, A20, H⟩ := H; have A2 := Aside0.mk A20; clear A20; obtain rfl := Option.some.inj H
  go_enter Tryz.func41, Tryz.ntmps41
  go_wp2_with (first | ((with_reducible refine gate_callee (f := 64) rfl ?_); refine goesL_ (some 4) rfl rfl Tryz.func64 (by kernel_rfl) rfl #[.int .i64 a0] rfl mq ?_; (with_reducible refine (strconv_Itoa.calls (hT := HT.out.below bq) a0 t101 _ A2.out).mono ?_); rintro e w3 ⟨rfl, hb⟩; refine ⟨_, rfl, ?_⟩; replace HB := Aside0.mk (below_step bq hb); (try clear hb); (try clear hb2); (try clear hk); (try clear hi)))
  go_ret
  exact ⟨eq_, bq⟩
def p_trim.l0 : Nat → List Int → Option (List Int)
  | 0, _ => none
  | k + 1, x0 => if (x0.length : Int) > 0 then (if 0 ≤ (wrap64 ((x0.length : Int) - 1)) then (if (wrap64 ((x0.length : Int) - 1)) < (x0.length : Int) then (if (rd x0 (wrap64 ((x0.length : Int) - 1))) = 0 then (if (wrap64 ((x0.length : Int) - 1)) ≤ (x0.length : Int) then (p_trim.l0 k (x0.take ((wrap64 ((x0.length : Int) - 1)) : Int).toNat)) else (none)) else (some x0)) else (none)) else (none)) else (some x0)
def p_trim.f (k : Nat) (l0 : List Int) : Option (List Int) := p_trim.l0 k l0
theorem p_trim.mono_l : ∀ k, (∀ y0, LeO (p_trim.l0 k y0) (p_trim.l0 (k + 1) y0))
  | 0 => fun _ r h => by simp [p_trim.l0] at h
  | k + 1 => by
    have ih0 := p_trim.mono_l k
    · intro y0; unfold p_trim.l0
      repeat' with_reducible first | apply ih0 | apply LeO.refl | apply LeO.none | refine LeO.ite ?_ ?_ | refine LeO.bind ?_ (fun _ => ?_)
theorem p_trim.mono : ∀ a0 k, LeO (p_trim.f k a0) (p_trim.f (k + 1) a0) := by
  intro a0 k; have ih0 := p_trim.mono_l k; unfold p_trim.f
  repeat' with_reducible first | apply ih0 | apply LeO.refl | apply LeO.none | refine LeO.ite ?_ ?_ | refine LeO.bind ?_ (fun _ => ?_)
set_option maxHeartbeats 8000000 in
set_option maxRecDepth 100000 in
theorem p_trim.calls (k : Nat) (P0_ : Nat → Prop) (u9000_ : Value) (l0 : List Int) (r : List Int) (w0 w : World) (hB : Below w0.heap.size w0 w) (ho0 : Kd.R (Kd.int .u64) 70 w w0.heap.size P0_ u9000_ l0) (h : p_trim.f k l0 = some r) :
    Calls Tryz.prog 71 #[u9000_] w fun e w' => ∃ v0_ : Value, e = .returned (v0_) ∧ Kd.R (Kd.int .u64) 70 w' w0.heap.size (fun k_ => (P0_ k_ ∨ w.heap.size ≤ k_)) v0_ r ∧ Below w0.heap.size w0 w' ∧ Kept w w' (fun k_ => P0_ k_) := by
  have HO0 := Aside0.mk (show Kd.R (Kd.int .u64) 70 w w0.heap.size (fun k_ => (P0_ k_ ∨ w.heap.size ≤ k_)) u9000_ l0 from Kd.R_mono ho0 (fun k_ hk => (.inl hk)))
  have HK := Aside0.mk (Kept.refl w (fun k_ => P0_ k_))
  have HW0 := Aside0.mk hB.size; have HB := Aside0.mk hB; clear hB; have H : (p_trim.l0 k l0) = some r := h; clear h; have H' := Aside0.mk H; clear H
  go_enter Tryz.func71, Tryz.ntmps71
  go_wp2
  go_loopg [0] k (fun kq v0 w' => ∃ (x0_1 : List Int), Aside0 (p_trim.l0 kq x0_1 = some r) ∧ Aside0 (kq ≤ k) ∧ Aside0 (Kd.R (Kd.int .u64) 70 w' w0.heap.size (fun k_ => (P0_ k_ ∨ w.heap.size ≤ k_)) v0 x0_1) ∧ Aside0 (Kept w w' (fun k_ => P0_ k_)) ∧ Aside0 (Below w0.heap.size w0 w'))
  case atStart => exact ⟨(l0), H', ⟨Nat.le_refl _⟩, ⟨pl HO0.out⟩, ⟨kpq⟩, ⟨bq⟩⟩
  case round =>
    clear H'; obtain ⟨x0_1, HA, HK1, HO_0, HK, HB⟩ := hrel; cases gk with
    | zero => exact absurd HA.out (by simp [p_trim.l0])
    | succ k1 =>
      have H := HA.out; clear HA; simp only [p_trim.l0] at H
      by_cases c2 : (x0_1.length : Int) > 0
      · rw [if_pos c2] at H; have c2b0 : decide (0 < (x0_1.length : Int)) = true := decide_eq_true c2; have c2b1 : decide (0 < x0_1.length) = true := decide_eq_true (by omega)
        clear c2; obtain ⟨ji3, hji3⟩ : ∃ j_ : Int, (wrap64 ((x0_1.length : Int) - 1)) = j_ := ⟨_, rfl⟩; first | rw [hji3] at H | simp only [hji3] at H
        have hji3w : (IntKind.i64.wrap ((x0_1.length : Int) - 1)) = ji3 := (i64_w _).trans hji3; by_cases c4 : 0 ≤ (ji3)
        · rw [if_pos c4] at H; have c4b0 : decide (0 ≤ (ji3)) = true := decide_eq_true c4; clear c4; by_cases c5 : (ji3) < (x0_1.length : Int)
          · rw [if_pos c5] at H; have c5b0 : decide ((ji3) < (x0_1.length : Int)) = true := decide_eq_true c5; clear c5; by_cases c6 : (rd x0_1 (ji3)) = 0
            · rw [if_pos c6] at H; have c6b0 : ((rd x0_1 (ji3)) == 0) = true := beq_iff_eq.mpr c6; have c6b1 : ((rd x0_1 (ji3)) != 0) = false := bne_eq_false_iff_eq.mpr c6; clear c6; by_cases c7 : (ji3) ≤ (x0_1.length : Int)
              · rw [if_pos c7] at H; have c7b0 := eq_true c7; have c7b1 : decide ((ji3) ≤ (x0_1.length : Int)) = true := decide_eq_true c7; clear c7; obtain ⟨y103, hy103⟩ : ∃ y_ : List Int, y_ = (x0_1.take ((ji3) : Int).toNat) := ⟨_, rfl⟩; first | rw [Option.bind_some, ← hy103] at H | rw [← hy103] at H | rw [Option.bind_some] at H | skip
                have Ny103 := Aside0.mk hy103; clear hy103; have H' := Aside0.mk H; clear H; obtain ⟨Ao8, co8, eo8⟩ := Kd.R_slice HO_0.out; subst eo8; have p102 : 0 ≤ ((ji3) : Int) := of_decide_eq_true as_; have q102 : (ji3) < (x0_1.length : Int) := of_decide_eq_true as_; obtain ⟨ad102, e102, hx102_0⟩ := Kd.at_int (Kd.R_reads' HO_0.out).2.2 (ji3) p102 q102; cases e102; replace p102 := eq_true p102; replace q102 := eq_true q102; have q9 : ((ji3) : Int) ≤ ((x0_1.length : Int) : Int) := of_decide_eq_true as_; obtain ⟨i09, hi09, _, hsz9, _⟩ := info_parts info70; have hcut9 := cut_to (P := Tryz.prog) 72 70 .i64 Tryz.underlying72 hi09 (some ad102) x0_1.length co8 (ji3) (of_decide_eq_true as_) q9 (Kd.R_reads' HO_0.out).2.1; have hr9 := Kd.R_take (m := ((ji3) : Int).toNat) HO_0.out (by omega)
                have hy9 : y103.length = ((ji3) : Int).toNat := (by rw [Ny103.out, List.length_take]; omega)
                rw [← Ny103.out] at hr9; rw [← hy9] at hr9 hcut9; clear hy9 hi09 hsz9 HO_0; have HO105 := Aside0.mk hr9; clear hr9; replace q9 := eq_true q9
                go_wp2
                go_roundg k1
                case measure => have := HK1.out; omega
                case rel => exact ⟨(y103), H', ⟨by have := HK1.out; omega⟩, ⟨pl HO105.out⟩, ⟨kpq⟩, ⟨bq⟩⟩
              · rw [if_neg c7] at H; exact absurd H (by simp)
            · rw [if_neg c6] at H; have c6b0 : ((rd x0_1 (ji3)) == 0) = false := beq_eq_false_iff_ne.mpr c6; have c6b1 : ((rd x0_1 (ji3)) != 0) = true := bne_iff_ne.mpr c6; obtain rfl := Option.some.inj H; obtain ⟨Ao10, co10, eo10⟩ := Kd.R_slice HO_0.out; subst eo10; have p102 : 0 ≤ ((ji3) : Int) := of_decide_eq_true as_; have q102 : (ji3) < (x0_1.length : Int) := of_decide_eq_true as_; obtain ⟨ad102, e102, hx102_0⟩ := Kd.at_int (Kd.R_reads' HO_0.out).2.2 (ji3) p102 q102; cases e102; replace p102 := eq_true p102; replace q102 := eq_true q102
              go_wp2
              go_ret
              exact ⟨_, by first | rfl | (simp [errW_none, errW_some] <;> rfl) | (simp only [← hji3]; first | rfl | (simp [errW_none, errW_some] <;> rfl)) | (simp [*, errW_none, errW_some] <;> rfl), pl HO_0.out, bq, kpq⟩
          · rw [if_neg c5] at H; exact absurd H (by simp)
        · rw [if_neg c4] at H; exact absurd H (by simp)
      · rw [if_neg c2] at H; have c2b0 : decide (0 < (x0_1.length : Int)) = false := decide_eq_false c2; have c2b1 : decide (0 < x0_1.length) = false := decide_eq_false (by omega)
        clear c2; obtain rfl := Option.some.inj H; obtain ⟨Ao11, co11, eo11⟩ := Kd.R_slice HO_0.out; subst eo11
        go_wp2
        go_ret
        exact ⟨_, eq_, pl HO_0.out, bq, kpq⟩
mutual
def d_cut.l0 : Nat → ByteArray → List Int → Int → Option (List Int)
  | 0, _, _, _ => none
  | k + 1, x0, x3, x4 => if x4 > 0 then (if 0 ≤ (mx 0 (wrap64 (x4 - 9))) then (if (mx 0 (wrap64 (x4 - 9))) ≤ x4 then (if x4 ≤ (x0.size : Int) then (if (x0.extract ((mx 0 (wrap64 (x4 - 9))) : Int).toNat (x4 : Int).toNat).size ≤ 9223372036854775807 then ((some (bytesOf (x0.extract ((mx 0 (wrap64 (x4 - 9))) : Int).toNat (x4 : Int).toNat) : List Int)).bind fun y112 => (d_cut.l1 k x0 x3 x4 0 y112 (y112.length : Int) 0)) else (none)) else (none)) else (none)) else (none)) else ((p_trim.f k x3).bind fun t109 => (some t109))
def d_cut.l1 : Nat → ByteArray → List Int → Int → Int → List Int → Int → Int → Option (List Int)
  | 0, _, _, _, _, _, _, _ => none
  | k + 1, x0, x3, x4, x5, x25, x26, x27 => if x27 < x26 then (if 0 ≤ x27 then (if x27 < (x25.length : Int) then (d_cut.l1 k x0 x3 x4 (IntKind.u64.wrap ((IntKind.u64.wrap (10 * x5)) + (((rd x25 x27) - 48) % 256))) x25 x26 (wrap64 (x27 + 1))) else (none)) else (none)) else (if x3.length < 17592186044416 then (d_cut.l0 k x0 (x3 ++ [x5]) (wrap64 (x4 - 9))) else (none))
end
def d_cut.f (k : Nat) (a0 : ByteArray) : Option (List Int) := if 0 ≤ (wrap64 ((wrap64 ((a0.size : Int) / 9)) + 1)) then (if (wrap64 ((wrap64 ((a0.size : Int) / 9)) + 1) : Int).toNat ≤ 35184372088832 then (d_cut.l0 k a0 (([] : List Int)) (a0.size : Int)) else (none)) else (none)
theorem d_cut.mono_l : ∀ k, (∀ y0 y1 y2, LeO (d_cut.l0 k y0 y1 y2) (d_cut.l0 (k + 1) y0 y1 y2)) ∧ (∀ y0 y1 y2 y3 y4 y5 y6, LeO (d_cut.l1 k y0 y1 y2 y3 y4 y5 y6) (d_cut.l1 (k + 1) y0 y1 y2 y3 y4 y5 y6))
  | 0 => ⟨fun _ _ _ r h => by simp [d_cut.l0] at h, fun _ _ _ _ _ _ _ r h => by simp [d_cut.l1] at h⟩
  | k + 1 => by
    obtain ⟨ih0, ih1⟩ := d_cut.mono_l k; refine ⟨?_, ?_⟩
    · intro y0 y1 y2; unfold d_cut.l0
      repeat' with_reducible first | apply ih0 | apply ih1 | apply p_trim.mono | apply LeO.refl | apply LeO.none | refine LeO.ite ?_ ?_ | refine LeO.bind ?_ (fun _ => ?_)
    · intro y0 y1 y2 y3 y4 y5 y6; unfold d_cut.l1
      repeat' with_reducible first | apply ih0 | apply ih1 | apply p_trim.mono | apply LeO.refl | apply LeO.none | refine LeO.ite ?_ ?_ | refine LeO.bind ?_ (fun _ => ?_)
theorem d_cut.mono : ∀ a0 k, LeO (d_cut.f k a0) (d_cut.f (k + 1) a0) := by
  intro a0 k; obtain ⟨ih0, ih1⟩ := d_cut.mono_l k; unfold d_cut.f
  repeat' with_reducible first | apply ih0 | apply ih1 | apply p_trim.mono | apply LeO.refl | apply LeO.none | refine LeO.ite ?_ ?_ | refine LeO.bind ?_ (fun _ => ?_)
set_option maxHeartbeats 8000000 in
set_option maxRecDepth 100000 in
theorem d_cut.calls (k : Nat) (a0 : ByteArray) (r : List Int) (w : World) (h : d_cut.f k a0 = some r) :
    Calls Tryz.prog 60 #[.string a0] w fun e w' => ∃ v0_ : Value, e = .returned (v0_) ∧ Kd.R (Kd.int .u64) 70 w' w.heap.size (fun _ => True) v0_ r ∧ Below w.heap.size w w' := by
  have HB := Aside0.mk (Below.refl w.heap.size w); have H : (if 0 ≤ (wrap64 ((wrap64 ((a0.size : Int) / 9)) + 1)) then (if (wrap64 ((wrap64 ((a0.size : Int) / 9)) + 1) : Int).toNat ≤ 35184372088832 then (d_cut.l0 k a0 (([] : List Int)) (a0.size : Int)) else (none)) else (none)) = some r := h
  clear h; obtain ⟨ji2, hji2⟩ : ∃ j_ : Int, (wrap64 ((wrap64 ((a0.size : Int) / 9)) + 1)) = j_ := ⟨_, rfl⟩; first | rw [hji2] at H | simp only [hji2] at H
  have hji2w : (IntKind.i64.wrap ((wrap64 ((a0.size : Int) / 9)) + 1)) = ji2 := (i64_w _).trans hji2; by_cases c3 : 0 ≤ (ji2)
  · rw [if_pos c3] at H; have c3b0 := eq_true c3; have c3b1 : decide (0 ≤ (ji2)) = true := decide_eq_true c3; clear c3; by_cases c4 : (ji2 : Int).toNat ≤ 35184372088832
    · rw [if_pos c4] at H; have c4b0 := eq_true c4; have c4b1 : decide ((ji2 : Int).toNat ≤ 35184372088832) = true := decide_eq_true c4; clear c4; obtain ⟨y106, hy106⟩ : ∃ y_ : List Int, y_ = (([] : List Int)) := ⟨_, rfl⟩; first | rw [Option.bind_some, ← hy106] at H | rw [← hy106] at H | rw [Option.bind_some] at H | skip
      have Ny106 := Aside0.mk hy106; clear hy106; have H' := Aside0.mk H; clear H
      go_enter Tryz.func60, Tryz.ntmps60
      go_wp2_with (first | ((with_reducible refine gate_dst (N := 12) rfl ?_); refine Kd.R_makec (Kd.int .u64) _ 70 rfl (N := 12) rfl 72 _ _ rfl ji2 rfl rfl Tryz.underlying72 (.int .u64 0) 8 info70 (by decide) (ok := fun _ => True) trivial (of_decide_eq_true as_) (Nat.le_trans (Nat.mul_le_mul_right _ (of_decide_eq_true as_ : ji2.toNat ≤ 35184372088832)) (by omega)) (Below.refl _ _) (Nat.le_refl _) ?_; intro v107 w5 ho6 hb hg_ hnew_; clear hg_ hnew_; (first | rw [← Ny106.out] at ho6 | (simp only [Int.reduceToNat] at ho6; rw [← Ny106.out] at ho6)); have n0_ := Aside0.mk (Kd.R_lower ho6 (below_size bq)); have n1_ := Aside0.mk (below_step bq hb); clear HB; have HO108 := n0_; have HB := n1_; clear n0_ n1_; clear hb ho6))
      go_loopg [3, 4] k (fun kq v3 v4 w' => ∃ (x3_1 : List Int) (x4_1 : Int), v4 = .int .i64 x4_1 ∧ Aside0 (d_cut.l0 kq a0 x3_1 x4_1 = some r) ∧ Aside0 (kq ≤ k) ∧ Aside0 (Kd.R (Kd.int .u64) 70 w' w.heap.size (fun _ => True) v3 x3_1) ∧ Aside0 (Below w.heap.size w w'))
      case atStart => exact ⟨(y106), ((a0.size : Int)), sq, H', ⟨Nat.le_refl _⟩, ⟨pl HO108.out⟩, ⟨bq⟩⟩
      case round =>
        clear H'; (try clear p2); (try clear c3); (try clear c3b0); (try clear c3b1); (try clear c4); (try clear c4b0); (try clear c4b1); (try clear c6); (try clear p6); obtain ⟨x3_1, x4_1, rfl, HA, HK1, HO_3, HB⟩ := hrel; cases gk with
        | zero => exact absurd HA.out (by simp [d_cut.l0])
        | succ k1 =>
          have H := HA.out; clear HA; simp only [d_cut.l0] at H
          by_cases c7 : x4_1 > 0
          · rw [if_pos c7] at H; have c7b0 : decide (0 < x4_1) = true := decide_eq_true c7; clear c7; obtain ⟨ji8, hji8⟩ : ∃ j_ : Int, (mx 0 (wrap64 (x4_1 - 9))) = j_ := ⟨_, rfl⟩; first | rw [hji8] at H | simp only [hji8] at H
            have hji8_ : (if 0 < (wrap64 (x4_1 - 9)) then (wrap64 (x4_1 - 9)) else 0) = ji8 := hji8
            by_cases c9 : 0 ≤ (ji8)
            · rw [if_pos c9] at H; have c9b0 := eq_true c9; have c9b1 : decide (0 ≤ (ji8)) = true := decide_eq_true c9; clear c9; by_cases c10 : (ji8) ≤ x4_1
              · rw [if_pos c10] at H; have c10b0 := eq_true c10; have c10b1 : decide ((ji8) ≤ x4_1) = true := decide_eq_true c10; clear c10; by_cases c11 : x4_1 ≤ (a0.size : Int)
                · rw [if_pos c11] at H; have c11b0 := eq_true c11; have c11b1 : decide (x4_1 ≤ (a0.size : Int)) = true := decide_eq_true c11; clear c11; by_cases c12 : (a0.extract ((ji8) : Int).toNat (x4_1 : Int).toNat).size ≤ 9223372036854775807
                  · rw [if_pos c12] at H; have c12b0 := eq_true c12; have c12b1 : decide ((a0.extract ((ji8) : Int).toNat (x4_1 : Int).toNat).size ≤ 9223372036854775807) = true := decide_eq_true c12
                    try have c12b2 : (9223372036854775807 < (a0.extract ((ji8) : Int).toNat (x4_1 : Int).toNat).size) = False := eq_false (Nat.not_lt.2 c12)
                    clear c12; obtain ⟨y112, hy112⟩ : ∃ y_ : List Int, y_ = (bytesOf (a0.extract ((ji8) : Int).toNat (x4_1 : Int).toNat)) := ⟨_, rfl⟩; first | rw [Option.bind_some, ← hy112] at H | rw [← hy112] at H | rw [Option.bind_some] at H | skip
                    have Ny112 := Aside0.mk hy112; clear hy112; have H' := Aside0.mk H; clear H
                    go_wp2_with (first | ((with_reducible refine gate_dst (N := 25) rfl ?_); refine Kd.V_bytes _ 5 rfl (N := 25) rfl 26 22 _ rfl (a0.extract ((ji8) : Int).toNat (x4_1 : Int).toNat) rfl Tryz.underlying26 Tryz.underlying22 Tryz.underlying5 (of_decide_eq_true as_) (ok := fun k_ => wr.heap.size ≤ k_) (fun _ hk => hk) (Below.refl _ _) (Nat.le_refl _) ?_; intro v113 w13 ho14 hb hg_ hnew_; clear hg_ hnew_; (first | rw [← Ny112.out] at ho14 | (simp only [Int.reduceToNat] at ho14; rw [← Ny112.out] at ho14)); have n0_ := Aside0.mk (Kd.R_below (pl HO_3.out) hb); have n1_ := Aside0.mk (Kd.V_lower (Kd.V_mono (ok' := fun k_ => some k_ ≠ (u3 : Value).ownBlock) ho14 (fun k_ hk_ => (Kd.fresh' (Kd.R_lt (pl HO_3.out)) k_ hk_))) (below_size bq)); have n2_ := Aside0.mk (below_step bq hb); clear HO_3; clear HB; have HO_3 := n0_; have HO114 := n1_; have HB := n2_; clear n0_ n1_ n2_; clear hb ho14; obtain ⟨Ao15, co15, eo15⟩ := Kd.V_slice HO114.out; subst eo15))
                    go_loopg [5, 27] k1 (fun kq v5 v27 w' => ∃ (x5_2 : Int) (x27_2 : Int), v5 = .int .u64 x5_2 ∧ v27 = .int .i64 x27_2 ∧ Aside0 (d_cut.l1 kq a0 x3_1 x4_1 x5_2 y112 (y112.length : Int) x27_2 = some r) ∧ Aside0 (kq ≤ k1) ∧ Aside0 (Kd.R (Kd.int .u64) 70 w' w.heap.size (fun _ => True) u3 x3_1) ∧ Aside0 (Kd.V (Kd.int .u8) 5 w' w.heap.size (fun k_ => some k_ ≠ (u3 : Value).ownBlock) (.slice Ao15 y112.length co15) y112) ∧ Aside0 (Below w.heap.size w w'))
                    case atStart => exact ⟨(0), (0), sq, sq, H', ⟨Nat.le_refl _⟩, ⟨pl HO_3.out⟩, ⟨by (with_reducible repeat (first | apply Kd.V_alloc | apply Kd.V_drewN | apply Kd.V_drew)); exact HO114.out⟩, ⟨bq⟩⟩
                    case round =>
                      clear H'; (try clear c1); (try clear p2); (try clear c3); (try clear c3b0); (try clear c3b1); (try clear c4); (try clear c4b0); (try clear c4b1); (try clear c6); (try clear p6); (try clear c7); (try clear c7b0); (try clear c9); (try clear c9b0); (try clear c9b1); (try clear c10); (try clear c10b0); (try clear c10b1); (try clear c11); (try clear c11b0); (try clear c11b1); (try clear c12); (try clear c12b0); (try clear c12b1); (try clear c12b2); (try clear p2); (try clear p6); obtain ⟨x5_2, x27_2, rfl, rfl, HA, HK2, HO_3, HO_25, HB⟩ := hrel; cases gk with
                      | zero => exact absurd HA.out (by simp [d_cut.l1])
                      | succ k2 =>
                        have H := HA.out; clear HA; simp only [d_cut.l1] at H
                        by_cases c16 : x27_2 < (y112.length : Int)
                        · rw [if_pos c16] at H; have c16b0 : decide (x27_2 < (y112.length : Int)) = true := decide_eq_true c16; clear c16; by_cases c17 : 0 ≤ x27_2
                          · rw [if_pos c17] at H; have c17b0 : decide (0 ≤ x27_2) = true := decide_eq_true c17; clear c17; by_cases c18 : x27_2 < (y112.length : Int)
                            · rw [if_pos c18] at H; have c18b0 : decide (x27_2 < (y112.length : Int)) = true := decide_eq_true c18; clear c18; have H' := Aside0.mk H; clear H; have p115 : 0 ≤ (x27_2 : Int) := of_decide_eq_true as_; have q115 : x27_2 < (y112.length : Int) := of_decide_eq_true as_; obtain ⟨ad115, e115, hx115_0⟩ := Kd.at_int (Kd.V_reads' HO_25.out).2.2 x27_2 p115 q115; cases e115; replace p115 := eq_true p115; replace q115 := eq_true q115
                              go_wp2
                              go_roundg k2
                              case measure => have := HK1.out; have := HK2.out; omega
                              case rel => exact ⟨(IntKind.u64.wrap ((IntKind.u64.wrap (10 * x5_2)) + (((rd y112 x27_2) - 48) % 256))), (wrap64 (x27_2 + 1)), sq, sq, H', ⟨by have := HK1.out; have := HK2.out; omega⟩, ⟨pl HO_3.out⟩, ⟨by (with_reducible repeat (first | apply Kd.V_alloc | apply Kd.V_drewN | apply Kd.V_drew)); exact HO_25.out⟩, ⟨bq⟩⟩
                            · rw [if_neg c18] at H; exact absurd H (by simp)
                          · rw [if_neg c17] at H; exact absurd H (by simp)
                        · rw [if_neg c16] at H; have c16b0 : decide (x27_2 < (y112.length : Int)) = false := decide_eq_false c16; clear c16; by_cases c19 : x3_1.length < 17592186044416
                          · rw [if_pos c19] at H; have LMc19 := Aside0.mk c19; clear c19; obtain ⟨y116, hy116⟩ : ∃ y_ : List Int, y_ = (x3_1 ++ [x5_2]) := ⟨_, rfl⟩; first | rw [Option.bind_some, ← hy116] at H | rw [← hy116] at H | rw [Option.bind_some] at H | skip
                            have Ny116 := Aside0.mk hy116; clear hy116; have H' := Aside0.mk H; clear H
                            go_wp2_with (first | ((with_reducible refine gate_builtin (b := .append) (xs := #[.tmp 38, .tmp 40]) rfl ?_); at_builtin; refine Kd.R_append (Kd.int .u64) (w0 := w) w.heap.size rfl (.tmp 38) (.tmp 40) 72 70 (.int .u64 0) 8 rfl Tryz.underlying72 info70 rfl (by decide) (by omega) u3 x3_1 x5_2 [.int .u64 x5_2] (fun _ => True) (fun _ => False) rfl rfl ?aP (fun _ hk => hk.elim) ?aF ?aO ?aB ?aS ?aL ?_; (case aP => exact rfl); (case aB => exact bq); (case aF => exact (fun _ _ => trivial)); (case aO => exact (pl HO_3.out)); (case aS => exact (below_size bq)); (case aL => have := LMc19.out; omega); intro v117 w20 ho hb hg hat; rw [← Ny116.out] at ho; have n0_ := Aside0.mk (Kd.V_afterv (ok := (fun _ => True)) (by (with_reducible repeat (first | apply Kd.V_alloc | apply Kd.V_drewN | apply Kd.V_drew)); exact Kd.V_mono HO_25.out (fun _ hk => ⟨trivial, hk⟩)) hg hat); have n1_ := Aside0.mk (hb); have n2_ := Aside0.mk (ho); clear HO_25; clear HB; clear HO_3; have HO_25 := n0_; have HB := n1_; have HO118 := n2_; clear n0_ n1_ n2_; clear ho hb hg hat))
                            go_roundg k2
                            case measure => have := HK1.out; have := HK2.out; omega
                            case rel => exact ⟨(y116), (wrap64 (x4_1 - 9)), sq, H', ⟨by have := HK1.out; have := HK2.out; omega⟩, ⟨pl HO118.out⟩, ⟨bq⟩⟩
                          · rw [if_neg c19] at H; exact absurd H (by simp)
                  · rw [if_neg c12] at H; exact absurd H (by simp)
                · rw [if_neg c11] at H; exact absurd H (by simp)
              · rw [if_neg c10] at H; exact absurd H (by simp)
            · rw [if_neg c9] at H; exact absurd H (by simp)
          · rw [if_neg c7] at H; have c7b0 : decide (0 < x4_1) = false := decide_eq_false c7; clear c7; replace H := Option.bind_eq_some_iff.mp H; obtain ⟨t109, A210, H⟩ := H; have A21 := Aside0.mk A210; clear A210; obtain rfl := Option.some.inj H; obtain ⟨Ao22, co22, eo22⟩ := Kd.R_slice HO_3.out; subst eo22
            go_wp2_with (first | ((with_reducible refine gate_callee (f := 71) rfl ?_); refine goesL_ (some 43) rfl rfl Tryz.func71 (by kernel_rfl) rfl #[.slice Ao22 x3_1.length co22] rfl mq ?_; (with_reducible refine (p_trim.calls k1 (fun k_ => some k_ = (.slice Ao22 x3_1.length co22 : Value).ownBlock) (.slice Ao22 x3_1.length co22) x3_1 t109 w _ ?side1 ?side2 A21.out).mono ?_); (case side1 => exact bq); (case side2 => exact Kd.R_tight rfl HO_3.out); rintro e w23 ⟨v110, rfl, ho0, hb, hkp⟩; refine ⟨_, rfl, ?_⟩; have n0_ := Aside0.mk (Kd.R_mono (ok' := fun k_ => True) ho0 (fun k_ hk_ => trivial)); have n1_ := Aside0.mk (hb); clear HB; clear HO_3; have HO111 := n0_; have HB := n1_; clear n0_ n1_; (try clear hb); (try clear hkp); (try clear ho0)))
            go_ret
            exact ⟨_, by first | rfl | (simp [errW_none, errW_some] <;> rfl) | (simp only [← hji2]; first | rfl | (simp [errW_none, errW_some] <;> rfl)) | (simp [*, errW_none, errW_some] <;> rfl), pl HO111.out, bq⟩
    · rw [if_neg c4] at H; exact absurd H (by simp)
  · rw [if_neg c3] at H; exact absurd H (by simp)
def s_Rev.l0 : Nat → List Int → Int → Int → Option (List Int)
  | 0, _, _, _ => none
  | k + 1, x0, x2, x3 => if x2 < x3 then (if 0 ≤ x3 then (if x3 < (x0.length : Int) then (if 0 ≤ x2 then (if x2 < (x0.length : Int) then (s_Rev.l0 k ((x0.set (x2 : Int).toNat (rd x0 x3)).set (x3 : Int).toNat (rd x0 x2)) (wrap64 (x2 + 1)) (wrap64 (x3 - 1))) else (none)) else (none)) else (none)) else (none)) else (some x0)
def s_Rev.f (k : Nat) (l0 : List Int) : Option (List Int) := s_Rev.l0 k l0 0 (wrap64 ((l0.length : Int) - 1))
theorem s_Rev.mono_l : ∀ k, (∀ y0 y1 y2, LeO (s_Rev.l0 k y0 y1 y2) (s_Rev.l0 (k + 1) y0 y1 y2))
  | 0 => fun _ _ _ r h => by simp [s_Rev.l0] at h
  | k + 1 => by
    have ih0 := s_Rev.mono_l k
    · intro y0 y1 y2; unfold s_Rev.l0
      repeat' with_reducible first | apply ih0 | apply LeO.refl | apply LeO.none | refine LeO.ite ?_ ?_ | refine LeO.bind ?_ (fun _ => ?_)
theorem s_Rev.mono : ∀ a0 k, LeO (s_Rev.f k a0) (s_Rev.f (k + 1) a0) := by
  intro a0 k; have ih0 := s_Rev.mono_l k; unfold s_Rev.f
  repeat' with_reducible first | apply ih0 | apply LeO.refl | apply LeO.none | refine LeO.ite ?_ ?_ | refine LeO.bind ?_ (fun _ => ?_)
def s_Rev.T3 : Bool × List (List Nat × List Nat) := (true, [([], []), ([], []), ([], []), ([], []), ([], []), ([], []), ([4, 5], [4, 5]), ([6], [6]), ([], []), ([], []), ([8, 9], [8, 9]), ([10], [10]), ([0, 1, 0, 1, 4, 5, 6, 7, 11], [0, 1]), ([12, 7, 0, 1, 4, 5, 6, 7, 11], [7, 12]), ([2, 3, 0, 1, 2, 3, 4, 5, 6, 7, 8, 9, 10, 11, 12, 13], [2, 3]), ([14, 11, 13, 0, 1, 2, 3, 4, 5, 6, 7, 8, 9, 10, 11, 12, 13], [11, 14])])
def s_Rev.B3 : List Nat := [0, 0, 0, 0, 0, 0, 48, 112, 0, 0, 768, 1792, 4083, 8179, 16383, 32767]
theorem s_Rev.tab3 : rtab .any (opsOf Tryz.f84 3) = s_Rev.T3 := by kernel_rfl
theorem s_Rev.bits3 : waitsOk s_Rev.T3.2 s_Rev.B3 = true := by kernel_rfl
set_option maxHeartbeats 8000000 in
set_option maxRecDepth 100000 in
theorem s_Rev.calls (k : Nat) (P0_ : Nat → Prop) (u9000_ : Value) (l0 : List Int) (r : List Int) (w0 w : World) (hB : Below w0.heap.size w0 w) (ho0 : Kd.R (Kd.int .u8) 5 w w0.heap.size P0_ u9000_ l0) (h : s_Rev.f k l0 = some r) :
    Calls Tryz.prog 84 #[u9000_] w fun e w' => e = .returned (.tuple #[]) ∧ Kd.R (Kd.int .u8) 5 w' w0.heap.size (fun k_ => (P0_ k_ ∨ w.heap.size ≤ k_)) u9000_ r ∧ Below w0.heap.size w0 w' ∧ Kept w w' (fun k_ => P0_ k_) := by
  have HO0 := Aside0.mk (show Kd.R (Kd.int .u8) 5 w w0.heap.size (fun k_ => (P0_ k_ ∨ w.heap.size ≤ k_)) u9000_ l0 from Kd.R_mono ho0 (fun k_ hk => (.inl hk)))
  have HK := Aside0.mk (Kept.refl w (fun k_ => P0_ k_))
  have HW0 := Aside0.mk hB.size; have HB := Aside0.mk hB; clear hB; have H : (s_Rev.l0 k l0 0 (wrap64 ((l0.length : Int) - 1))) = some r := h; clear h; have H' := Aside0.mk H; clear H; obtain ⟨Ao2, co2, eo2⟩ := Kd.R_slice HO0.out; subst eo2
  go_enter Tryz.func84, Tryz.ntmps84
  go_wp2
  go_loopg [2, 3] k (fun kq v2 v3 w' => ∃ (x0_1 : List Int) (x2_1 : Int) (x3_1 : Int), v2 = .int .i64 x2_1 ∧ v3 = .int .i64 x3_1 ∧ Aside0 (s_Rev.l0 kq x0_1 x2_1 x3_1 = some r) ∧ Aside0 (kq ≤ k) ∧ Aside0 (Kd.R (Kd.int .u8) 5 w' w0.heap.size (fun k_ => (P0_ k_ ∨ w.heap.size ≤ k_)) (.slice Ao2 l0.length co2) x0_1) ∧ Aside0 (Kept w w' (fun k_ => P0_ k_)) ∧ Aside0 (Below w0.heap.size w0 w'))
  case atStart => exact ⟨(l0), (0), (wrap64 ((l0.length : Int) - 1)), sq, sq, H', ⟨Nat.le_refl _⟩, ⟨pl HO0.out⟩, ⟨kpq⟩, ⟨bq⟩⟩
  case round =>
    clear H'; (try clear p2); obtain ⟨x0_1, x2_1, x3_1, rfl, rfl, HA, HK1, HO_0, HK, HB⟩ := hrel; have hl0_1 := (Kd.R_reads' HO_0.out).1; rw [hl0_1] at HO_0
    (try simp only [hl0_1])
    cases gk with
    | zero => exact absurd HA.out (by simp [s_Rev.l0])
    | succ k1 =>
      have H := HA.out; clear HA; simp only [s_Rev.l0] at H
      by_cases c3 : x2_1 < x3_1
      · rw [if_pos c3] at H; have c3b0 : decide (x2_1 < x3_1) = true := decide_eq_true c3; clear c3; by_cases c4 : 0 ≤ x3_1
        · rw [if_pos c4] at H; have c4b0 : decide (0 ≤ x3_1) = true := decide_eq_true c4; clear c4; by_cases c5 : x3_1 < (x0_1.length : Int)
          · rw [if_pos c5] at H; have c5b0 : decide (x3_1 < (x0_1.length : Int)) = true := decide_eq_true c5; clear c5; by_cases c6 : 0 ≤ x2_1
            · rw [if_pos c6] at H; have c6b0 : decide (0 ≤ x2_1) = true := decide_eq_true c6; clear c6; by_cases c7 : x2_1 < (x0_1.length : Int)
              · rw [if_pos c7] at H; have c7b0 : decide (x2_1 < (x0_1.length : Int)) = true := decide_eq_true c7; clear c7; obtain ⟨y121, hy121⟩ : ∃ y_ : List Int, y_ = (x0_1.set (x2_1 : Int).toNat (rd x0_1 x3_1)) := ⟨_, rfl⟩; first | rw [Option.bind_some, ← hy121] at H | rw [← hy121] at H | rw [Option.bind_some] at H | skip
                have Ny121 := Aside0.mk hy121; clear hy121; obtain ⟨y122, hy122⟩ : ∃ y_ : List Int, y_ = (y121.set (x3_1 : Int).toNat (rd x0_1 x2_1)) := ⟨_, rfl⟩; first | rw [Option.bind_some, ← hy122] at H | rw [← hy122] at H | rw [Option.bind_some] at H | skip
                have Ny122 := Aside0.mk hy122; clear hy122; have H' := Aside0.mk H; clear H
                try go_wp2
                have n0_ := Aside0.mk (Kd.R_drew HO_0.out); have n1_ := Aside0.mk (Kept.drew HK.out); have n2_ := Aside0.mk (below_drew1 HB.out); clear HO_0; clear HK; clear HB; have HO_0 := n0_; have HK := n1_; have HB := n2_; clear n0_ n1_ n2_; have p119 : 0 ≤ (x3_1 : Int) := of_decide_eq_true as_; have q119 : x3_1 < (x0_1.length : Int) := of_decide_eq_true as_; obtain ⟨ad119, e119, hx119_0⟩ := Kd.at_int (Kd.R_reads' HO_0.out).2.2 x3_1 p119 q119; cases e119; replace p119 := eq_true p119; replace q119 := eq_true q119; have p120 : 0 ≤ (x2_1 : Int) := of_decide_eq_true as_; have q120 : x2_1 < (x0_1.length : Int) := of_decide_eq_true as_; obtain ⟨ad120, e120, hx120_0⟩ := Kd.at_int (Kd.R_reads' HO_0.out).2.2 x2_1 p120 q120; obtain rfl : ad119 = ad120 := (by injection e120)
                replace p120 := eq_true p120; replace q120 := eq_true q120; have p8 : 0 ≤ (x2_1 : Int) := of_decide_eq_true as_; have q8 : (x2_1 : Int) < ((x0_1.length : Int) : Int) := of_decide_eq_true as_; obtain ⟨go8, co8, eo8, gb8, gl8, cl8, HG8⟩ := Kd.R_form HO_0.out (by omega)
                (first | cases eo8 | (injection eo8 with ea_ en_ ec_; (first | subst ea_ | (injection ea_ with ea_; subst ea_)); subst ec_; clear en_))
                have GB8 := Aside0.mk gb8; have GG8 := Aside0.mk HG8; clear gb8 gl8 HG8; have HMgo8 := Aside0.mk (show (P0_ go8 ∨ w.heap.size ≤ go8) from (HO_0.out.1 _ rfl))
                (first | simp only [add_plain] at hx119_0 | skip)
                (first | simp only [add_plain] at hx120_0 | skip)
                obtain ⟨hx8_0, hf8_0⟩ := Kd.R_celln 0 HO_0.out (x2_1 : Int) p8 q8; replace p8 := eq_true p8; replace q8 := eq_true q8; have HP11 := Kd.R_putn HO_0.out (x2_1 : Int) (rd x0_1 x3_1); rw [← Ny121.out] at HP11; have HQ11 := Aside0.mk HP11; clear HP11; have p9 : 0 ≤ (x3_1 : Int) := of_decide_eq_true as_; have q9 : (x3_1 : Int) < ((x0_1.length : Int) : Int) := of_decide_eq_true as_; obtain ⟨hx9_0, hf9_0⟩ := Kd.R_celln 0 HQ11.out (x3_1 : Int) p9 q9; replace p9 := eq_true p9; replace q9 := eq_true q9; have HP12 := Kd.R_putn HQ11.out (x3_1 : Int) (rd x0_1 x2_1); rw [← Ny122.out] at HP12; have HQ12 := Aside0.mk HP12; clear HP12; refine start_ (n := 16) (S := fun w' => w'.cell? ⟨go8, (x3_1).toNat, none⟩ = some (.int .u8 (rd x0_1 x3_1)) ∧ w'.cell? ⟨go8, (x2_1).toNat, none⟩ = some (.int .u8 (rd x0_1 x2_1))) (ds := [13, 15]) #[false, false, false, false, false, false, false, false, false, false, false, false, false, false, false, false] (by kernel_rfl) rfl rfl ⟨hx119_0, hx120_0⟩ (fun hHeld => ?_); refine with_tabW s_Rev.tab3 s_Rev.bits3 (fun HT_ HW_ => ?_)
                generalize wr.drew = w10 at HO_0 HK HB GG8 HQ11 HQ12 hf8_0 hf9_0 hx119_0 hx120_0 hx8_0 hx9_0 hHeld ⊢
                refine pure_ (i := 0) (N := some 14) (v := ?_) (a' := ?_) #[true, false, false, false, false, false, false, false, false, false, false, false, false, false, false, false] rfl rfl (any_of HT_.out (by kernel_rfl)) (fun _ _ _ h => h) (Or.inl ⟨by rfl, ?_⟩) ?_ ?_
                rotate_left
                · intro w'
                  go_simp
                  with_reducible rfl
                rotate_left
                · simp only [Act.put, List.setIfInBounds_toArray, List.set_cons_zero, List.set_cons_succ, i64_w, i32_w]
                  rfl
                refine pure_ (i := 1) (N := some 15) (v := ?_) (a' := ?_) #[true, true, false, false, false, false, false, false, false, false, false, false, false, false, false, false] rfl rfl (any_of HT_.out (by kernel_rfl)) (fun _ _ _ h => h) (Or.inl ⟨by rfl, ?_⟩) ?_ ?_
                rotate_left
                · intro w'
                  go_simp
                  with_reducible rfl
                rotate_left
                · simp only [Act.put, List.setIfInBounds_toArray, List.set_cons_zero, List.set_cons_succ, i64_w, i32_w]
                  rfl
                refine pure_ (i := 2) (N := some 16) (v := ?_) (a' := ?_) #[true, true, true, false, false, false, false, false, false, false, false, false, false, false, false, false] rfl rfl (any_of HT_.out (by kernel_rfl)) (fun _ _ _ h => h) (Or.inl ⟨by rfl, ?_⟩) ?_ ?_
                rotate_left
                · intro w'
                  go_simp
                  with_reducible rfl
                rotate_left
                · simp only [Act.put, List.setIfInBounds_toArray, List.set_cons_zero, List.set_cons_succ, i64_w, i32_w]
                  rfl
                refine pure_ (i := 3) (N := some 17) (v := ?_) (a' := ?_) #[true, true, true, true, false, false, false, false, false, false, false, false, false, false, false, false] rfl rfl (any_of HT_.out (by kernel_rfl)) (fun _ _ _ h => h) (Or.inl ⟨by rfl, ?_⟩) ?_ ?_
                rotate_left
                · intro w'
                  go_simp
                  with_reducible rfl
                rotate_left
                · simp only [Act.put, List.setIfInBounds_toArray, List.set_cons_zero, List.set_cons_succ, i64_w, i32_w]
                  rfl
                refine pure_ (i := 4) (N := some 18) (v := ?_) (a' := ?_) #[true, true, true, true, true, false, false, false, false, false, false, false, false, false, false, false] rfl rfl (any_of HT_.out (by kernel_rfl)) (fun _ _ _ h => h) (Or.inl ⟨by rfl, ?_⟩) ?_ ?_
                rotate_left
                · intro w'
                  go_simp
                  with_reducible rfl
                rotate_left
                · simp only [Act.put, List.setIfInBounds_toArray, List.set_cons_zero, List.set_cons_succ, i64_w, i32_w]
                  rfl
                refine pure_ (i := 5) (N := some 19) (v := ?_) (a' := ?_) #[true, true, true, true, true, true, false, false, false, false, false, false, false, false, false, false] rfl rfl (any_of HT_.out (by kernel_rfl)) (fun _ _ _ h => h) (Or.inl ⟨by rfl, ?_⟩) ?_ ?_
                rotate_left
                · intro w'
                  go_simp
                  with_reducible rfl
                rotate_left
                · simp only [Act.put, List.setIfInBounds_toArray, List.set_cons_zero, List.set_cons_succ, i64_w, i32_w]
                  rfl
                refine pure_ (i := 6) (N := some 20) (v := ?_) (a' := ?_) #[true, true, true, true, true, true, true, false, false, false, false, false, false, false, false, false] rfl rfl (any_of HT_.out (by kernel_rfl)) (fun _ _ _ h => h) (Or.inl ⟨by rfl, ?_⟩) ?_ ?_
                rotate_left
                · intro w'
                  go_simp
                  with_reducible rfl
                rotate_left
                · simp only [Act.put, List.setIfInBounds_toArray, List.set_cons_zero, List.set_cons_succ, i64_w, i32_w]
                  rfl
                refine pure_ (i := 8) (N := some 22) (v := ?_) (a' := ?_) #[true, true, true, true, true, true, true, false, true, false, false, false, false, false, false, false] rfl rfl (any_of HT_.out (by kernel_rfl)) (fun _ _ _ h => h) (Or.inl ⟨by rfl, ?_⟩) ?_ ?_
                rotate_left
                · intro w'
                  go_simp
                  with_reducible rfl
                rotate_left
                · simp only [Act.put, List.setIfInBounds_toArray, List.set_cons_zero, List.set_cons_succ, i64_w, i32_w]
                  rfl
                refine pure_ (i := 9) (N := some 23) (v := ?_) (a' := ?_) #[true, true, true, true, true, true, true, false, true, true, false, false, false, false, false, false] rfl rfl (any_of HT_.out (by kernel_rfl)) (fun _ _ _ h => h) (Or.inl ⟨by rfl, ?_⟩) ?_ ?_
                rotate_left
                · intro w'
                  go_simp
                  with_reducible rfl
                rotate_left
                · simp only [Act.put, List.setIfInBounds_toArray, List.set_cons_zero, List.set_cons_succ, i64_w, i32_w]
                  rfl
                refine pure_ (i := 10) (N := some 24) (v := ?_) (a' := ?_) #[true, true, true, true, true, true, true, false, true, true, true, false, false, false, false, false] rfl rfl (any_of HT_.out (by kernel_rfl)) (fun _ _ _ h => h) (Or.inl ⟨by rfl, ?_⟩) ?_ ?_
                rotate_left
                · intro w'
                  go_simp
                  with_reducible rfl
                rotate_left
                · simp only [Act.put, List.setIfInBounds_toArray, List.set_cons_zero, List.set_cons_succ, i64_w, i32_w]
                  rfl
                refine take_ (i := 7) (N := some 21) (v := ?_) (a' := ?_) #[true, true, true, true, true, true, true, true, true, true, true, false, false, false, false, false] rfl rfl (take_ofW HT_.out HW_.out (by kernel_rfl)) (fun _ _ _ h => h) (Or.inl ⟨by rfl, ?_⟩) hHeld ?_ ?_
                rotate_left
                · rintro w' ⟨s0, s1⟩
                  go_simp
                  with_reducible rfl
                rotate_left
                · simp only [Act.put, List.setIfInBounds_toArray, List.set_cons_zero, List.set_cons_succ, i64_w, i32_w]
                  rfl
                refine take_ (i := 11) (N := some 25) (v := ?_) (a' := ?_) #[true, true, true, true, true, true, true, true, true, true, true, true, false, false, false, false] rfl rfl (take_ofW HT_.out HW_.out (by kernel_rfl)) (fun _ _ _ h => h) (Or.inl ⟨by rfl, ?_⟩) hHeld ?_ ?_
                rotate_left
                · rintro w' ⟨s0, s1⟩
                  go_simp
                  with_reducible rfl
                rotate_left
                · simp only [Act.put, List.setIfInBounds_toArray, List.set_cons_zero, List.set_cons_succ, i64_w, i32_w]
                  rfl
                refine pure_ (i := 12) (N := some 26) (v := ?_) (a' := ?_) #[true, true, true, true, true, true, true, true, true, true, true, true, true, false, false, false] rfl rfl (any_of HT_.out (by kernel_rfl)) (fun _ _ _ h => h) (Or.inl ⟨by rfl, ?_⟩) ?_ ?_
                rotate_left
                · intro w'
                  go_simp
                  with_reducible rfl
                rotate_left
                · simp only [Act.put, List.setIfInBounds_toArray, List.set_cons_zero, List.set_cons_succ, i64_w, i32_w]
                  rfl
                refine last_ (i := 13) (N := none) #[true, true, true, true, true, true, true, true, true, true, true, true, true, true, false, false] rfl rfl (one_of HT_.out (by kernel_rfl)) (by decide) (fun K hK => ?_)
                refine skip_ (w1 := ?_) (by rfl) rfl ?_ ?_
                rotate_left
                · go_simp
                  rfl
                refine hK.out _ _ ?_
                clear hK K; refine pure_ (i := 14) (N := some 27) (v := ?_) (a' := ?_) #[true, true, true, true, true, true, true, true, true, true, true, true, true, true, true, false] rfl rfl (any_of HT_.out (by kernel_rfl)) (fun _ _ _ h => h) (Or.inl ⟨by rfl, ?_⟩) ?_ ?_
                rotate_left
                · intro w'
                  go_simp
                  with_reducible rfl
                rotate_left
                · simp only [Act.put, List.setIfInBounds_toArray, List.set_cons_zero, List.set_cons_succ, i64_w, i32_w]
                  rfl
                refine last_ (i := 15) (N := none) #[true, true, true, true, true, true, true, true, true, true, true, true, true, true, true, true] rfl rfl (one_of HT_.out (by kernel_rfl)) (by decide) (fun K hK => ?_)
                refine skip_ (w1 := ?_) (by rfl) rfl ?_ ?_
                rotate_left
                · go_simp
                  rfl
                refine hK.out _ _ ?_
                clear hK K; refine done_ (done_of HT_.out (by kernel_rfl)) ?_
                try go_wp2
                (try simp only [← hl0_1])
                go_roundg k1
                case measure => have := HK1.out; omega
                case rel => exact ⟨(y122), (wrap64 (x2_1 + 1)), (wrap64 (x3_1 - 1)), sq, sq, H', ⟨by have := HK1.out; omega⟩, ⟨by (try simp only [hl0_1]); (with_reducible repeat (first | apply Kd.R_alloc | apply Kd.R_drewN | apply Kd.R_drew)); exact HQ12.out⟩, ⟨by repeat (first | (with_reducible first | exact HK.out | apply Kept.alloc | apply Kept.drewN | apply Kept.drew | refine Kept.setCell ?_ HMgo8.out _ | refine Kept.setCell ?_ HMgo8.out _) | exact HK.out)⟩, ⟨by repeat (first | (with_reducible first | exact HB.out | apply below_alloc | apply pw_below_drewN | apply below_drew1 | refine below_set ?_ GB8.out | refine below_set ?_ GB8.out) | exact HB.out)⟩⟩
              · rw [if_neg c7] at H; exact absurd H (by simp)
            · rw [if_neg c6] at H; exact absurd H (by simp)
          · rw [if_neg c5] at H; exact absurd H (by simp)
        · rw [if_neg c4] at H; exact absurd H (by simp)
      · rw [if_neg c3] at H; have c3b0 : decide (x2_1 < x3_1) = false := decide_eq_false c3; clear c3; obtain rfl := Option.some.inj H
        go_wp2
        first | go_end0 | ((try simp only [Exit.inBlock, Exit.then]); refine bodyPost_ret (results_none rfl _ _ _) rfl ?_)
        exact ⟨eq_, (by first | exact (pl HO_0.out) | (simp only [hl0_1]; exact (pl HO_0.out))), bq, kpq⟩
mutual
def p_text.l0 : Nat → List Int → List Int → List Int → Int → Int → Option (ByteArray)
  | 0, _, _, _, _, _ => none
  | k + 1, x0, x3, x14, x15, x16 => if x16 < x15 then (if 0 ≤ x16 then (if x16 < (x14.length : Int) then (p_text.l1 k x0 x3 x16 (rd x14 x16) 0 x14 x15 x16) else (none)) else (none)) else ((s_Rev.f k x3).bind fun t126 => (some (strOfNums t126)))
def p_text.l1 : Nat → List Int → List Int → Int → Int → Int → List Int → Int → Int → Option (ByteArray)
  | 0, _, _, _, _, _, _, _, _ => none
  | k + 1, x0, x3, x4, x5, x6, x14, x15, x16 => if x6 < 9 then (if (wrap64 (x4 + 1)) < (x0.length : Int) then (if x3.length < 140737488355328 then (p_text.l1 k x0 (x3 ++ [(IntKind.u64.wrap (48 + (Int.tmod x5 10))) % 256]) x4 (IntKind.u64.wrap (Int.tdiv x5 10)) (wrap64 (x6 + 1)) x14 x15 x16) else (none)) else (if x5 > 0 then (if x3.length < 140737488355328 then (p_text.l1 k x0 (x3 ++ [(IntKind.u64.wrap (48 + (Int.tmod x5 10))) % 256]) x4 (IntKind.u64.wrap (Int.tdiv x5 10)) (wrap64 (x6 + 1)) x14 x15 x16) else (none)) else (p_text.l0 k x0 x3 x14 x15 (wrap64 (x16 + 1))))) else (p_text.l0 k x0 x3 x14 x15 (wrap64 (x16 + 1)))
end
def p_text.f (k : Nat) (l0 : List Int) : Option (ByteArray) := if (l0.length : Int) = 0 then (some (⟨#[48]⟩ : ByteArray)) else (if 0 ≤ (wrap64 (9 * (l0.length : Int))) then (if (wrap64 (9 * (l0.length : Int)) : Int).toNat ≤ 281474976710656 then (p_text.l0 k l0 (([] : List Int)) l0 (l0.length : Int) 0) else (none)) else (none))
theorem p_text.mono_l : ∀ k, (∀ y0 y1 y2 y3 y4, LeO (p_text.l0 k y0 y1 y2 y3 y4) (p_text.l0 (k + 1) y0 y1 y2 y3 y4)) ∧ (∀ y0 y1 y2 y3 y4 y5 y6 y7, LeO (p_text.l1 k y0 y1 y2 y3 y4 y5 y6 y7) (p_text.l1 (k + 1) y0 y1 y2 y3 y4 y5 y6 y7))
  | 0 => ⟨fun _ _ _ _ _ r h => by simp [p_text.l0] at h, fun _ _ _ _ _ _ _ _ r h => by simp [p_text.l1] at h⟩
  | k + 1 => by
    obtain ⟨ih0, ih1⟩ := p_text.mono_l k; refine ⟨?_, ?_⟩
    · intro y0 y1 y2 y3 y4; unfold p_text.l0
      repeat' with_reducible first | apply ih0 | apply ih1 | apply s_Rev.mono | apply LeO.refl | apply LeO.none | refine LeO.ite ?_ ?_ | refine LeO.bind ?_ (fun _ => ?_)
    · intro y0 y1 y2 y3 y4 y5 y6 y7; unfold p_text.l1
      repeat' with_reducible first | apply ih0 | apply ih1 | apply s_Rev.mono | apply LeO.refl | apply LeO.none | refine LeO.ite ?_ ?_ | refine LeO.bind ?_ (fun _ => ?_)
theorem p_text.mono : ∀ a0 k, LeO (p_text.f k a0) (p_text.f (k + 1) a0) := by
  intro a0 k; obtain ⟨ih0, ih1⟩ := p_text.mono_l k; unfold p_text.f
  repeat' with_reducible first | apply ih0 | apply ih1 | apply s_Rev.mono | apply LeO.refl | apply LeO.none | refine LeO.ite ?_ ?_ | refine LeO.bind ?_ (fun _ => ?_)
set_option maxHeartbeats 8000000 in
set_option maxRecDepth 100000 in
theorem p_text.calls (k : Nat) (A0 : Option Addr) (c0 : Nat) (l0 : List Int) (r : ByteArray) (w : World) (hr0 : Kd.C (Kd.int .u64) w A0 l0.length l0) (hc0 : l0.length ≤ c0) (h : p_text.f k l0 = some r) :
    Calls Tryz.prog 62 #[.slice A0 l0.length c0] w fun e w' => e = .returned (.string r) ∧ Below w.heap.size w w' := by
  have HR0 := Aside0.mk hr0; have HC0 := Aside0.mk hc0; clear hr0 hc0; have HB := Aside0.mk (Below.refl w.heap.size w); have H : (if (l0.length : Int) = 0 then (some (⟨#[48]⟩ : ByteArray)) else (if 0 ≤ (wrap64 (9 * (l0.length : Int))) then (if (wrap64 (9 * (l0.length : Int)) : Int).toNat ≤ 281474976710656 then (p_text.l0 k l0 (([] : List Int)) l0 (l0.length : Int) 0) else (none)) else (none))) = some r := h
  clear h; by_cases c2 : (l0.length : Int) = 0
  · rw [if_pos c2] at H; have c2b0 : ((l0.length : Int) == 0) = true := beq_iff_eq.mpr c2; have c2b1 : ((l0.length : Int) != 0) = false := bne_eq_false_iff_eq.mpr c2; clear c2; obtain rfl := Option.some.inj H
    go_enter Tryz.func62, Tryz.ntmps62
    go_wp2
    go_ret
    exact ⟨eq_, bq⟩
  · rw [if_neg c2] at H; have c2b0 : ((l0.length : Int) == 0) = false := beq_eq_false_iff_ne.mpr c2; have c2b1 : ((l0.length : Int) != 0) = true := bne_iff_ne.mpr c2; have c2b2 : ¬ (l0 = []) := fun h_ => c2 (by rw [h_]; rfl)
    obtain ⟨ji3, hji3⟩ : ∃ j_ : Int, (wrap64 (9 * (l0.length : Int))) = j_ := ⟨_, rfl⟩; first | rw [hji3] at H | simp only [hji3] at H
    have hji3w : (IntKind.i64.wrap (9 * (l0.length : Int))) = ji3 := (i64_w _).trans hji3; by_cases c4 : 0 ≤ (ji3)
    · rw [if_pos c4] at H; have c4b0 := eq_true c4; have c4b1 : decide (0 ≤ (ji3)) = true := decide_eq_true c4; clear c4; by_cases c5 : (ji3 : Int).toNat ≤ 281474976710656
      · rw [if_pos c5] at H; have c5b0 := eq_true c5; have c5b1 : decide ((ji3 : Int).toNat ≤ 281474976710656) = true := decide_eq_true c5; clear c5; obtain ⟨y123, hy123⟩ : ∃ y_ : List Int, y_ = (([] : List Int)) := ⟨_, rfl⟩; first | rw [Option.bind_some, ← hy123] at H | rw [← hy123] at H | rw [Option.bind_some] at H | skip
        have Ny123 := Aside0.mk hy123; clear hy123; have H' := Aside0.mk H; clear H
        go_enter Tryz.func62, Tryz.ntmps62
        go_wp2_with (first | ((with_reducible refine gate_dst (N := 13) rfl ?_); (try (refine gate_guard (by rfl) ?_; dsimp only)); refine Kd.R_makec (Kd.int .u8) _ 5 rfl (N := 13) rfl 22 _ _ rfl ji3 rfl rfl Tryz.underlying22 (.int .u8 0) 1 info5 (by decide) (ok := fun _ => True) trivial (of_decide_eq_true as_) (Nat.le_trans (Nat.mul_le_mul_right _ (of_decide_eq_true as_ : ji3.toNat ≤ 281474976710656)) (by omega)) (Below.refl _ _) (Nat.le_refl _) ?_; intro v124 w6 ho7 hb hg_ hnew_; clear hg_ hnew_; (first | rw [← Ny123.out] at ho7 | (simp only [Int.reduceToNat] at ho7; rw [← Ny123.out] at ho7)); have n0_ := Aside0.mk (Kd.R_lower ho7 (below_size bq)); have n1_ := Aside0.mk (below_step bq hb); clear HB; have HO125 := n0_; have HB := n1_; clear n0_ n1_; clear hb ho7))
        go_loopg [3, 16] k (fun kq v3 v16 w' => ∃ (x3_1 : List Int) (x16_1 : Int), v16 = .int .i64 x16_1 ∧ Aside0 (p_text.l0 kq l0 x3_1 l0 (l0.length : Int) x16_1 = some r) ∧ Aside0 (kq ≤ k) ∧ Aside0 (Kd.R (Kd.int .u8) 5 w' w.heap.size (fun _ => True) v3 x3_1) ∧ Aside0 (Below w.heap.size w w'))
        case atStart => exact ⟨(y123), (0), sq, H', ⟨Nat.le_refl _⟩, ⟨pl HO125.out⟩, ⟨bq⟩⟩
        case round =>
          clear H'; (try clear c2); (try clear c2b0); (try clear c2b1); (try clear c2b2); (try clear p2); (try clear c4); (try clear c4b0); (try clear c4b1); (try clear c5); (try clear c5b0); (try clear c5b1); (try clear c6); (try clear p6); obtain ⟨x3_1, x16_1, rfl, HA, HK1, HO_3, HB⟩ := hrel; cases gk with
          | zero => exact absurd HA.out (by simp [p_text.l0])
          | succ k1 =>
            have H := HA.out; clear HA; simp only [p_text.l0] at H
            by_cases c8 : x16_1 < (l0.length : Int)
            · rw [if_pos c8] at H; have c8b0 : decide (x16_1 < (l0.length : Int)) = true := decide_eq_true c8; clear c8; by_cases c9 : 0 ≤ x16_1
              · rw [if_pos c9] at H; have c9b0 : decide (0 ≤ x16_1) = true := decide_eq_true c9; clear c9; by_cases c10 : x16_1 < (l0.length : Int)
                · rw [if_pos c10] at H; have c10b0 : decide (x16_1 < (l0.length : Int)) = true := decide_eq_true c10; clear c10; have H' := Aside0.mk H; clear H; have p127 : 0 ≤ (x16_1 : Int) := of_decide_eq_true as_; have q127 : x16_1 < (l0.length : Int) := of_decide_eq_true as_; obtain ⟨ad127, e127, hx127_0⟩ := Kd.at_int HR0.out x16_1 p127 q127; cases e127; replace hx127_0 := (HB.out.cell (World.block_lt_of_cell? w _ hx127_0)).trans hx127_0; replace p127 := eq_true p127; replace q127 := eq_true q127
                  go_wp2
                  go_loopg [3, 5, 6] k1 (fun kq v3 v5 v6 w' => ∃ (x3_2 : List Int) (x5_2 : Int) (x6_2 : Int), v5 = .int .u64 x5_2 ∧ v6 = .int .i64 x6_2 ∧ Aside0 (p_text.l1 kq l0 x3_2 x16_1 x5_2 x6_2 l0 (l0.length : Int) x16_1 = some r) ∧ Aside0 (kq ≤ k1) ∧ Aside0 (Kd.R (Kd.int .u8) 5 w' w.heap.size (fun _ => True) v3 x3_2) ∧ Aside0 (Below w.heap.size w w'))
                  case atStart => exact ⟨(x3_1), (rd l0 x16_1), (0), sq, sq, H', ⟨Nat.le_refl _⟩, ⟨pl HO_3.out⟩, ⟨bq⟩⟩
                  case round =>
                    clear H'; (try clear c1); (try clear p1); (try clear q1); (try clear hx1); (try clear c2); (try clear c2b0); (try clear c2b1); (try clear c2b2); (try clear p2); (try clear c4); (try clear c4b0); (try clear c4b1); (try clear c5); (try clear c5b0); (try clear c5b1); (try clear c6); (try clear p6); (try clear c8); (try clear c8b0); (try clear c9); (try clear c9b0); (try clear c10); (try clear c10b0); (try clear hx127_0); (try clear p127); (try clear p2); (try clear p6); (try clear q127); obtain ⟨x3_2, x5_2, x6_2, rfl, rfl, HA, HK2, HO_3, HB⟩ := hrel; cases gk with
                    | zero => exact absurd HA.out (by simp [p_text.l1])
                    | succ k2 =>
                      have H := HA.out; clear HA; simp only [p_text.l1] at H
                      by_cases c11 : x6_2 < 9
                      · rw [if_pos c11] at H; have c11b0 : decide (x6_2 < 9) = true := decide_eq_true c11; clear c11; by_cases c12 : (wrap64 (x16_1 + 1)) < (l0.length : Int)
                        · rw [if_pos c12] at H; have c12b0 : decide ((wrap64 (x16_1 + 1)) < (l0.length : Int)) = true := decide_eq_true c12; clear c12; by_cases c13 : x3_2.length < 140737488355328
                          · rw [if_pos c13] at H; have LMc13 := Aside0.mk c13; clear c13; obtain ⟨y128, hy128⟩ : ∃ y_ : List Int, y_ = (x3_2 ++ [(IntKind.u64.wrap (48 + (Int.tmod x5_2 10))) % 256]) := ⟨_, rfl⟩; first | rw [Option.bind_some, ← hy128] at H | rw [← hy128] at H | rw [Option.bind_some] at H | skip
                            have Ny128 := Aside0.mk hy128; clear hy128; have H' := Aside0.mk H; clear H
                            go_wp2_with (first | ((with_reducible refine gate_builtin (b := .append) (xs := #[.tmp 36, .tmp 41]) rfl ?_); (try (refine gate_guard (by rfl) ?_; dsimp only)); at_builtin; refine Kd.R_append (Kd.int .u8) (w0 := w) w.heap.size rfl (.tmp 36) (.tmp 41) 22 5 (.int .u8 0) 1 rfl Tryz.underlying22 info5 rfl (by decide) (by omega) u3 x3_2 ((IntKind.u64.wrap (48 + (Int.tmod x5_2 10))) % 256) [.int .u8 ((IntKind.u64.wrap (48 + (Int.tmod x5_2 10))) % 256)] (fun _ => True) (fun _ => False) rfl rfl ?aP (fun _ hk => hk.elim) ?aF ?aO ?aB ?aS ?aL ?_; (case aP => exact rfl); (case aB => exact bq); (case aF => exact (fun _ _ => trivial)); (case aO => exact (pl HO_3.out)); (case aS => exact (below_size bq)); (case aL => have := LMc13.out; omega); intro v129 w14 ho hb hg hat; rw [← Ny128.out] at ho; have n0_ := Aside0.mk (hb); have n1_ := Aside0.mk (ho); clear HB; clear HO_3; have HB := n0_; have HO130 := n1_; clear n0_ n1_; clear ho hb hg hat))
                            go_roundg k2
                            case measure => have := HK1.out; have := HK2.out; omega
                            case rel => exact ⟨(y128), (IntKind.u64.wrap (Int.tdiv x5_2 10)), (wrap64 (x6_2 + 1)), sq, sq, H', ⟨by have := HK1.out; have := HK2.out; omega⟩, ⟨pl HO130.out⟩, ⟨bq⟩⟩
                          · rw [if_neg c13] at H; exact absurd H (by simp)
                        · rw [if_neg c12] at H; have c12b0 : decide ((wrap64 (x16_1 + 1)) < (l0.length : Int)) = false := decide_eq_false c12; clear c12; by_cases c15 : x5_2 > 0
                          · rw [if_pos c15] at H; have c15b0 : decide (0 < x5_2) = true := decide_eq_true c15; clear c15; by_cases c16 : x3_2.length < 140737488355328
                            · rw [if_pos c16] at H; have LMc16 := Aside0.mk c16; clear c16; obtain ⟨y131, hy131⟩ : ∃ y_ : List Int, y_ = (x3_2 ++ [(IntKind.u64.wrap (48 + (Int.tmod x5_2 10))) % 256]) := ⟨_, rfl⟩; first | rw [Option.bind_some, ← hy131] at H | rw [← hy131] at H | rw [Option.bind_some] at H | skip
                              have Ny131 := Aside0.mk hy131; clear hy131; have H' := Aside0.mk H; clear H
                              go_wp2_with (first | ((with_reducible refine gate_builtin (b := .append) (xs := #[.tmp 36, .tmp 41]) rfl ?_); (try (refine gate_guard (by rfl) ?_; dsimp only)); at_builtin; refine Kd.R_append (Kd.int .u8) (w0 := w) w.heap.size rfl (.tmp 36) (.tmp 41) 22 5 (.int .u8 0) 1 rfl Tryz.underlying22 info5 rfl (by decide) (by omega) u3 x3_2 ((IntKind.u64.wrap (48 + (Int.tmod x5_2 10))) % 256) [.int .u8 ((IntKind.u64.wrap (48 + (Int.tmod x5_2 10))) % 256)] (fun _ => True) (fun _ => False) rfl rfl ?aP (fun _ hk => hk.elim) ?aF ?aO ?aB ?aS ?aL ?_; (case aP => exact rfl); (case aB => exact bq); (case aF => exact (fun _ _ => trivial)); (case aO => exact (pl HO_3.out)); (case aS => exact (below_size bq)); (case aL => have := LMc16.out; omega); intro v132 w17 ho hb hg hat; rw [← Ny131.out] at ho; have n0_ := Aside0.mk (hb); have n1_ := Aside0.mk (ho); clear HB; clear HO_3; have HB := n0_; have HO133 := n1_; clear n0_ n1_; clear ho hb hg hat))
                              go_roundg k2
                              case measure => have := HK1.out; have := HK2.out; omega
                              case rel => exact ⟨(y131), (IntKind.u64.wrap (Int.tdiv x5_2 10)), (wrap64 (x6_2 + 1)), sq, sq, H', ⟨by have := HK1.out; have := HK2.out; omega⟩, ⟨pl HO133.out⟩, ⟨bq⟩⟩
                            · rw [if_neg c16] at H; exact absurd H (by simp)
                          · rw [if_neg c15] at H; have c15b0 : decide (0 < x5_2) = false := decide_eq_false c15; clear c15; have H' := Aside0.mk H; clear H
                            go_wp2
                            go_roundg k2
                            case measure => have := HK1.out; have := HK2.out; omega
                            case rel => exact ⟨(x3_2), (wrap64 (x16_1 + 1)), sq, H', ⟨by have := HK1.out; have := HK2.out; omega⟩, ⟨pl HO_3.out⟩, ⟨bq⟩⟩
                      · rw [if_neg c11] at H; have c11b0 : decide (x6_2 < 9) = false := decide_eq_false c11; clear c11; have H' := Aside0.mk H; clear H
                        go_wp2
                        go_roundg k2
                        case measure => have := HK1.out; have := HK2.out; omega
                        case rel => exact ⟨(x3_2), (wrap64 (x16_1 + 1)), sq, H', ⟨by have := HK1.out; have := HK2.out; omega⟩, ⟨pl HO_3.out⟩, ⟨bq⟩⟩
                · rw [if_neg c10] at H; exact absurd H (by simp)
              · rw [if_neg c9] at H; exact absurd H (by simp)
            · rw [if_neg c8] at H; have c8b0 : decide (x16_1 < (l0.length : Int)) = false := decide_eq_false c8; clear c8; replace H := Option.bind_eq_some_iff.mp H; obtain ⟨t126, A180, H⟩ := H; have A18 := Aside0.mk A180; clear A180; obtain rfl := Option.some.inj H; obtain ⟨Ao19, co19, eo19⟩ := Kd.R_slice HO_3.out; subst eo19
              go_wp2_with (first | ((with_reducible refine gate_callee (f := 84) rfl ?_); refine goesL_ (some 47) rfl rfl Tryz.func84 (by kernel_rfl) rfl #[.slice Ao19 x3_1.length co19] rfl mq ?_; (with_reducible refine (s_Rev.calls k1 (fun k_ => some k_ = (.slice Ao19 x3_1.length co19 : Value).ownBlock) (.slice Ao19 x3_1.length co19) x3_1 t126 w _ ?side1 ?side2 A18.out).mono ?_); (case side1 => exact bq); (case side2 => exact Kd.R_tight rfl HO_3.out); rintro e w20 ⟨rfl, hy0, hb, hkp⟩; refine ⟨_, rfl, ?_⟩; have n0_ := Aside0.mk (Kd.R_reok rfl hy0 (fun k_ e_ => HO_3.out.1 k_ e_)); have n1_ := Aside0.mk (hb); clear HO_3; clear HB; have HO_3 := n0_; have HB := n1_; clear n0_ n1_; (try clear hb); (try clear hkp); (try clear hy0); have hcv21 := own_string (P := Tryz.prog) Tryz.underlying22 Tryz.underlying5 Tryz.underlying26 (Kd.own_of_R HO_3.out)))
              go_ret
              exact ⟨by first | rfl | (simp [errW_none, errW_some] <;> rfl) | (simp only [← hji3]; first | rfl | (simp [errW_none, errW_some] <;> rfl)) | (simp [*, errW_none, errW_some] <;> rfl), bq⟩
      · rw [if_neg c5] at H; exact absurd H (by simp)
    · rw [if_neg c4] at H; exact absurd H (by simp)
def d_both.j0 : Nat → ByteArray → ByteArray → Bool → Option (Int × Int × Bool)
  | 0, _, _, _ => none
  | k + 1, x0, x1, x14 => if x14 = true then (some (0, 0, false)) else ((decimal_Small.f x0).bind fun bt134 => ((decimal_Small.f x1).bind fun bt136 => (some (bt134.1, bt136.1, true))))
def d_both.f (k : Nat) (a0 : ByteArray) (a1 : ByteArray) : Option (Int × Int × Bool) := if (a0.size : Int) > 18 then (d_both.j0 k a0 a1 true) else (d_both.j0 k a0 a1 (decide ((a1.size : Int) > 18)))
theorem d_both.mono_l : ∀ k, (∀ y0 y1 y2, LeO (d_both.j0 k y0 y1 y2) (d_both.j0 (k + 1) y0 y1 y2))
  | 0 => fun _ _ _ r h => by simp [d_both.j0] at h
  | k + 1 => by
    have ih0 := d_both.mono_l k
    · intro y0 y1 y2; unfold d_both.j0
      repeat' with_reducible first | apply ih0 | apply LeO.refl | apply LeO.none | refine LeO.ite ?_ ?_ | refine LeO.bind ?_ (fun _ => ?_)
theorem d_both.mono : ∀ a0 a1 k, LeO (d_both.f k a0 a1) (d_both.f (k + 1) a0 a1) := by
  intro a0 a1 k; have ih0 := d_both.mono_l k; unfold d_both.f
  repeat' with_reducible first | apply ih0 | apply LeO.refl | apply LeO.none | refine LeO.ite ?_ ?_ | refine LeO.bind ?_ (fun _ => ?_)
set_option maxHeartbeats 8000000 in
set_option maxRecDepth 100000 in
theorem d_both.calls (k : Nat) (a0 : ByteArray) (a1 : ByteArray) (r1 : Int) (r2 : Int) (r3 : Bool) (w : World) (hT : Tab w) (h : d_both.f k a0 a1 = some (r1, r2, r3)) :
    Calls Tryz.prog 68 #[.string a0, .string a1] w fun e w' => e = .returned (.tuple #[.int .u64 r1, .int .u64 r2, .bool r3]) ∧ Below w.heap.size w w' := by
  have HT := Aside0.mk hT; clear hT; have HB := Aside0.mk (Below.refl w.heap.size w); have H : (if (a0.size : Int) > 18 then (d_both.j0 k a0 a1 true) else (d_both.j0 k a0 a1 (decide ((a1.size : Int) > 18)))) = some (r1, r2, r3) := h
  clear h; have HC3 := Aside0.mk H; clear H
  go_enter Tryz.func68, Tryz.ntmps68
  go_upto_region 1 with (fail)
  go_cut [14] (fun v14 wc => ∃ (kq : Nat) (x14_2 : Bool), v14 = .bool x14_2 ∧ Aside0 (d_both.j0 kq a0 a1 x14_2 = some (r1, r2, r3)) ∧ Aside0 (kq ≤ k) ∧ Aside0 (Below w.heap.size w wc))
  case first =>
    have H := HC3.out; clear HC3; by_cases c4 : (a0.size : Int) > 18
    · rw [if_pos c4] at H; have c4b0 : decide (18 < (a0.size : Int)) = true := decide_eq_true c4; have c4b1 : decide (18 < a0.size) = true := decide_eq_true (by omega)
      clear c4
      (first | rw [c4b0] | (simp only [i64_w, i32_w]; rw [c4b0]) | skip)
      have H' := Aside0.mk H; clear H
      go_wp2
      go_meet
      case rel => exact ⟨_, (true), sq, H', ⟨by first | omega | exact Nat.le_refl _⟩, ⟨bq⟩⟩
    · rw [if_neg c4] at H; have c4b0 : decide (18 < (a0.size : Int)) = false := decide_eq_false c4; have c4b1 : decide (18 < a0.size) = false := decide_eq_false (by omega)
      clear c4
      (first | rw [c4b0] | (simp only [i64_w, i32_w]; rw [c4b0]) | skip)
      have H' := Aside0.mk H; clear H
      go_wp2
      go_meet
      case rel => exact ⟨_, (decide ((a1.size : Int) > 18)), sq, H', ⟨by first | omega | exact Nat.le_refl _⟩, ⟨bq⟩⟩
  case rest =>
    clear HC3; (try clear p2); (try clear c4); (try clear c4b0); (try clear c4b1); obtain ⟨kq, x14_2, rfl, HA, HJ2, HB⟩ := hcut; cases kq with
    | zero => exact absurd HA.out (by simp [d_both.j0])
    | succ kj2 =>
      have H := HA.out; clear HA; simp only [d_both.j0] at H
      by_cases c5 : x14_2 = true
      · subst c5; have H1 : (some (0, 0, false)) = some (r1, r2, r3) := by rw [if_pos rfl] at H; exact H
        clear H; have H := H1; clear H1; simp only [Option.some.injEq, Prod.mk.injEq] at H
        obtain ⟨rfl, rfl, rfl⟩ := H
        go_wp2
        go_ret3
        exact ⟨eq_, bq⟩
      · replace c5 := Bool.eq_false_iff.mpr c5; subst c5; have H1 : ((decimal_Small.f a0).bind fun bt134 => ((decimal_Small.f a1).bind fun bt136 => (some (bt134.1, bt136.1, true)))) = some (r1, r2, r3) := by rw [if_neg (show ¬ (false = true) by decide)] at H; exact H
        clear H; have H := H1; clear H1; replace H := Option.bind_eq_some_iff.mp H; obtain ⟨⟨t134, t135⟩, A60, H⟩ := H; have A6 := Aside0.mk A60; clear A60; replace H := Option.bind_eq_some_iff.mp H; obtain ⟨⟨t136, t137⟩, A70, H⟩ := H; have A7 := Aside0.mk A70; clear A70; simp only [Option.some.injEq, Prod.mk.injEq] at H
        obtain ⟨rfl, rfl, rfl⟩ := H
        go_wp2_with (first | ((with_reducible refine gate_callee (f := 82) rfl ?_); refine goesL_ (some 17) rfl rfl Tryz.func82 (by kernel_rfl) rfl #[.string a0] rfl mq ?_; (with_reducible refine (decimal_Small.calls (hT := HT.out.below bq) a0 t134 t135 _ A6.out).mono ?_); rintro e w8 ⟨rfl, hb⟩; refine ⟨_, rfl, ?_⟩; replace HB := Aside0.mk (below_step bq hb); (try clear hb); (try clear hb2); (try clear hk); (try clear hi)) | ((with_reducible refine gate_callee (f := 82) rfl ?_); refine goesL_ (some 22) rfl rfl Tryz.func82 (by kernel_rfl) rfl #[.string a1] rfl mq ?_; (with_reducible refine (decimal_Small.calls (hT := HT.out.below bq) a1 t136 t137 _ A7.out).mono ?_); rintro e w9 ⟨rfl, hb⟩; refine ⟨_, rfl, ?_⟩; replace HB := Aside0.mk (below_step bq hb); (try clear hb); (try clear hb2); (try clear hk); (try clear hi)))
        go_ret3
        exact ⟨eq_, bq⟩
def p_back.l0 : Nat → List Int → List Int → Int → Int → Int → Option (List Int)
  | 0, _, _, _, _, _ => none
  | k + 1, x0, x1, x2, x6, x7 => if x7 ≤ (x1.length : Int) then (if 0 ≤ (wrap64 (x2 + x7)) then (if (wrap64 (x2 + x7)) < (x0.length : Int) then (if x7 < (x1.length : Int) then (if 0 ≤ x7 then (p_back.l0 k (x0.set ((wrap64 (x2 + x7)) : Int).toNat (Int.tmod (IntKind.u64.wrap ((IntKind.u64.wrap (x6 + (rd x0 (wrap64 (x2 + x7))))) + (rd x1 x7))) 1000000000)) x1 x2 (IntKind.u64.wrap (Int.tdiv (IntKind.u64.wrap ((IntKind.u64.wrap (x6 + (rd x0 (wrap64 (x2 + x7))))) + (rd x1 x7))) 1000000000)) (wrap64 (x7 + 1))) else (none)) else (p_back.l0 k (x0.set ((wrap64 (x2 + x7)) : Int).toNat (Int.tmod (IntKind.u64.wrap (x6 + (rd x0 (wrap64 (x2 + x7))))) 1000000000)) x1 x2 (IntKind.u64.wrap (Int.tdiv (IntKind.u64.wrap (x6 + (rd x0 (wrap64 (x2 + x7))))) 1000000000)) (wrap64 (x7 + 1)))) else (none)) else (none)) else (some x0)
def p_back.f (k : Nat) (l0 : List Int) (l1 : List Int) (a2 : Int) : Option (List Int) := p_back.l0 k l0 l1 a2 0 0
theorem p_back.mono_l : ∀ k, (∀ y0 y1 y2 y3 y4, LeO (p_back.l0 k y0 y1 y2 y3 y4) (p_back.l0 (k + 1) y0 y1 y2 y3 y4))
  | 0 => fun _ _ _ _ _ r h => by simp [p_back.l0] at h
  | k + 1 => by
    have ih0 := p_back.mono_l k
    · intro y0 y1 y2 y3 y4; unfold p_back.l0
      repeat' with_reducible first | apply ih0 | apply LeO.refl | apply LeO.none | refine LeO.ite ?_ ?_ | refine LeO.bind ?_ (fun _ => ?_)
theorem p_back.mono : ∀ a0 a1 a2 k, LeO (p_back.f k a0 a1 a2) (p_back.f (k + 1) a0 a1 a2) := by
  intro a0 a1 a2 k; have ih0 := p_back.mono_l k; unfold p_back.f
  repeat' with_reducible first | apply ih0 | apply LeO.refl | apply LeO.none | refine LeO.ite ?_ ?_ | refine LeO.bind ?_ (fun _ => ?_)
set_option maxHeartbeats 8000000 in
set_option maxRecDepth 100000 in
theorem p_back.calls (k : Nat) (P0_ : Nat → Prop) (u9000_ : Value) (l0 : List Int) (A1 : Option Addr) (c1 : Nat) (l1 : List Int) (a2 : Int) (r : List Int) (w0 w : World) (hB : Below w0.heap.size w0 w) (ho0 : Kd.R (Kd.int .u64) 70 w w0.heap.size P0_ u9000_ l0) (hr1 : ∀ W_, Kept w W_ (fun k_ => P0_ k_) → Kd.C (Kd.int .u64) W_ A1 l1.length l1) (hc1 : l1.length ≤ c1) (h : p_back.f k l0 l1 a2 = some r) :
    Calls Tryz.prog 70 #[u9000_, .slice A1 l1.length c1, .int .i64 a2] w fun e w' => e = .returned (.tuple #[]) ∧ Kd.R (Kd.int .u64) 70 w' w0.heap.size (fun k_ => (P0_ k_ ∨ w.heap.size ≤ k_)) u9000_ r ∧ Below w0.heap.size w0 w' ∧ Kept w w' (fun k_ => P0_ k_) := by
  have HO0 := Aside0.mk (show Kd.R (Kd.int .u64) 70 w w0.heap.size (fun k_ => (P0_ k_ ∨ w.heap.size ≤ k_)) u9000_ l0 from Kd.R_mono ho0 (fun k_ hk => (.inl hk)))
  have HR1 := Aside0.mk hr1; have HC1 := Aside0.mk hc1; clear hr1 hc1; have HK := Aside0.mk (Kept.refl w (fun k_ => P0_ k_))
  have HW0 := Aside0.mk hB.size; have HB := Aside0.mk hB; clear hB; have H : (p_back.l0 k l0 l1 a2 0 0) = some r := h; clear h; have H' := Aside0.mk H; clear H
  go_enter Tryz.func70, Tryz.ntmps70
  go_wp2
  go_loopg [6, 7] k (fun kq v6 v7 w' => ∃ (x0_1 : List Int) (x6_1 : Int) (x7_1 : Int), v6 = .int .u64 x6_1 ∧ v7 = .int .i64 x7_1 ∧ Aside0 (p_back.l0 kq x0_1 l1 a2 x6_1 x7_1 = some r) ∧ Aside0 (kq ≤ k) ∧ Aside0 (Kd.R (Kd.int .u64) 70 w' w0.heap.size (fun k_ => (P0_ k_ ∨ w.heap.size ≤ k_)) u9000_ x0_1) ∧ Aside0 (Kept w w' (fun k_ => P0_ k_)) ∧ Aside0 (Below w0.heap.size w0 w'))
  case atStart => exact ⟨(l0), (0), (0), sq, sq, H', ⟨Nat.le_refl _⟩, ⟨pl HO0.out⟩, ⟨kpq⟩, ⟨bq⟩⟩
  case round =>
    clear H'; (try clear c1); (try clear p2); obtain ⟨x0_1, x6_1, x7_1, rfl, rfl, HA, HK1, HO_0, HK, HB⟩ := hrel; cases gk with
    | zero => exact absurd HA.out (by simp [p_back.l0])
    | succ k1 =>
      have H := HA.out; clear HA; simp only [p_back.l0] at H
      by_cases c4 : x7_1 ≤ (l1.length : Int)
      · rw [if_pos c4] at H; have c4b0 : decide (x7_1 ≤ (l1.length : Int)) = true := decide_eq_true c4; clear c4; obtain ⟨ji5, hji5⟩ : ∃ j_ : Int, (wrap64 (a2 + x7_1)) = j_ := ⟨_, rfl⟩; first | rw [hji5] at H | simp only [hji5] at H
        have hji5w : (IntKind.i64.wrap (a2 + x7_1)) = ji5 := (i64_w _).trans hji5; by_cases c6 : 0 ≤ (ji5)
        · rw [if_pos c6] at H; have c6b0 : decide (0 ≤ (ji5)) = true := decide_eq_true c6; clear c6; by_cases c7 : (ji5) < (x0_1.length : Int)
          · rw [if_pos c7] at H; have c7b0 : decide ((ji5) < (x0_1.length : Int)) = true := decide_eq_true c7; clear c7; by_cases c8 : x7_1 < (l1.length : Int)
            · rw [if_pos c8] at H; have c8b0 : decide (x7_1 < (l1.length : Int)) = true := decide_eq_true c8; clear c8; by_cases c9 : 0 ≤ x7_1
              · rw [if_pos c9] at H; have c9b0 : decide (0 ≤ x7_1) = true := decide_eq_true c9; clear c9; obtain ⟨y140, hy140⟩ : ∃ y_ : List Int, y_ = (x0_1.set ((ji5) : Int).toNat (Int.tmod (IntKind.u64.wrap ((IntKind.u64.wrap (x6_1 + (rd x0_1 (ji5)))) + (rd l1 x7_1))) 1000000000)) := ⟨_, rfl⟩; first | rw [Option.bind_some, ← hy140] at H | rw [← hy140] at H | rw [Option.bind_some] at H | skip
                have Ny140 := Aside0.mk hy140; clear hy140; have H' := Aside0.mk H; clear H; obtain ⟨Ao11, co11, eo11⟩ := Kd.R_slice HO_0.out; subst eo11; have p138 : 0 ≤ ((ji5) : Int) := of_decide_eq_true as_; have q138 : (ji5) < (x0_1.length : Int) := of_decide_eq_true as_; obtain ⟨ad138, e138, hx138_0⟩ := Kd.at_int (Kd.R_reads' HO_0.out).2.2 (ji5) p138 q138; cases e138; replace p138 := eq_true p138; replace q138 := eq_true q138; have p139 : 0 ≤ (x7_1 : Int) := of_decide_eq_true as_; have q139 : x7_1 < (l1.length : Int) := of_decide_eq_true as_; obtain ⟨ad139, e139, hx139_0⟩ := Kd.at_int (Kd.C_kept_now HR1.out HK.out) x7_1 p139 q139; cases e139; replace p139 := eq_true p139; replace q139 := eq_true q139; have p10 : 0 ≤ ((ji5) : Int) := of_decide_eq_true as_; have q10 : ((ji5) : Int) < ((x0_1.length : Int) : Int) := of_decide_eq_true as_; obtain ⟨go10, co10, eo10, gb10, gl10, cl10, HG10⟩ := Kd.R_form HO_0.out (by omega)
                (first | cases eo10 | (injection eo10 with ea_ en_ ec_; (first | subst ea_ | (injection ea_ with ea_; subst ea_)); subst ec_; clear en_))
                have GB10 := Aside0.mk gb10; have GG10 := Aside0.mk HG10; clear gb10 gl10 HG10; have HMgo10 := Aside0.mk (show (P0_ go10 ∨ w.heap.size ≤ go10) from (HO_0.out.1 _ rfl))
                (first | simp only [add_plain] at hx138_0 | skip)
                obtain ⟨hx10_0, hf10_0⟩ := Kd.R_celln 0 HO_0.out ((ji5) : Int) p10 q10; replace p10 := eq_true p10; replace q10 := eq_true q10; have HP12 := Kd.R_putg HO_0.out ((ji5) : Int) (Int.tmod (IntKind.u64.wrap ((IntKind.u64.wrap (x6_1 + (rd x0_1 (ji5)))) + (rd l1 x7_1))) 1000000000)
                go_wp2_with (first | ((with_reducible refine gate_store (t := 70) (p := 38) rfl ?_); refine store_event (t := 70) (p := 38) (v := ?vo_w13) (w1 := (wr.setCell ⟨go10, ((ji5) : Int).toNat, none⟩ (.int .u64 (Int.tmod (IntKind.u64.wrap ((IntKind.u64.wrap (x6_1 + (rd x0_1 (ji5)))) + (rd l1 x7_1))) 1000000000)))) ?hg ?ho ?hn ?hr ?_; (case ho => rfl); (case hg => rfl); (case hn => rfl); (case hr => first | (go_simp; done) | (go_simp; rfl)); intro w13 hw; have hg : wr.grownBy w13 (some go10) := (by rw [hw]; exact HP12.2); have hp_ : Kd.R (Kd.int .u64) 70 w13 w0.heap.size (fun k_ => (P0_ k_ ∨ w.heap.size ≤ k_)) (.slice (some ⟨go10, 0, none⟩) x0_1.length co11) y140 := (by rw [hw, Ny140.out]; exact HP12.1); clear HP12; have n0_ := Aside0.mk (hp_); have n1_ := Aside0.mk ((by rw [hw]; exact below_set (HB.out) GB10.out : Below w0.heap.size w0 w13)); have n2_ := Aside0.mk (Kept.of_grown (S := (fun k_ => P0_ k_)) hg kpq (fun k_ e_ => (HO_0.out.1 k_ e_))); clear HO_0; clear HB; clear HK; have HO_0 := n0_; have HB := n1_; have HK := n2_; clear n0_ n1_ n2_; clear hg hw hp_))
                go_roundg k1
                case measure => have := HK1.out; omega
                case rel => exact ⟨(y140), (IntKind.u64.wrap (Int.tdiv (IntKind.u64.wrap ((IntKind.u64.wrap (x6_1 + (rd x0_1 (ji5)))) + (rd l1 x7_1))) 1000000000)), (wrap64 (x7_1 + 1)), (by first | rfl | (simp; done) | (simp only [← hji5] <;> (first | rfl | simp)) | (simp [*]; done)), sq, H', ⟨by have := HK1.out; omega⟩, ⟨pl HO_0.out⟩, ⟨kpq⟩, ⟨bq⟩⟩
              · rw [if_neg c9] at H; exact absurd H (by simp)
            · rw [if_neg c8] at H; have c8b0 : decide (x7_1 < (l1.length : Int)) = false := decide_eq_false c8; clear c8; obtain ⟨y141, hy141⟩ : ∃ y_ : List Int, y_ = (x0_1.set ((ji5) : Int).toNat (Int.tmod (IntKind.u64.wrap (x6_1 + (rd x0_1 (ji5)))) 1000000000)) := ⟨_, rfl⟩; first | rw [Option.bind_some, ← hy141] at H | rw [← hy141] at H | rw [Option.bind_some] at H | skip
              have Ny141 := Aside0.mk hy141; clear hy141; have H' := Aside0.mk H; clear H; obtain ⟨Ao15, co15, eo15⟩ := Kd.R_slice HO_0.out; subst eo15; have p138 : 0 ≤ ((ji5) : Int) := of_decide_eq_true as_; have q138 : (ji5) < (x0_1.length : Int) := of_decide_eq_true as_; obtain ⟨ad138, e138, hx138_0⟩ := Kd.at_int (Kd.R_reads' HO_0.out).2.2 (ji5) p138 q138; cases e138; replace p138 := eq_true p138; replace q138 := eq_true q138; have p14 : 0 ≤ ((ji5) : Int) := of_decide_eq_true as_; have q14 : ((ji5) : Int) < ((x0_1.length : Int) : Int) := of_decide_eq_true as_; obtain ⟨go14, co14, eo14, gb14, gl14, cl14, HG14⟩ := Kd.R_form HO_0.out (by omega)
              (first | cases eo14 | (injection eo14 with ea_ en_ ec_; (first | subst ea_ | (injection ea_ with ea_; subst ea_)); subst ec_; clear en_))
              have GB14 := Aside0.mk gb14; have GG14 := Aside0.mk HG14; clear gb14 gl14 HG14; have HMgo14 := Aside0.mk (show (P0_ go14 ∨ w.heap.size ≤ go14) from (HO_0.out.1 _ rfl))
              (first | simp only [add_plain] at hx138_0 | skip)
              obtain ⟨hx14_0, hf14_0⟩ := Kd.R_celln 0 HO_0.out ((ji5) : Int) p14 q14; replace p14 := eq_true p14; replace q14 := eq_true q14; have HP16 := Kd.R_putg HO_0.out ((ji5) : Int) (Int.tmod (IntKind.u64.wrap (x6_1 + (rd x0_1 (ji5)))) 1000000000)
              go_wp2_with (first | ((with_reducible refine gate_store (t := 70) (p := 38) rfl ?_); refine store_event (t := 70) (p := 38) (v := ?vo_w17) (w1 := (wr.setCell ⟨go14, ((ji5) : Int).toNat, none⟩ (.int .u64 (Int.tmod (IntKind.u64.wrap (x6_1 + (rd x0_1 (ji5)))) 1000000000)))) ?hg ?ho ?hn ?hr ?_; (case ho => rfl); (case hg => rfl); (case hn => rfl); (case hr => first | (go_simp; done) | (go_simp; rfl)); intro w17 hw; have hg : wr.grownBy w17 (some go14) := (by rw [hw]; exact HP16.2); have hp_ : Kd.R (Kd.int .u64) 70 w17 w0.heap.size (fun k_ => (P0_ k_ ∨ w.heap.size ≤ k_)) (.slice (some ⟨go14, 0, none⟩) x0_1.length co15) y141 := (by rw [hw, Ny141.out]; exact HP16.1); clear HP16; have n0_ := Aside0.mk (hp_); have n1_ := Aside0.mk ((by rw [hw]; exact below_set (HB.out) GB14.out : Below w0.heap.size w0 w17)); have n2_ := Aside0.mk (Kept.of_grown (S := (fun k_ => P0_ k_)) hg kpq (fun k_ e_ => (HO_0.out.1 k_ e_))); clear HO_0; clear HB; clear HK; have HO_0 := n0_; have HB := n1_; have HK := n2_; clear n0_ n1_ n2_; clear hg hw hp_))
              go_roundg k1
              case measure => have := HK1.out; omega
              case rel => exact ⟨(y141), (IntKind.u64.wrap (Int.tdiv (IntKind.u64.wrap (x6_1 + (rd x0_1 (ji5)))) 1000000000)), (wrap64 (x7_1 + 1)), (by first | rfl | (simp; done) | (simp only [← hji5] <;> (first | rfl | simp)) | (simp [*]; done)), sq, H', ⟨by have := HK1.out; omega⟩, ⟨pl HO_0.out⟩, ⟨kpq⟩, ⟨bq⟩⟩
          · rw [if_neg c7] at H; exact absurd H (by simp)
        · rw [if_neg c6] at H; exact absurd H (by simp)
      · rw [if_neg c4] at H; have c4b0 : decide (x7_1 ≤ (l1.length : Int)) = false := decide_eq_false c4; clear c4; obtain rfl := Option.some.inj H
        go_wp2
        first | go_end0 | ((try simp only [Exit.inBlock, Exit.then]); refine bodyPost_ret (results_none rfl _ _ _) rfl ?_)
        exact ⟨eq_, pl HO_0.out, bq, kpq⟩
def d_Add.f (k : Nat) (a0 : ByteArray) (a1 : ByteArray) : Option (ByteArray) := (d_both.f k a0 a1).bind fun bt142 => (if bt142.2.2 = true then ((decimal_Of.f (IntKind.u64.wrap (bt142.1 + bt142.2.1))).bind fun t145 => (some t145)) else ((d_cut.f k a0).bind fun t146 => ((d_cut.f k a1).bind fun t149 => (if (t146.length : Int) < (t149.length : Int) then (if t149.length < 17592186044416 then ((some (t149 ++ [0] : List Int)).bind fun y152 => (if 0 ≤ (wrap64 ((wrap64 ((y152.length : Int) - 1)) - (t146.length : Int))) then (if t146.length + (wrap64 ((wrap64 ((y152.length : Int) - 1)) - (t146.length : Int)) : Int).toNat < 17592186044416 then ((p_back.f k y152 (t146 ++ List.replicate (wrap64 ((wrap64 ((y152.length : Int) - 1)) - (t146.length : Int)) : Int).toNat 0) 0).bind fun t158 => ((p_trim.f k t158).bind fun t159 => ((p_text.f k t159).bind fun t162 => (some t162)))) else (none)) else (none))) else (none)) else (if t146.length < 17592186044416 then ((some (t146 ++ [0] : List Int)).bind fun y163 => (if 0 ≤ (wrap64 ((wrap64 ((y163.length : Int) - 1)) - (t149.length : Int))) then (if t149.length + (wrap64 ((wrap64 ((y163.length : Int) - 1)) - (t149.length : Int)) : Int).toNat < 17592186044416 then ((p_back.f k y163 (t149 ++ List.replicate (wrap64 ((wrap64 ((y163.length : Int) - 1)) - (t149.length : Int)) : Int).toNat 0) 0).bind fun t169 => ((p_trim.f k t169).bind fun t170 => ((p_text.f k t170).bind fun t173 => (some t173)))) else (none)) else (none))) else (none))))))
theorem d_Add.mono : ∀ a0 a1 k, LeO (d_Add.f k a0 a1) (d_Add.f (k + 1) a0 a1) := by
  intro a0 a1 k; unfold d_Add.f
  repeat' with_reducible first | apply d_both.mono | apply d_cut.mono | apply p_back.mono | apply p_text.mono | apply p_trim.mono | apply LeO.refl | apply LeO.none | refine LeO.ite ?_ ?_ | refine LeO.bind ?_ (fun _ => ?_)
set_option maxHeartbeats 8000000 in
set_option maxRecDepth 100000 in
theorem d_Add.calls (k : Nat) (a0 : ByteArray) (a1 : ByteArray) (r : ByteArray) (w : World) (hT : Tab w) (h : d_Add.f k a0 a1 = some r) :
    Calls Tryz.prog 42 #[.string a0, .string a1] w fun e w' => e = .returned (.string r) ∧ Below w.heap.size w w' := by
  have HT := Aside0.mk hT; clear hT; have HB := Aside0.mk (Below.refl w.heap.size w); have H : ((d_both.f k a0 a1).bind fun bt142 => (if bt142.2.2 = true then ((decimal_Of.f (IntKind.u64.wrap (bt142.1 + bt142.2.1))).bind fun t145 => (some t145)) else ((d_cut.f k a0).bind fun t146 => ((d_cut.f k a1).bind fun t149 => (if (t146.length : Int) < (t149.length : Int) then (if t149.length < 17592186044416 then ((some (t149 ++ [0] : List Int)).bind fun y152 => (if 0 ≤ (wrap64 ((wrap64 ((y152.length : Int) - 1)) - (t146.length : Int))) then (if t146.length + (wrap64 ((wrap64 ((y152.length : Int) - 1)) - (t146.length : Int)) : Int).toNat < 17592186044416 then ((p_back.f k y152 (t146 ++ List.replicate (wrap64 ((wrap64 ((y152.length : Int) - 1)) - (t146.length : Int)) : Int).toNat 0) 0).bind fun t158 => ((p_trim.f k t158).bind fun t159 => ((p_text.f k t159).bind fun t162 => (some t162)))) else (none)) else (none))) else (none)) else (if t146.length < 17592186044416 then ((some (t146 ++ [0] : List Int)).bind fun y163 => (if 0 ≤ (wrap64 ((wrap64 ((y163.length : Int) - 1)) - (t149.length : Int))) then (if t149.length + (wrap64 ((wrap64 ((y163.length : Int) - 1)) - (t149.length : Int)) : Int).toNat < 17592186044416 then ((p_back.f k y163 (t149 ++ List.replicate (wrap64 ((wrap64 ((y163.length : Int) - 1)) - (t149.length : Int)) : Int).toNat 0) 0).bind fun t169 => ((p_trim.f k t169).bind fun t170 => ((p_text.f k t170).bind fun t173 => (some t173)))) else (none)) else (none))) else (none))))))) = some r := h
  clear h; replace H := Option.bind_eq_some_iff.mp H; obtain ⟨⟨t142, t143, t144⟩, A30, H⟩ := H; have A3 := Aside0.mk A30; clear A30; by_cases c4 : t144 = true
  · subst c4; have H1 : ((decimal_Of.f (IntKind.u64.wrap (t142 + t143))).bind fun t145 => (some t145)) = some r := by rw [if_pos rfl] at H; exact H
    clear H; have H := H1; clear H1; replace H := Option.bind_eq_some_iff.mp H; obtain ⟨t145, A50, H⟩ := H; have A5 := Aside0.mk A50; clear A50; obtain rfl := Option.some.inj H
    go_enter Tryz.func42, Tryz.ntmps42
    go_wp2_with (first | ((with_reducible refine gate_callee (f := 68) rfl ?_); refine goesL_ (some 13) rfl rfl Tryz.func68 (by kernel_rfl) rfl #[.string a0, .string a1] rfl mq ?_; (with_reducible refine (d_both.calls (hT := HT.out.below bq) k a0 a1 t142 t143 true _ A3.out).mono ?_); rintro e w6 ⟨rfl, hb⟩; refine ⟨_, rfl, ?_⟩; replace HB := Aside0.mk (below_step bq hb); (try clear hb); (try clear hb2); (try clear hk); (try clear hi)) | ((with_reducible refine gate_callee (f := 69) rfl ?_); refine goesL_ (some 21) rfl rfl Tryz.func69 (by kernel_rfl) rfl #[.int .u64 (IntKind.u64.wrap (t142 + t143))] rfl mq ?_; (with_reducible refine (decimal_Of.calls (hT := HT.out.below bq) (IntKind.u64.wrap (t142 + t143)) t145 _ A5.out).mono ?_); rintro e w7 ⟨rfl, hb⟩; refine ⟨_, rfl, ?_⟩; replace HB := Aside0.mk (below_step bq hb); (try clear hb); (try clear hb2); (try clear hk); (try clear hi)))
    go_ret
    exact ⟨eq_, bq⟩
  · replace c4 := Bool.eq_false_iff.mpr c4; subst c4; have H1 : ((d_cut.f k a0).bind fun t146 => ((d_cut.f k a1).bind fun t149 => (if (t146.length : Int) < (t149.length : Int) then (if t149.length < 17592186044416 then ((some (t149 ++ [0] : List Int)).bind fun y152 => (if 0 ≤ (wrap64 ((wrap64 ((y152.length : Int) - 1)) - (t146.length : Int))) then (if t146.length + (wrap64 ((wrap64 ((y152.length : Int) - 1)) - (t146.length : Int)) : Int).toNat < 17592186044416 then ((p_back.f k y152 (t146 ++ List.replicate (wrap64 ((wrap64 ((y152.length : Int) - 1)) - (t146.length : Int)) : Int).toNat 0) 0).bind fun t158 => ((p_trim.f k t158).bind fun t159 => ((p_text.f k t159).bind fun t162 => (some t162)))) else (none)) else (none))) else (none)) else (if t146.length < 17592186044416 then ((some (t146 ++ [0] : List Int)).bind fun y163 => (if 0 ≤ (wrap64 ((wrap64 ((y163.length : Int) - 1)) - (t149.length : Int))) then (if t149.length + (wrap64 ((wrap64 ((y163.length : Int) - 1)) - (t149.length : Int)) : Int).toNat < 17592186044416 then ((p_back.f k y163 (t149 ++ List.replicate (wrap64 ((wrap64 ((y163.length : Int) - 1)) - (t149.length : Int)) : Int).toNat 0) 0).bind fun t169 => ((p_trim.f k t169).bind fun t170 => ((p_text.f k t170).bind fun t173 => (some t173)))) else (none)) else (none))) else (none))))) = some r := by rw [if_neg (show ¬ (false = true) by decide)] at H; exact H
    clear H; have H := H1; clear H1; replace H := Option.bind_eq_some_iff.mp H; obtain ⟨t146, A80, H⟩ := H; have A8 := Aside0.mk A80; clear A80; replace H := Option.bind_eq_some_iff.mp H; obtain ⟨t149, A90, H⟩ := H; have A9 := Aside0.mk A90; clear A90; by_cases c10 : (t146.length : Int) < (t149.length : Int)
    · rw [if_pos c10] at H; have c10b0 : decide ((t146.length : Int) < (t149.length : Int)) = true := decide_eq_true c10; have c10b1 : decide (t146.length < t149.length) = true := decide_eq_true (Int.ofNat_lt.mp c10); clear c10; by_cases c11 : t149.length < 17592186044416
      · rw [if_pos c11] at H; have LMc11 := Aside0.mk c11; clear c11; obtain ⟨y152, hy152⟩ : ∃ y_ : List Int, y_ = (t149 ++ [0]) := ⟨_, rfl⟩; first | rw [Option.bind_some, ← hy152] at H | rw [← hy152] at H | rw [Option.bind_some] at H | skip
        have Ny152 := Aside0.mk hy152; clear hy152; obtain ⟨ji12, hji12⟩ : ∃ j_ : Int, (wrap64 ((wrap64 ((y152.length : Int) - 1)) - (t146.length : Int))) = j_ := ⟨_, rfl⟩; first | rw [hji12] at H | simp only [hji12] at H
        (try rw [hji12] at A3)
        (try rw [hji12] at A8)
        (try rw [hji12] at A9)
        have hji12w : (IntKind.i64.wrap ((wrap64 ((y152.length : Int) - 1)) - (t146.length : Int))) = ji12 := (i64_w _).trans hji12; by_cases c13 : 0 ≤ (ji12)
        · rw [if_pos c13] at H; have c13b0 := eq_true c13; have c13b1 : decide (0 ≤ (ji12)) = true := decide_eq_true c13; clear c13; by_cases c14 : t146.length + (ji12 : Int).toNat < 17592186044416
          · rw [if_pos c14] at H; have LMc14 := Aside0.mk c14; clear c14; obtain ⟨y155, hy155⟩ : ∃ y_ : List Int, y_ = (t146 ++ List.replicate (ji12 : Int).toNat 0) := ⟨_, rfl⟩; first | rw [Option.bind_some, ← hy155] at H | rw [← hy155] at H | rw [Option.bind_some] at H | skip
            have Ny155 := Aside0.mk hy155; clear hy155; replace H := Option.bind_eq_some_iff.mp H; obtain ⟨t158, A150, H⟩ := H; have A15 := Aside0.mk A150; clear A150; replace H := Option.bind_eq_some_iff.mp H; obtain ⟨t159, A160, H⟩ := H; have A16 := Aside0.mk A160; clear A160; replace H := Option.bind_eq_some_iff.mp H; obtain ⟨t162, A170, H⟩ := H; have A17 := Aside0.mk A170; clear A170; obtain rfl := Option.some.inj H
            go_enter Tryz.func42, Tryz.ntmps42
            go_wp2_with (first | ((with_reducible refine gate_callee (f := 68) rfl ?_); refine goesL_ (some 13) rfl rfl Tryz.func68 (by kernel_rfl) rfl #[.string a0, .string a1] rfl mq ?_; (with_reducible refine (d_both.calls (hT := HT.out.below bq) k a0 a1 t142 t143 false _ A3.out).mono ?_); rintro e w18 ⟨rfl, hb⟩; refine ⟨_, rfl, ?_⟩; replace HB := Aside0.mk (below_step bq hb); (try clear hb); (try clear hb2); (try clear hk); (try clear hi)) | ((with_reducible refine gate_callee (f := 60) rfl ?_); refine goesL_ (some 23) rfl rfl Tryz.func60 (by kernel_rfl) rfl #[.string a0] rfl mq ?_; (with_reducible refine (d_cut.calls k a0 t146 _ A8.out).mono ?_); rintro e w19 ⟨v147, rfl, ho0, hb⟩; refine ⟨_, rfl, ?_⟩; have n0_ := Aside0.mk (Kd.R_lower ho0 (below_size bq)); have n1_ := Aside0.mk (below_step bq hb); clear HB; have HO148 := n0_; have HB := n1_; clear n0_ n1_; (try clear hb); (try clear hb2); (try clear hk); (try clear hi); (try clear ho0)) | ((with_reducible refine gate_callee (f := 60) rfl ?_); refine goesL_ (some 25) rfl rfl Tryz.func60 (by kernel_rfl) rfl #[.string a1] rfl mq ?_; (with_reducible refine (d_cut.calls k a1 t149 _ A9.out).mono ?_); rintro e w20 ⟨v150, rfl, ho0, hb⟩; refine ⟨_, rfl, ?_⟩; have n0_ := Aside0.mk (Kd.R_elder' (pl HO148.out) (Kd.R_base ho0) hb); have n1_ := Aside0.mk (Kd.R_lower (Kd.R_new' ho0 (Kd.R_lt (pl HO148.out))) (below_size bq)); have n2_ := Aside0.mk (below_step bq hb); clear HO148; clear HB; have HO148 := n0_; have HO151 := n1_; have HB := n2_; clear n0_ n1_ n2_; (try clear hb); (try clear hb2); (try clear hk); (try clear hi); (try clear ho0); obtain ⟨Ao21, co21, eo21⟩ := Kd.R_slice HO148.out; subst eo21; obtain ⟨Ao22, co22, eo22⟩ := Kd.R_slice HO151.out; subst eo22) | ((with_reducible refine gate_builtin (b := .append) (xs := #[.tmp 33, .tmp 34]) rfl ?_); at_builtin; refine Kd.R_append (Kd.int .u64) (w0 := w) w.heap.size rfl (.tmp 33) (.tmp 34) 72 70 (.int .u64 0) 8 rfl Tryz.underlying72 info70 rfl (by decide) (by omega) (.slice Ao22 t149.length co22) t149 0 [.int .u64 0] (fun k_ => some k_ ≠ (.slice Ao21 t146.length co21 : Value).ownBlock) (fun _ => False) rfl rfl ?aP (fun _ hk => hk.elim) ?aF ?aO ?aB ?aS ?aL ?_; (case aP => exact rfl); (case aB => exact bq); (case aF => exact (fun k_ hk => Kd.fresh' (Kd.R_lt (pl HO148.out)) k_ hk)); (case aO => exact (pl (Kd.R_mono HO151.out (fun _ hk => hk.2)))); (case aS => exact (below_size bq)); (case aL => have := LMc11.out; omega); intro v153 w23 ho hb hg hat; rw [← Ny152.out] at ho; have n0_ := Aside0.mk (Kd.R_after (ok := (fun _ => True)) (pl HO148.out) hg hat); have n1_ := Aside0.mk (hb); have n2_ := Aside0.mk (ho); clear HO148; clear HB; clear HO151; have HO148 := n0_; have HB := n1_; have HO154 := n2_; clear n0_ n1_ n2_; clear ho hb hg hat; obtain ⟨Ao24, co24, eo24⟩ := Kd.R_slice HO154.out; subst eo24) | (at_builtin; refine Kd.R_append_zeros (Kd.int .u64) (w0 := w) w.heap.size rfl (.tmp 37) (.tmp 43) 72 3 70 (.int .u64 0) 8 rfl Tryz.underlying72 Tryz.underlying3 info70 rfl (by decide) (by omega) (.slice Ao21 t146.length co21) t146 0 (ji12 : Int) (fun k_ => some k_ ≠ (.slice Ao24 y152.length co24 : Value).ownBlock) rfl rfl rfl ?aF ?aO (of_decide_eq_true as_) ?aB ?aS ?aL ?_; (case aB => exact bq); (case aF => exact (fun k_ hk => Kd.fresh' (Kd.R_lt (pl HO154.out)) k_ hk)); (case aO => exact (pl (Kd.R_mono HO148.out (fun _ hk => hk.2)))); (case aS => exact (below_size bq)); (case aL => have := LMc14.out; omega); intro v156 w25 ho hb hg hat; rw [← Ny155.out] at ho; have n0_ := Aside0.mk (Kd.R_after (ok := (fun _ => True)) (by (with_reducible repeat (first | apply Kd.R_alloc | apply Kd.R_drewN | apply Kd.R_drew)); exact Kd.R_mono HO154.out (fun _ hk => ⟨trivial, hk⟩)) hg hat); have n1_ := Aside0.mk (hb); have n2_ := Aside0.mk (ho); clear HO154; clear HB; clear HO148; have HO154 := n0_; have HB := n1_; have HO157 := n2_; clear n0_ n1_ n2_; clear ho hb hg hat; obtain ⟨Ao26, co26, eo26⟩ := Kd.R_slice HO157.out; subst eo26) | ((with_reducible refine gate_callee (f := 70) rfl ?_); refine goesL_ (some 45) rfl rfl Tryz.func70 (by kernel_rfl) rfl #[.slice Ao24 y152.length co24, .slice Ao26 y155.length co26, .int .i64 0] rfl mq ?_; (with_reducible refine (p_back.calls k (fun k_ => some k_ = (.slice Ao24 y152.length co24 : Value).ownBlock) (.slice Ao24 y152.length co24) y152 _ _ y155 0 t158 w _ ?side1 ?side2 ?side3 ?side4 A15.out).mono ?_); (case side1 => exact bq); (case side2 => exact Kd.R_tight rfl HO154.out); (case side3 => exact Kd.C_kept_own (HO157.out) (fun k_ hk_ hs_ => (hk_) hs_)); (case side4 => exact (Kd.R_reads' HO157.out).2.1); rintro e w27 ⟨rfl, hy0, hb, hkp⟩; refine ⟨_, rfl, ?_⟩; have n0_ := Aside0.mk (Kd.R_reok rfl hy0 (fun k_ e_ => HO154.out.1 k_ e_)); have n1_ := Aside0.mk (Kd.R_mono (ok' := fun k_ => some k_ ≠ (.slice Ao24 y152.length co24 : Value).ownBlock) (Kd.R_keptB (HO157.out) hkp (fun k_ hk_ hs_ => (hk_) hs_)) (fun k_ hk_ => hk_.1)); have n2_ := Aside0.mk (hb); clear HO154; clear HO157; clear HB; have HO154 := n0_; have HO157 := n1_; have HB := n2_; clear n0_ n1_ n2_; (try clear hb); (try clear hkp); (try clear hy0)) | ((with_reducible refine gate_callee (f := 71) rfl ?_); refine goesL_ (some 47) rfl rfl Tryz.func71 (by kernel_rfl) rfl #[.slice Ao24 y152.length co24] rfl mq ?_; (with_reducible refine (p_trim.calls k (fun k_ => some k_ = (.slice Ao24 y152.length co24 : Value).ownBlock) (.slice Ao24 y152.length co24) t158 t159 w _ ?side1 ?side2 A16.out).mono ?_); (case side1 => exact bq); (case side2 => exact Kd.R_tight rfl HO154.out); rintro e w28 ⟨v160, rfl, ho0, hb, hkp⟩; refine ⟨_, rfl, ?_⟩; have n0_ := Aside0.mk (Kd.R_mono (ok' := fun k_ => some k_ ≠ (v160 : Value).ownBlock) (Kd.R_keptB (HO157.out) hkp (fun k_ hk_ hs_ => (hk_) hs_)) (fun k_ hk_ => fun e_ => Or.elim (ho0.1 k_ e_.symm) (fun hs_ => hk_.2.1 hs_) (fun hn_ => Nat.not_le.2 hk_.2.2 hn_))); have n1_ := Aside0.mk (Kd.R_mono (ok' := fun k_ => some k_ ≠ (.slice Ao26 y155.length co26 : Value).ownBlock) ho0 (fun k_ hk_ => Or.elim hk_ (fun hs_ => fun e_ => (((HO157.out).1 k_ e_.symm)) hs_) (fun hn_ => (Kd.fresh' (Kd.R_lt (pl HO157.out)) k_ hn_)))); have n2_ := Aside0.mk (hb); clear HO157; clear HB; clear HO154; have HO157 := n0_; have HO161 := n1_; have HB := n2_; clear n0_ n1_ n2_; (try clear hb); (try clear hkp); (try clear ho0); obtain ⟨Ao29, co29, eo29⟩ := Kd.R_slice HO161.out; subst eo29) | ((with_reducible refine gate_callee (f := 62) rfl ?_); refine goesL_ (some 48) rfl rfl Tryz.func62 (by kernel_rfl) rfl #[.slice Ao29 t159.length co29] rfl mq ?_; (with_reducible refine (p_text.calls k _ _ t159 t162 _ ?side1 ?side2 A17.out).mono ?_); (case side1 => exact cq ((Kd.R_reads' HO161.out).2.2)); (case side2 => exact (Kd.R_reads' HO161.out).2.1); rintro e w30 ⟨rfl, hb⟩; refine ⟨_, rfl, ?_⟩; have n0_ := Aside0.mk (Kd.R_below (pl HO157.out) hb); have n1_ := Aside0.mk (Kd.R_below (pl HO161.out) hb); have n2_ := Aside0.mk (below_step bq hb); clear HO157; clear HO161; clear HB; have HO157 := n0_; have HO161 := n1_; have HB := n2_; clear n0_ n1_ n2_; (try clear hb); (try clear hb2); (try clear hk); (try clear hi)))
            go_ret
            exact ⟨by first | rfl | (simp [errW_none, errW_some] <;> rfl) | (simp only [← hji12]; first | rfl | (simp [errW_none, errW_some] <;> rfl)) | (simp [*, errW_none, errW_some] <;> rfl), bq⟩
          · rw [if_neg c14] at H; exact absurd H (by simp)
        · rw [if_neg c13] at H; exact absurd H (by simp)
      · rw [if_neg c11] at H; exact absurd H (by simp)
    · rw [if_neg c10] at H; have c10b0 : decide ((t146.length : Int) < (t149.length : Int)) = false := decide_eq_false c10; have c10b1 : decide (t146.length < t149.length) = false := decide_eq_false (fun h => c10 (Int.ofNat_lt.mpr h))
      clear c10; by_cases c31 : t146.length < 17592186044416
      · rw [if_pos c31] at H; have LMc31 := Aside0.mk c31; clear c31; obtain ⟨y163, hy163⟩ : ∃ y_ : List Int, y_ = (t146 ++ [0]) := ⟨_, rfl⟩; first | rw [Option.bind_some, ← hy163] at H | rw [← hy163] at H | rw [Option.bind_some] at H | skip
        have Ny163 := Aside0.mk hy163; clear hy163; obtain ⟨ji32, hji32⟩ : ∃ j_ : Int, (wrap64 ((wrap64 ((y163.length : Int) - 1)) - (t149.length : Int))) = j_ := ⟨_, rfl⟩; first | rw [hji32] at H | simp only [hji32] at H
        (try rw [hji32] at A3)
        (try rw [hji32] at A8)
        (try rw [hji32] at A9)
        have hji32w : (IntKind.i64.wrap ((wrap64 ((y163.length : Int) - 1)) - (t149.length : Int))) = ji32 := (i64_w _).trans hji32; by_cases c33 : 0 ≤ (ji32)
        · rw [if_pos c33] at H; have c33b0 := eq_true c33; have c33b1 : decide (0 ≤ (ji32)) = true := decide_eq_true c33; clear c33; by_cases c34 : t149.length + (ji32 : Int).toNat < 17592186044416
          · rw [if_pos c34] at H; have LMc34 := Aside0.mk c34; clear c34; obtain ⟨y166, hy166⟩ : ∃ y_ : List Int, y_ = (t149 ++ List.replicate (ji32 : Int).toNat 0) := ⟨_, rfl⟩; first | rw [Option.bind_some, ← hy166] at H | rw [← hy166] at H | rw [Option.bind_some] at H | skip
            have Ny166 := Aside0.mk hy166; clear hy166; replace H := Option.bind_eq_some_iff.mp H; obtain ⟨t169, A350, H⟩ := H; have A35 := Aside0.mk A350; clear A350; replace H := Option.bind_eq_some_iff.mp H; obtain ⟨t170, A360, H⟩ := H; have A36 := Aside0.mk A360; clear A360; replace H := Option.bind_eq_some_iff.mp H; obtain ⟨t173, A370, H⟩ := H; have A37 := Aside0.mk A370; clear A370; obtain rfl := Option.some.inj H
            go_enter Tryz.func42, Tryz.ntmps42
            go_wp2_with (first | ((with_reducible refine gate_callee (f := 68) rfl ?_); refine goesL_ (some 13) rfl rfl Tryz.func68 (by kernel_rfl) rfl #[.string a0, .string a1] rfl mq ?_; (with_reducible refine (d_both.calls (hT := HT.out.below bq) k a0 a1 t142 t143 false _ A3.out).mono ?_); rintro e w38 ⟨rfl, hb⟩; refine ⟨_, rfl, ?_⟩; replace HB := Aside0.mk (below_step bq hb); (try clear hb); (try clear hb2); (try clear hk); (try clear hi)) | ((with_reducible refine gate_callee (f := 60) rfl ?_); refine goesL_ (some 23) rfl rfl Tryz.func60 (by kernel_rfl) rfl #[.string a0] rfl mq ?_; (with_reducible refine (d_cut.calls k a0 t146 _ A8.out).mono ?_); rintro e w39 ⟨v147, rfl, ho0, hb⟩; refine ⟨_, rfl, ?_⟩; have n0_ := Aside0.mk (Kd.R_lower ho0 (below_size bq)); have n1_ := Aside0.mk (below_step bq hb); clear HB; have HO148 := n0_; have HB := n1_; clear n0_ n1_; (try clear hb); (try clear hb2); (try clear hk); (try clear hi); (try clear ho0)) | ((with_reducible refine gate_callee (f := 60) rfl ?_); refine goesL_ (some 25) rfl rfl Tryz.func60 (by kernel_rfl) rfl #[.string a1] rfl mq ?_; (with_reducible refine (d_cut.calls k a1 t149 _ A9.out).mono ?_); rintro e w40 ⟨v150, rfl, ho0, hb⟩; refine ⟨_, rfl, ?_⟩; have n0_ := Aside0.mk (Kd.R_elder' (pl HO148.out) (Kd.R_base ho0) hb); have n1_ := Aside0.mk (Kd.R_lower (Kd.R_new' ho0 (Kd.R_lt (pl HO148.out))) (below_size bq)); have n2_ := Aside0.mk (below_step bq hb); clear HO148; clear HB; have HO148 := n0_; have HO151 := n1_; have HB := n2_; clear n0_ n1_ n2_; (try clear hb); (try clear hb2); (try clear hk); (try clear hi); (try clear ho0); obtain ⟨Ao41, co41, eo41⟩ := Kd.R_slice HO148.out; subst eo41; obtain ⟨Ao42, co42, eo42⟩ := Kd.R_slice HO151.out; subst eo42) | ((with_reducible refine gate_builtin (b := .append) (xs := #[.tmp 33, .tmp 34]) rfl ?_); at_builtin; refine Kd.R_append (Kd.int .u64) (w0 := w) w.heap.size rfl (.tmp 33) (.tmp 34) 72 70 (.int .u64 0) 8 rfl Tryz.underlying72 info70 rfl (by decide) (by omega) (.slice Ao41 t146.length co41) t146 0 [.int .u64 0] (fun k_ => some k_ ≠ (.slice Ao42 t149.length co42 : Value).ownBlock) (fun _ => False) rfl rfl ?aP (fun _ hk => hk.elim) ?aF ?aO ?aB ?aS ?aL ?_; (case aP => exact rfl); (case aB => exact bq); (case aF => exact (fun k_ hk => Kd.fresh' (Kd.R_lt (pl HO151.out)) k_ hk)); (case aO => exact (pl (Kd.R_mono HO148.out (fun _ hk => hk.2)))); (case aS => exact (below_size bq)); (case aL => have := LMc31.out; omega); intro v164 w43 ho hb hg hat; rw [← Ny163.out] at ho; have n0_ := Aside0.mk (Kd.R_after (ok := (fun _ => True)) (pl HO151.out) hg hat); have n1_ := Aside0.mk (hb); have n2_ := Aside0.mk (ho); clear HO151; clear HB; clear HO148; have HO151 := n0_; have HB := n1_; have HO165 := n2_; clear n0_ n1_ n2_; clear ho hb hg hat; obtain ⟨Ao44, co44, eo44⟩ := Kd.R_slice HO165.out; subst eo44) | (at_builtin; refine Kd.R_append_zeros (Kd.int .u64) (w0 := w) w.heap.size rfl (.tmp 37) (.tmp 43) 72 3 70 (.int .u64 0) 8 rfl Tryz.underlying72 Tryz.underlying3 info70 rfl (by decide) (by omega) (.slice Ao42 t149.length co42) t149 0 (ji32 : Int) (fun k_ => some k_ ≠ (.slice Ao44 y163.length co44 : Value).ownBlock) rfl rfl rfl ?aF ?aO (of_decide_eq_true as_) ?aB ?aS ?aL ?_; (case aB => exact bq); (case aF => exact (fun k_ hk => Kd.fresh' (Kd.R_lt (pl HO165.out)) k_ hk)); (case aO => exact (pl (Kd.R_mono HO151.out (fun _ hk => hk.2)))); (case aS => exact (below_size bq)); (case aL => have := LMc34.out; omega); intro v167 w45 ho hb hg hat; rw [← Ny166.out] at ho; have n0_ := Aside0.mk (Kd.R_after (ok := (fun _ => True)) (by (with_reducible repeat (first | apply Kd.R_alloc | apply Kd.R_drewN | apply Kd.R_drew)); exact Kd.R_mono HO165.out (fun _ hk => ⟨trivial, hk⟩)) hg hat); have n1_ := Aside0.mk (hb); have n2_ := Aside0.mk (ho); clear HO165; clear HB; clear HO151; have HO165 := n0_; have HB := n1_; have HO168 := n2_; clear n0_ n1_ n2_; clear ho hb hg hat; obtain ⟨Ao46, co46, eo46⟩ := Kd.R_slice HO168.out; subst eo46) | ((with_reducible refine gate_callee (f := 70) rfl ?_); refine goesL_ (some 45) rfl rfl Tryz.func70 (by kernel_rfl) rfl #[.slice Ao44 y163.length co44, .slice Ao46 y166.length co46, .int .i64 0] rfl mq ?_; (with_reducible refine (p_back.calls k (fun k_ => some k_ = (.slice Ao44 y163.length co44 : Value).ownBlock) (.slice Ao44 y163.length co44) y163 _ _ y166 0 t169 w _ ?side1 ?side2 ?side3 ?side4 A35.out).mono ?_); (case side1 => exact bq); (case side2 => exact Kd.R_tight rfl HO165.out); (case side3 => exact Kd.C_kept_own (HO168.out) (fun k_ hk_ hs_ => (hk_) hs_)); (case side4 => exact (Kd.R_reads' HO168.out).2.1); rintro e w47 ⟨rfl, hy0, hb, hkp⟩; refine ⟨_, rfl, ?_⟩; have n0_ := Aside0.mk (Kd.R_reok rfl hy0 (fun k_ e_ => HO165.out.1 k_ e_)); have n1_ := Aside0.mk (Kd.R_mono (ok' := fun k_ => some k_ ≠ (.slice Ao44 y163.length co44 : Value).ownBlock) (Kd.R_keptB (HO168.out) hkp (fun k_ hk_ hs_ => (hk_) hs_)) (fun k_ hk_ => hk_.1)); have n2_ := Aside0.mk (hb); clear HO165; clear HO168; clear HB; have HO165 := n0_; have HO168 := n1_; have HB := n2_; clear n0_ n1_ n2_; (try clear hb); (try clear hkp); (try clear hy0)) | ((with_reducible refine gate_callee (f := 71) rfl ?_); refine goesL_ (some 47) rfl rfl Tryz.func71 (by kernel_rfl) rfl #[.slice Ao44 y163.length co44] rfl mq ?_; (with_reducible refine (p_trim.calls k (fun k_ => some k_ = (.slice Ao44 y163.length co44 : Value).ownBlock) (.slice Ao44 y163.length co44) t169 t170 w _ ?side1 ?side2 A36.out).mono ?_); (case side1 => exact bq); (case side2 => exact Kd.R_tight rfl HO165.out); rintro e w48 ⟨v171, rfl, ho0, hb, hkp⟩; refine ⟨_, rfl, ?_⟩; have n0_ := Aside0.mk (Kd.R_mono (ok' := fun k_ => some k_ ≠ (v171 : Value).ownBlock) (Kd.R_keptB (HO168.out) hkp (fun k_ hk_ hs_ => (hk_) hs_)) (fun k_ hk_ => fun e_ => Or.elim (ho0.1 k_ e_.symm) (fun hs_ => hk_.2.1 hs_) (fun hn_ => Nat.not_le.2 hk_.2.2 hn_))); have n1_ := Aside0.mk (Kd.R_mono (ok' := fun k_ => some k_ ≠ (.slice Ao46 y166.length co46 : Value).ownBlock) ho0 (fun k_ hk_ => Or.elim hk_ (fun hs_ => fun e_ => (((HO168.out).1 k_ e_.symm)) hs_) (fun hn_ => (Kd.fresh' (Kd.R_lt (pl HO168.out)) k_ hn_)))); have n2_ := Aside0.mk (hb); clear HO168; clear HB; clear HO165; have HO168 := n0_; have HO172 := n1_; have HB := n2_; clear n0_ n1_ n2_; (try clear hb); (try clear hkp); (try clear ho0); obtain ⟨Ao49, co49, eo49⟩ := Kd.R_slice HO172.out; subst eo49) | ((with_reducible refine gate_callee (f := 62) rfl ?_); refine goesL_ (some 48) rfl rfl Tryz.func62 (by kernel_rfl) rfl #[.slice Ao49 t170.length co49] rfl mq ?_; (with_reducible refine (p_text.calls k _ _ t170 t173 _ ?side1 ?side2 A37.out).mono ?_); (case side1 => exact cq ((Kd.R_reads' HO172.out).2.2)); (case side2 => exact (Kd.R_reads' HO172.out).2.1); rintro e w50 ⟨rfl, hb⟩; refine ⟨_, rfl, ?_⟩; have n0_ := Aside0.mk (Kd.R_below (pl HO168.out) hb); have n1_ := Aside0.mk (Kd.R_below (pl HO172.out) hb); have n2_ := Aside0.mk (below_step bq hb); clear HO168; clear HO172; clear HB; have HO168 := n0_; have HO172 := n1_; have HB := n2_; clear n0_ n1_ n2_; (try clear hb); (try clear hb2); (try clear hk); (try clear hi)))
            go_ret
            exact ⟨by first | rfl | (simp [errW_none, errW_some] <;> rfl) | (simp only [← hji32]; first | rfl | (simp [errW_none, errW_some] <;> rfl)) | (simp [*, errW_none, errW_some] <;> rfl), bq⟩
          · rw [if_neg c34] at H; exact absurd H (by simp)
        · rw [if_neg c33] at H; exact absurd H (by simp)
      · rw [if_neg c31] at H; exact absurd H (by simp)
def d_Compare.f (a0 : ByteArray) (a1 : ByteArray) : Option (Int) := if (a0.size : Int) = (a1.size : Int) then (if (Op.bytesLess a0.toList a1.toList) = true then (some (-1)) else (if (Op.bytesLess a1.toList a0.toList) = true then (some 1) else (some 0))) else (some (mn 1 (mx (-1) (wrap64 ((a0.size : Int) - (a1.size : Int))))))
set_option maxHeartbeats 8000000 in
set_option maxRecDepth 100000 in
theorem d_Compare.calls (a0 : ByteArray) (a1 : ByteArray) (r : Int) (w : World) (h : d_Compare.f a0 a1 = some r) :
    Calls Tryz.prog 43 #[.string a0, .string a1] w fun e w' => e = .returned (.int .i64 r) ∧ Below w.heap.size w w' := by
  have HB := Aside0.mk (Below.refl w.heap.size w); have H : (if (a0.size : Int) = (a1.size : Int) then (if (Op.bytesLess a0.toList a1.toList) = true then (some (-1)) else (if (Op.bytesLess a1.toList a0.toList) = true then (some 1) else (some 0))) else (some (mn 1 (mx (-1) (wrap64 ((a0.size : Int) - (a1.size : Int))))))) = some r := h
  clear h; by_cases c3 : (a0.size : Int) = (a1.size : Int)
  · rw [if_pos c3] at H; have c3b0 : ((a0.size : Int) == (a1.size : Int)) = true := beq_iff_eq.mpr c3; have c3b1 : ((a0.size : Int) != (a1.size : Int)) = false := bne_eq_false_iff_eq.mpr c3; have c3b2 : (a0.size == a1.size) = true := by first | simpa using c3 | (simp at c3 ⊢; omega)
    clear c3; by_cases c4 : (Op.bytesLess a0.toList a1.toList) = true
    · rw [if_pos c4] at H; have c4b0 : (Op.bytesLess a0.toList a1.toList) = true := c4; clear c4; obtain rfl := Option.some.inj H
      go_enter Tryz.func43, Tryz.ntmps43
      go_wp2
      go_ret
      exact ⟨eq_, bq⟩
    · rw [if_neg c4] at H; have c4b0 : (Op.bytesLess a0.toList a1.toList) = false := by simpa using c4
      clear c4; by_cases c5 : (Op.bytesLess a1.toList a0.toList) = true
      · rw [if_pos c5] at H; have c5b0 : (Op.bytesLess a1.toList a0.toList) = true := c5; clear c5; obtain rfl := Option.some.inj H
        go_enter Tryz.func43, Tryz.ntmps43
        go_wp2
        go_ret
        exact ⟨eq_, bq⟩
      · rw [if_neg c5] at H; have c5b0 : (Op.bytesLess a1.toList a0.toList) = false := by simpa using c5
        clear c5; obtain rfl := Option.some.inj H
        go_enter Tryz.func43, Tryz.ntmps43
        go_wp2
        go_ret
        exact ⟨eq_, bq⟩
  · rw [if_neg c3] at H; have c3b0 : ((a0.size : Int) == (a1.size : Int)) = false := beq_eq_false_iff_ne.mpr c3; have c3b1 : ((a0.size : Int) != (a1.size : Int)) = true := bne_iff_ne.mpr c3; have c3b2 : (a0.size == a1.size) = false := by first | simpa using c3 | (simp at c3 ⊢; omega)
    obtain ⟨ji6, hji6⟩ : ∃ j_ : Int, (mx (-1) (wrap64 ((a0.size : Int) - (a1.size : Int)))) = j_ := ⟨_, rfl⟩; first | rw [hji6] at H | simp only [hji6] at H
    have hji6_ : (if (-1) < (wrap64 ((a0.size : Int) - (a1.size : Int))) then (wrap64 ((a0.size : Int) - (a1.size : Int))) else (-1)) = ji6 := hji6
    obtain ⟨ji7, hji7⟩ : ∃ j_ : Int, (mn 1 (ji6)) = j_ := ⟨_, rfl⟩; first | rw [hji7] at H | simp only [hji7] at H
    have hji7_ : (if (ji6) < 1 then (ji6) else 1) = ji7 := hji7
    obtain rfl := Option.some.inj H
    go_enter Tryz.func43, Tryz.ntmps43
    go_wp2
    go_ret
    exact ⟨by first | rfl | (simp [errW_none, errW_some] <;> rfl) | (simp only [← hji6, ← hji7]; first | rfl | (simp [errW_none, errW_some] <;> rfl)) | (simp [*, errW_none, errW_some] <;> rfl), bq⟩
end Go.Proofs.YtgicckcahhlbjaaGreatDoor.P
