/- Functions of the program, as functions of Lean, and the walks that show that the code answers as they do: written by a program. Conditions: those of each theorem. -/
import Derived.Test.YtgicckcahhlbjaaGreatDoorWholeSumsF8
namespace Go.Proofs.YtgicckcahhlbjaaGreatDoor.P
open Go.RowKit Go.Proofs.YtgicckcahhlbjaaGreatDoorW.PrintWords Go.Proofs.YtgicckcahhlbjaaGreatDoorW.PrintLast Go.Proofs.YtgicckcahhlbjaaGreatDoorW.PrintMore
attribute [local go_sem] gtr_text max2_int min2_int max_two min_two max_three min_three max_four min_four
set_option linter.unusedVariables false
set_option linter.unusedSimpArgs false
def schismaref02_Add.j0 : Nat → ByteArray → ByteArray → Int → Int → Bool → Option (ByteArray)
  | 0, _, _, _, _, _ => none
  | k + 1, x0, x1, x5, x7, x24 => if x24 = true then ((schismaref02_Of.f (wrap64 (x5 + x7))).bind fun t595 => (some t595)) else ((schismaref02_digits.f x0).bind fun t596 => ((schismaref02_split.f k t596).bind fun t597 => ((schismaref02_digits.f x1).bind fun t600 => ((schismaref02_split.f k t600).bind fun t601 => ((schismaref02_side.f x0).bind fun t604 => ((schismaref02_side.f x1).bind fun t605 => (if t604 = t605 then ((schismaref02_side.f x0).bind fun t606 => ((schismaref02_plus.f k t597 t601).bind fun t607 => ((schismaref02_signed.f k (decide (t606 < 0)) t607).bind fun t610 => (some t610)))) else ((schismaref02_order.f k t597 t601).bind fun t611 => (if t611 ≥ 0 then ((schismaref02_side.f x0).bind fun t612 => ((schismaref02_minus.f k t597 t601).bind fun t613 => ((schismaref02_signed.f k (decide (t612 < 0)) t613).bind fun t616 => (some t616)))) else ((schismaref02_side.f x1).bind fun t617 => ((schismaref02_minus.f k t601 t597).bind fun t618 => ((schismaref02_signed.f k (decide (t617 < 0)) t618).bind fun t621 => (some t621)))))))))))))
def schismaref02_Add.f (k : Nat) (a0 : ByteArray) (a1 : ByteArray) : Option (ByteArray) := (schismaref02_quick.f k a0).bind fun bt591 => ((schismaref02_quick.f k a1).bind fun bt593 => (if bt591.2 = true then (schismaref02_Add.j0 k a0 a1 bt591.1 bt593.1 bt593.2) else (schismaref02_Add.j0 k a0 a1 bt591.1 bt593.1 false)))
theorem schismaref02_Add.mono_l : ∀ k, (∀ y0 y1 y2 y3 y4, LeO (schismaref02_Add.j0 k y0 y1 y2 y3 y4) (schismaref02_Add.j0 (k + 1) y0 y1 y2 y3 y4))
  | 0 => fun _ _ _ _ _ r h => by simp [schismaref02_Add.j0] at h
  | k + 1 => by
    have ih0 := schismaref02_Add.mono_l k
    · intro y0 y1 y2 y3 y4
      unfold schismaref02_Add.j0
      repeat' first
      | (with_reducible exact ih0 _ _ _ _ _)
      | (with_reducible exact schismaref02_minus.mono _ _ _)
      | (with_reducible exact schismaref02_order.mono _ _ _)
      | (with_reducible exact schismaref02_plus.mono _ _ _)
      | (with_reducible exact schismaref02_quick.mono _ _)
      | (with_reducible exact schismaref02_signed.mono _ _ _)
      | (with_reducible exact schismaref02_split.mono _ _)
      | (with_reducible exact LeO.refl _)
      | (with_reducible exact LeO.none _)
      | (with_reducible refine LeO.ite ?_ ?_)
      | (with_reducible refine LeO.bind ?_ (fun _ => ?_))
      | exact ih0 _ _ _ _ _
      | exact schismaref02_minus.mono _ _ _
      | exact schismaref02_order.mono _ _ _
      | exact schismaref02_plus.mono _ _ _
      | exact schismaref02_quick.mono _ _
      | exact schismaref02_signed.mono _ _ _
      | exact schismaref02_split.mono _ _
      | exact LeO.none _
      | refine LeO.ite ?_ ?_
      | refine LeO.bind ?_ (fun _ => ?_)
theorem schismaref02_Add.mono : ∀ a0 a1 k, LeO (schismaref02_Add.f k a0 a1) (schismaref02_Add.f (k + 1) a0 a1) := by
  intro a0 a1 k
  have ih0 := schismaref02_Add.mono_l k
  unfold schismaref02_Add.f
  repeat' first
      | (with_reducible exact ih0 _ _ _ _ _)
      | (with_reducible exact schismaref02_minus.mono _ _ _)
      | (with_reducible exact schismaref02_order.mono _ _ _)
      | (with_reducible exact schismaref02_plus.mono _ _ _)
      | (with_reducible exact schismaref02_quick.mono _ _)
      | (with_reducible exact schismaref02_signed.mono _ _ _)
      | (with_reducible exact schismaref02_split.mono _ _)
      | (with_reducible exact LeO.refl _)
      | (with_reducible exact LeO.none _)
      | (with_reducible refine LeO.ite ?_ ?_)
      | (with_reducible refine LeO.bind ?_ (fun _ => ?_))
      | exact ih0 _ _ _ _ _
      | exact schismaref02_minus.mono _ _ _
      | exact schismaref02_order.mono _ _ _
      | exact schismaref02_plus.mono _ _ _
      | exact schismaref02_quick.mono _ _
      | exact schismaref02_signed.mono _ _ _
      | exact schismaref02_split.mono _ _
      | exact LeO.none _
      | refine LeO.ite ?_ ?_
      | refine LeO.bind ?_ (fun _ => ?_)
set_option maxHeartbeats 8000000 in
set_option maxRecDepth 100000 in
theorem schismaref02_Add.calls (k : Nat) (a0 : ByteArray) (a1 : ByteArray) (r : ByteArray) (w : World) (hT : Tab w) (h : schismaref02_Add.f k a0 a1 = some r) :
    Calls Tryz.prog 12 #[.string a0, .string a1] w fun e w' => e = .returned (.string r) ∧ Below w.heap.size w w' := by
  have HT := Aside0.mk hT
  clear hT
  have HB := Aside0.mk (Below.refl w.heap.size w)
  have H : ((schismaref02_quick.f k a0).bind fun bt591 => ((schismaref02_quick.f k a1).bind fun bt593 => (if bt591.2 = true then (schismaref02_Add.j0 k a0 a1 bt591.1 bt593.1 bt593.2) else (schismaref02_Add.j0 k a0 a1 bt591.1 bt593.1 false)))) = some r := h
  clear h
  replace H := Option.bind_eq_some_iff.mp H
  obtain ⟨⟨t591, t592⟩, A30, H⟩ := H
  replace H : ((schismaref02_quick.f k a1).bind fun bt593 => (if t592 = true then (schismaref02_Add.j0 k a0 a1 t591 bt593.1 bt593.2) else (schismaref02_Add.j0 k a0 a1 t591 bt593.1 false))) = some r := H
  have A3 := Aside0.mk A30
  clear A30
  replace H := Option.bind_eq_some_iff.mp H
  obtain ⟨⟨t593, t594⟩, A40, H⟩ := H
  replace H : (if t592 = true then (schismaref02_Add.j0 k a0 a1 t591 t593 t594) else (schismaref02_Add.j0 k a0 a1 t591 t593 false)) = some r := H
  have A4 := Aside0.mk A40
  clear A40
  have HC5 := Aside0.mk H
  clear H
  go_enter Tryz.func12, Tryz.ntmps12
  go_upto_region 3 with (first | ((with_reducible refine gate_callee (f := 32) rfl ?_); refine goesL_ (some 13) rfl rfl Tryz.func32 (by kernel_rfl) rfl #[.string a0] rfl mq ?_; (with_reducible refine (schismaref02_quick.calls k a0 t591 t592 _ A3.out).mono ?_); rintro e w' ⟨rfl, ⟨nd, rfl⟩⟩; refine ⟨_, rfl, ?_⟩) | ((with_reducible refine gate_callee (f := 32) rfl ?_); refine goesL_ (some 18) rfl rfl Tryz.func32 (by kernel_rfl) rfl #[.string a1] rfl mq ?_; (with_reducible refine (schismaref02_quick.calls k a1 t593 t594 _ A4.out).mono ?_); rintro e w' ⟨rfl, ⟨nd, rfl⟩⟩; refine ⟨_, rfl, ?_⟩))
  (try simp only [Act.put, List.setIfInBounds_toArray, List.set_cons_zero, List.set_cons_succ])
  go_cut [24] (fun v24 wc => ∃ (kq : Nat) (x24_4 : Bool), v24 = .bool x24_4 ∧ Aside0 (schismaref02_Add.j0 kq a0 a1 t591 t593 x24_4 = some r) ∧ Aside0 (kq ≤ k) ∧ Aside0 (Below w.heap.size w wc))
  case first =>
    have H := HC5.out
    clear HC5
    by_cases c6 : t592 = true
    · subst c6
      have H1 : (schismaref02_Add.j0 k a0 a1 t591 t593 t594) = some r := by rw [if_pos rfl] at H; exact H
      clear H
      have H := H1
      clear H1
      have H' := Aside0.mk H
      clear H
      go_wp2
      go_meet
      case rel => exact ⟨_, (t594), (by first | rfl | (simp; done) | (simp [*]; done)), H', ⟨by first | omega | exact Nat.le_refl _⟩, ⟨bq⟩⟩
    · replace c6 := Bool.eq_false_iff.mpr c6
      subst c6
      have H1 : (schismaref02_Add.j0 k a0 a1 t591 t593 false) = some r := by rw [if_neg (show ¬ (false = true) by decide)] at H; exact H
      clear H
      have H := H1
      clear H1
      have H' := Aside0.mk H
      clear H
      go_wp2
      go_meet
      case rel => exact ⟨_, (false), (by first | rfl | (simp; done) | (simp [*]; done)), H', ⟨by first | omega | exact Nat.le_refl _⟩, ⟨bq⟩⟩
  case rest =>
    clear HC5
    try clear c1
    try clear p2
    try clear c3
    try clear c6
    obtain ⟨kq, x24_4, rfl, HA, HJ4, HB⟩ := hcut
    cases kq with
    | zero => exact absurd HA.out (by simp [schismaref02_Add.j0])
    | succ kj4 =>
      have H := HA.out
      clear HA
      simp only [schismaref02_Add.j0] at H
      by_cases c7 : x24_4 = true
      · subst c7
        have H1 : ((schismaref02_Of.f (wrap64 (t591 + t593))).bind fun t595 => (some t595)) = some r := by rw [if_pos rfl] at H; exact H
        clear H
        have H := H1
        clear H1
        replace H := Option.bind_eq_some_iff.mp H
        obtain ⟨t595, A80, H⟩ := H
        replace H : (some t595) = some r := H
        have A8 := Aside0.mk A80
        clear A80
        obtain rfl := Option.some.inj H
        go_wp2_with (first | ((with_reducible refine gate_callee (f := 33) rfl ?_); refine goesL_ (some 28) rfl rfl Tryz.func33 (by kernel_rfl) rfl #[.int .i64 (wrap64 (t591 + t593))] rfl mq ?_; (with_reducible refine (schismaref02_Of.calls (hT := HT.out.below bq) (wrap64 (t591 + t593)) t595 _ A8.out).mono ?_); rintro e w9 ⟨rfl, hb⟩; refine ⟨_, rfl, ?_⟩; replace HB := Aside0.mk (below_step bq hb); (try clear hb); (try clear hb2); (try clear hk); (try clear hi)))
        go_ret
        exact ⟨eq_, bq⟩
      · replace c7 := Bool.eq_false_iff.mpr c7
        subst c7
        have H1 : ((schismaref02_digits.f a0).bind fun t596 => ((schismaref02_split.f kj4 t596).bind fun t597 => ((schismaref02_digits.f a1).bind fun t600 => ((schismaref02_split.f kj4 t600).bind fun t601 => ((schismaref02_side.f a0).bind fun t604 => ((schismaref02_side.f a1).bind fun t605 => (if t604 = t605 then ((schismaref02_side.f a0).bind fun t606 => ((schismaref02_plus.f kj4 t597 t601).bind fun t607 => ((schismaref02_signed.f kj4 (decide (t606 < 0)) t607).bind fun t610 => (some t610)))) else ((schismaref02_order.f kj4 t597 t601).bind fun t611 => (if t611 ≥ 0 then ((schismaref02_side.f a0).bind fun t612 => ((schismaref02_minus.f kj4 t597 t601).bind fun t613 => ((schismaref02_signed.f kj4 (decide (t612 < 0)) t613).bind fun t616 => (some t616)))) else ((schismaref02_side.f a1).bind fun t617 => ((schismaref02_minus.f kj4 t601 t597).bind fun t618 => ((schismaref02_signed.f kj4 (decide (t617 < 0)) t618).bind fun t621 => (some t621))))))))))))) = some r := by rw [if_neg (show ¬ (false = true) by decide)] at H; exact H
        clear H
        have H := H1
        clear H1
        replace H := Option.bind_eq_some_iff.mp H
        obtain ⟨t596, A100, H⟩ := H
        replace H : ((schismaref02_split.f kj4 t596).bind fun t597 => ((schismaref02_digits.f a1).bind fun t600 => ((schismaref02_split.f kj4 t600).bind fun t601 => ((schismaref02_side.f a0).bind fun t604 => ((schismaref02_side.f a1).bind fun t605 => (if t604 = t605 then ((schismaref02_side.f a0).bind fun t606 => ((schismaref02_plus.f kj4 t597 t601).bind fun t607 => ((schismaref02_signed.f kj4 (decide (t606 < 0)) t607).bind fun t610 => (some t610)))) else ((schismaref02_order.f kj4 t597 t601).bind fun t611 => (if t611 ≥ 0 then ((schismaref02_side.f a0).bind fun t612 => ((schismaref02_minus.f kj4 t597 t601).bind fun t613 => ((schismaref02_signed.f kj4 (decide (t612 < 0)) t613).bind fun t616 => (some t616)))) else ((schismaref02_side.f a1).bind fun t617 => ((schismaref02_minus.f kj4 t601 t597).bind fun t618 => ((schismaref02_signed.f kj4 (decide (t617 < 0)) t618).bind fun t621 => (some t621)))))))))))) = some r := H
        have A10 := Aside0.mk A100
        clear A100
        replace H := Option.bind_eq_some_iff.mp H
        obtain ⟨t597, A110, H⟩ := H
        replace H : ((schismaref02_digits.f a1).bind fun t600 => ((schismaref02_split.f kj4 t600).bind fun t601 => ((schismaref02_side.f a0).bind fun t604 => ((schismaref02_side.f a1).bind fun t605 => (if t604 = t605 then ((schismaref02_side.f a0).bind fun t606 => ((schismaref02_plus.f kj4 t597 t601).bind fun t607 => ((schismaref02_signed.f kj4 (decide (t606 < 0)) t607).bind fun t610 => (some t610)))) else ((schismaref02_order.f kj4 t597 t601).bind fun t611 => (if t611 ≥ 0 then ((schismaref02_side.f a0).bind fun t612 => ((schismaref02_minus.f kj4 t597 t601).bind fun t613 => ((schismaref02_signed.f kj4 (decide (t612 < 0)) t613).bind fun t616 => (some t616)))) else ((schismaref02_side.f a1).bind fun t617 => ((schismaref02_minus.f kj4 t601 t597).bind fun t618 => ((schismaref02_signed.f kj4 (decide (t617 < 0)) t618).bind fun t621 => (some t621))))))))))) = some r := H
        have A11 := Aside0.mk A110
        clear A110
        replace H := Option.bind_eq_some_iff.mp H
        obtain ⟨t600, A120, H⟩ := H
        replace H : ((schismaref02_split.f kj4 t600).bind fun t601 => ((schismaref02_side.f a0).bind fun t604 => ((schismaref02_side.f a1).bind fun t605 => (if t604 = t605 then ((schismaref02_side.f a0).bind fun t606 => ((schismaref02_plus.f kj4 t597 t601).bind fun t607 => ((schismaref02_signed.f kj4 (decide (t606 < 0)) t607).bind fun t610 => (some t610)))) else ((schismaref02_order.f kj4 t597 t601).bind fun t611 => (if t611 ≥ 0 then ((schismaref02_side.f a0).bind fun t612 => ((schismaref02_minus.f kj4 t597 t601).bind fun t613 => ((schismaref02_signed.f kj4 (decide (t612 < 0)) t613).bind fun t616 => (some t616)))) else ((schismaref02_side.f a1).bind fun t617 => ((schismaref02_minus.f kj4 t601 t597).bind fun t618 => ((schismaref02_signed.f kj4 (decide (t617 < 0)) t618).bind fun t621 => (some t621)))))))))) = some r := H
        have A12 := Aside0.mk A120
        clear A120
        replace H := Option.bind_eq_some_iff.mp H
        obtain ⟨t601, A130, H⟩ := H
        replace H : ((schismaref02_side.f a0).bind fun t604 => ((schismaref02_side.f a1).bind fun t605 => (if t604 = t605 then ((schismaref02_side.f a0).bind fun t606 => ((schismaref02_plus.f kj4 t597 t601).bind fun t607 => ((schismaref02_signed.f kj4 (decide (t606 < 0)) t607).bind fun t610 => (some t610)))) else ((schismaref02_order.f kj4 t597 t601).bind fun t611 => (if t611 ≥ 0 then ((schismaref02_side.f a0).bind fun t612 => ((schismaref02_minus.f kj4 t597 t601).bind fun t613 => ((schismaref02_signed.f kj4 (decide (t612 < 0)) t613).bind fun t616 => (some t616)))) else ((schismaref02_side.f a1).bind fun t617 => ((schismaref02_minus.f kj4 t601 t597).bind fun t618 => ((schismaref02_signed.f kj4 (decide (t617 < 0)) t618).bind fun t621 => (some t621))))))))) = some r := H
        have A13 := Aside0.mk A130
        clear A130
        replace H := Option.bind_eq_some_iff.mp H
        obtain ⟨t604, A140, H⟩ := H
        replace H : ((schismaref02_side.f a1).bind fun t605 => (if t604 = t605 then ((schismaref02_side.f a0).bind fun t606 => ((schismaref02_plus.f kj4 t597 t601).bind fun t607 => ((schismaref02_signed.f kj4 (decide (t606 < 0)) t607).bind fun t610 => (some t610)))) else ((schismaref02_order.f kj4 t597 t601).bind fun t611 => (if t611 ≥ 0 then ((schismaref02_side.f a0).bind fun t612 => ((schismaref02_minus.f kj4 t597 t601).bind fun t613 => ((schismaref02_signed.f kj4 (decide (t612 < 0)) t613).bind fun t616 => (some t616)))) else ((schismaref02_side.f a1).bind fun t617 => ((schismaref02_minus.f kj4 t601 t597).bind fun t618 => ((schismaref02_signed.f kj4 (decide (t617 < 0)) t618).bind fun t621 => (some t621)))))))) = some r := H
        have A14 := Aside0.mk A140
        clear A140
        replace H := Option.bind_eq_some_iff.mp H
        obtain ⟨t605, A150, H⟩ := H
        replace H : (if t604 = t605 then ((schismaref02_side.f a0).bind fun t606 => ((schismaref02_plus.f kj4 t597 t601).bind fun t607 => ((schismaref02_signed.f kj4 (decide (t606 < 0)) t607).bind fun t610 => (some t610)))) else ((schismaref02_order.f kj4 t597 t601).bind fun t611 => (if t611 ≥ 0 then ((schismaref02_side.f a0).bind fun t612 => ((schismaref02_minus.f kj4 t597 t601).bind fun t613 => ((schismaref02_signed.f kj4 (decide (t612 < 0)) t613).bind fun t616 => (some t616)))) else ((schismaref02_side.f a1).bind fun t617 => ((schismaref02_minus.f kj4 t601 t597).bind fun t618 => ((schismaref02_signed.f kj4 (decide (t617 < 0)) t618).bind fun t621 => (some t621))))))) = some r := H
        have A15 := Aside0.mk A150
        clear A150
        by_cases c16 : t604 = t605
        · rw [if_pos c16] at H
          have c16b0 : (t604 == t605) = true := beq_iff_eq.mpr c16
          have c16b1 : (t604 != t605) = false := bne_eq_false_iff_eq.mpr c16
          clear c16
          replace H := Option.bind_eq_some_iff.mp H
          obtain ⟨t606, A170, H⟩ := H
          replace H : ((schismaref02_plus.f kj4 t597 t601).bind fun t607 => ((schismaref02_signed.f kj4 (decide (t606 < 0)) t607).bind fun t610 => (some t610))) = some r := H
          have A17 := Aside0.mk A170
          clear A170
          have hq2_ : t604 = t606 := Option.some.inj (A14.out.symm.trans A17.out)
          obtain rfl := hq2_
          replace H := Option.bind_eq_some_iff.mp H
          obtain ⟨t607, A180, H⟩ := H
          replace H : ((schismaref02_signed.f kj4 (decide (t604 < 0)) t607).bind fun t610 => (some t610)) = some r := H
          have A18 := Aside0.mk A180
          clear A180
          replace H := Option.bind_eq_some_iff.mp H
          obtain ⟨t610, A190, H⟩ := H
          replace H : (some t610) = some r := H
          have A19 := Aside0.mk A190
          clear A190
          obtain rfl := Option.some.inj H
          go_wp2_with (first | ((with_reducible refine gate_callee (f := 31) rfl ?_); refine goesL_ (some 30) rfl rfl Tryz.func31 (by kernel_rfl) rfl #[.string a0] rfl mq ?_; (with_reducible refine (schismaref02_digits.calls a0 t596 _ A10.out).mono ?_); rintro e w' ⟨rfl, ⟨nd, rfl⟩⟩; refine ⟨_, rfl, ?_⟩) | ((with_reducible refine gate_callee (f := 34) rfl ?_); refine goesL_ (some 31) rfl rfl Tryz.func34 (by kernel_rfl) rfl #[.string t596] rfl mq ?_; (with_reducible refine (schismaref02_split.calls kj4 t596 t597 _ A11.out).mono ?_); rintro e w20 ⟨v598, rfl, ho0, hb⟩; refine ⟨_, rfl, ?_⟩; have n0_ := Aside0.mk (Kd.R_lower ho0 (below_size bq)); have n1_ := Aside0.mk (below_step bq hb); clear HB; have HO599 := n0_; have HB := n1_; clear n0_ n1_; (try clear hb); (try clear hb2); (try clear hk); (try clear hi); (try clear ho0)) | ((with_reducible refine gate_callee (f := 31) rfl ?_); refine goesL_ (some 33) rfl rfl Tryz.func31 (by kernel_rfl) rfl #[.string a1] rfl mq ?_; (with_reducible refine (schismaref02_digits.calls a1 t600 _ A12.out).mono ?_); rintro e w' ⟨rfl, ⟨nd, rfl⟩⟩; refine ⟨_, rfl, ?_⟩) | ((with_reducible refine gate_callee (f := 34) rfl ?_); refine goesL_ (some 34) rfl rfl Tryz.func34 (by kernel_rfl) rfl #[.string t600] rfl mq ?_; (with_reducible refine (schismaref02_split.calls kj4 t600 t601 _ A13.out).mono ?_); rintro e w21 ⟨v602, rfl, ho0, hb⟩; refine ⟨_, rfl, ?_⟩; have n0_ := Aside0.mk (Kd.R_elder' (by (with_reducible repeat (first | apply Kd.R_alloc | apply Kd.R_drewN | apply Kd.R_drew)); exact HO599.out) (Kd.R_base ho0) hb); have n1_ := Aside0.mk (Kd.R_lower (Kd.R_new' ho0 (Kd.R_lt (by (with_reducible repeat (first | apply Kd.R_alloc | apply Kd.R_drewN | apply Kd.R_drew)); exact HO599.out))) (below_size bq)); have n2_ := Aside0.mk (below_step bq hb); clear HO599; clear HB; have HO599 := n0_; have HO603 := n1_; have HB := n2_; clear n0_ n1_ n2_; (try clear hb); (try clear hb2); (try clear hk); (try clear hi); (try clear ho0)) | ((with_reducible refine gate_callee (f := 35) rfl ?_); refine goesL_ (some 36) rfl rfl Tryz.func35 (by kernel_rfl) rfl #[.string a0] rfl mq ?_; (with_reducible refine (schismaref02_side.calls a0 t604 _ A14.out).mono ?_); rintro e w' ⟨rfl, ⟨nd, rfl⟩⟩; refine ⟨_, rfl, ?_⟩) | ((with_reducible refine gate_callee (f := 35) rfl ?_); refine goesL_ (some 38) rfl rfl Tryz.func35 (by kernel_rfl) rfl #[.string a1] rfl mq ?_; (with_reducible refine (schismaref02_side.calls a1 t605 _ A15.out).mono ?_); rintro e w' ⟨rfl, ⟨nd, rfl⟩⟩; refine ⟨_, rfl, ?_⟩) | ((with_reducible refine gate_callee (f := 35) rfl ?_); refine goesL_ (some 41) rfl rfl Tryz.func35 (by kernel_rfl) rfl #[.string a0] rfl mq ?_; (with_reducible refine (schismaref02_side.calls a0 t604 _ A17.out).mono ?_); rintro e w' ⟨rfl, ⟨nd, rfl⟩⟩; refine ⟨_, rfl, ?_⟩; obtain ⟨Ao22, co22, eo22⟩ := Kd.R_slice HO599.out; subst eo22; obtain ⟨Ao23, co23, eo23⟩ := Kd.R_slice HO603.out; subst eo23) | ((with_reducible refine gate_callee (f := 37) rfl ?_); refine goesL_ (some 45) rfl rfl Tryz.func37 (by kernel_rfl) rfl #[.slice Ao22 t597.length co22, .slice Ao23 t601.length co23] rfl mq ?_; (with_reducible refine (schismaref02_plus.calls kj4 _ _ t597 _ _ t601 t607 _ ?side1 ?side2 ?side3 ?side4 A18.out).mono ?_); (case side1 => repeat (first | exact (Kd.R_reads' HO599.out).2.2 | (with_reducible refine Kd.C_alloc ?_ _) | (with_reducible refine Kd.C_drewN ?_ _) | (with_reducible refine Kd.C_drew ?_))); (case side2 => exact (Kd.R_reads' HO599.out).2.1); (case side3 => repeat (first | exact (Kd.R_reads' HO603.out).2.2 | (with_reducible refine Kd.C_alloc ?_ _) | (with_reducible refine Kd.C_drewN ?_ _) | (with_reducible refine Kd.C_drew ?_))); (case side4 => exact (Kd.R_reads' HO603.out).2.1); rintro e w24 ⟨v608, rfl, ho0, hb⟩; refine ⟨_, rfl, ?_⟩; have n0_ := Aside0.mk (Kd.R_elder' (by (with_reducible repeat (first | apply Kd.R_alloc | apply Kd.R_drewN | apply Kd.R_drew)); exact HO599.out) (Kd.R_base ho0) hb); have n1_ := Aside0.mk (Kd.R_elder' (by (with_reducible repeat (first | apply Kd.R_alloc | apply Kd.R_drewN | apply Kd.R_drew)); exact HO603.out) (Kd.R_base ho0) hb); have n2_ := Aside0.mk (Kd.R_lower (Kd.R_new' (Kd.R_new' ho0 (Kd.R_lt (by (with_reducible repeat (first | apply Kd.R_alloc | apply Kd.R_drewN | apply Kd.R_drew)); exact HO599.out))) (Kd.R_lt (by (with_reducible repeat (first | apply Kd.R_alloc | apply Kd.R_drewN | apply Kd.R_drew)); exact HO603.out))) (below_size bq)); have n3_ := Aside0.mk (below_step bq hb); clear HO599; clear HO603; clear HB; have HO599 := n0_; have HO603 := n1_; have HO609 := n2_; have HB := n3_; clear n0_ n1_ n2_ n3_; (try clear hb); (try clear hb2); (try clear hk); (try clear hi); (try clear ho0); obtain ⟨Ao25, co25, eo25⟩ := Kd.R_slice HO609.out; subst eo25) | ((with_reducible refine gate_callee (f := 36) rfl ?_); refine goesL_ (some 46) rfl rfl Tryz.func36 (by kernel_rfl) rfl #[.bool (decide (t604 < 0)), .slice Ao25 t607.length co25] rfl mq ?_; (with_reducible refine (schismaref02_signed.calls (hT := HT.out) kj4 (decide (t604 < 0)) (fun k_ => some k_ = (.slice Ao25 t607.length co25 : Value).ownBlock) (.slice Ao25 t607.length co25) t607 t610 w _ ?side1 ?side2 A19.out).mono ?_); (case side1 => exact bq); (case side2 => exact Kd.R_tight rfl HO609.out); rintro e w26 ⟨rfl, hb, hkp⟩; refine ⟨_, rfl, ?_⟩; have n0_ := Aside0.mk (Kd.R_mono (ok' := fun k_ => some k_ ≠ (.slice Ao23 t601.length co23 : Value).ownBlock) (Kd.R_keptB (HO599.out) hkp (fun k_ hk_ hs_ => (hk_.2) hs_)) (fun k_ hk_ => hk_.1.1.2)); have n1_ := Aside0.mk (Kd.R_mono (ok' := fun k_ => some k_ ≠ (.slice Ao22 t597.length co22 : Value).ownBlock) (Kd.R_keptB (HO603.out) hkp (fun k_ hk_ hs_ => (hk_.2) hs_)) (fun k_ hk_ => hk_.1.1.2)); have n2_ := Aside0.mk (hb); clear HO599; clear HO603; clear HB; clear HO609; have HO599 := n0_; have HO603 := n1_; have HB := n2_; clear n0_ n1_ n2_; (try clear hb); (try clear hkp)))
          go_ret
          exact ⟨eq_, bq⟩
        · rw [if_neg c16] at H
          have c16b0 : (t604 == t605) = false := beq_eq_false_iff_ne.mpr c16
          have c16b1 : (t604 != t605) = true := bne_iff_ne.mpr c16
          replace H := Option.bind_eq_some_iff.mp H
          obtain ⟨t611, A270, H⟩ := H
          replace H : (if t611 ≥ 0 then ((schismaref02_side.f a0).bind fun t612 => ((schismaref02_minus.f kj4 t597 t601).bind fun t613 => ((schismaref02_signed.f kj4 (decide (t612 < 0)) t613).bind fun t616 => (some t616)))) else ((schismaref02_side.f a1).bind fun t617 => ((schismaref02_minus.f kj4 t601 t597).bind fun t618 => ((schismaref02_signed.f kj4 (decide (t617 < 0)) t618).bind fun t621 => (some t621))))) = some r := H
          have A27 := Aside0.mk A270
          clear A270
          by_cases c28 : t611 ≥ 0
          · rw [if_pos c28] at H
            have c28b0 : decide (0 ≤ t611) = true := decide_eq_true c28
            clear c28
            replace H := Option.bind_eq_some_iff.mp H
            obtain ⟨t612, A290, H⟩ := H
            replace H : ((schismaref02_minus.f kj4 t597 t601).bind fun t613 => ((schismaref02_signed.f kj4 (decide (t612 < 0)) t613).bind fun t616 => (some t616))) = some r := H
            have A29 := Aside0.mk A290
            clear A290
            have hq2_ : t604 = t612 := Option.some.inj (A14.out.symm.trans A29.out)
            obtain rfl := hq2_
            replace H := Option.bind_eq_some_iff.mp H
            obtain ⟨t613, A300, H⟩ := H
            replace H : ((schismaref02_signed.f kj4 (decide (t604 < 0)) t613).bind fun t616 => (some t616)) = some r := H
            have A30 := Aside0.mk A300
            clear A300
            replace H := Option.bind_eq_some_iff.mp H
            obtain ⟨t616, A310, H⟩ := H
            replace H : (some t616) = some r := H
            have A31 := Aside0.mk A310
            clear A310
            obtain rfl := Option.some.inj H
            go_wp2_with (first | ((with_reducible refine gate_callee (f := 31) rfl ?_); refine goesL_ (some 30) rfl rfl Tryz.func31 (by kernel_rfl) rfl #[.string a0] rfl mq ?_; (with_reducible refine (schismaref02_digits.calls a0 t596 _ A10.out).mono ?_); rintro e w' ⟨rfl, ⟨nd, rfl⟩⟩; refine ⟨_, rfl, ?_⟩) | ((with_reducible refine gate_callee (f := 34) rfl ?_); refine goesL_ (some 31) rfl rfl Tryz.func34 (by kernel_rfl) rfl #[.string t596] rfl mq ?_; (with_reducible refine (schismaref02_split.calls kj4 t596 t597 _ A11.out).mono ?_); rintro e w32 ⟨v598, rfl, ho0, hb⟩; refine ⟨_, rfl, ?_⟩; have n0_ := Aside0.mk (Kd.R_lower ho0 (below_size bq)); have n1_ := Aside0.mk (below_step bq hb); clear HB; have HO599 := n0_; have HB := n1_; clear n0_ n1_; (try clear hb); (try clear hb2); (try clear hk); (try clear hi); (try clear ho0)) | ((with_reducible refine gate_callee (f := 31) rfl ?_); refine goesL_ (some 33) rfl rfl Tryz.func31 (by kernel_rfl) rfl #[.string a1] rfl mq ?_; (with_reducible refine (schismaref02_digits.calls a1 t600 _ A12.out).mono ?_); rintro e w' ⟨rfl, ⟨nd, rfl⟩⟩; refine ⟨_, rfl, ?_⟩) | ((with_reducible refine gate_callee (f := 34) rfl ?_); refine goesL_ (some 34) rfl rfl Tryz.func34 (by kernel_rfl) rfl #[.string t600] rfl mq ?_; (with_reducible refine (schismaref02_split.calls kj4 t600 t601 _ A13.out).mono ?_); rintro e w33 ⟨v602, rfl, ho0, hb⟩; refine ⟨_, rfl, ?_⟩; have n0_ := Aside0.mk (Kd.R_elder' (by (with_reducible repeat (first | apply Kd.R_alloc | apply Kd.R_drewN | apply Kd.R_drew)); exact HO599.out) (Kd.R_base ho0) hb); have n1_ := Aside0.mk (Kd.R_lower (Kd.R_new' ho0 (Kd.R_lt (by (with_reducible repeat (first | apply Kd.R_alloc | apply Kd.R_drewN | apply Kd.R_drew)); exact HO599.out))) (below_size bq)); have n2_ := Aside0.mk (below_step bq hb); clear HO599; clear HB; have HO599 := n0_; have HO603 := n1_; have HB := n2_; clear n0_ n1_ n2_; (try clear hb); (try clear hb2); (try clear hk); (try clear hi); (try clear ho0)) | ((with_reducible refine gate_callee (f := 35) rfl ?_); refine goesL_ (some 36) rfl rfl Tryz.func35 (by kernel_rfl) rfl #[.string a0] rfl mq ?_; (with_reducible refine (schismaref02_side.calls a0 t604 _ A14.out).mono ?_); rintro e w' ⟨rfl, ⟨nd, rfl⟩⟩; refine ⟨_, rfl, ?_⟩) | ((with_reducible refine gate_callee (f := 35) rfl ?_); refine goesL_ (some 38) rfl rfl Tryz.func35 (by kernel_rfl) rfl #[.string a1] rfl mq ?_; (with_reducible refine (schismaref02_side.calls a1 t605 _ A15.out).mono ?_); rintro e w' ⟨rfl, ⟨nd, rfl⟩⟩; refine ⟨_, rfl, ?_⟩; obtain ⟨Ao34, co34, eo34⟩ := Kd.R_slice HO599.out; subst eo34; obtain ⟨Ao35, co35, eo35⟩ := Kd.R_slice HO603.out; subst eo35) | ((with_reducible refine gate_callee (f := 38) rfl ?_); refine goesL_ (some 49) rfl rfl Tryz.func38 (by kernel_rfl) rfl #[.slice Ao34 t597.length co34, .slice Ao35 t601.length co35] rfl mq ?_; (with_reducible refine (schismaref02_order.calls kj4 _ _ t597 _ _ t601 t611 _ ?side1 ?side2 ?side3 ?side4 A27.out).mono ?_); (case side1 => repeat (first | exact (Kd.R_reads' HO599.out).2.2 | (with_reducible refine Kd.C_alloc ?_ _) | (with_reducible refine Kd.C_drewN ?_ _) | (with_reducible refine Kd.C_drew ?_))); (case side2 => exact (Kd.R_reads' HO599.out).2.1); (case side3 => repeat (first | exact (Kd.R_reads' HO603.out).2.2 | (with_reducible refine Kd.C_alloc ?_ _) | (with_reducible refine Kd.C_drewN ?_ _) | (with_reducible refine Kd.C_drew ?_))); (case side4 => exact (Kd.R_reads' HO603.out).2.1); rintro e w' ⟨rfl, ⟨nd, rfl⟩⟩; refine ⟨_, rfl, ?_⟩) | ((with_reducible refine gate_callee (f := 35) rfl ?_); refine goesL_ (some 52) rfl rfl Tryz.func35 (by kernel_rfl) rfl #[.string a0] rfl mq ?_; (with_reducible refine (schismaref02_side.calls a0 t604 _ A29.out).mono ?_); rintro e w' ⟨rfl, ⟨nd, rfl⟩⟩; refine ⟨_, rfl, ?_⟩) | ((with_reducible refine gate_callee (f := 39) rfl ?_); refine goesL_ (some 56) rfl rfl Tryz.func39 (by kernel_rfl) rfl #[.slice Ao34 t597.length co34, .slice Ao35 t601.length co35] rfl mq ?_; (with_reducible refine (schismaref02_minus.calls kj4 _ _ t597 _ _ t601 t613 _ ?side1 ?side2 ?side3 ?side4 A30.out).mono ?_); (case side1 => repeat (first | exact (Kd.R_reads' HO599.out).2.2 | (with_reducible refine Kd.C_alloc ?_ _) | (with_reducible refine Kd.C_drewN ?_ _) | (with_reducible refine Kd.C_drew ?_))); (case side2 => exact (Kd.R_reads' HO599.out).2.1); (case side3 => repeat (first | exact (Kd.R_reads' HO603.out).2.2 | (with_reducible refine Kd.C_alloc ?_ _) | (with_reducible refine Kd.C_drewN ?_ _) | (with_reducible refine Kd.C_drew ?_))); (case side4 => exact (Kd.R_reads' HO603.out).2.1); rintro e w36 ⟨v614, rfl, ho0, hb⟩; refine ⟨_, rfl, ?_⟩; have n0_ := Aside0.mk (Kd.R_elder' (by (with_reducible repeat (first | apply Kd.R_alloc | apply Kd.R_drewN | apply Kd.R_drew)); exact HO599.out) (Kd.R_base ho0) hb); have n1_ := Aside0.mk (Kd.R_elder' (by (with_reducible repeat (first | apply Kd.R_alloc | apply Kd.R_drewN | apply Kd.R_drew)); exact HO603.out) (Kd.R_base ho0) hb); have n2_ := Aside0.mk (Kd.R_lower (Kd.R_new' (Kd.R_new' ho0 (Kd.R_lt (by (with_reducible repeat (first | apply Kd.R_alloc | apply Kd.R_drewN | apply Kd.R_drew)); exact HO599.out))) (Kd.R_lt (by (with_reducible repeat (first | apply Kd.R_alloc | apply Kd.R_drewN | apply Kd.R_drew)); exact HO603.out))) (below_size bq)); have n3_ := Aside0.mk (below_step bq hb); clear HO599; clear HO603; clear HB; have HO599 := n0_; have HO603 := n1_; have HO615 := n2_; have HB := n3_; clear n0_ n1_ n2_ n3_; (try clear hb); (try clear hb2); (try clear hk); (try clear hi); (try clear ho0); obtain ⟨Ao37, co37, eo37⟩ := Kd.R_slice HO615.out; subst eo37) | ((with_reducible refine gate_callee (f := 36) rfl ?_); refine goesL_ (some 57) rfl rfl Tryz.func36 (by kernel_rfl) rfl #[.bool (decide (t604 < 0)), .slice Ao37 t613.length co37] rfl mq ?_; (with_reducible refine (schismaref02_signed.calls (hT := HT.out) kj4 (decide (t604 < 0)) (fun k_ => some k_ = (.slice Ao37 t613.length co37 : Value).ownBlock) (.slice Ao37 t613.length co37) t613 t616 w _ ?side1 ?side2 A31.out).mono ?_); (case side1 => exact bq); (case side2 => exact Kd.R_tight rfl HO615.out); rintro e w38 ⟨rfl, hb, hkp⟩; refine ⟨_, rfl, ?_⟩; have n0_ := Aside0.mk (Kd.R_mono (ok' := fun k_ => some k_ ≠ (.slice Ao35 t601.length co35 : Value).ownBlock) (Kd.R_keptB (HO599.out) hkp (fun k_ hk_ hs_ => (hk_.2) hs_)) (fun k_ hk_ => hk_.1.1.2)); have n1_ := Aside0.mk (Kd.R_mono (ok' := fun k_ => some k_ ≠ (.slice Ao34 t597.length co34 : Value).ownBlock) (Kd.R_keptB (HO603.out) hkp (fun k_ hk_ hs_ => (hk_.2) hs_)) (fun k_ hk_ => hk_.1.1.2)); have n2_ := Aside0.mk (hb); clear HO599; clear HO603; clear HB; clear HO615; have HO599 := n0_; have HO603 := n1_; have HB := n2_; clear n0_ n1_ n2_; (try clear hb); (try clear hkp)))
            go_ret
            exact ⟨eq_, bq⟩
          · rw [if_neg c28] at H
            have c28b0 : decide (0 ≤ t611) = false := decide_eq_false c28
            clear c28
            replace H := Option.bind_eq_some_iff.mp H
            obtain ⟨t617, A390, H⟩ := H
            replace H : ((schismaref02_minus.f kj4 t601 t597).bind fun t618 => ((schismaref02_signed.f kj4 (decide (t617 < 0)) t618).bind fun t621 => (some t621))) = some r := H
            have A39 := Aside0.mk A390
            clear A390
            have hq2_ : t605 = t617 := Option.some.inj (A15.out.symm.trans A39.out)
            obtain rfl := hq2_
            replace H := Option.bind_eq_some_iff.mp H
            obtain ⟨t618, A400, H⟩ := H
            replace H : ((schismaref02_signed.f kj4 (decide (t605 < 0)) t618).bind fun t621 => (some t621)) = some r := H
            have A40 := Aside0.mk A400
            clear A400
            replace H := Option.bind_eq_some_iff.mp H
            obtain ⟨t621, A410, H⟩ := H
            replace H : (some t621) = some r := H
            have A41 := Aside0.mk A410
            clear A410
            obtain rfl := Option.some.inj H
            go_wp2_with (first | ((with_reducible refine gate_callee (f := 31) rfl ?_); refine goesL_ (some 30) rfl rfl Tryz.func31 (by kernel_rfl) rfl #[.string a0] rfl mq ?_; (with_reducible refine (schismaref02_digits.calls a0 t596 _ A10.out).mono ?_); rintro e w' ⟨rfl, ⟨nd, rfl⟩⟩; refine ⟨_, rfl, ?_⟩) | ((with_reducible refine gate_callee (f := 34) rfl ?_); refine goesL_ (some 31) rfl rfl Tryz.func34 (by kernel_rfl) rfl #[.string t596] rfl mq ?_; (with_reducible refine (schismaref02_split.calls kj4 t596 t597 _ A11.out).mono ?_); rintro e w42 ⟨v598, rfl, ho0, hb⟩; refine ⟨_, rfl, ?_⟩; have n0_ := Aside0.mk (Kd.R_lower ho0 (below_size bq)); have n1_ := Aside0.mk (below_step bq hb); clear HB; have HO599 := n0_; have HB := n1_; clear n0_ n1_; (try clear hb); (try clear hb2); (try clear hk); (try clear hi); (try clear ho0)) | ((with_reducible refine gate_callee (f := 31) rfl ?_); refine goesL_ (some 33) rfl rfl Tryz.func31 (by kernel_rfl) rfl #[.string a1] rfl mq ?_; (with_reducible refine (schismaref02_digits.calls a1 t600 _ A12.out).mono ?_); rintro e w' ⟨rfl, ⟨nd, rfl⟩⟩; refine ⟨_, rfl, ?_⟩) | ((with_reducible refine gate_callee (f := 34) rfl ?_); refine goesL_ (some 34) rfl rfl Tryz.func34 (by kernel_rfl) rfl #[.string t600] rfl mq ?_; (with_reducible refine (schismaref02_split.calls kj4 t600 t601 _ A13.out).mono ?_); rintro e w43 ⟨v602, rfl, ho0, hb⟩; refine ⟨_, rfl, ?_⟩; have n0_ := Aside0.mk (Kd.R_elder' (by (with_reducible repeat (first | apply Kd.R_alloc | apply Kd.R_drewN | apply Kd.R_drew)); exact HO599.out) (Kd.R_base ho0) hb); have n1_ := Aside0.mk (Kd.R_lower (Kd.R_new' ho0 (Kd.R_lt (by (with_reducible repeat (first | apply Kd.R_alloc | apply Kd.R_drewN | apply Kd.R_drew)); exact HO599.out))) (below_size bq)); have n2_ := Aside0.mk (below_step bq hb); clear HO599; clear HB; have HO599 := n0_; have HO603 := n1_; have HB := n2_; clear n0_ n1_ n2_; (try clear hb); (try clear hb2); (try clear hk); (try clear hi); (try clear ho0)) | ((with_reducible refine gate_callee (f := 35) rfl ?_); refine goesL_ (some 36) rfl rfl Tryz.func35 (by kernel_rfl) rfl #[.string a0] rfl mq ?_; (with_reducible refine (schismaref02_side.calls a0 t604 _ A14.out).mono ?_); rintro e w' ⟨rfl, ⟨nd, rfl⟩⟩; refine ⟨_, rfl, ?_⟩) | ((with_reducible refine gate_callee (f := 35) rfl ?_); refine goesL_ (some 38) rfl rfl Tryz.func35 (by kernel_rfl) rfl #[.string a1] rfl mq ?_; (with_reducible refine (schismaref02_side.calls a1 t605 _ A15.out).mono ?_); rintro e w' ⟨rfl, ⟨nd, rfl⟩⟩; refine ⟨_, rfl, ?_⟩; obtain ⟨Ao44, co44, eo44⟩ := Kd.R_slice HO599.out; subst eo44; obtain ⟨Ao45, co45, eo45⟩ := Kd.R_slice HO603.out; subst eo45) | ((with_reducible refine gate_callee (f := 38) rfl ?_); refine goesL_ (some 49) rfl rfl Tryz.func38 (by kernel_rfl) rfl #[.slice Ao44 t597.length co44, .slice Ao45 t601.length co45] rfl mq ?_; (with_reducible refine (schismaref02_order.calls kj4 _ _ t597 _ _ t601 t611 _ ?side1 ?side2 ?side3 ?side4 A27.out).mono ?_); (case side1 => repeat (first | exact (Kd.R_reads' HO599.out).2.2 | (with_reducible refine Kd.C_alloc ?_ _) | (with_reducible refine Kd.C_drewN ?_ _) | (with_reducible refine Kd.C_drew ?_))); (case side2 => exact (Kd.R_reads' HO599.out).2.1); (case side3 => repeat (first | exact (Kd.R_reads' HO603.out).2.2 | (with_reducible refine Kd.C_alloc ?_ _) | (with_reducible refine Kd.C_drewN ?_ _) | (with_reducible refine Kd.C_drew ?_))); (case side4 => exact (Kd.R_reads' HO603.out).2.1); rintro e w' ⟨rfl, ⟨nd, rfl⟩⟩; refine ⟨_, rfl, ?_⟩) | ((with_reducible refine gate_callee (f := 35) rfl ?_); refine goesL_ (some 59) rfl rfl Tryz.func35 (by kernel_rfl) rfl #[.string a1] rfl mq ?_; (with_reducible refine (schismaref02_side.calls a1 t605 _ A39.out).mono ?_); rintro e w' ⟨rfl, ⟨nd, rfl⟩⟩; refine ⟨_, rfl, ?_⟩) | ((with_reducible refine gate_callee (f := 39) rfl ?_); refine goesL_ (some 63) rfl rfl Tryz.func39 (by kernel_rfl) rfl #[.slice Ao45 t601.length co45, .slice Ao44 t597.length co44] rfl mq ?_; (with_reducible refine (schismaref02_minus.calls kj4 _ _ t601 _ _ t597 t618 _ ?side1 ?side2 ?side3 ?side4 A40.out).mono ?_); (case side1 => repeat (first | exact (Kd.R_reads' HO603.out).2.2 | (with_reducible refine Kd.C_alloc ?_ _) | (with_reducible refine Kd.C_drewN ?_ _) | (with_reducible refine Kd.C_drew ?_))); (case side2 => exact (Kd.R_reads' HO603.out).2.1); (case side3 => repeat (first | exact (Kd.R_reads' HO599.out).2.2 | (with_reducible refine Kd.C_alloc ?_ _) | (with_reducible refine Kd.C_drewN ?_ _) | (with_reducible refine Kd.C_drew ?_))); (case side4 => exact (Kd.R_reads' HO599.out).2.1); rintro e w46 ⟨v619, rfl, ho0, hb⟩; refine ⟨_, rfl, ?_⟩; have n0_ := Aside0.mk (Kd.R_elder' (by (with_reducible repeat (first | apply Kd.R_alloc | apply Kd.R_drewN | apply Kd.R_drew)); exact HO599.out) (Kd.R_base ho0) hb); have n1_ := Aside0.mk (Kd.R_elder' (by (with_reducible repeat (first | apply Kd.R_alloc | apply Kd.R_drewN | apply Kd.R_drew)); exact HO603.out) (Kd.R_base ho0) hb); have n2_ := Aside0.mk (Kd.R_lower (Kd.R_new' (Kd.R_new' ho0 (Kd.R_lt (by (with_reducible repeat (first | apply Kd.R_alloc | apply Kd.R_drewN | apply Kd.R_drew)); exact HO599.out))) (Kd.R_lt (by (with_reducible repeat (first | apply Kd.R_alloc | apply Kd.R_drewN | apply Kd.R_drew)); exact HO603.out))) (below_size bq)); have n3_ := Aside0.mk (below_step bq hb); clear HO599; clear HO603; clear HB; have HO599 := n0_; have HO603 := n1_; have HO620 := n2_; have HB := n3_; clear n0_ n1_ n2_ n3_; (try clear hb); (try clear hb2); (try clear hk); (try clear hi); (try clear ho0); obtain ⟨Ao47, co47, eo47⟩ := Kd.R_slice HO620.out; subst eo47) | ((with_reducible refine gate_callee (f := 36) rfl ?_); refine goesL_ (some 64) rfl rfl Tryz.func36 (by kernel_rfl) rfl #[.bool (decide (t605 < 0)), .slice Ao47 t618.length co47] rfl mq ?_; (with_reducible refine (schismaref02_signed.calls (hT := HT.out) kj4 (decide (t605 < 0)) (fun k_ => some k_ = (.slice Ao47 t618.length co47 : Value).ownBlock) (.slice Ao47 t618.length co47) t618 t621 w _ ?side1 ?side2 A41.out).mono ?_); (case side1 => exact bq); (case side2 => exact Kd.R_tight rfl HO620.out); rintro e w48 ⟨rfl, hb, hkp⟩; refine ⟨_, rfl, ?_⟩; have n0_ := Aside0.mk (Kd.R_mono (ok' := fun k_ => some k_ ≠ (.slice Ao45 t601.length co45 : Value).ownBlock) (Kd.R_keptB (HO599.out) hkp (fun k_ hk_ hs_ => (hk_.2) hs_)) (fun k_ hk_ => hk_.1.1.2)); have n1_ := Aside0.mk (Kd.R_mono (ok' := fun k_ => some k_ ≠ (.slice Ao44 t597.length co44 : Value).ownBlock) (Kd.R_keptB (HO603.out) hkp (fun k_ hk_ hs_ => (hk_.2) hs_)) (fun k_ hk_ => hk_.1.1.2)); have n2_ := Aside0.mk (hb); clear HO599; clear HO603; clear HB; clear HO620; have HO599 := n0_; have HO603 := n1_; have HB := n2_; clear n0_ n1_ n2_; (try clear hb); (try clear hkp)))
            go_ret
            exact ⟨eq_, bq⟩
def schismaref02_Neg.f (a0 : ByteArray) : Option (ByteArray) := (schismaref02_Sign.f a0).bind fun t622 => (if t622 < 0 then (if 1 ≤ (a0.size : Int) then (some (a0.extract 1 a0.size)) else (none)) else ((schismaref02_Sign.f a0).bind fun t623 => (if t623 = 0 then (some a0) else (if 1 + a0.size ≤ 9223372036854775807 then (some ((⟨#[45]⟩ : ByteArray) ++ a0)) else (none)))))
set_option maxHeartbeats 8000000 in
set_option maxRecDepth 100000 in
theorem schismaref02_Neg.calls (a0 : ByteArray) (r : ByteArray) (w : World) (h : schismaref02_Neg.f a0 = some r) :
    Calls Tryz.prog 46 #[.string a0] w fun e w' => e = .returned (.string r) ∧ Drawn0 w w' := by
  have H : ((schismaref02_Sign.f a0).bind fun t622 => (if t622 < 0 then (if 1 ≤ (a0.size : Int) then (some (a0.extract 1 a0.size)) else (none)) else ((schismaref02_Sign.f a0).bind fun t623 => (if t623 = 0 then (some a0) else (if 1 + a0.size ≤ 9223372036854775807 then (some ((⟨#[45]⟩ : ByteArray) ++ a0)) else (none)))))) = some r := h
  clear h
  replace H := Option.bind_eq_some_iff.mp H
  obtain ⟨t622, A20, H⟩ := H
  replace H : (if t622 < 0 then (if 1 ≤ (a0.size : Int) then (some (a0.extract 1 a0.size)) else (none)) else ((schismaref02_Sign.f a0).bind fun t623 => (if t623 = 0 then (some a0) else (if 1 + a0.size ≤ 9223372036854775807 then (some ((⟨#[45]⟩ : ByteArray) ++ a0)) else (none))))) = some r := H
  have A2 := Aside0.mk A20
  clear A20
  by_cases c3 : t622 < 0
  · rw [if_pos c3] at H
    have c3b0 : decide (t622 < 0) = true := decide_eq_true c3
    clear c3
    by_cases c4 : 1 ≤ (a0.size : Int)
    · rw [if_pos c4] at H
      have c4b0 := eq_true c4
      have c4b1 : decide (1 ≤ (a0.size : Int)) = true := decide_eq_true c4
      clear c4
      obtain rfl := Option.some.inj H
      go_enter Tryz.func46, Tryz.ntmps46
      go_wp2_with (first | ((with_reducible refine gate_callee (f := 53) rfl ?_); refine goesL_ (some 4) rfl rfl Tryz.func53 (by kernel_rfl) rfl #[.string a0] rfl mq ?_; (with_reducible refine (schismaref02_Sign.calls a0 t622 _ A2.out).mono ?_); rintro e w' ⟨rfl, ⟨nd, rfl⟩⟩; refine ⟨_, rfl, ?_⟩))
      go_ret
      exact ⟨by first | rfl | (simp; done) | (simp [wrap64]; done) | (simp [*]; done), by repeat (first | exact Drawn0.refl _ | apply Drawn0.step)⟩
    · rw [if_neg c4] at H
      exact absurd H (by simp)
  · rw [if_neg c3] at H
    have c3b0 : decide (t622 < 0) = false := decide_eq_false c3
    clear c3
    replace H := Option.bind_eq_some_iff.mp H
    obtain ⟨t623, A50, H⟩ := H
    replace H : (if t623 = 0 then (some a0) else (if 1 + a0.size ≤ 9223372036854775807 then (some ((⟨#[45]⟩ : ByteArray) ++ a0)) else (none))) = some r := H
    have A5 := Aside0.mk A50
    clear A50
    have hq2_ : t622 = t623 := Option.some.inj (A2.out.symm.trans A5.out)
    obtain rfl := hq2_
    by_cases c6 : t622 = 0
    · rw [if_pos c6] at H
      have c6b0 : (t622 == 0) = true := beq_iff_eq.mpr c6
      have c6b1 : (t622 != 0) = false := bne_eq_false_iff_eq.mpr c6
      clear c6
      obtain rfl := Option.some.inj H
      go_enter Tryz.func46, Tryz.ntmps46
      go_wp2_with (first | ((with_reducible refine gate_callee (f := 53) rfl ?_); refine goesL_ (some 4) rfl rfl Tryz.func53 (by kernel_rfl) rfl #[.string a0] rfl mq ?_; (with_reducible refine (schismaref02_Sign.calls a0 t622 _ A2.out).mono ?_); rintro e w' ⟨rfl, ⟨nd, rfl⟩⟩; refine ⟨_, rfl, ?_⟩) | ((with_reducible refine gate_callee (f := 53) rfl ?_); refine goesL_ (some 9) rfl rfl Tryz.func53 (by kernel_rfl) rfl #[.string a0] rfl mq ?_; (with_reducible refine (schismaref02_Sign.calls a0 t622 _ A5.out).mono ?_); rintro e w' ⟨rfl, ⟨nd, rfl⟩⟩; refine ⟨_, rfl, ?_⟩))
      go_ret
      exact ⟨by first | rfl | (simp; done) | (simp [wrap64]; done) | (simp [*]; done), by repeat (first | exact Drawn0.refl _ | apply Drawn0.step)⟩
    · rw [if_neg c6] at H
      have c6b0 : (t622 == 0) = false := beq_eq_false_iff_ne.mpr c6
      have c6b1 : (t622 != 0) = true := bne_iff_ne.mpr c6
      by_cases c7 : 1 + a0.size ≤ 9223372036854775807
      · rw [if_pos c7] at H
        have c7b0 := eq_true c7
        have c7b1 : decide (1 + a0.size ≤ 9223372036854775807) = true := decide_eq_true c7
        try have c7b2 : (9223372036854775807 < 1 + a0.size) = False := eq_false (Nat.not_lt.2 c7)
        obtain rfl := Option.some.inj H
        go_enter Tryz.func46, Tryz.ntmps46
        go_wp2_with (first | ((with_reducible refine gate_callee (f := 53) rfl ?_); refine goesL_ (some 4) rfl rfl Tryz.func53 (by kernel_rfl) rfl #[.string a0] rfl mq ?_; (with_reducible refine (schismaref02_Sign.calls a0 t622 _ A2.out).mono ?_); rintro e w' ⟨rfl, ⟨nd, rfl⟩⟩; refine ⟨_, rfl, ?_⟩) | ((with_reducible refine gate_callee (f := 53) rfl ?_); refine goesL_ (some 9) rfl rfl Tryz.func53 (by kernel_rfl) rfl #[.string a0] rfl mq ?_; (with_reducible refine (schismaref02_Sign.calls a0 t622 _ A5.out).mono ?_); rintro e w' ⟨rfl, ⟨nd, rfl⟩⟩; refine ⟨_, rfl, ?_⟩))
        go_ret
        exact ⟨by first | rfl | (simp; done) | (simp [wrap64]; done) | (simp [*]; done), by repeat (first | exact Drawn0.refl _ | apply Drawn0.step)⟩
      · rw [if_neg c7] at H
        exact absurd H (by simp)
def schismaref02_Sub.f (k : Nat) (a0 : ByteArray) (a1 : ByteArray) : Option (ByteArray) := (schismaref02_Neg.f a1).bind fun t624 => ((schismaref02_Add.f k a0 t624).bind fun t625 => (some t625))
theorem schismaref02_Sub.mono : ∀ a0 a1 k, LeO (schismaref02_Sub.f k a0 a1) (schismaref02_Sub.f (k + 1) a0 a1) := by
  intro a0 a1 k
  unfold schismaref02_Sub.f
  repeat' first
      | (with_reducible exact schismaref02_Add.mono _ _ _)
      | (with_reducible exact LeO.refl _)
      | (with_reducible exact LeO.none _)
      | (with_reducible refine LeO.ite ?_ ?_)
      | (with_reducible refine LeO.bind ?_ (fun _ => ?_))
      | exact schismaref02_Add.mono _ _ _
      | exact LeO.none _
      | refine LeO.ite ?_ ?_
      | refine LeO.bind ?_ (fun _ => ?_)
set_option maxHeartbeats 8000000 in
set_option maxRecDepth 100000 in
theorem schismaref02_Sub.calls (k : Nat) (a0 : ByteArray) (a1 : ByteArray) (r : ByteArray) (w : World) (hT : Tab w) (h : schismaref02_Sub.f k a0 a1 = some r) :
    Calls Tryz.prog 15 #[.string a0, .string a1] w fun e w' => e = .returned (.string r) ∧ Below w.heap.size w w' := by
  have HT := Aside0.mk hT
  clear hT
  have HB := Aside0.mk (Below.refl w.heap.size w)
  have H : ((schismaref02_Neg.f a1).bind fun t624 => ((schismaref02_Add.f k a0 t624).bind fun t625 => (some t625))) = some r := h
  clear h
  replace H := Option.bind_eq_some_iff.mp H
  obtain ⟨t624, A30, H⟩ := H
  replace H : ((schismaref02_Add.f k a0 t624).bind fun t625 => (some t625)) = some r := H
  have A3 := Aside0.mk A30
  clear A30
  replace H := Option.bind_eq_some_iff.mp H
  obtain ⟨t625, A40, H⟩ := H
  replace H : (some t625) = some r := H
  have A4 := Aside0.mk A40
  clear A40
  obtain rfl := Option.some.inj H
  go_enter Tryz.func15, Tryz.ntmps15
  go_wp2_with (first | ((with_reducible refine gate_callee (f := 46) rfl ?_); refine goesL_ (some 7) rfl rfl Tryz.func46 (by kernel_rfl) rfl #[.string a1] rfl mq ?_; (with_reducible refine (schismaref02_Neg.calls a1 t624 _ A3.out).mono ?_); rintro e w' ⟨rfl, ⟨nd, rfl⟩⟩; refine ⟨_, rfl, ?_⟩) | ((with_reducible refine gate_callee (f := 12) rfl ?_); refine goesL_ (some 8) rfl rfl Tryz.func12 (by kernel_rfl) rfl #[.string a0, .string t624] rfl mq ?_; (with_reducible refine (schismaref02_Add.calls (hT := HT.out.below bq) k a0 t624 t625 _ A4.out).mono ?_); rintro e w5 ⟨rfl, hb⟩; refine ⟨_, rfl, ?_⟩; replace HB := Aside0.mk (below_step bq hb); (try clear hb); (try clear hb2); (try clear hk); (try clear hi)))
  go_ret
  exact ⟨eq_, bq⟩
mutual
def schismalaw02_WholeSums.j0 : Nat → List (S24) → Bool → Bool → List Int → Bool → List Int → Option (Bool)
  | 0, _, _, _, _, _, _ => none
  | k + 1, x2, x18, x627000, x627001, x628000, x628001 => if x18 = true then ((schismalaw02_known.f k).bind fun t629 => (some t629)) else ((schismalaw02_Make.f k x627000 x627001 80).bind fun t630 => ((schismalaw02_Make.f k x628000 x628001 80).bind fun t631 => (schismalaw02_WholeSums.l0 k x2 t630 t631 ([] : List ByteArray) (⟨#[48]⟩ : ByteArray) 0)))
def schismalaw02_WholeSums.l0 : Nat → List (S24) → ByteArray → ByteArray → List ByteArray → ByteArray → Int → Option (Bool)
  | 0, _, _, _, _, _, _ => none
  | k + 1, x2, x7, x8, x9, x10, x11 => if x11 < (x2.length : Int) then (if 0 ≤ x11 then ((schismalaw02_Make.f k ((rd_T24 x2 x11).f0) ((rd_T24 x2 x11).f1) 25).bind fun t633 => (if x9.length < 8796093022208 then ((some (x9 ++ [t633] : List ByteArray)).bind fun y634 => (if x11 < (y634.length : Int) then ((schismaref02_Add.f k x10 (rdOf ByteArray.empty y634 x11)).bind fun t638 => (schismalaw02_WholeSums.l0 k x2 x7 x8 y634 t638 (wrap64 (x11 + 1)))) else (none))) else (none))) else (none)) else ((whole_Add.f k x7 x8).bind fun t639 => ((schismaref02_Add.f k x7 x8).bind fun t640 => (if t639.toList = t640.toList then ((whole_Sub.f k x7 x8).bind fun t641 => ((schismaref02_Sub.f k x7 x8).bind fun t642 => (if t641.toList = t642.toList then ((whole_Sum.f k x9).bind fun t643 => (some (t643.toList == x10.toList))) else (some false)))) else (some false))))
end
def schismalaw02_WholeSums.f (k : Nat) (a0_0 : Bool) (l0_1 : List Int) (a1_0 : Bool) (l1_1 : List Int) (l2 : List (S24)) : Option (Bool) := (schismalaw02_known.f k).bind fun t628 => (if t628 = true then (schismalaw02_WholeSums.j0 k l2 (decide ((l2.length : Int) > 8)) a0_0 l0_1 a1_0 l1_1) else (schismalaw02_WholeSums.j0 k l2 true a0_0 l0_1 a1_0 l1_1))
theorem schismalaw02_WholeSums.mono_l : ∀ k, (∀ y0 y1 y2 y3 y4 y5, LeO (schismalaw02_WholeSums.j0 k y0 y1 y2 y3 y4 y5) (schismalaw02_WholeSums.j0 (k + 1) y0 y1 y2 y3 y4 y5)) ∧ (∀ y0 y1 y2 y3 y4 y5, LeO (schismalaw02_WholeSums.l0 k y0 y1 y2 y3 y4 y5) (schismalaw02_WholeSums.l0 (k + 1) y0 y1 y2 y3 y4 y5))
  | 0 => ⟨fun _ _ _ _ _ _ r h => by simp [schismalaw02_WholeSums.j0] at h, fun _ _ _ _ _ _ r h => by simp [schismalaw02_WholeSums.l0] at h⟩
  | k + 1 => by
    obtain ⟨ih0, ih1⟩ := schismalaw02_WholeSums.mono_l k
    refine ⟨?_, ?_⟩
    · intro y0 y1 y2 y3 y4 y5
      unfold schismalaw02_WholeSums.j0
      repeat' first
      | (with_reducible exact ih0 _ _ _ _ _ _)
      | (with_reducible exact ih1 _ _ _ _ _ _)
      | (with_reducible exact schismalaw02_Make.mono _ _ _ _)
      | (with_reducible exact schismalaw02_known.mono _)
      | (with_reducible exact schismaref02_Add.mono _ _ _)
      | (with_reducible exact schismaref02_Sub.mono _ _ _)
      | (with_reducible exact whole_Add.mono _ _ _)
      | (with_reducible exact whole_Sub.mono _ _ _)
      | (with_reducible exact whole_Sum.mono _ _)
      | (with_reducible exact LeO.refl _)
      | (with_reducible exact LeO.none _)
      | (with_reducible refine LeO.ite ?_ ?_)
      | (with_reducible refine LeO.bind ?_ (fun _ => ?_))
      | exact ih0 _ _ _ _ _ _
      | exact ih1 _ _ _ _ _ _
      | exact schismalaw02_Make.mono _ _ _ _
      | exact schismalaw02_known.mono _
      | exact schismaref02_Add.mono _ _ _
      | exact schismaref02_Sub.mono _ _ _
      | exact whole_Add.mono _ _ _
      | exact whole_Sub.mono _ _ _
      | exact whole_Sum.mono _ _
      | exact LeO.none _
      | refine LeO.ite ?_ ?_
      | refine LeO.bind ?_ (fun _ => ?_)
    · intro y0 y1 y2 y3 y4 y5
      unfold schismalaw02_WholeSums.l0
      repeat' first
      | (with_reducible exact ih0 _ _ _ _ _ _)
      | (with_reducible exact ih1 _ _ _ _ _ _)
      | (with_reducible exact schismalaw02_Make.mono _ _ _ _)
      | (with_reducible exact schismalaw02_known.mono _)
      | (with_reducible exact schismaref02_Add.mono _ _ _)
      | (with_reducible exact schismaref02_Sub.mono _ _ _)
      | (with_reducible exact whole_Add.mono _ _ _)
      | (with_reducible exact whole_Sub.mono _ _ _)
      | (with_reducible exact whole_Sum.mono _ _)
      | (with_reducible exact LeO.refl _)
      | (with_reducible exact LeO.none _)
      | (with_reducible refine LeO.ite ?_ ?_)
      | (with_reducible refine LeO.bind ?_ (fun _ => ?_))
      | exact ih0 _ _ _ _ _ _
      | exact ih1 _ _ _ _ _ _
      | exact schismalaw02_Make.mono _ _ _ _
      | exact schismalaw02_known.mono _
      | exact schismaref02_Add.mono _ _ _
      | exact schismaref02_Sub.mono _ _ _
      | exact whole_Add.mono _ _ _
      | exact whole_Sub.mono _ _ _
      | exact whole_Sum.mono _ _
      | exact LeO.none _
      | refine LeO.ite ?_ ?_
      | refine LeO.bind ?_ (fun _ => ?_)
theorem schismalaw02_WholeSums.mono : ∀ a0 a1 a2 a3 a4 k, LeO (schismalaw02_WholeSums.f k a0 a1 a2 a3 a4) (schismalaw02_WholeSums.f (k + 1) a0 a1 a2 a3 a4) := by
  intro a0 a1 a2 a3 a4 k
  obtain ⟨ih0, ih1⟩ := schismalaw02_WholeSums.mono_l k
  unfold schismalaw02_WholeSums.f
  repeat' first
      | (with_reducible exact ih0 _ _ _ _ _ _)
      | (with_reducible exact ih1 _ _ _ _ _ _)
      | (with_reducible exact schismalaw02_Make.mono _ _ _ _)
      | (with_reducible exact schismalaw02_known.mono _)
      | (with_reducible exact schismaref02_Add.mono _ _ _)
      | (with_reducible exact schismaref02_Sub.mono _ _ _)
      | (with_reducible exact whole_Add.mono _ _ _)
      | (with_reducible exact whole_Sub.mono _ _ _)
      | (with_reducible exact whole_Sum.mono _ _)
      | (with_reducible exact LeO.refl _)
      | (with_reducible exact LeO.none _)
      | (with_reducible refine LeO.ite ?_ ?_)
      | (with_reducible refine LeO.bind ?_ (fun _ => ?_))
      | exact ih0 _ _ _ _ _ _
      | exact ih1 _ _ _ _ _ _
      | exact schismalaw02_Make.mono _ _ _ _
      | exact schismalaw02_known.mono _
      | exact schismaref02_Add.mono _ _ _
      | exact schismaref02_Sub.mono _ _ _
      | exact whole_Add.mono _ _ _
      | exact whole_Sub.mono _ _ _
      | exact whole_Sum.mono _ _
      | exact LeO.none _
      | refine LeO.ite ?_ ?_
      | refine LeO.bind ?_ (fun _ => ?_)
set_option maxHeartbeats 8000000 in
set_option maxRecDepth 100000 in
theorem schismalaw02_WholeSums.calls (k : Nat) (a0_0 : Bool) (A0_1 : Option Addr) (c0_1 : Nat) (l0_1 : List Int) (a1_0 : Bool) (A1_1 : Option Addr) (c1_1 : Nat) (l1_1 : List Int) (A2 : Option Addr) (c2 : Nat) (l2 : List (S24)) (r : Bool) (w : World) (hr0_1 : Kd.C (Kd.int .u8) w A0_1 l0_1.length l0_1) (hc0_1 : l0_1.length ≤ c0_1) (hr1_1 : Kd.C (Kd.int .u8) w A1_1 l1_1.length l1_1) (hc1_1 : l1_1.length ≤ c1_1) (hr2 : Kd.C k24 w A2 l2.length l2) (hc2 : l2.length ≤ c2) (hT : Tab w) (h : schismalaw02_WholeSums.f k a0_0 l0_1 a1_0 l1_1 l2 = some r) :
    Calls Tryz.prog 4 #[.agg #[.bool a0_0, .slice A0_1 l0_1.length c0_1], .agg #[.bool a1_0, .slice A1_1 l1_1.length c1_1], .slice A2 l2.length c2] w fun e w' => e = .returned (.bool r) ∧ Below w.heap.size w w' := by
  have HT := Aside0.mk hT
  clear hT
  have hu24 := Tryz.underlying24
  have HR0_1 := Aside0.mk hr0_1
  have HC0_1 := Aside0.mk hc0_1
  clear hr0_1 hc0_1
  have HR1_1 := Aside0.mk hr1_1
  have HC1_1 := Aside0.mk hc1_1
  clear hr1_1 hc1_1
  have HR2 := Aside0.mk hr2
  have HC2 := Aside0.mk hc2
  clear hr2 hc2
  have HB := Aside0.mk (Below.refl w.heap.size w)
  have H : ((schismalaw02_known.f k).bind fun t628 => (if t628 = true then (schismalaw02_WholeSums.j0 k l2 (decide ((l2.length : Int) > 8)) a0_0 l0_1 a1_0 l1_1) else (schismalaw02_WholeSums.j0 k l2 true a0_0 l0_1 a1_0 l1_1))) = some r := h
  clear h
  have HC4 := Aside0.mk H
  clear H
  go_enter Tryz.func4, Tryz.ntmps4
  go_upto_region 1 with (first | ((with_reducible refine gate_dst (N := 3) rfl ?_); (try (refine gate_guard (by rfl) ?_; dsimp only)); refine box_event ?hg (N := 3) ?hd (cs := #[.bool a0_0, .slice A0_1 l0_1.length c0_1]) (t := 24) ?hr ?_; (case hd => rfl); (case hg => rfl); (case hr => first | (go_simp; done) | (go_simp; rfl)); intro gb626 hg w5 hbox hb; have n0_ := Aside0.mk (below_step bq hb); have n1_ := Aside0.mk (hbox); have n2_ := Aside0.mk ((by rw [hg]; exact (below_size bq) : w.heap.size ≤ gb626)); have n3_ := Aside0.mk ((by rw [hg]; exact (below_size bq) : w.heap.size ≤ gb626)); clear HB; have HB := n0_; have BK626 := n1_; have GW626 := n2_; have GE626 := n3_; clear n0_ n1_ n2_ n3_; clear hb hbox hg) | ((with_reducible refine gate_dst (N := 4) rfl ?_); (try (refine gate_guard (by rfl) ?_; dsimp only)); refine box_event ?hg (N := 4) ?hd (cs := #[.bool a1_0, .slice A1_1 l1_1.length c1_1]) (t := 24) ?hr ?_; (case hd => rfl); (case hg => rfl); (case hr => first | (go_simp; done) | (go_simp; rfl)); intro gb627 hg w6 hbox hb; have n0_ := Aside0.mk (blk_below (g := gb626) (o := .cells #[.bool a0_0, .slice A0_1 l0_1.length c0_1] 24 (0, 0)) (by (with_reducible repeat (first | refine blk_drewN ?_ _ | refine blk_drew ?_ | refine blk_alloc ?_ _)); exact BK626.out) hb); have n1_ := Aside0.mk (below_step (by repeat (first | (with_reducible first | exact HB.out | apply below_alloc | apply pw_below_drewN | apply below_drew1 | refine below_set ?_ GE626.out) | exact HB.out)) hb); have n2_ := Aside0.mk (hbox); have n3_ := Aside0.mk ((by rw [hg]; exact (below_size (by repeat (first | (with_reducible first | exact HB.out | apply below_alloc | apply pw_below_drewN | apply below_drew1 | refine below_set ?_ GE626.out) | exact HB.out))) : w.heap.size ≤ gb627)); have n4_ := Aside0.mk ((by rw [hg]; exact (below_size (by repeat (first | (with_reducible first | exact HB.out | apply below_alloc | apply pw_below_drewN | apply below_drew1 | refine below_set ?_ GE626.out) | exact HB.out))) : w.heap.size ≤ gb627)); have n5_ := Aside0.mk ((by rw [hg]; exact Nat.ne_of_lt (blk_lt (g := gb626) (o := .cells #[.bool a0_0, .slice A0_1 l0_1.length c0_1] 24 (0, 0)) (by (with_reducible repeat (first | refine blk_drewN ?_ _ | refine blk_drew ?_ | refine blk_alloc ?_ _)); exact BK626.out)) : gb626 ≠ gb627)); have n6_ := Aside0.mk ((by rw [hg]; exact Nat.ne_of_gt (blk_lt (g := gb626) (o := .cells #[.bool a0_0, .slice A0_1 l0_1.length c0_1] 24 (0, 0)) (by (with_reducible repeat (first | refine blk_drewN ?_ _ | refine blk_drew ?_ | refine blk_alloc ?_ _)); exact BK626.out)) : gb627 ≠ gb626)); clear BK626; clear HB; have BK626 := n0_; have HB := n1_; have BK627 := n2_; have GW627 := n3_; have GE627 := n4_; have NB626_627 := n5_; have NB627_626 := n6_; clear n0_ n1_ n2_ n3_ n4_ n5_ n6_; clear hb hbox hg))
  (try simp only [Act.put, List.setIfInBounds_toArray, List.set_cons_zero, List.set_cons_succ])
  go_cut [18] (fun v18 wc => ∃ (kq : Nat) (x18_3 : Bool), v18 = .bool x18_3 ∧ Aside0 (schismalaw02_WholeSums.j0 kq l2 x18_3 a0_0 l0_1 a1_0 l1_1 = some r) ∧ Aside0 (kq ≤ k) ∧ Aside0 (wc.heap[gb626]? = some (.cells #[.bool a0_0, (.slice A0_1 l0_1.length c0_1)] 24 (0, 0))) ∧ Aside0 (wc.heap[gb627]? = some (.cells #[.bool a1_0, (.slice A1_1 l1_1.length c1_1)] 24 (0, 0))) ∧ Aside0 (Below w.heap.size w wc))
  case first =>
    have H := HC4.out
    clear HC4
    replace H := Option.bind_eq_some_iff.mp H
    obtain ⟨t628, A70, H⟩ := H
    replace H : (if t628 = true then (schismalaw02_WholeSums.j0 k l2 (decide ((l2.length : Int) > 8)) a0_0 l0_1 a1_0 l1_1) else (schismalaw02_WholeSums.j0 k l2 true a0_0 l0_1 a1_0 l1_1)) = some r := H
    have A7 := Aside0.mk A70
    clear A70
    by_cases c8 : t628 = true
    · subst c8
      have H1 : (schismalaw02_WholeSums.j0 k l2 (decide ((l2.length : Int) > 8)) a0_0 l0_1 a1_0 l1_1) = some r := by rw [if_pos rfl] at H; exact H
      clear H
      have H := H1
      clear H1
      have H' := Aside0.mk H
      clear H
      go_wp2_with (first | ((with_reducible refine gate_callee (f := 7) rfl ?_); refine goesL_ (some 12) rfl rfl Tryz.func7 (by kernel_rfl) rfl #[] rfl mq ?_; (with_reducible refine (schismalaw02_known.calls (hT := HT.out.below bq) k  true _ A7.out).mono ?_); rintro e w9 ⟨rfl, hb⟩; refine ⟨_, rfl, ?_⟩; have n0_ := Aside0.mk (blk_below (g := gb626) (o := .cells #[.bool a0_0, .slice A0_1 l0_1.length c0_1] 24 (0, 0)) (by (with_reducible repeat (first | refine blk_drewN ?_ _ | refine blk_drew ?_ | refine blk_alloc ?_ _)); exact BK626.out) hb); have n1_ := Aside0.mk (blk_below (g := gb627) (o := .cells #[.bool a1_0, .slice A1_1 l1_1.length c1_1] 24 (0, 0)) (by (with_reducible repeat (first | refine blk_drewN ?_ _ | refine blk_drew ?_ | refine blk_alloc ?_ _)); exact BK627.out) hb); have n2_ := Aside0.mk (below_step (by repeat (first | (with_reducible first | exact HB.out | apply below_alloc | apply pw_below_drewN | apply below_drew1 | refine below_set ?_ GE626.out | refine below_set ?_ GE627.out) | exact HB.out)) hb); clear BK626; clear BK627; clear HB; have BK626 := n0_; have BK627 := n1_; have HB := n2_; clear n0_ n1_ n2_; (try clear hb); (try clear hb2); (try clear hk); (try clear hi)))
      go_meet
      case rel => exact ⟨_, (decide ((l2.length : Int) > 8)), (by first | rfl | (simp; done) | (simp [*]; done)), H', ⟨by first | omega | exact Nat.le_refl _⟩, ⟨by (with_reducible repeat (first | refine blk_drewN ?_ _ | refine blk_drew ?_ | refine blk_alloc ?_ _)); exact BK626.out⟩, ⟨by (with_reducible repeat (first | refine blk_drewN ?_ _ | refine blk_drew ?_ | refine blk_alloc ?_ _)); exact BK627.out⟩, ⟨by repeat (first | (with_reducible first | exact HB.out | apply below_alloc | apply pw_below_drewN | apply below_drew1 | refine below_set ?_ GE626.out | refine below_set ?_ GE627.out) | exact HB.out)⟩⟩
    · replace c8 := Bool.eq_false_iff.mpr c8
      subst c8
      have H1 : (schismalaw02_WholeSums.j0 k l2 true a0_0 l0_1 a1_0 l1_1) = some r := by rw [if_neg (show ¬ (false = true) by decide)] at H; exact H
      clear H
      have H := H1
      clear H1
      have H' := Aside0.mk H
      clear H
      go_wp2_with (first | ((with_reducible refine gate_callee (f := 7) rfl ?_); refine goesL_ (some 12) rfl rfl Tryz.func7 (by kernel_rfl) rfl #[] rfl mq ?_; (with_reducible refine (schismalaw02_known.calls (hT := HT.out.below bq) k  false _ A7.out).mono ?_); rintro e w10 ⟨rfl, hb⟩; refine ⟨_, rfl, ?_⟩; have n0_ := Aside0.mk (blk_below (g := gb626) (o := .cells #[.bool a0_0, .slice A0_1 l0_1.length c0_1] 24 (0, 0)) (by (with_reducible repeat (first | refine blk_drewN ?_ _ | refine blk_drew ?_ | refine blk_alloc ?_ _)); exact BK626.out) hb); have n1_ := Aside0.mk (blk_below (g := gb627) (o := .cells #[.bool a1_0, .slice A1_1 l1_1.length c1_1] 24 (0, 0)) (by (with_reducible repeat (first | refine blk_drewN ?_ _ | refine blk_drew ?_ | refine blk_alloc ?_ _)); exact BK627.out) hb); have n2_ := Aside0.mk (below_step (by repeat (first | (with_reducible first | exact HB.out | apply below_alloc | apply pw_below_drewN | apply below_drew1 | refine below_set ?_ GE626.out | refine below_set ?_ GE627.out) | exact HB.out)) hb); clear BK626; clear BK627; clear HB; have BK626 := n0_; have BK627 := n1_; have HB := n2_; clear n0_ n1_ n2_; (try clear hb); (try clear hb2); (try clear hk); (try clear hi)))
      go_meet
      case rel => exact ⟨_, (true), (by first | rfl | (simp; done) | (simp [*]; done)), H', ⟨by first | omega | exact Nat.le_refl _⟩, ⟨by (with_reducible repeat (first | refine blk_drewN ?_ _ | refine blk_drew ?_ | refine blk_alloc ?_ _)); exact BK626.out⟩, ⟨by (with_reducible repeat (first | refine blk_drewN ?_ _ | refine blk_drew ?_ | refine blk_alloc ?_ _)); exact BK627.out⟩, ⟨by repeat (first | (with_reducible first | exact HB.out | apply below_alloc | apply pw_below_drewN | apply below_drew1 | refine below_set ?_ GE626.out | refine below_set ?_ GE627.out) | exact HB.out)⟩⟩
  case rest =>
    clear HC4
    try clear c1
    try clear c2
    try clear p2
    try clear c4
    try clear c7
    try clear c8
    obtain ⟨kq, x18_3, rfl, HA, HJ3, BK626, BK627, HB⟩ := hcut
    cases kq with
    | zero => exact absurd HA.out (by simp [schismalaw02_WholeSums.j0])
    | succ kj3 =>
      have H := HA.out
      clear HA
      simp only [schismalaw02_WholeSums.j0] at H
      by_cases c11 : x18_3 = true
      · subst c11
        have H1 : ((schismalaw02_known.f kj3).bind fun t629 => (some t629)) = some r := by rw [if_pos rfl] at H; exact H
        clear H
        have H := H1
        clear H1
        replace H := Option.bind_eq_some_iff.mp H
        obtain ⟨t629, A120, H⟩ := H
        replace H : (some t629) = some r := H
        have A12 := Aside0.mk A120
        clear A120
        obtain rfl := Option.some.inj H
        go_wp2_with (first | ((with_reducible refine gate_callee (f := 7) rfl ?_); refine goesL_ (some 19) rfl rfl Tryz.func7 (by kernel_rfl) rfl #[] rfl mq ?_; (with_reducible refine (schismalaw02_known.calls (hT := HT.out.below bq) kj3  t629 _ A12.out).mono ?_); rintro e w13 ⟨rfl, hb⟩; refine ⟨_, rfl, ?_⟩; have n0_ := Aside0.mk (blk_below (g := gb626) (o := .cells #[.bool a0_0, .slice A0_1 l0_1.length c0_1] 24 (0, 0)) (by (with_reducible repeat (first | refine blk_drewN ?_ _ | refine blk_drew ?_ | refine blk_alloc ?_ _)); exact BK626.out) hb); have n1_ := Aside0.mk (blk_below (g := gb627) (o := .cells #[.bool a1_0, .slice A1_1 l1_1.length c1_1] 24 (0, 0)) (by (with_reducible repeat (first | refine blk_drewN ?_ _ | refine blk_drew ?_ | refine blk_alloc ?_ _)); exact BK627.out) hb); have n2_ := Aside0.mk (below_step (by repeat (first | (with_reducible first | exact HB.out | apply below_alloc | apply pw_below_drewN | apply below_drew1 | refine below_set ?_ GE626.out | refine below_set ?_ GE627.out) | exact HB.out)) hb); clear BK626; clear BK627; clear HB; have BK626 := n0_; have BK627 := n1_; have HB := n2_; clear n0_ n1_ n2_; (try clear hb); (try clear hb2); (try clear hk); (try clear hi)))
        go_ret
        exact ⟨eq_, by repeat (first | (with_reducible first | exact HB.out | apply below_alloc | apply pw_below_drewN | apply below_drew1 | refine below_set ?_ GE626.out | refine below_set ?_ GE627.out) | exact HB.out)⟩
      · replace c11 := Bool.eq_false_iff.mpr c11
        subst c11
        have H1 : ((schismalaw02_Make.f kj3 a0_0 l0_1 80).bind fun t630 => ((schismalaw02_Make.f kj3 a1_0 l1_1 80).bind fun t631 => (schismalaw02_WholeSums.l0 kj3 l2 t630 t631 ([] : List ByteArray) (⟨#[48]⟩ : ByteArray) 0))) = some r := by rw [if_neg (show ¬ (false = true) by decide)] at H; exact H
        clear H
        have H := H1
        clear H1
        replace H := Option.bind_eq_some_iff.mp H
        obtain ⟨t630, A140, H⟩ := H
        replace H : ((schismalaw02_Make.f kj3 a1_0 l1_1 80).bind fun t631 => (schismalaw02_WholeSums.l0 kj3 l2 t630 t631 ([] : List ByteArray) (⟨#[48]⟩ : ByteArray) 0)) = some r := H
        have A14 := Aside0.mk A140
        clear A140
        replace H := Option.bind_eq_some_iff.mp H
        obtain ⟨t631, A150, H⟩ := H
        replace H : (schismalaw02_WholeSums.l0 kj3 l2 t630 t631 ([] : List ByteArray) (⟨#[48]⟩ : ByteArray) 0) = some r := H
        have A15 := Aside0.mk A150
        clear A150
        have H' := Aside0.mk H
        clear H
        try go_wp2
        have n0_ := Aside0.mk (blk_drew BK626.out)
        have n1_ := Aside0.mk (blk_drew BK627.out)
        have n2_ := Aside0.mk (below_drew1 HB.out)
        clear BK626
        clear BK627
        clear HB
        have BK626 := n0_
        have BK627 := n1_
        have HB := n2_
        clear n0_ n1_ n2_
        refine start_ (n := 6) (S := fun w' => w'.cell? ⟨gb626, 0, none⟩ = some (.bool a0_0) ∧ w'.cell? ⟨gb626, 1, none⟩ = some (.slice A0_1 l0_1.length c0_1) ∧ w'.cell? ⟨gb627, 0, none⟩ = some (.bool a1_0) ∧ w'.cell? ⟨gb627, 1, none⟩ = some (.slice A1_1 l1_1.length c1_1)) (ds := []) #[false, false, false, false, false, false] (by kernel_rfl) rfl rfl ⟨(blk_cell BK626.out 0).trans rfl, (blk_cell BK626.out 1).trans rfl, (blk_cell BK627.out 0).trans rfl, (blk_cell BK627.out 1).trans rfl⟩ (fun hHeld => ?_)
        generalize wc.drew = w16 at BK626 BK627 HB hHeld ⊢
        refine take_ (i := 0) (N := some 20) (v := ?_) (a' := ?_) #[true, false, false, false, false, false] rfl rfl (by kernel_rfl) (fun _ _ _ h => h) (Or.inl ⟨by rfl, ?_⟩) hHeld ?_ ?_
        rotate_left
        · rintro w' ⟨s0, s1, s2, s3⟩
          go_simp
          with_reducible rfl
        rotate_left
        · simp only [Act.put, List.setIfInBounds_toArray, List.set_cons_zero, List.set_cons_succ, i64_w, i32_w]
          rfl
        refine take_ (i := 2) (N := some 22) (v := ?_) (a' := ?_) #[true, false, true, false, false, false] rfl rfl (by kernel_rfl) (fun _ _ _ h => h) (Or.inl ⟨by rfl, ?_⟩) hHeld ?_ ?_
        rotate_left
        · rintro w' ⟨s0, s1, s2, s3⟩
          go_simp
          with_reducible rfl
        rotate_left
        · simp only [Act.put, List.setIfInBounds_toArray, List.set_cons_zero, List.set_cons_succ, i64_w, i32_w]
          rfl
        refine one_ (i := 1) (N := some 21) #[true, true, true, false, false, false] rfl rfl (by kernel_rfl) (by decide) (fun K hK => ?_)
        refine goes_ Tryz.func8 (by kernel_rfl) rfl #[.agg #[.bool a0_0, .slice A0_1 l0_1.length c0_1], .int .i64 80] (by rfl) rfl rfl mq ?_
        with_reducible refine (schismalaw02_Make.calls kj3 a0_0 _ _ l0_1 80 t630 _ ?side1 ?side2 A14.out).mono ?_
        (case side1 => repeat (first | exact (Kd.C_below HR0_1.out HB.out) | (with_reducible refine Kd.C_alloc ?_ _) | (with_reducible refine Kd.C_drewN ?_ _) | (with_reducible refine Kd.C_drew ?_)))
        (case side2 => exact HC0_1.out)
        rintro e w17 ⟨rfl, hb⟩
        refine ⟨_, rfl, ?_⟩
        have n0_ := Aside0.mk (blk_below (g := gb626) (o := .cells #[.bool a0_0, .slice A0_1 l0_1.length c0_1] 24 (0, 0)) (by (with_reducible repeat (first | refine blk_drewN ?_ _ | refine blk_drew ?_ | refine blk_alloc ?_ _)); exact BK626.out) hb)
        have n1_ := Aside0.mk (blk_below (g := gb627) (o := .cells #[.bool a1_0, .slice A1_1 l1_1.length c1_1] 24 (0, 0)) (by (with_reducible repeat (first | refine blk_drewN ?_ _ | refine blk_drew ?_ | refine blk_alloc ?_ _)); exact BK627.out) hb)
        have n2_ := Aside0.mk (below_step (by repeat (first | (with_reducible first | exact HB.out | apply below_alloc | apply pw_below_drewN | apply below_drew1 | refine below_set ?_ GE626.out | refine below_set ?_ GE627.out) | exact HB.out)) hb)
        clear BK626
        clear BK627
        clear HB
        have BK626 := n0_
        have BK627 := n1_
        have HB := n2_
        clear n0_ n1_ n2_
        (try clear hb)
        (try clear hb2)
        (try clear hk)
        (try clear hi)
        refine hK.out _ _ ⟨(blk_cell BK626.out 0).trans rfl, (blk_cell BK626.out 1).trans rfl, (blk_cell BK627.out 0).trans rfl, (blk_cell BK627.out 1).trans rfl⟩ (fun hHeld => ?_)
        clear hK K
        refine norm_ (a' := ?_) ?_ ?_
        rotate_left
        · show Act.put _ (some 21) _ = _
          simp only [Act.put, List.setIfInBounds_toArray, List.set_cons_zero, List.set_cons_succ, i64_w, i32_w]
          rfl
        refine one_ (i := 3) (N := some 23) #[true, true, true, true, false, false] rfl rfl (by kernel_rfl) (by decide) (fun K hK => ?_)
        refine goes_ Tryz.func8 (by kernel_rfl) rfl #[.agg #[.bool a1_0, .slice A1_1 l1_1.length c1_1], .int .i64 80] (by rfl) rfl rfl mq ?_
        with_reducible refine (schismalaw02_Make.calls kj3 a1_0 _ _ l1_1 80 t631 _ ?side1 ?side2 A15.out).mono ?_
        (case side1 => repeat (first | exact (Kd.C_below HR1_1.out HB.out) | (with_reducible refine Kd.C_alloc ?_ _) | (with_reducible refine Kd.C_drewN ?_ _) | (with_reducible refine Kd.C_drew ?_)))
        (case side2 => exact HC1_1.out)
        rintro e w18 ⟨rfl, hb⟩
        refine ⟨_, rfl, ?_⟩
        have n0_ := Aside0.mk (blk_below (g := gb626) (o := .cells #[.bool a0_0, .slice A0_1 l0_1.length c0_1] 24 (0, 0)) (by (with_reducible repeat (first | refine blk_drewN ?_ _ | refine blk_drew ?_ | refine blk_alloc ?_ _)); exact BK626.out) hb)
        have n1_ := Aside0.mk (blk_below (g := gb627) (o := .cells #[.bool a1_0, .slice A1_1 l1_1.length c1_1] 24 (0, 0)) (by (with_reducible repeat (first | refine blk_drewN ?_ _ | refine blk_drew ?_ | refine blk_alloc ?_ _)); exact BK627.out) hb)
        have n2_ := Aside0.mk (below_step (by repeat (first | (with_reducible first | exact HB.out | apply below_alloc | apply pw_below_drewN | apply below_drew1 | refine below_set ?_ GE626.out | refine below_set ?_ GE627.out) | exact HB.out)) hb)
        clear BK626
        clear BK627
        clear HB
        have BK626 := n0_
        have BK627 := n1_
        have HB := n2_
        clear n0_ n1_ n2_
        (try clear hb)
        (try clear hb2)
        (try clear hk)
        (try clear hi)
        refine hK.out _ _ ⟨(blk_cell BK626.out 0).trans rfl, (blk_cell BK626.out 1).trans rfl, (blk_cell BK627.out 0).trans rfl, (blk_cell BK627.out 1).trans rfl⟩ (fun hHeld => ?_)
        clear hK K
        refine norm_ (a' := ?_) ?_ ?_
        rotate_left
        · show Act.put _ (some 23) _ = _
          simp only [Act.put, List.setIfInBounds_toArray, List.set_cons_zero, List.set_cons_succ, i64_w, i32_w]
          rfl
        refine pure_ (i := 4) (N := some 7) (v := ?_) (a' := ?_) #[true, true, true, true, true, false] rfl rfl (by kernel_rfl) (fun _ _ _ h => h) (Or.inl ⟨by rfl, ?_⟩) ?_ ?_
        rotate_left
        · intro w'
          go_simp
          with_reducible rfl
        rotate_left
        · simp only [Act.put, List.setIfInBounds_toArray, List.set_cons_zero, List.set_cons_succ, i64_w, i32_w]
          rfl
        refine pure_ (i := 5) (N := some 8) (v := ?_) (a' := ?_) #[true, true, true, true, true, true] rfl rfl (by kernel_rfl) (fun _ _ _ h => h) (Or.inl ⟨by rfl, ?_⟩) ?_ ?_
        rotate_left
        · intro w'
          go_simp
          with_reducible rfl
        rotate_left
        · simp only [Act.put, List.setIfInBounds_toArray, List.set_cons_zero, List.set_cons_succ, i64_w, i32_w]
          rfl
        refine done_ (by kernel_rfl) ?_
        try go_wp2
        go_loopg [9, 10, 11] kj3 (fun kq v9 v10 v11 w' => ∃ (x9_2 : List ByteArray) (x10_2 : ByteArray) (x11_2 : Int), v10 = .string x10_2 ∧ v11 = .int .i64 x11_2 ∧ Aside0 (schismalaw02_WholeSums.l0 kq l2 t630 t631 x9_2 x10_2 x11_2 = some r) ∧ Aside0 (kq ≤ kj3) ∧ Aside0 (Kd.R Kd.string 26 w' w.heap.size (fun _ => True) v9 x9_2) ∧ Aside0 (w'.heap[gb626]? = some (.cells #[.bool a0_0, (.slice A0_1 l0_1.length c0_1)] 24 (0, 0))) ∧ Aside0 (w'.heap[gb627]? = some (.cells #[.bool a1_0, (.slice A1_1 l1_1.length c1_1)] 24 (0, 0))) ∧ Aside0 (Below w.heap.size w w'))
        case atStart => exact ⟨(([] : List ByteArray)), ((⟨#[48]⟩ : ByteArray)), (0), (by first | rfl | (simp; done) | (simp [*]; done)), (by first | rfl | (simp; done) | (simp [*]; done)), H', ⟨Nat.le_refl _⟩, ⟨by first | exact Kd.R_nil _ _ _ _ _ | exact Kd.N_nil _ _ _ _ _ | exact Kd.V_nil _ _ _ _ _ | exact Kd.Q_nil _ _ _ _ _ | exact Kd.S_nil _ _ _ _ _⟩, ⟨by (with_reducible repeat (first | refine blk_drewN ?_ _ | refine blk_drew ?_ | refine blk_alloc ?_ _)); exact BK626.out⟩, ⟨by (with_reducible repeat (first | refine blk_drewN ?_ _ | refine blk_drew ?_ | refine blk_alloc ?_ _)); exact BK627.out⟩, ⟨by repeat (first | (with_reducible first | exact HB.out | apply below_alloc | apply pw_below_drewN | apply below_drew1 | refine below_set ?_ GE626.out | refine below_set ?_ GE627.out) | exact HB.out)⟩⟩
        case round =>
          clear H'
          try clear c1
          try clear c2
          try clear p2
          try clear c4
          try clear c7
          try clear c8
          try clear c11
          try clear p2
          obtain ⟨x9_2, x10_2, x11_2, rfl, rfl, HA, HK2, HO_9, BK626, BK627, HB⟩ := hrel
          cases gk with
          | zero => exact absurd HA.out (by simp [schismalaw02_WholeSums.l0])
          | succ k2 =>
            have H := HA.out
            clear HA
            simp only [schismalaw02_WholeSums.l0] at H
            by_cases c19 : x11_2 < (l2.length : Int)
            · rw [if_pos c19] at H
              have c19b0 : decide (x11_2 < (l2.length : Int)) = true := decide_eq_true c19
              clear c19
              by_cases c20 : 0 ≤ x11_2
              · rw [if_pos c20] at H
                have c20b0 : decide (0 ≤ x11_2) = true := decide_eq_true c20
                clear c20
                replace H := Option.bind_eq_some_iff.mp H
                obtain ⟨t633, A210, H⟩ := H
                replace H : (if x9_2.length < 8796093022208 then ((some (x9_2 ++ [t633] : List ByteArray)).bind fun y634 => (if x11_2 < (y634.length : Int) then ((schismaref02_Add.f k2 x10_2 (rdOf ByteArray.empty y634 x11_2)).bind fun t638 => (schismalaw02_WholeSums.l0 k2 l2 t630 t631 y634 t638 (wrap64 (x11_2 + 1)))) else (none))) else (none)) = some r := H
                have A21 := Aside0.mk A210
                clear A210
                by_cases c22 : x9_2.length < 8796093022208
                · rw [if_pos c22] at H
                  have LMc22 := Aside0.mk c22
                  clear c22
                  obtain ⟨y634, hy634⟩ : ∃ y_ : List ByteArray, y_ = (x9_2 ++ [t633]) := ⟨_, rfl⟩
                  replace H : (if x11_2 < (y634.length : Int) then ((schismaref02_Add.f k2 x10_2 (rdOf ByteArray.empty y634 x11_2)).bind fun t638 => (schismalaw02_WholeSums.l0 k2 l2 t630 t631 y634 t638 (wrap64 (x11_2 + 1)))) else (none)) = some r := by first | (rw [hy634]; with_reducible exact H) | (have H2_ := (Option.bind_some _ _).symm.trans H; rw [hy634]; with_reducible exact H2_) | (have H2_ := (Option.bind_some _ _).symm.trans H; with_reducible exact H2_) | with_reducible exact H | (rw [hy634]; exact H) | exact H
                  have Ny634 := Aside0.mk hy634
                  clear hy634
                  by_cases c23 : x11_2 < (y634.length : Int)
                  · rw [if_pos c23] at H
                    have c23b0 : decide (x11_2 < (y634.length : Int)) = true := decide_eq_true c23
                    clear c23
                    replace H := Option.bind_eq_some_iff.mp H
                    obtain ⟨t638, A240, H⟩ := H
                    replace H : (schismalaw02_WholeSums.l0 k2 l2 t630 t631 y634 t638 (wrap64 (x11_2 + 1))) = some r := H
                    have A24 := Aside0.mk A240
                    clear A240
                    have H' := Aside0.mk H
                    clear H
                    have p632 : 0 ≤ (x11_2 : Int) := of_decide_eq_true (by first | (with_reducible assumption) | assumption)
                    have q632 : x11_2 < (l2.length : Int) := of_decide_eq_true (by first | (with_reducible assumption) | assumption)
                    obtain ⟨ad632, A632_1, c632_1, e632, hx632_0, hx632_1, hl632_1, hi632_1⟩ := at_T24 HR2.out x11_2 p632 q632
                    cases e632
                    replace hx632_0 := (HB.out.cell (World.block_lt_of_cell? w _ hx632_0)).trans hx632_0
                    replace hx632_1 := (HB.out.cell (World.block_lt_of_cell? w _ hx632_1)).trans hx632_1
                    have HR632_1 := Aside0.mk hi632_1
                    have HC632_1 := Aside0.mk hl632_1
                    clear hi632_1 hl632_1
                    replace p632 := eq_true p632
                    replace q632 := eq_true q632
                    go_wp2_with (first | ((with_reducible refine gate_callee (f := 8) rfl ?_); refine goesL_ (some 35) rfl rfl Tryz.func8 (by kernel_rfl) rfl #[.agg #[.bool ((rd_T24 l2 x11_2).f0), .slice A632_1 ((rd_T24 l2 x11_2).f1).length c632_1], .int .i64 25] rfl mq ?_; (with_reducible refine (schismalaw02_Make.calls k2 ((rd_T24 l2 x11_2).f0) _ _ ((rd_T24 l2 x11_2).f1) 25 t633 _ ?side1 ?side2 A21.out).mono ?_); (case side1 => repeat (first | exact (Kd.C_below HR632_1.out HB.out) | (with_reducible refine Kd.C_alloc ?_ _) | (with_reducible refine Kd.C_drewN ?_ _) | (with_reducible refine Kd.C_drew ?_))); (case side2 => exact HC632_1.out); rintro e w25 ⟨rfl, hb⟩; refine ⟨_, rfl, ?_⟩; have n0_ := Aside0.mk (Kd.R_below (by (with_reducible repeat (first | apply Kd.R_alloc | apply Kd.R_drewN | apply Kd.R_drew)); exact HO_9.out) hb); have n1_ := Aside0.mk (blk_below (g := gb626) (o := .cells #[.bool a0_0, .slice A0_1 l0_1.length c0_1] 24 (0, 0)) (by (with_reducible repeat (first | refine blk_drewN ?_ _ | refine blk_drew ?_ | refine blk_alloc ?_ _)); exact BK626.out) hb); have n2_ := Aside0.mk (blk_below (g := gb627) (o := .cells #[.bool a1_0, .slice A1_1 l1_1.length c1_1] 24 (0, 0)) (by (with_reducible repeat (first | refine blk_drewN ?_ _ | refine blk_drew ?_ | refine blk_alloc ?_ _)); exact BK627.out) hb); have n3_ := Aside0.mk (below_step (by repeat (first | (with_reducible first | exact HB.out | apply below_alloc | apply pw_below_drewN | apply below_drew1 | refine below_set ?_ GE626.out | refine below_set ?_ GE627.out) | exact HB.out)) hb); clear HO_9; clear BK626; clear BK627; clear HB; have HO_9 := n0_; have BK626 := n1_; have BK627 := n2_; have HB := n3_; clear n0_ n1_ n2_ n3_; (try clear hb); (try clear hb2); (try clear hk); (try clear hi)) | ((with_reducible refine gate_builtin (b := .append) (xs := #[.tmp 30, .tmp 36]) rfl ?_); (try (refine gate_guard (by rfl) ?_; dsimp only)); at_builtin; refine Kd.R_append Kd.string (w0 := w) w.heap.size rfl (.tmp 30) (.tmp 36) 35 26 (.string ⟨#[]⟩) 16 rfl Tryz.underlying35 info26 rfl (by decide) (by omega) u9 x9_2 t633 [.string t633] (fun _ => True) (fun _ => False) rfl rfl ?aP (fun _ hk => hk.elim) ?aF ?aO ?aB ?aS ?aL ?_; (case aP => exact rfl); (case aB => exact (by repeat (first | (with_reducible first | exact HB.out | apply below_alloc | apply pw_below_drewN | apply below_drew1 | refine below_set ?_ GE626.out | refine below_set ?_ GE627.out) | exact HB.out))); (case aF => exact (fun _ _ => trivial)); (case aO => exact (by (with_reducible repeat (first | apply Kd.R_alloc | apply Kd.R_drewN | apply Kd.R_drew)); exact HO_9.out)); (case aS => exact (below_size (by repeat (first | (with_reducible first | exact HB.out | apply below_alloc | apply pw_below_drewN | apply below_drew1 | refine below_set ?_ GE626.out | refine below_set ?_ GE627.out) | exact HB.out)))); (case aL => have := LMc22.out; omega); intro v635 w26 ho hb hg hat; rw [← Ny634.out] at ho; have n0_ := Aside0.mk (blk_grown (g := gb626) (o := .cells #[.bool a0_0, .slice A0_1 l0_1.length c0_1] 24 (0, 0)) (by (with_reducible repeat (first | refine blk_drewN ?_ _ | refine blk_drew ?_ | refine blk_alloc ?_ _)); exact BK626.out) hg (Kd.R_ne HO_9.out BK626.out (by decide))); have n1_ := Aside0.mk (blk_grown (g := gb627) (o := .cells #[.bool a1_0, .slice A1_1 l1_1.length c1_1] 24 (0, 0)) (by (with_reducible repeat (first | refine blk_drewN ?_ _ | refine blk_drew ?_ | refine blk_alloc ?_ _)); exact BK627.out) hg (Kd.R_ne HO_9.out BK627.out (by decide))); have n2_ := Aside0.mk (hb); have n3_ := Aside0.mk (ho); clear BK626; clear BK627; clear HB; clear HO_9; have BK626 := n0_; have BK627 := n1_; have HB := n2_; have HO636 := n3_; clear n0_ n1_ n2_ n3_; clear ho hb hg hat; obtain ⟨Ao27, co27, eo27⟩ := Kd.R_slice HO636.out; subst eo27; have p637 : 0 ≤ (x11_2 : Int) := of_decide_eq_true (by first | (with_reducible assumption) | assumption); have q637 : x11_2 < (y634.length : Int) := of_decide_eq_true (by first | (with_reducible assumption) | assumption); obtain ⟨ad637, e637, hx637_0⟩ := Kd.at_string (Kd.R_reads' HO636.out).2.2 x11_2 p637 q637; cases e637; replace p637 := eq_true p637; replace q637 := eq_true q637) | ((with_reducible refine gate_callee (f := 12) rfl ?_); refine goesL_ (some 43) rfl rfl Tryz.func12 (by kernel_rfl) rfl #[.string x10_2, .string (rdOf ByteArray.empty y634 x11_2)] rfl mq ?_; (with_reducible refine (schismaref02_Add.calls (hT := HT.out.below bq) k2 x10_2 (rdOf ByteArray.empty y634 x11_2) t638 _ A24.out).mono ?_); rintro e w28 ⟨rfl, hb⟩; refine ⟨_, rfl, ?_⟩; have n0_ := Aside0.mk (Kd.R_below (by (with_reducible repeat (first | apply Kd.R_alloc | apply Kd.R_drewN | apply Kd.R_drew)); exact HO636.out) hb); have n1_ := Aside0.mk (blk_below (g := gb626) (o := .cells #[.bool a0_0, .slice A0_1 l0_1.length c0_1] 24 (0, 0)) (by (with_reducible repeat (first | refine blk_drewN ?_ _ | refine blk_drew ?_ | refine blk_alloc ?_ _)); exact BK626.out) hb); have n2_ := Aside0.mk (blk_below (g := gb627) (o := .cells #[.bool a1_0, .slice A1_1 l1_1.length c1_1] 24 (0, 0)) (by (with_reducible repeat (first | refine blk_drewN ?_ _ | refine blk_drew ?_ | refine blk_alloc ?_ _)); exact BK627.out) hb); have n3_ := Aside0.mk (below_step (by repeat (first | (with_reducible first | exact HB.out | apply below_alloc | apply pw_below_drewN | apply below_drew1 | refine below_set ?_ GE626.out | refine below_set ?_ GE627.out) | exact HB.out)) hb); clear HO636; clear BK626; clear BK627; clear HB; have HO636 := n0_; have BK626 := n1_; have BK627 := n2_; have HB := n3_; clear n0_ n1_ n2_ n3_; (try clear hb); (try clear hb2); (try clear hk); (try clear hi)))
                    go_roundg k2
                    case measure => have := HJ3.out; have := HK2.out; omega
                    case rel => exact ⟨(y634), (t638), (wrap64 (x11_2 + 1)), (by first | rfl | (simp; done) | (simp [*]; done)), (by first | rfl | (simp; done) | (simp [*]; done)), H', ⟨by have := HJ3.out; have := HK2.out; omega⟩, ⟨by (with_reducible repeat (first | apply Kd.R_alloc | apply Kd.R_drewN | apply Kd.R_drew)); exact HO636.out⟩, ⟨by (with_reducible repeat (first | refine blk_drewN ?_ _ | refine blk_drew ?_ | refine blk_alloc ?_ _)); exact BK626.out⟩, ⟨by (with_reducible repeat (first | refine blk_drewN ?_ _ | refine blk_drew ?_ | refine blk_alloc ?_ _)); exact BK627.out⟩, ⟨by repeat (first | (with_reducible first | exact HB.out | apply below_alloc | apply pw_below_drewN | apply below_drew1 | refine below_set ?_ GE626.out | refine below_set ?_ GE627.out) | exact HB.out)⟩⟩
                  · rw [if_neg c23] at H
                    exact absurd H (by simp)
                · rw [if_neg c22] at H
                  exact absurd H (by simp)
              · rw [if_neg c20] at H
                exact absurd H (by simp)
            · rw [if_neg c19] at H
              have c19b0 : decide (x11_2 < (l2.length : Int)) = false := decide_eq_false c19
              clear c19
              replace H := Option.bind_eq_some_iff.mp H
              obtain ⟨t639, A290, H⟩ := H
              replace H : ((schismaref02_Add.f k2 t630 t631).bind fun t640 => (if t639.toList = t640.toList then ((whole_Sub.f k2 t630 t631).bind fun t641 => ((schismaref02_Sub.f k2 t630 t631).bind fun t642 => (if t641.toList = t642.toList then ((whole_Sum.f k2 x9_2).bind fun t643 => (some (t643.toList == x10_2.toList))) else (some false)))) else (some false))) = some r := H
              have A29 := Aside0.mk A290
              clear A290
              replace H := Option.bind_eq_some_iff.mp H
              obtain ⟨t640, A300, H⟩ := H
              replace H : (if t639.toList = t640.toList then ((whole_Sub.f k2 t630 t631).bind fun t641 => ((schismaref02_Sub.f k2 t630 t631).bind fun t642 => (if t641.toList = t642.toList then ((whole_Sum.f k2 x9_2).bind fun t643 => (some (t643.toList == x10_2.toList))) else (some false)))) else (some false)) = some r := H
              have A30 := Aside0.mk A300
              clear A300
              by_cases c31 : t639.toList = t640.toList
              · rw [if_pos c31] at H
                have c31b0 : (t639.toList == t640.toList) = true := beq_iff_eq.mpr c31
                have c31b1 : (t639.toList != t640.toList) = false := bne_eq_false_iff_eq.mpr c31
                clear c31
                replace H := Option.bind_eq_some_iff.mp H
                obtain ⟨t641, A320, H⟩ := H
                replace H : ((schismaref02_Sub.f k2 t630 t631).bind fun t642 => (if t641.toList = t642.toList then ((whole_Sum.f k2 x9_2).bind fun t643 => (some (t643.toList == x10_2.toList))) else (some false))) = some r := H
                have A32 := Aside0.mk A320
                clear A320
                replace H := Option.bind_eq_some_iff.mp H
                obtain ⟨t642, A330, H⟩ := H
                replace H : (if t641.toList = t642.toList then ((whole_Sum.f k2 x9_2).bind fun t643 => (some (t643.toList == x10_2.toList))) else (some false)) = some r := H
                have A33 := Aside0.mk A330
                clear A330
                by_cases c34 : t641.toList = t642.toList
                · rw [if_pos c34] at H
                  have c34b0 : (t641.toList == t642.toList) = true := beq_iff_eq.mpr c34
                  have c34b1 : (t641.toList != t642.toList) = false := bne_eq_false_iff_eq.mpr c34
                  clear c34
                  replace H := Option.bind_eq_some_iff.mp H
                  obtain ⟨t643, A350, H⟩ := H
                  replace H : (some (t643.toList == x10_2.toList)) = some r := H
                  have A35 := Aside0.mk A350
                  clear A350
                  obtain rfl := Option.some.inj H
                  go_wp2_with (first | ((with_reducible refine gate_callee (f := 13) rfl ?_); refine goesL_ (some 46) rfl rfl Tryz.func13 (by kernel_rfl) rfl #[.string t630, .string t631] rfl mq ?_; (with_reducible refine (whole_Add.calls (hT := HT.out.below bq) k2 t630 t631 t639 _ A29.out).mono ?_); rintro e w36 ⟨rfl, hb⟩; refine ⟨_, rfl, ?_⟩; have n0_ := Aside0.mk (Kd.R_below (by (with_reducible repeat (first | apply Kd.R_alloc | apply Kd.R_drewN | apply Kd.R_drew)); exact HO_9.out) hb); have n1_ := Aside0.mk (blk_below (g := gb626) (o := .cells #[.bool a0_0, .slice A0_1 l0_1.length c0_1] 24 (0, 0)) (by (with_reducible repeat (first | refine blk_drewN ?_ _ | refine blk_drew ?_ | refine blk_alloc ?_ _)); exact BK626.out) hb); have n2_ := Aside0.mk (blk_below (g := gb627) (o := .cells #[.bool a1_0, .slice A1_1 l1_1.length c1_1] 24 (0, 0)) (by (with_reducible repeat (first | refine blk_drewN ?_ _ | refine blk_drew ?_ | refine blk_alloc ?_ _)); exact BK627.out) hb); have n3_ := Aside0.mk (below_step (by repeat (first | (with_reducible first | exact HB.out | apply below_alloc | apply pw_below_drewN | apply below_drew1 | refine below_set ?_ GE626.out | refine below_set ?_ GE627.out) | exact HB.out)) hb); clear HO_9; clear BK626; clear BK627; clear HB; have HO_9 := n0_; have BK626 := n1_; have BK627 := n2_; have HB := n3_; clear n0_ n1_ n2_ n3_; (try clear hb); (try clear hb2); (try clear hk); (try clear hi)) | ((with_reducible refine gate_callee (f := 12) rfl ?_); refine goesL_ (some 49) rfl rfl Tryz.func12 (by kernel_rfl) rfl #[.string t630, .string t631] rfl mq ?_; (with_reducible refine (schismaref02_Add.calls (hT := HT.out.below bq) k2 t630 t631 t640 _ A30.out).mono ?_); rintro e w37 ⟨rfl, hb⟩; refine ⟨_, rfl, ?_⟩; have n0_ := Aside0.mk (Kd.R_below (by (with_reducible repeat (first | apply Kd.R_alloc | apply Kd.R_drewN | apply Kd.R_drew)); exact HO_9.out) hb); have n1_ := Aside0.mk (blk_below (g := gb626) (o := .cells #[.bool a0_0, .slice A0_1 l0_1.length c0_1] 24 (0, 0)) (by (with_reducible repeat (first | refine blk_drewN ?_ _ | refine blk_drew ?_ | refine blk_alloc ?_ _)); exact BK626.out) hb); have n2_ := Aside0.mk (blk_below (g := gb627) (o := .cells #[.bool a1_0, .slice A1_1 l1_1.length c1_1] 24 (0, 0)) (by (with_reducible repeat (first | refine blk_drewN ?_ _ | refine blk_drew ?_ | refine blk_alloc ?_ _)); exact BK627.out) hb); have n3_ := Aside0.mk (below_step (by repeat (first | (with_reducible first | exact HB.out | apply below_alloc | apply pw_below_drewN | apply below_drew1 | refine below_set ?_ GE626.out | refine below_set ?_ GE627.out) | exact HB.out)) hb); clear HO_9; clear BK626; clear BK627; clear HB; have HO_9 := n0_; have BK626 := n1_; have BK627 := n2_; have HB := n3_; clear n0_ n1_ n2_ n3_; (try clear hb); (try clear hb2); (try clear hk); (try clear hi)) | (go_at_call 14; (with_reducible refine (whole_Sub.calls (hT := HT.out.below bq) k2 t630 t631 t641 _ A32.out).mono ?_); rintro e w38 ⟨rfl, hb⟩; have n0_ := Aside0.mk (Kd.R_below (by (with_reducible repeat (first | apply Kd.R_alloc | apply Kd.R_drewN | apply Kd.R_drew)); exact HO_9.out) hb); have n1_ := Aside0.mk (blk_below (g := gb626) (o := .cells #[.bool a0_0, .slice A0_1 l0_1.length c0_1] 24 (0, 0)) (by (with_reducible repeat (first | refine blk_drewN ?_ _ | refine blk_drew ?_ | refine blk_alloc ?_ _)); exact BK626.out) hb); have n2_ := Aside0.mk (blk_below (g := gb627) (o := .cells #[.bool a1_0, .slice A1_1 l1_1.length c1_1] 24 (0, 0)) (by (with_reducible repeat (first | refine blk_drewN ?_ _ | refine blk_drew ?_ | refine blk_alloc ?_ _)); exact BK627.out) hb); have n3_ := Aside0.mk (below_step (by repeat (first | (with_reducible first | exact HB.out | apply below_alloc | apply pw_below_drewN | apply below_drew1 | refine below_set ?_ GE626.out | refine below_set ?_ GE627.out) | exact HB.out)) hb); clear HO_9; clear BK626; clear BK627; clear HB; have HO_9 := n0_; have BK626 := n1_; have BK627 := n2_; have HB := n3_; clear n0_ n1_ n2_ n3_; (try clear hb); (try clear hb2); (try clear hk); (try clear hi)) | (go_at_call 15; (with_reducible refine (schismaref02_Sub.calls (hT := HT.out.below bq) k2 t630 t631 t642 _ A33.out).mono ?_); rintro e w39 ⟨rfl, hb⟩; have n0_ := Aside0.mk (Kd.R_below (by (with_reducible repeat (first | apply Kd.R_alloc | apply Kd.R_drewN | apply Kd.R_drew)); exact HO_9.out) hb); have n1_ := Aside0.mk (blk_below (g := gb626) (o := .cells #[.bool a0_0, .slice A0_1 l0_1.length c0_1] 24 (0, 0)) (by (with_reducible repeat (first | refine blk_drewN ?_ _ | refine blk_drew ?_ | refine blk_alloc ?_ _)); exact BK626.out) hb); have n2_ := Aside0.mk (blk_below (g := gb627) (o := .cells #[.bool a1_0, .slice A1_1 l1_1.length c1_1] 24 (0, 0)) (by (with_reducible repeat (first | refine blk_drewN ?_ _ | refine blk_drew ?_ | refine blk_alloc ?_ _)); exact BK627.out) hb); have n3_ := Aside0.mk (below_step (by repeat (first | (with_reducible first | exact HB.out | apply below_alloc | apply pw_below_drewN | apply below_drew1 | refine below_set ?_ GE626.out | refine below_set ?_ GE627.out) | exact HB.out)) hb); clear HO_9; clear BK626; clear BK627; clear HB; have HO_9 := n0_; have BK626 := n1_; have BK627 := n2_; have HB := n3_; clear n0_ n1_ n2_ n3_; (try clear hb); (try clear hb2); (try clear hk); (try clear hi); obtain ⟨Ao40, co40, eo40⟩ := Kd.R_slice HO_9.out; subst eo40) | (go_at_call 16; (with_reducible refine (whole_Sum.calls (hT := HT.out.below bq) k2 _ _ x9_2 t643 _ ?side1 ?side2 A35.out).mono ?_); (case side1 => repeat (first | exact (Kd.R_reads' HO_9.out).2.2 | (with_reducible refine Kd.C_alloc ?_ _) | (with_reducible refine Kd.C_drewN ?_ _) | (with_reducible refine Kd.C_drew ?_))); (case side2 => exact (Kd.R_reads' HO_9.out).2.1); rintro e w41 ⟨rfl, hb⟩; have n0_ := Aside0.mk (Kd.R_below (by (with_reducible repeat (first | apply Kd.R_alloc | apply Kd.R_drewN | apply Kd.R_drew)); exact HO_9.out) hb); have n1_ := Aside0.mk (blk_below (g := gb626) (o := .cells #[.bool a0_0, .slice A0_1 l0_1.length c0_1] 24 (0, 0)) (by (with_reducible repeat (first | refine blk_drewN ?_ _ | refine blk_drew ?_ | refine blk_alloc ?_ _)); exact BK626.out) hb); have n2_ := Aside0.mk (blk_below (g := gb627) (o := .cells #[.bool a1_0, .slice A1_1 l1_1.length c1_1] 24 (0, 0)) (by (with_reducible repeat (first | refine blk_drewN ?_ _ | refine blk_drew ?_ | refine blk_alloc ?_ _)); exact BK627.out) hb); have n3_ := Aside0.mk (below_step (by repeat (first | (with_reducible first | exact HB.out | apply below_alloc | apply pw_below_drewN | apply below_drew1 | refine below_set ?_ GE626.out | refine below_set ?_ GE627.out) | exact HB.out)) hb); clear HO_9; clear BK626; clear BK627; clear HB; have HO_9 := n0_; have BK626 := n1_; have BK627 := n2_; have HB := n3_; clear n0_ n1_ n2_ n3_; (try clear hb); (try clear hb2); (try clear hk); (try clear hi)))
                  go_ret
                  exact ⟨eq_, by repeat (first | (with_reducible first | exact HB.out | apply below_alloc | apply pw_below_drewN | apply below_drew1 | refine below_set ?_ GE626.out | refine below_set ?_ GE627.out) | exact HB.out)⟩
                · rw [if_neg c34] at H
                  have c34b0 : (t641.toList == t642.toList) = false := beq_eq_false_iff_ne.mpr c34
                  have c34b1 : (t641.toList != t642.toList) = true := bne_iff_ne.mpr c34
                  obtain rfl := Option.some.inj H
                  go_wp2_with (first | ((with_reducible refine gate_callee (f := 13) rfl ?_); refine goesL_ (some 46) rfl rfl Tryz.func13 (by kernel_rfl) rfl #[.string t630, .string t631] rfl mq ?_; (with_reducible refine (whole_Add.calls (hT := HT.out.below bq) k2 t630 t631 t639 _ A29.out).mono ?_); rintro e w42 ⟨rfl, hb⟩; refine ⟨_, rfl, ?_⟩; have n0_ := Aside0.mk (Kd.R_below (by (with_reducible repeat (first | apply Kd.R_alloc | apply Kd.R_drewN | apply Kd.R_drew)); exact HO_9.out) hb); have n1_ := Aside0.mk (blk_below (g := gb626) (o := .cells #[.bool a0_0, .slice A0_1 l0_1.length c0_1] 24 (0, 0)) (by (with_reducible repeat (first | refine blk_drewN ?_ _ | refine blk_drew ?_ | refine blk_alloc ?_ _)); exact BK626.out) hb); have n2_ := Aside0.mk (blk_below (g := gb627) (o := .cells #[.bool a1_0, .slice A1_1 l1_1.length c1_1] 24 (0, 0)) (by (with_reducible repeat (first | refine blk_drewN ?_ _ | refine blk_drew ?_ | refine blk_alloc ?_ _)); exact BK627.out) hb); have n3_ := Aside0.mk (below_step (by repeat (first | (with_reducible first | exact HB.out | apply below_alloc | apply pw_below_drewN | apply below_drew1 | refine below_set ?_ GE626.out | refine below_set ?_ GE627.out) | exact HB.out)) hb); clear HO_9; clear BK626; clear BK627; clear HB; have HO_9 := n0_; have BK626 := n1_; have BK627 := n2_; have HB := n3_; clear n0_ n1_ n2_ n3_; (try clear hb); (try clear hb2); (try clear hk); (try clear hi)) | ((with_reducible refine gate_callee (f := 12) rfl ?_); refine goesL_ (some 49) rfl rfl Tryz.func12 (by kernel_rfl) rfl #[.string t630, .string t631] rfl mq ?_; (with_reducible refine (schismaref02_Add.calls (hT := HT.out.below bq) k2 t630 t631 t640 _ A30.out).mono ?_); rintro e w43 ⟨rfl, hb⟩; refine ⟨_, rfl, ?_⟩; have n0_ := Aside0.mk (Kd.R_below (by (with_reducible repeat (first | apply Kd.R_alloc | apply Kd.R_drewN | apply Kd.R_drew)); exact HO_9.out) hb); have n1_ := Aside0.mk (blk_below (g := gb626) (o := .cells #[.bool a0_0, .slice A0_1 l0_1.length c0_1] 24 (0, 0)) (by (with_reducible repeat (first | refine blk_drewN ?_ _ | refine blk_drew ?_ | refine blk_alloc ?_ _)); exact BK626.out) hb); have n2_ := Aside0.mk (blk_below (g := gb627) (o := .cells #[.bool a1_0, .slice A1_1 l1_1.length c1_1] 24 (0, 0)) (by (with_reducible repeat (first | refine blk_drewN ?_ _ | refine blk_drew ?_ | refine blk_alloc ?_ _)); exact BK627.out) hb); have n3_ := Aside0.mk (below_step (by repeat (first | (with_reducible first | exact HB.out | apply below_alloc | apply pw_below_drewN | apply below_drew1 | refine below_set ?_ GE626.out | refine below_set ?_ GE627.out) | exact HB.out)) hb); clear HO_9; clear BK626; clear BK627; clear HB; have HO_9 := n0_; have BK626 := n1_; have BK627 := n2_; have HB := n3_; clear n0_ n1_ n2_ n3_; (try clear hb); (try clear hb2); (try clear hk); (try clear hi)) | (go_at_call 14; (with_reducible refine (whole_Sub.calls (hT := HT.out.below bq) k2 t630 t631 t641 _ A32.out).mono ?_); rintro e w44 ⟨rfl, hb⟩; have n0_ := Aside0.mk (Kd.R_below (by (with_reducible repeat (first | apply Kd.R_alloc | apply Kd.R_drewN | apply Kd.R_drew)); exact HO_9.out) hb); have n1_ := Aside0.mk (blk_below (g := gb626) (o := .cells #[.bool a0_0, .slice A0_1 l0_1.length c0_1] 24 (0, 0)) (by (with_reducible repeat (first | refine blk_drewN ?_ _ | refine blk_drew ?_ | refine blk_alloc ?_ _)); exact BK626.out) hb); have n2_ := Aside0.mk (blk_below (g := gb627) (o := .cells #[.bool a1_0, .slice A1_1 l1_1.length c1_1] 24 (0, 0)) (by (with_reducible repeat (first | refine blk_drewN ?_ _ | refine blk_drew ?_ | refine blk_alloc ?_ _)); exact BK627.out) hb); have n3_ := Aside0.mk (below_step (by repeat (first | (with_reducible first | exact HB.out | apply below_alloc | apply pw_below_drewN | apply below_drew1 | refine below_set ?_ GE626.out | refine below_set ?_ GE627.out) | exact HB.out)) hb); clear HO_9; clear BK626; clear BK627; clear HB; have HO_9 := n0_; have BK626 := n1_; have BK627 := n2_; have HB := n3_; clear n0_ n1_ n2_ n3_; (try clear hb); (try clear hb2); (try clear hk); (try clear hi)) | (go_at_call 15; (with_reducible refine (schismaref02_Sub.calls (hT := HT.out.below bq) k2 t630 t631 t642 _ A33.out).mono ?_); rintro e w45 ⟨rfl, hb⟩; have n0_ := Aside0.mk (Kd.R_below (by (with_reducible repeat (first | apply Kd.R_alloc | apply Kd.R_drewN | apply Kd.R_drew)); exact HO_9.out) hb); have n1_ := Aside0.mk (blk_below (g := gb626) (o := .cells #[.bool a0_0, .slice A0_1 l0_1.length c0_1] 24 (0, 0)) (by (with_reducible repeat (first | refine blk_drewN ?_ _ | refine blk_drew ?_ | refine blk_alloc ?_ _)); exact BK626.out) hb); have n2_ := Aside0.mk (blk_below (g := gb627) (o := .cells #[.bool a1_0, .slice A1_1 l1_1.length c1_1] 24 (0, 0)) (by (with_reducible repeat (first | refine blk_drewN ?_ _ | refine blk_drew ?_ | refine blk_alloc ?_ _)); exact BK627.out) hb); have n3_ := Aside0.mk (below_step (by repeat (first | (with_reducible first | exact HB.out | apply below_alloc | apply pw_below_drewN | apply below_drew1 | refine below_set ?_ GE626.out | refine below_set ?_ GE627.out) | exact HB.out)) hb); clear HO_9; clear BK626; clear BK627; clear HB; have HO_9 := n0_; have BK626 := n1_; have BK627 := n2_; have HB := n3_; clear n0_ n1_ n2_ n3_; (try clear hb); (try clear hb2); (try clear hk); (try clear hi)))
                  go_ret
                  exact ⟨eq_, by repeat (first | (with_reducible first | exact HB.out | apply below_alloc | apply pw_below_drewN | apply below_drew1 | refine below_set ?_ GE626.out | refine below_set ?_ GE627.out) | exact HB.out)⟩
              · rw [if_neg c31] at H
                have c31b0 : (t639.toList == t640.toList) = false := beq_eq_false_iff_ne.mpr c31
                have c31b1 : (t639.toList != t640.toList) = true := bne_iff_ne.mpr c31
                obtain rfl := Option.some.inj H
                go_wp2_with (first | ((with_reducible refine gate_callee (f := 13) rfl ?_); refine goesL_ (some 46) rfl rfl Tryz.func13 (by kernel_rfl) rfl #[.string t630, .string t631] rfl mq ?_; (with_reducible refine (whole_Add.calls (hT := HT.out.below bq) k2 t630 t631 t639 _ A29.out).mono ?_); rintro e w46 ⟨rfl, hb⟩; refine ⟨_, rfl, ?_⟩; have n0_ := Aside0.mk (Kd.R_below (by (with_reducible repeat (first | apply Kd.R_alloc | apply Kd.R_drewN | apply Kd.R_drew)); exact HO_9.out) hb); have n1_ := Aside0.mk (blk_below (g := gb626) (o := .cells #[.bool a0_0, .slice A0_1 l0_1.length c0_1] 24 (0, 0)) (by (with_reducible repeat (first | refine blk_drewN ?_ _ | refine blk_drew ?_ | refine blk_alloc ?_ _)); exact BK626.out) hb); have n2_ := Aside0.mk (blk_below (g := gb627) (o := .cells #[.bool a1_0, .slice A1_1 l1_1.length c1_1] 24 (0, 0)) (by (with_reducible repeat (first | refine blk_drewN ?_ _ | refine blk_drew ?_ | refine blk_alloc ?_ _)); exact BK627.out) hb); have n3_ := Aside0.mk (below_step (by repeat (first | (with_reducible first | exact HB.out | apply below_alloc | apply pw_below_drewN | apply below_drew1 | refine below_set ?_ GE626.out | refine below_set ?_ GE627.out) | exact HB.out)) hb); clear HO_9; clear BK626; clear BK627; clear HB; have HO_9 := n0_; have BK626 := n1_; have BK627 := n2_; have HB := n3_; clear n0_ n1_ n2_ n3_; (try clear hb); (try clear hb2); (try clear hk); (try clear hi)) | ((with_reducible refine gate_callee (f := 12) rfl ?_); refine goesL_ (some 49) rfl rfl Tryz.func12 (by kernel_rfl) rfl #[.string t630, .string t631] rfl mq ?_; (with_reducible refine (schismaref02_Add.calls (hT := HT.out.below bq) k2 t630 t631 t640 _ A30.out).mono ?_); rintro e w47 ⟨rfl, hb⟩; refine ⟨_, rfl, ?_⟩; have n0_ := Aside0.mk (Kd.R_below (by (with_reducible repeat (first | apply Kd.R_alloc | apply Kd.R_drewN | apply Kd.R_drew)); exact HO_9.out) hb); have n1_ := Aside0.mk (blk_below (g := gb626) (o := .cells #[.bool a0_0, .slice A0_1 l0_1.length c0_1] 24 (0, 0)) (by (with_reducible repeat (first | refine blk_drewN ?_ _ | refine blk_drew ?_ | refine blk_alloc ?_ _)); exact BK626.out) hb); have n2_ := Aside0.mk (blk_below (g := gb627) (o := .cells #[.bool a1_0, .slice A1_1 l1_1.length c1_1] 24 (0, 0)) (by (with_reducible repeat (first | refine blk_drewN ?_ _ | refine blk_drew ?_ | refine blk_alloc ?_ _)); exact BK627.out) hb); have n3_ := Aside0.mk (below_step (by repeat (first | (with_reducible first | exact HB.out | apply below_alloc | apply pw_below_drewN | apply below_drew1 | refine below_set ?_ GE626.out | refine below_set ?_ GE627.out) | exact HB.out)) hb); clear HO_9; clear BK626; clear BK627; clear HB; have HO_9 := n0_; have BK626 := n1_; have BK627 := n2_; have HB := n3_; clear n0_ n1_ n2_ n3_; (try clear hb); (try clear hb2); (try clear hk); (try clear hi)))
                go_ret
                exact ⟨eq_, by repeat (first | (with_reducible first | exact HB.out | apply below_alloc | apply pw_below_drewN | apply below_drew1 | refine below_set ?_ GE626.out | refine below_set ?_ GE627.out) | exact HB.out)⟩
end Go.Proofs.YtgicckcahhlbjaaGreatDoor.P
