/- Functions of the program, as functions of Lean, and the walks that show that the code answers as they do: written by a program. Conditions: those of each theorem. -/
import Derived.Test.YtgicckcahhlbjaaGreatDoorWholeGcdsF3
namespace Go.Proofs.YtgicckcahhlbjaaGreatDoor.P
open Go.RowKit Go.Proofs.YtgicckcahhlbjaaGreatDoorW.PrintWords Go.Proofs.YtgicckcahhlbjaaGreatDoorW.PrintLast Go.Proofs.YtgicckcahhlbjaaGreatDoorW.PrintMore
attribute [local go_sem] gtr_text max2_int min2_int max_two min_two max_three min_three max_four min_four
set_option linter.unusedVariables false
set_option linter.unusedSimpArgs false
def z_Neg.f (a0 : ByteArray) : Option (ByteArray) := (z_split.f a0).bind fun bt347 => ((z_join.f (!bt347.1) bt347.2).bind fun t349 => (some t349))
set_option maxHeartbeats 8000000 in
set_option maxRecDepth 100000 in
theorem z_Neg.calls (a0 : ByteArray) (r : ByteArray) (w : World) (h : z_Neg.f a0 = some r) :
    Calls Tryz.prog 45 #[.string a0] w fun e w' => e = .returned (.string r) ∧ Drawn0 w w' := by
  have H : ((z_split.f a0).bind fun bt347 => ((z_join.f (!bt347.1) bt347.2).bind fun t349 => (some t349))) = some r := h
  clear h; replace H := Option.bind_eq_some_iff.mp H; obtain ⟨⟨t347, t348⟩, A20, H⟩ := H; have A2 := Aside0.mk A20; clear A20; replace H := Option.bind_eq_some_iff.mp H; obtain ⟨t349, A30, H⟩ := H; have A3 := Aside0.mk A30; clear A30; obtain rfl := Option.some.inj H
  go_enter Tryz.func45, Tryz.ntmps45
  go_wp2_with (first | ((with_reducible refine gate_callee (f := 28) rfl ?_); refine goesL_ (some 7) rfl rfl Tryz.func28 (by kernel_rfl) rfl #[.string a0] rfl mq ?_; (with_reducible refine (z_split.calls a0 t347 t348 _ A2.out).mono ?_); rintro e w' ⟨rfl, ⟨nd, rfl⟩⟩; refine ⟨_, rfl, ?_⟩) | ((with_reducible refine gate_callee (f := 30) rfl ?_); refine goesL_ (some 13) rfl rfl Tryz.func30 (by kernel_rfl) rfl #[.bool (!t347), .string t348] rfl mq ?_; (with_reducible refine (z_join.calls (!t347) t348 t349 _ A3.out).mono ?_); rintro e w' ⟨rfl, ⟨nd, rfl⟩⟩; refine ⟨_, rfl, ?_⟩))
  go_ret
  exact ⟨sw, by repeat (first | exact Drawn0.refl _ | apply Drawn0.step)⟩
def z_Sub.f (k : Nat) (a0 : ByteArray) (a1 : ByteArray) : Option (ByteArray) := (z_Neg.f a1).bind fun t350 => ((z_Add.f k a0 t350).bind fun t351 => (some t351))
theorem z_Sub.mono : ∀ a0 a1 k, LeO (z_Sub.f k a0 a1) (z_Sub.f (k + 1) a0 a1) := by
  intro a0 a1 k; unfold z_Sub.f
  repeat' with_reducible first | apply z_Add.mono | apply LeO.refl | apply LeO.none | refine LeO.ite ?_ ?_ | refine LeO.bind ?_ (fun _ => ?_)
set_option maxHeartbeats 8000000 in
set_option maxRecDepth 100000 in
theorem z_Sub.calls (k : Nat) (a0 : ByteArray) (a1 : ByteArray) (r : ByteArray) (w : World) (hT : Tab w) (h : z_Sub.f k a0 a1 = some r) :
    Calls Tryz.prog 14 #[.string a0, .string a1] w fun e w' => e = .returned (.string r) ∧ Below w.heap.size w w' := by
  have HT := Aside0.mk hT; clear hT; have HB := Aside0.mk (Below.refl w.heap.size w); have H : ((z_Neg.f a1).bind fun t350 => ((z_Add.f k a0 t350).bind fun t351 => (some t351))) = some r := h
  clear h; replace H := Option.bind_eq_some_iff.mp H; obtain ⟨t350, A30, H⟩ := H; have A3 := Aside0.mk A30; clear A30; replace H := Option.bind_eq_some_iff.mp H; obtain ⟨t351, A40, H⟩ := H; have A4 := Aside0.mk A40; clear A40; obtain rfl := Option.some.inj H
  go_enter Tryz.func14, Tryz.ntmps14
  go_wp2_with (first | ((with_reducible refine gate_callee (f := 45) rfl ?_); refine goesL_ (some 7) rfl rfl Tryz.func45 (by kernel_rfl) rfl #[.string a1] rfl mq ?_; (with_reducible refine (z_Neg.calls a1 t350 _ A3.out).mono ?_); rintro e w' ⟨rfl, ⟨nd, rfl⟩⟩; refine ⟨_, rfl, ?_⟩) | ((with_reducible refine gate_callee (f := 13) rfl ?_); refine goesL_ (some 8) rfl rfl Tryz.func13 (by kernel_rfl) rfl #[.string a0, .string t350] rfl mq ?_; (with_reducible refine (z_Add.calls (hT := HT.out.below bq) k a0 t350 t351 _ A4.out).mono ?_); rintro e w5 ⟨rfl, hb⟩; refine ⟨_, rfl, ?_⟩; replace HB := Aside0.mk (below_step bq hb); (try clear hb); (try clear hb2); (try clear hk); (try clear hi)))
  go_ret
  exact ⟨eq_, bq⟩
def z_Abs.f (a0 : ByteArray) : Option (ByteArray) := (z_split.f a0).bind fun bt352 => (some bt352.2)
set_option maxHeartbeats 8000000 in
set_option maxRecDepth 100000 in
theorem z_Abs.calls (a0 : ByteArray) (r : ByteArray) (w : World) (h : z_Abs.f a0 = some r) :
    Calls Tryz.prog 50 #[.string a0] w fun e w' => e = .returned (.string r) ∧ Drawn0 w w' := by
  have H : ((z_split.f a0).bind fun bt352 => (some bt352.2)) = some r := h
  clear h; replace H := Option.bind_eq_some_iff.mp H; obtain ⟨⟨t352, t353⟩, A20, H⟩ := H; have A2 := Aside0.mk A20; clear A20; obtain rfl := Option.some.inj H
  go_enter Tryz.func50, Tryz.ntmps50
  go_wp2_with (first | ((with_reducible refine gate_callee (f := 28) rfl ?_); refine goesL_ (some 7) rfl rfl Tryz.func28 (by kernel_rfl) rfl #[.string a0] rfl mq ?_; (with_reducible refine (z_split.calls a0 t352 t353 _ A2.out).mono ?_); rintro e w' ⟨rfl, ⟨nd, rfl⟩⟩; refine ⟨_, rfl, ?_⟩))
  go_ret
  exact ⟨sw, by repeat (first | exact Drawn0.refl _ | apply Drawn0.step)⟩
def z_Sign.f (a0 : ByteArray) : Option (Int) := if a0.toList = ([48] : List UInt8) then (some 0) else (if 0 < (a0.size : Int) then (if (bt a0 0) = 45 then (some (-1)) else (some 1)) else (none))
set_option maxHeartbeats 8000000 in
set_option maxRecDepth 100000 in
theorem z_Sign.calls (a0 : ByteArray) (r : Int) (w : World) (h : z_Sign.f a0 = some r) :
    Calls Tryz.prog 51 #[.string a0] w fun e w' => e = .returned (.int .i64 r) ∧ Drawn0 w w' := by
  have H : (if a0.toList = ([48] : List UInt8) then (some 0) else (if 0 < (a0.size : Int) then (if (bt a0 0) = 45 then (some (-1)) else (some 1)) else (none))) = some r := h
  clear h; by_cases c2 : a0.toList = ([48] : List UInt8)
  · rw [if_pos c2] at H; have c2b0 : (a0.toList == ([48] : List UInt8)) = true := beq_iff_eq.mpr c2; have c2b1 : (a0.toList != ([48] : List UInt8)) = false := bne_eq_false_iff_eq.mpr c2; clear c2; obtain rfl := Option.some.inj H
    go_enter Tryz.func51, Tryz.ntmps51
    go_wp2
    go_ret
    exact ⟨sw, by repeat (first | exact Drawn0.refl _ | apply Drawn0.step)⟩
  · rw [if_neg c2] at H; have c2b0 : (a0.toList == ([48] : List UInt8)) = false := beq_eq_false_iff_ne.mpr c2; have c2b1 : (a0.toList != ([48] : List UInt8)) = true := bne_iff_ne.mpr c2; by_cases c3 : 0 < (a0.size : Int)
    · rw [if_pos c3] at H; have c3b0 : decide (0 < (a0.size : Int)) = true := decide_eq_true c3; have c3b1 : decide (0 < a0.size) = true := decide_eq_true (by omega)
      clear c3; by_cases c5 : (bt a0 0) = 45
      · rw [if_pos c5] at H; have c5b0 : ((bt a0 0) == 45) = true := beq_iff_eq.mpr c5; have c5b1 : ((bt a0 0) != 45) = false := bne_eq_false_iff_eq.mpr c5; clear c5; obtain rfl := Option.some.inj H; have p4 : 0 ≤ (0 : Int) := (by omega)
        have q4 : 0 < a0.size := (by have : (0 : Int) < (a0.size : Int) := of_decide_eq_true as_; omega)
        have hx4 : ∀ h : 0 < a0.size, ((a0[0]'h).toNat : Int) = bt a0 0 := bt_at a0 0; clear p4; have qi4 : (0 < (a0.size : Int)) = True := eq_true (of_decide_eq_true as_); replace q4 := eq_true q4
        go_enter Tryz.func51, Tryz.ntmps51
        go_wp2
        go_ret
        exact ⟨sw, by repeat (first | exact Drawn0.refl _ | apply Drawn0.step)⟩
      · rw [if_neg c5] at H; have c5b0 : ((bt a0 0) == 45) = false := beq_eq_false_iff_ne.mpr c5; have c5b1 : ((bt a0 0) != 45) = true := bne_iff_ne.mpr c5; obtain rfl := Option.some.inj H; have p4 : 0 ≤ (0 : Int) := (by omega)
        have q4 : 0 < a0.size := (by have : (0 : Int) < (a0.size : Int) := of_decide_eq_true as_; omega)
        have hx4 : ∀ h : 0 < a0.size, ((a0[0]'h).toNat : Int) = bt a0 0 := bt_at a0 0; clear p4; have qi4 : (0 < (a0.size : Int)) = True := eq_true (of_decide_eq_true as_); replace q4 := eq_true q4
        go_enter Tryz.func51, Tryz.ntmps51
        go_wp2
        go_ret
        exact ⟨sw, by repeat (first | exact Drawn0.refl _ | apply Drawn0.step)⟩
    · rw [if_neg c3] at H; exact absurd H (by simp)
def d_Mul.f (k : Nat) (a0 : ByteArray) (a1 : ByteArray) : Option (ByteArray) := if (wrap64 ((a0.size : Int) + (a1.size : Int))) ≤ 18 then ((d_both.f k a0 a1).bind fun bt354 => ((decimal_Of.f (IntKind.u64.wrap (bt354.1 * bt354.2.1))).bind fun t357 => (some t357))) else ((d_cut.f k a0).bind fun t358 => ((d_cut.f k a1).bind fun t361 => ((p_times.f k t358 t361).bind fun t364 => ((p_text.f k t364).bind fun t367 => (some t367)))))
theorem d_Mul.mono : ∀ a0 a1 k, LeO (d_Mul.f k a0 a1) (d_Mul.f (k + 1) a0 a1) := by
  intro a0 a1 k; unfold d_Mul.f
  repeat' with_reducible first | apply d_both.mono | apply d_cut.mono | apply p_text.mono | apply p_times.mono | apply LeO.refl | apply LeO.none | refine LeO.ite ?_ ?_ | refine LeO.bind ?_ (fun _ => ?_)
set_option maxHeartbeats 8000000 in
set_option maxRecDepth 100000 in
theorem d_Mul.calls (k : Nat) (a0 : ByteArray) (a1 : ByteArray) (r : ByteArray) (w : World) (hT : Tab w) (h : d_Mul.f k a0 a1 = some r) :
    Calls Tryz.prog 76 #[.string a0, .string a1] w fun e w' => e = .returned (.string r) ∧ Below w.heap.size w w' := by
  have HT := Aside0.mk hT; clear hT; have HB := Aside0.mk (Below.refl w.heap.size w); have H : (if (wrap64 ((a0.size : Int) + (a1.size : Int))) ≤ 18 then ((d_both.f k a0 a1).bind fun bt354 => ((decimal_Of.f (IntKind.u64.wrap (bt354.1 * bt354.2.1))).bind fun t357 => (some t357))) else ((d_cut.f k a0).bind fun t358 => ((d_cut.f k a1).bind fun t361 => ((p_times.f k t358 t361).bind fun t364 => ((p_text.f k t364).bind fun t367 => (some t367)))))) = some r := h
  clear h; by_cases c3 : (wrap64 ((a0.size : Int) + (a1.size : Int))) ≤ 18
  · rw [if_pos c3] at H; have c3b0 : decide ((wrap64 ((a0.size : Int) + (a1.size : Int))) ≤ 18) = true := decide_eq_true c3; clear c3; replace H := Option.bind_eq_some_iff.mp H; obtain ⟨⟨t354, t355, t356⟩, A40, H⟩ := H; have A4 := Aside0.mk A40; clear A40; replace H := Option.bind_eq_some_iff.mp H; obtain ⟨t357, A50, H⟩ := H; have A5 := Aside0.mk A50; clear A50; obtain rfl := Option.some.inj H
    go_enter Tryz.func76, Tryz.ntmps76
    go_wp2_with (first | ((with_reducible refine gate_callee (f := 68) rfl ?_); refine goesL_ (some 17) rfl rfl Tryz.func68 (by kernel_rfl) rfl #[.string a0, .string a1] rfl mq ?_; (with_reducible refine (d_both.calls (hT := HT.out.below bq) k a0 a1 t354 t355 t356 _ A4.out).mono ?_); rintro e w6 ⟨rfl, hb⟩; refine ⟨_, rfl, ?_⟩; replace HB := Aside0.mk (below_step bq hb); (try clear hb); (try clear hb2); (try clear hk); (try clear hi)) | ((with_reducible refine gate_callee (f := 69) rfl ?_); refine goesL_ (some 24) rfl rfl Tryz.func69 (by kernel_rfl) rfl #[.int .u64 (IntKind.u64.wrap (t354 * t355))] rfl mq ?_; (with_reducible refine (decimal_Of.calls (hT := HT.out.below bq) (IntKind.u64.wrap (t354 * t355)) t357 _ A5.out).mono ?_); rintro e w7 ⟨rfl, hb⟩; refine ⟨_, rfl, ?_⟩; replace HB := Aside0.mk (below_step bq hb); (try clear hb); (try clear hb2); (try clear hk); (try clear hi)))
    go_ret
    exact ⟨eq_, bq⟩
  · rw [if_neg c3] at H; have c3b0 : decide ((wrap64 ((a0.size : Int) + (a1.size : Int))) ≤ 18) = false := decide_eq_false c3; clear c3; replace H := Option.bind_eq_some_iff.mp H; obtain ⟨t358, A80, H⟩ := H; have A8 := Aside0.mk A80; clear A80; replace H := Option.bind_eq_some_iff.mp H; obtain ⟨t361, A90, H⟩ := H; have A9 := Aside0.mk A90; clear A90; replace H := Option.bind_eq_some_iff.mp H; obtain ⟨t364, A100, H⟩ := H; have A10 := Aside0.mk A100; clear A100; replace H := Option.bind_eq_some_iff.mp H; obtain ⟨t367, A110, H⟩ := H; have A11 := Aside0.mk A110; clear A110; obtain rfl := Option.some.inj H
    go_enter Tryz.func76, Tryz.ntmps76
    go_wp2_with (first | ((with_reducible refine gate_callee (f := 60) rfl ?_); refine goesL_ (some 26) rfl rfl Tryz.func60 (by kernel_rfl) rfl #[.string a0] rfl mq ?_; (with_reducible refine (d_cut.calls k a0 t358 _ A8.out).mono ?_); rintro e w12 ⟨v359, rfl, ho0, hb⟩; refine ⟨_, rfl, ?_⟩; have n0_ := Aside0.mk (Kd.R_lower ho0 (below_size bq)); have n1_ := Aside0.mk (below_step bq hb); clear HB; have HO360 := n0_; have HB := n1_; clear n0_ n1_; (try clear hb); (try clear hb2); (try clear hk); (try clear hi); (try clear ho0)) | ((with_reducible refine gate_callee (f := 60) rfl ?_); refine goesL_ (some 28) rfl rfl Tryz.func60 (by kernel_rfl) rfl #[.string a1] rfl mq ?_; (with_reducible refine (d_cut.calls k a1 t361 _ A9.out).mono ?_); rintro e w13 ⟨v362, rfl, ho0, hb⟩; refine ⟨_, rfl, ?_⟩; have n0_ := Aside0.mk (Kd.R_elder' (pl HO360.out) (Kd.R_base ho0) hb); have n1_ := Aside0.mk (Kd.R_lower (Kd.R_new' ho0 (Kd.R_lt (pl HO360.out))) (below_size bq)); have n2_ := Aside0.mk (below_step bq hb); clear HO360; clear HB; have HO360 := n0_; have HO363 := n1_; have HB := n2_; clear n0_ n1_ n2_; (try clear hb); (try clear hb2); (try clear hk); (try clear hi); (try clear ho0); obtain ⟨Ao14, co14, eo14⟩ := Kd.R_slice HO360.out; subst eo14; obtain ⟨Ao15, co15, eo15⟩ := Kd.R_slice HO363.out; subst eo15) | ((with_reducible refine gate_callee (f := 61) rfl ?_); refine goesL_ (some 29) rfl rfl Tryz.func61 (by kernel_rfl) rfl #[.slice Ao14 t358.length co14, .slice Ao15 t361.length co15] rfl mq ?_; (with_reducible refine (p_times.calls k _ _ t358 _ _ t361 t364 _ ?side1 ?side2 ?side3 ?side4 A10.out).mono ?_); (case side1 => exact cq ((Kd.R_reads' HO360.out).2.2)); (case side2 => exact (Kd.R_reads' HO360.out).2.1); (case side3 => exact cq ((Kd.R_reads' HO363.out).2.2)); (case side4 => exact (Kd.R_reads' HO363.out).2.1); rintro e w16 ⟨v365, rfl, ho0, hb⟩; refine ⟨_, rfl, ?_⟩; have n0_ := Aside0.mk (Kd.R_elder' (pl HO360.out) (Kd.R_base ho0) hb); have n1_ := Aside0.mk (Kd.R_elder' (pl HO363.out) (Kd.R_base ho0) hb); have n2_ := Aside0.mk (Kd.R_lower (Kd.R_new' (Kd.R_new' ho0 (Kd.R_lt (pl HO360.out))) (Kd.R_lt (pl HO363.out))) (below_size bq)); have n3_ := Aside0.mk (below_step bq hb); clear HO360; clear HO363; clear HB; have HO360 := n0_; have HO363 := n1_; have HO366 := n2_; have HB := n3_; clear n0_ n1_ n2_ n3_; (try clear hb); (try clear hb2); (try clear hk); (try clear hi); (try clear ho0); obtain ⟨Ao17, co17, eo17⟩ := Kd.R_slice HO366.out; subst eo17) | ((with_reducible refine gate_callee (f := 62) rfl ?_); refine goesL_ (some 30) rfl rfl Tryz.func62 (by kernel_rfl) rfl #[.slice Ao17 t364.length co17] rfl mq ?_; (with_reducible refine (p_text.calls k _ _ t364 t367 _ ?side1 ?side2 A11.out).mono ?_); (case side1 => exact cq ((Kd.R_reads' HO366.out).2.2)); (case side2 => exact (Kd.R_reads' HO366.out).2.1); rintro e w18 ⟨rfl, hb⟩; refine ⟨_, rfl, ?_⟩; have n0_ := Aside0.mk (Kd.R_below (pl HO360.out) hb); have n1_ := Aside0.mk (Kd.R_below (pl HO363.out) hb); have n2_ := Aside0.mk (Kd.R_below (pl HO366.out) hb); have n3_ := Aside0.mk (below_step bq hb); clear HO360; clear HO363; clear HO366; clear HB; have HO360 := n0_; have HO363 := n1_; have HO366 := n2_; have HB := n3_; clear n0_ n1_ n2_ n3_; (try clear hb); (try clear hb2); (try clear hk); (try clear hi)))
    go_ret
    exact ⟨eq_, bq⟩
def z_Mul.j0 : Nat → ByteArray → ByteArray → Option (ByteArray)
  | 0, _, _ => none
  | k + 1, x0, x1 => (z_split.f x0).bind fun bt373 => ((z_split.f x1).bind fun bt375 => ((d_Mul.f k bt373.2 bt375.2).bind fun t377 => ((z_join.f (bt373.1 != bt375.1) t377).bind fun t378 => (some t378))))
def z_Mul.f (k : Nat) (a0 : ByteArray) (a1 : ByteArray) : Option (ByteArray) := (whole_little.f a0 9).bind fun bt368 => (if bt368.2 = true then ((whole_little.f a1 9).bind fun bt370 => (if bt370.2 = true then ((z_Of.f (wrap64 (bt368.1 * bt370.1))).bind fun t372 => (some t372)) else (z_Mul.j0 k a0 a1))) else (z_Mul.j0 k a0 a1))
theorem z_Mul.mono_l : ∀ k, (∀ y0 y1, LeO (z_Mul.j0 k y0 y1) (z_Mul.j0 (k + 1) y0 y1))
  | 0 => fun _ _ r h => by simp [z_Mul.j0] at h
  | k + 1 => by
    have ih0 := z_Mul.mono_l k
    · intro y0 y1; unfold z_Mul.j0
      repeat' with_reducible first | apply ih0 | apply d_Mul.mono | apply LeO.refl | apply LeO.none | refine LeO.ite ?_ ?_ | refine LeO.bind ?_ (fun _ => ?_)
theorem z_Mul.mono : ∀ a0 a1 k, LeO (z_Mul.f k a0 a1) (z_Mul.f (k + 1) a0 a1) := by
  intro a0 a1 k; have ih0 := z_Mul.mono_l k; unfold z_Mul.f
  repeat' with_reducible first | apply ih0 | apply d_Mul.mono | apply LeO.refl | apply LeO.none | refine LeO.ite ?_ ?_ | refine LeO.bind ?_ (fun _ => ?_)
set_option maxHeartbeats 8000000 in
set_option maxRecDepth 100000 in
theorem z_Mul.calls (k : Nat) (a0 : ByteArray) (a1 : ByteArray) (r : ByteArray) (w : World) (hT : Tab w) (h : z_Mul.f k a0 a1 = some r) :
    Calls Tryz.prog 52 #[.string a0, .string a1] w fun e w' => e = .returned (.string r) ∧ Below w.heap.size w w' := by
  have HT := Aside0.mk hT; clear hT; have HB := Aside0.mk (Below.refl w.heap.size w); have H : ((whole_little.f a0 9).bind fun bt368 => (if bt368.2 = true then ((whole_little.f a1 9).bind fun bt370 => (if bt370.2 = true then ((z_Of.f (wrap64 (bt368.1 * bt370.1))).bind fun t372 => (some t372)) else (z_Mul.j0 k a0 a1))) else (z_Mul.j0 k a0 a1))) = some r := h
  clear h; replace H := Option.bind_eq_some_iff.mp H; obtain ⟨⟨t368, t369⟩, A30, H⟩ := H; have A3 := Aside0.mk A30; clear A30; have HC4 := Aside0.mk H; clear H
  go_enter Tryz.func52, Tryz.ntmps52
  go_upto_if 18 with (first | ((with_reducible refine gate_callee (f := 40) rfl ?_); refine goesL_ (some 15) rfl rfl Tryz.func40 (by kernel_rfl) rfl #[.string a0, .int .i64 9] rfl mq ?_; (with_reducible refine (whole_little.calls a0 9 t368 t369 _ A3.out).mono ?_); rintro e w5 ⟨rfl, hb⟩; refine ⟨_, rfl, ?_⟩; replace HB := Aside0.mk (below_step bq hb); (try clear hb); (try clear hb2); (try clear hk); (try clear hi)))
  (try simp only [Act.put, List.setIfInBounds_toArray, List.set_cons_zero, List.set_cons_succ])
  go_cut [] (fun wc => ∃ (kq : Nat), Aside0 (z_Mul.j0 kq a0 a1 = some r) ∧ Aside0 (kq ≤ k) ∧ Aside0 (Below w.heap.size w wc))
  case first =>
    have H := HC4.out; clear HC4; by_cases c6 : t369 = true
    · subst c6; have H1 : ((whole_little.f a1 9).bind fun bt370 => (if bt370.2 = true then ((z_Of.f (wrap64 (t368 * bt370.1))).bind fun t372 => (some t372)) else (z_Mul.j0 k a0 a1))) = some r := by rw [if_pos rfl] at H; exact H
      clear H; have H := H1; clear H1; replace H := Option.bind_eq_some_iff.mp H; obtain ⟨⟨t370, t371⟩, A70, H⟩ := H; have A7 := Aside0.mk A70; clear A70; by_cases c8 : t371 = true
      · subst c8; have H1 : ((z_Of.f (wrap64 (t368 * t370))).bind fun t372 => (some t372)) = some r := by rw [if_pos rfl] at H; exact H
        clear H; have H := H1; clear H1; replace H := Option.bind_eq_some_iff.mp H; obtain ⟨t372, A90, H⟩ := H; have A9 := Aside0.mk A90; clear A90; obtain rfl := Option.some.inj H
        go_wp2_with (first | ((with_reducible refine gate_callee (f := 40) rfl ?_); refine goesL_ (some 21) rfl rfl Tryz.func40 (by kernel_rfl) rfl #[.string a1, .int .i64 9] rfl mq ?_; (with_reducible refine (whole_little.calls a1 9 t370 true _ A7.out).mono ?_); rintro e w10 ⟨rfl, hb⟩; refine ⟨_, rfl, ?_⟩; replace HB := Aside0.mk (below_step bq hb); (try clear hb); (try clear hb2); (try clear hk); (try clear hi)) | ((with_reducible refine gate_callee (f := 41) rfl ?_); refine goesL_ (some 28) rfl rfl Tryz.func41 (by kernel_rfl) rfl #[.int .i64 (wrap64 (t368 * t370))] rfl mq ?_; (with_reducible refine (z_Of.calls (hT := HT.out.below bq) (wrap64 (t368 * t370)) t372 _ A9.out).mono ?_); rintro e w11 ⟨rfl, hb⟩; refine ⟨_, rfl, ?_⟩; replace HB := Aside0.mk (below_step bq hb); (try clear hb); (try clear hb2); (try clear hk); (try clear hi)))
        go_ret
        exact ⟨eq_, bq⟩
      · replace c8 := Bool.eq_false_iff.mpr c8; subst c8; have H1 : (z_Mul.j0 k a0 a1) = some r := by rw [if_neg (show ¬ (false = true) by decide)] at H; exact H
        clear H; have H := H1; clear H1; have H' := Aside0.mk H; clear H
        go_wp2_with (first | ((with_reducible refine gate_callee (f := 40) rfl ?_); refine goesL_ (some 21) rfl rfl Tryz.func40 (by kernel_rfl) rfl #[.string a1, .int .i64 9] rfl mq ?_; (with_reducible refine (whole_little.calls a1 9 t370 false _ A7.out).mono ?_); rintro e w12 ⟨rfl, hb⟩; refine ⟨_, rfl, ?_⟩; replace HB := Aside0.mk (below_step bq hb); (try clear hb); (try clear hb2); (try clear hk); (try clear hi)))
        go_meet
        case rel => exact ⟨_, H', ⟨by first | omega | exact Nat.le_refl _⟩, ⟨bq⟩⟩
    · replace c6 := Bool.eq_false_iff.mpr c6; subst c6; have H1 : (z_Mul.j0 k a0 a1) = some r := by rw [if_neg (show ¬ (false = true) by decide)] at H; exact H
      clear H; have H := H1; clear H1; have H' := Aside0.mk H; clear H
      go_wp2
      go_meet
      case rel => exact ⟨_, H', ⟨by first | omega | exact Nat.le_refl _⟩, ⟨bq⟩⟩
  case rest =>
    clear HC4; (try clear p2); (try clear c4); (try clear c5); (try clear c6); (try clear p6); (try clear c8); obtain ⟨kq, HA, HJ3, HB⟩ := hcut; cases kq with
    | zero => exact absurd HA.out (by simp [z_Mul.j0])
    | succ kj3 =>
      have H := HA.out; clear HA; simp only [z_Mul.j0] at H
      replace H := Option.bind_eq_some_iff.mp H; obtain ⟨⟨t373, t374⟩, A130, H⟩ := H; have A13 := Aside0.mk A130; clear A130; replace H := Option.bind_eq_some_iff.mp H; obtain ⟨⟨t375, t376⟩, A140, H⟩ := H; have A14 := Aside0.mk A140; clear A140; replace H := Option.bind_eq_some_iff.mp H; obtain ⟨t377, A150, H⟩ := H; have A15 := Aside0.mk A150; clear A150; replace H := Option.bind_eq_some_iff.mp H; obtain ⟨t378, A160, H⟩ := H; have A16 := Aside0.mk A160; clear A160; obtain rfl := Option.some.inj H; have A16n := A16
      try rw [neq_bools] at A16n
      go_wp2_with (first | ((with_reducible refine gate_callee (f := 28) rfl ?_); refine goesL_ (some 31) rfl rfl Tryz.func28 (by kernel_rfl) rfl #[.string a0] rfl mq ?_; (with_reducible refine (z_split.calls a0 t373 t374 _ A13.out).mono ?_); rintro e w' ⟨rfl, ⟨nd, rfl⟩⟩; refine ⟨_, rfl, ?_⟩) | ((with_reducible refine gate_callee (f := 28) rfl ?_); refine goesL_ (some 36) rfl rfl Tryz.func28 (by kernel_rfl) rfl #[.string a1] rfl mq ?_; (with_reducible refine (z_split.calls a1 t375 t376 _ A14.out).mono ?_); rintro e w' ⟨rfl, ⟨nd, rfl⟩⟩; refine ⟨_, rfl, ?_⟩) | ((with_reducible refine gate_callee (f := 76) rfl ?_); refine goesL_ (some 44) rfl rfl Tryz.func76 (by kernel_rfl) rfl #[.string t374, .string t376] rfl mq ?_; (with_reducible refine (d_Mul.calls (hT := HT.out.below bq) kj3 t374 t376 t377 _ A15.out).mono ?_); rintro e w17 ⟨rfl, hb⟩; refine ⟨_, rfl, ?_⟩; replace HB := Aside0.mk (below_step bq hb); (try clear hb); (try clear hb2); (try clear hk); (try clear hi)) | ((with_reducible refine gate_callee (f := 30) rfl ?_); refine goesL_ (some 45) rfl rfl Tryz.func30 (by kernel_rfl) rfl #[.bool (t373 != t375), .string t377] rfl mq ?_; (first | with_reducible refine (z_join.calls (t373 != t375) t377 t378 _ A16.out).mono ?_ | with_reducible refine (z_join.calls (!(t373 == t375)) t377 t378 _ A16n.out).mono ?_); rintro e w' ⟨rfl, ⟨nd, rfl⟩⟩; refine ⟨_, rfl, ?_⟩))
      go_ret
      exact ⟨eq_, bq⟩
mutual
def z_Bezout.l0 : Nat → ByteArray → ByteArray → ByteArray → ByteArray → ByteArray → ByteArray → Option (ByteArray × ByteArray × ByteArray)
  | 0, _, _, _, _, _, _ => none
  | k + 1, x0, x1, x7, x8, x9, x10 => if x8.toList = ([48] : List UInt8) then ((z_Sign.f x7).bind fun t387 => (if t387 < 0 then ((z_Neg.f x7).bind fun t388 => ((z_Neg.f x9).bind fun t389 => (z_Bezout.j1 k x0 x1 t388 t389))) else (z_Bezout.j1 k x0 x1 x7 x9))) else ((z_DivMod.f k x7 x8).bind fun bt382 => ((z_Mul.f k bt382.1 x10).bind fun t385 => ((z_Sub.f k x9 t385).bind fun t386 => (z_Bezout.l0 k x0 x1 x8 bt382.2.1 x10 t386))))
def z_Bezout.j1 : Nat → ByteArray → ByteArray → ByteArray → ByteArray → Option (ByteArray × ByteArray × ByteArray)
  | 0, _, _, _, _ => none
  | k + 1, x0, x1, x7, x9 => (z_Abs.f x1).bind fun t390 => ((z_DivMod.f k t390 x7).bind fun bt391 => ((z_DivMod.f k x9 bt391.1).bind fun bt394 => ((z_Mul.f k x0 bt394.2.1).bind fun t397 => ((z_Sub.f k x7 t397).bind fun t398 => ((z_DivMod.f k t398 x1).bind fun bt399 => (some (x7, bt394.2.1, bt399.1)))))))
end
def z_Bezout.f (k : Nat) (a0 : ByteArray) (a1 : ByteArray) : Option (ByteArray × ByteArray × ByteArray) := if a1.toList = ([48] : List UInt8) then ((z_Abs.f a0).bind fun t379 => ((z_Sign.f a0).bind fun t380 => ((z_Of.f t380).bind fun t381 => (some (t379, t381, (⟨#[48]⟩ : ByteArray)))))) else (z_Bezout.l0 k a0 a1 a0 a1 (⟨#[49]⟩ : ByteArray) (⟨#[48]⟩ : ByteArray))
theorem z_Bezout.mono_l : ∀ k, (∀ y0 y1 y2 y3 y4 y5, LeO (z_Bezout.l0 k y0 y1 y2 y3 y4 y5) (z_Bezout.l0 (k + 1) y0 y1 y2 y3 y4 y5)) ∧ (∀ y0 y1 y2 y3, LeO (z_Bezout.j1 k y0 y1 y2 y3) (z_Bezout.j1 (k + 1) y0 y1 y2 y3))
  | 0 => ⟨fun _ _ _ _ _ _ r h => by simp [z_Bezout.l0] at h, fun _ _ _ _ r h => by simp [z_Bezout.j1] at h⟩
  | k + 1 => by
    obtain ⟨ih0, ih1⟩ := z_Bezout.mono_l k; refine ⟨?_, ?_⟩
    · intro y0 y1 y2 y3 y4 y5; unfold z_Bezout.l0
      repeat' with_reducible first | apply ih0 | apply ih1 | apply z_DivMod.mono | apply z_Mul.mono | apply z_Sub.mono | apply LeO.refl | apply LeO.none | refine LeO.ite ?_ ?_ | refine LeO.bind ?_ (fun _ => ?_)
    · intro y0 y1 y2 y3; unfold z_Bezout.j1
      repeat' with_reducible first | apply ih0 | apply ih1 | apply z_DivMod.mono | apply z_Mul.mono | apply z_Sub.mono | apply LeO.refl | apply LeO.none | refine LeO.ite ?_ ?_ | refine LeO.bind ?_ (fun _ => ?_)
theorem z_Bezout.mono : ∀ a0 a1 k, LeO (z_Bezout.f k a0 a1) (z_Bezout.f (k + 1) a0 a1) := by
  intro a0 a1 k; obtain ⟨ih0, ih1⟩ := z_Bezout.mono_l k; unfold z_Bezout.f
  repeat' with_reducible first | apply ih0 | apply ih1 | apply z_DivMod.mono | apply z_Mul.mono | apply z_Sub.mono | apply LeO.refl | apply LeO.none | refine LeO.ite ?_ ?_ | refine LeO.bind ?_ (fun _ => ?_)
set_option maxHeartbeats 8000000 in
set_option maxRecDepth 100000 in
theorem z_Bezout.calls (k : Nat) (a0 : ByteArray) (a1 : ByteArray) (r1 : ByteArray) (r2 : ByteArray) (r3 : ByteArray) (w : World) (hT : Tab w) (h : z_Bezout.f k a0 a1 = some (r1, r2, r3)) :
    Calls Tryz.prog 20 #[.string a0, .string a1] w fun e w' => e = .returned (.tuple #[.string r1, .string r2, .string r3]) ∧ Below w.heap.size w w' := by
  have HT := Aside0.mk hT; clear hT; have HB := Aside0.mk (Below.refl w.heap.size w); have H : (if a1.toList = ([48] : List UInt8) then ((z_Abs.f a0).bind fun t379 => ((z_Sign.f a0).bind fun t380 => ((z_Of.f t380).bind fun t381 => (some (t379, t381, (⟨#[48]⟩ : ByteArray)))))) else (z_Bezout.l0 k a0 a1 a0 a1 (⟨#[49]⟩ : ByteArray) (⟨#[48]⟩ : ByteArray))) = some (r1, r2, r3) := h
  clear h; by_cases c3 : a1.toList = ([48] : List UInt8)
  · rw [if_pos c3] at H; have c3b0 : (a1.toList == ([48] : List UInt8)) = true := beq_iff_eq.mpr c3; have c3b1 : (a1.toList != ([48] : List UInt8)) = false := bne_eq_false_iff_eq.mpr c3; clear c3; replace H := Option.bind_eq_some_iff.mp H; obtain ⟨t379, A40, H⟩ := H; have A4 := Aside0.mk A40; clear A40; replace H := Option.bind_eq_some_iff.mp H; obtain ⟨t380, A50, H⟩ := H; have A5 := Aside0.mk A50; clear A50; replace H := Option.bind_eq_some_iff.mp H; obtain ⟨t381, A60, H⟩ := H; have A6 := Aside0.mk A60; clear A60; simp only [Option.some.injEq, Prod.mk.injEq] at H
    obtain ⟨rfl, rfl, rfl⟩ := H
    go_enter Tryz.func20, Tryz.ntmps20
    go_wp2_with (first | ((with_reducible refine gate_callee (f := 50) rfl ?_); refine goesL_ (some 20) rfl rfl Tryz.func50 (by kernel_rfl) rfl #[.string a0] rfl mq ?_; (with_reducible refine (z_Abs.calls a0 t379 _ A4.out).mono ?_); rintro e w' ⟨rfl, ⟨nd, rfl⟩⟩; refine ⟨_, rfl, ?_⟩) | ((with_reducible refine gate_callee (f := 51) rfl ?_); refine goesL_ (some 22) rfl rfl Tryz.func51 (by kernel_rfl) rfl #[.string a0] rfl mq ?_; (with_reducible refine (z_Sign.calls a0 t380 _ A5.out).mono ?_); rintro e w' ⟨rfl, ⟨nd, rfl⟩⟩; refine ⟨_, rfl, ?_⟩) | ((with_reducible refine gate_callee (f := 41) rfl ?_); refine goesL_ (some 23) rfl rfl Tryz.func41 (by kernel_rfl) rfl #[.int .i64 t380] rfl mq ?_; (with_reducible refine (z_Of.calls (hT := HT.out.below bq) t380 t381 _ A6.out).mono ?_); rintro e w7 ⟨rfl, hb⟩; refine ⟨_, rfl, ?_⟩; replace HB := Aside0.mk (below_step bq hb); (try clear hb); (try clear hb2); (try clear hk); (try clear hi)))
    go_ret3
    exact ⟨eq_, bq⟩
  · rw [if_neg c3] at H; have c3b0 : (a1.toList == ([48] : List UInt8)) = false := beq_eq_false_iff_ne.mpr c3; have c3b1 : (a1.toList != ([48] : List UInt8)) = true := bne_iff_ne.mpr c3; have H' := Aside0.mk H; clear H
    go_enter Tryz.func20, Tryz.ntmps20
    go_wp2
    go_loopg [7, 8, 9, 10] k (fun kq v7 v8 v9 v10 w' => ∃ (x7_1 : ByteArray) (x8_1 : ByteArray) (x9_1 : ByteArray) (x10_1 : ByteArray), v7 = .string x7_1 ∧ v8 = .string x8_1 ∧ v9 = .string x9_1 ∧ v10 = .string x10_1 ∧ Aside0 (z_Bezout.l0 kq a0 a1 x7_1 x8_1 x9_1 x10_1 = some (r1, r2, r3)) ∧ Aside0 (kq ≤ k) ∧ Aside0 (Below w.heap.size w w'))
    case atStart => exact ⟨(a0), (a1), ((⟨#[49]⟩ : ByteArray)), ((⟨#[48]⟩ : ByteArray)), sq, sq, sq, sq, H', ⟨Nat.le_refl _⟩, ⟨bq⟩⟩
    case round =>
      clear H'; (try clear c2); (try clear p2); (try clear c3); (try clear c3b0); (try clear c3b1); (try clear c4); (try clear c5); obtain ⟨x7_1, x8_1, x9_1, x10_1, rfl, rfl, rfl, rfl, HA, HK1, HB⟩ := hrel; cases gk with
      | zero => exact absurd HA.out (by simp [z_Bezout.l0])
      | succ k1 =>
        have H := HA.out; clear HA; simp only [z_Bezout.l0] at H
        by_cases c8 : x8_1.toList = ([48] : List UInt8)
        · rw [if_pos c8] at H; have c8b0 : (x8_1.toList == ([48] : List UInt8)) = true := beq_iff_eq.mpr c8; have c8b1 : (x8_1.toList != ([48] : List UInt8)) = false := bne_eq_false_iff_eq.mpr c8; clear c8; replace H := Option.bind_eq_some_iff.mp H; obtain ⟨t387, A90, H⟩ := H; have A9 := Aside0.mk A90; clear A90; have HC10 := Aside0.mk H; clear H
          go_upto_if 45 with (first | ((with_reducible refine gate_callee (f := 51) rfl ?_); refine goesL_ (some 44) rfl rfl Tryz.func51 (by kernel_rfl) rfl #[.string x7_1] rfl mq ?_; (with_reducible refine (z_Sign.calls x7_1 t387 _ A9.out).mono ?_); rintro e w' ⟨rfl, ⟨nd, rfl⟩⟩; refine ⟨_, rfl, ?_⟩))
          (try simp only [Act.put, List.setIfInBounds_toArray, List.set_cons_zero, List.set_cons_succ])
          go_cut [7, 9] (fun v7 v9 wc => ∃ (kq : Nat) (x7_9 : ByteArray) (x9_9 : ByteArray), v7 = .string x7_9 ∧ v9 = .string x9_9 ∧ Aside0 (z_Bezout.j1 kq a0 a1 x7_9 x9_9 = some (r1, r2, r3)) ∧ Aside0 (kq ≤ k1) ∧ Aside0 (Below w.heap.size w wc))
          case first =>
            have H := HC10.out; clear HC10; by_cases c11 : t387 < 0
            · rw [if_pos c11] at H; have c11b0 : decide (t387 < 0) = true := decide_eq_true c11; clear c11
              (first | rw [c11b0] | (simp only [i64_w, i32_w]; rw [c11b0]) | skip)
              replace H := Option.bind_eq_some_iff.mp H; obtain ⟨t388, A120, H⟩ := H; have A12 := Aside0.mk A120; clear A120; replace H := Option.bind_eq_some_iff.mp H; obtain ⟨t389, A130, H⟩ := H; have A13 := Aside0.mk A130; clear A130; have H' := Aside0.mk H; clear H
              go_wp2_with (first | ((with_reducible refine gate_callee (f := 45) rfl ?_); refine goesL_ (some 47) rfl rfl Tryz.func45 (by kernel_rfl) rfl #[.string x7_1] rfl mq ?_; (with_reducible refine (z_Neg.calls x7_1 t388 _ A12.out).mono ?_); rintro e w' ⟨rfl, ⟨nd, rfl⟩⟩; refine ⟨_, rfl, ?_⟩) | ((with_reducible refine gate_callee (f := 45) rfl ?_); refine goesL_ (some 49) rfl rfl Tryz.func45 (by kernel_rfl) rfl #[.string x9_1] rfl mq ?_; (with_reducible refine (z_Neg.calls x9_1 t389 _ A13.out).mono ?_); rintro e w' ⟨rfl, ⟨nd, rfl⟩⟩; refine ⟨_, rfl, ?_⟩))
              go_meet
              case rel => exact ⟨_, (t388), (t389), sq, sq, H', ⟨by have := HK1.out; first | omega | exact Nat.le_refl _⟩, ⟨bq⟩⟩
            · rw [if_neg c11] at H; have c11b0 : decide (t387 < 0) = false := decide_eq_false c11; clear c11
              (first | rw [c11b0] | (simp only [i64_w, i32_w]; rw [c11b0]) | skip)
              have H' := Aside0.mk H; clear H
              go_wp2
              go_meet
              case rel => exact ⟨_, (x7_1), (x9_1), sq, sq, H', ⟨by have := HK1.out; first | omega | exact Nat.le_refl _⟩, ⟨bq⟩⟩
          case rest =>
            clear HC10; (try clear c1); (try clear c2); (try clear p2); (try clear c3); (try clear c3b0); (try clear c3b1); (try clear c4); (try clear c5); (try clear c8); (try clear c8b0); (try clear c8b1); (try clear c11); (try clear c11b0); (try clear p2); obtain ⟨kq, x7_9, x9_9, rfl, rfl, HA, HJ9, HB⟩ := hcut; cases kq with
            | zero => exact absurd HA.out (by simp [z_Bezout.j1])
            | succ kj9 =>
              have H := HA.out; clear HA; simp only [z_Bezout.j1] at H
              replace H := Option.bind_eq_some_iff.mp H; obtain ⟨t390, A140, H⟩ := H; have A14 := Aside0.mk A140; clear A140; replace H := Option.bind_eq_some_iff.mp H; obtain ⟨⟨t391, t392, t393⟩, A150, H⟩ := H; have A15 := Aside0.mk A150; clear A150; replace H := Option.bind_eq_some_iff.mp H; obtain ⟨⟨t394, t395, t396⟩, A160, H⟩ := H; have A16 := Aside0.mk A160; clear A160; replace H := Option.bind_eq_some_iff.mp H; obtain ⟨t397, A170, H⟩ := H; have A17 := Aside0.mk A170; clear A170; replace H := Option.bind_eq_some_iff.mp H; obtain ⟨t398, A180, H⟩ := H; have A18 := Aside0.mk A180; clear A180; replace H := Option.bind_eq_some_iff.mp H; obtain ⟨⟨t399, t400, t401⟩, A190, H⟩ := H; have A19 := Aside0.mk A190; clear A190; simp only [Option.some.injEq, Prod.mk.injEq] at H
              obtain ⟨rfl, rfl, rfl⟩ := H
              go_wp2_with (first | ((with_reducible refine gate_callee (f := 50) rfl ?_); refine goesL_ (some 52) rfl rfl Tryz.func50 (by kernel_rfl) rfl #[.string a1] rfl mq ?_; (with_reducible refine (z_Abs.calls a1 t390 _ A14.out).mono ?_); rintro e w' ⟨rfl, ⟨nd, rfl⟩⟩; refine ⟨_, rfl, ?_⟩) | ((with_reducible refine gate_callee (f := 17) rfl ?_); refine goesL_ (some 54) rfl rfl Tryz.func17 (by kernel_rfl) rfl #[.string t390, .string x7_9] rfl mq ?_; (with_reducible refine (z_DivMod.calls (hT := HT.out.below bq) kj9 t390 x7_9 t391 t392 t393 _ A15.out).mono ?_); rintro e w20 ⟨rfl, hb⟩; refine ⟨_, rfl, ?_⟩; replace HB := Aside0.mk (below_step bq hb); (try clear hb); (try clear hb2); (try clear hk); (try clear hi)) | ((with_reducible refine gate_callee (f := 17) rfl ?_); refine goesL_ (some 61) rfl rfl Tryz.func17 (by kernel_rfl) rfl #[.string x9_9, .string t391] rfl mq ?_; (with_reducible refine (z_DivMod.calls (hT := HT.out.below bq) kj9 x9_9 t391 t394 t395 t396 _ A16.out).mono ?_); rintro e w21 ⟨rfl, hb⟩; refine ⟨_, rfl, ?_⟩; replace HB := Aside0.mk (below_step bq hb); (try clear hb); (try clear hb2); (try clear hk); (try clear hi)) | ((with_reducible refine gate_callee (f := 52) rfl ?_); refine goesL_ (some 69) rfl rfl Tryz.func52 (by kernel_rfl) rfl #[.string a0, .string t395] rfl mq ?_; (with_reducible refine (z_Mul.calls (hT := HT.out.below bq) kj9 a0 t395 t397 _ A17.out).mono ?_); rintro e w22 ⟨rfl, hb⟩; refine ⟨_, rfl, ?_⟩; replace HB := Aside0.mk (below_step bq hb); (try clear hb); (try clear hb2); (try clear hk); (try clear hi)) | ((with_reducible refine gate_callee (f := 14) rfl ?_); refine goesL_ (some 70) rfl rfl Tryz.func14 (by kernel_rfl) rfl #[.string x7_9, .string t397] rfl mq ?_; (with_reducible refine (z_Sub.calls (hT := HT.out.below bq) kj9 x7_9 t397 t398 _ A18.out).mono ?_); rintro e w23 ⟨rfl, hb⟩; refine ⟨_, rfl, ?_⟩; replace HB := Aside0.mk (below_step bq hb); (try clear hb); (try clear hb2); (try clear hk); (try clear hi)) | ((with_reducible refine gate_callee (f := 17) rfl ?_); refine goesL_ (some 72) rfl rfl Tryz.func17 (by kernel_rfl) rfl #[.string t398, .string a1] rfl mq ?_; (with_reducible refine (z_DivMod.calls (hT := HT.out.below bq) kj9 t398 a1 t399 t400 t401 _ A19.out).mono ?_); rintro e w24 ⟨rfl, hb⟩; refine ⟨_, rfl, ?_⟩; replace HB := Aside0.mk (below_step bq hb); (try clear hb); (try clear hb2); (try clear hk); (try clear hi)))
              go_ret3
              exact ⟨eq_, bq⟩
        · rw [if_neg c8] at H; have c8b0 : (x8_1.toList == ([48] : List UInt8)) = false := beq_eq_false_iff_ne.mpr c8; have c8b1 : (x8_1.toList != ([48] : List UInt8)) = true := bne_iff_ne.mpr c8; replace H := Option.bind_eq_some_iff.mp H; obtain ⟨⟨t382, t383, t384⟩, A250, H⟩ := H; have A25 := Aside0.mk A250; clear A250; replace H := Option.bind_eq_some_iff.mp H; obtain ⟨t385, A260, H⟩ := H; have A26 := Aside0.mk A260; clear A260; replace H := Option.bind_eq_some_iff.mp H; obtain ⟨t386, A270, H⟩ := H; have A27 := Aside0.mk A270; clear A270; have H' := Aside0.mk H; clear H
          go_wp2_with (first | ((with_reducible refine gate_callee (f := 17) rfl ?_); refine goesL_ (some 31) rfl rfl Tryz.func17 (by kernel_rfl) rfl #[.string x7_1, .string x8_1] rfl mq ?_; (with_reducible refine (z_DivMod.calls (hT := HT.out.below bq) k1 x7_1 x8_1 t382 t383 t384 _ A25.out).mono ?_); rintro e w28 ⟨rfl, hb⟩; refine ⟨_, rfl, ?_⟩; replace HB := Aside0.mk (below_step bq hb); (try clear hb); (try clear hb2); (try clear hk); (try clear hi)) | ((with_reducible refine gate_callee (f := 52) rfl ?_); refine goesL_ (some 41) rfl rfl Tryz.func52 (by kernel_rfl) rfl #[.string t382, .string x10_1] rfl mq ?_; (with_reducible refine (z_Mul.calls (hT := HT.out.below bq) k1 t382 x10_1 t385 _ A26.out).mono ?_); rintro e w29 ⟨rfl, hb⟩; refine ⟨_, rfl, ?_⟩; replace HB := Aside0.mk (below_step bq hb); (try clear hb); (try clear hb2); (try clear hk); (try clear hi)) | ((with_reducible refine gate_callee (f := 14) rfl ?_); refine goesL_ (some 42) rfl rfl Tryz.func14 (by kernel_rfl) rfl #[.string x9_1, .string t385] rfl mq ?_; (with_reducible refine (z_Sub.calls (hT := HT.out.below bq) k1 x9_1 t385 t386 _ A27.out).mono ?_); rintro e w30 ⟨rfl, hb⟩; refine ⟨_, rfl, ?_⟩; replace HB := Aside0.mk (below_step bq hb); (try clear hb); (try clear hb2); (try clear hk); (try clear hi)))
          go_roundg k1
          case measure => have := HK1.out; omega
          case rel => exact ⟨(x8_1), (t383), (x10_1), (t386), sq, sq, sq, sq, H', ⟨by have := HK1.out; omega⟩, ⟨bq⟩⟩
def d_Gcd.l0 : Nat → ByteArray → ByteArray → Option (ByteArray)
  | 0, _, _ => none
  | k + 1, x0, x1 => if x1.toList = ([48] : List UInt8) then (some x0) else ((d_DivMod.f k x0 x1).bind fun bt402 => (if bt402.2.2 = 0 then (d_Gcd.l0 k x1 bt402.2.1) else (some (⟨#[]⟩ : ByteArray))))
def d_Gcd.f (k : Nat) (a0 : ByteArray) (a1 : ByteArray) : Option (ByteArray) := d_Gcd.l0 k a0 a1
theorem d_Gcd.mono_l : ∀ k, (∀ y0 y1, LeO (d_Gcd.l0 k y0 y1) (d_Gcd.l0 (k + 1) y0 y1))
  | 0 => fun _ _ r h => by simp [d_Gcd.l0] at h
  | k + 1 => by
    have ih0 := d_Gcd.mono_l k
    · intro y0 y1; unfold d_Gcd.l0
      repeat' with_reducible first | apply ih0 | apply d_DivMod.mono | apply LeO.refl | apply LeO.none | refine LeO.ite ?_ ?_ | refine LeO.bind ?_ (fun _ => ?_)
theorem d_Gcd.mono : ∀ a0 a1 k, LeO (d_Gcd.f k a0 a1) (d_Gcd.f (k + 1) a0 a1) := by
  intro a0 a1 k; have ih0 := d_Gcd.mono_l k; unfold d_Gcd.f
  repeat' with_reducible first | apply ih0 | apply d_DivMod.mono | apply LeO.refl | apply LeO.none | refine LeO.ite ?_ ?_ | refine LeO.bind ?_ (fun _ => ?_)
set_option maxHeartbeats 8000000 in
set_option maxRecDepth 100000 in
theorem d_Gcd.calls (k : Nat) (a0 : ByteArray) (a1 : ByteArray) (r : ByteArray) (w : World) (hT : Tab w) (h : d_Gcd.f k a0 a1 = some r) :
    Calls Tryz.prog 55 #[.string a0, .string a1] w fun e w' => e = .returned (.string r) ∧ Below w.heap.size w w' := by
  have HT := Aside0.mk hT; clear hT; have HB := Aside0.mk (Below.refl w.heap.size w); have H : (d_Gcd.l0 k a0 a1) = some r := h; clear h; have H' := Aside0.mk H; clear H
  go_enter Tryz.func55, Tryz.ntmps55
  go_wp2
  go_loopg [0, 1] k (fun kq v0 v1 w' => ∃ (x0_1 : ByteArray) (x1_1 : ByteArray), v0 = .string x0_1 ∧ v1 = .string x1_1 ∧ Aside0 (d_Gcd.l0 kq x0_1 x1_1 = some r) ∧ Aside0 (kq ≤ k) ∧ Aside0 (Below w.heap.size w w'))
  case atStart => exact ⟨(a0), (a1), sq, sq, H', ⟨Nat.le_refl _⟩, ⟨bq⟩⟩
  case round =>
    clear H'; (try clear p2); obtain ⟨x0_1, x1_1, rfl, rfl, HA, HK1, HB⟩ := hrel; cases gk with
    | zero => exact absurd HA.out (by simp [d_Gcd.l0])
    | succ k1 =>
      have H := HA.out; clear HA; simp only [d_Gcd.l0] at H
      by_cases c3 : x1_1.toList = ([48] : List UInt8)
      · rw [if_pos c3] at H; have c3b0 : (x1_1.toList == ([48] : List UInt8)) = true := beq_iff_eq.mpr c3; have c3b1 : (x1_1.toList != ([48] : List UInt8)) = false := bne_eq_false_iff_eq.mpr c3; clear c3; obtain rfl := Option.some.inj H
        go_wp2
        go_ret
        exact ⟨eq_, bq⟩
      · rw [if_neg c3] at H; have c3b0 : (x1_1.toList == ([48] : List UInt8)) = false := beq_eq_false_iff_ne.mpr c3; have c3b1 : (x1_1.toList != ([48] : List UInt8)) = true := bne_iff_ne.mpr c3; replace H := Option.bind_eq_some_iff.mp H; obtain ⟨⟨t402, t403, t404⟩, A40, H⟩ := H; have A4 := Aside0.mk A40; clear A40; by_cases c5 : t404 = 0
        · rw [if_pos c5] at H; have c5b0 : (t404 == 0) = true := beq_iff_eq.mpr c5; have c5b1 : (t404 != 0) = false := bne_eq_false_iff_eq.mpr c5; clear c5; have H' := Aside0.mk H; clear H
          go_wp2_with (first | ((with_reducible refine gate_callee (f := 47) rfl ?_); refine goesL_ (some 13) rfl rfl Tryz.func47 (by kernel_rfl) rfl #[.string x0_1, .string x1_1] rfl mq ?_; (with_reducible refine (d_DivMod.calls (hT := HT.out.below bq) k1 x0_1 x1_1 t402 t403 t404 _ A4.out).mono ?_); rintro e w6 ⟨rfl, hb⟩; refine ⟨_, rfl, ?_⟩; replace HB := Aside0.mk (below_step bq hb); (try clear hb); (try clear hb2); (try clear hk); (try clear hi)))
          go_roundg k1
          case measure => have := HK1.out; omega
          case rel => exact ⟨(x1_1), (t403), sq, sq, H', ⟨by have := HK1.out; omega⟩, ⟨bq⟩⟩
        · rw [if_neg c5] at H; have c5b0 : (t404 == 0) = false := beq_eq_false_iff_ne.mpr c5; have c5b1 : (t404 != 0) = true := bne_iff_ne.mpr c5; obtain rfl := Option.some.inj H
          go_wp2_with (first | ((with_reducible refine gate_callee (f := 47) rfl ?_); refine goesL_ (some 13) rfl rfl Tryz.func47 (by kernel_rfl) rfl #[.string x0_1, .string x1_1] rfl mq ?_; (with_reducible refine (d_DivMod.calls (hT := HT.out.below bq) k1 x0_1 x1_1 t402 t403 t404 _ A4.out).mono ?_); rintro e w7 ⟨rfl, hb⟩; refine ⟨_, rfl, ?_⟩; replace HB := Aside0.mk (below_step bq hb); (try clear hb); (try clear hb2); (try clear hk); (try clear hi)))
          go_ret
          exact ⟨eq_, bq⟩
def d_Lcm.j0 : Nat → ByteArray → ByteArray → Bool → Option (ByteArray)
  | 0, _, _, _ => none
  | k + 1, x0, x1, x13 => if x13 = true then (some (⟨#[48]⟩ : ByteArray)) else ((d_Gcd.f k x0 x1).bind fun t405 => ((d_DivMod.f k x0 t405).bind fun bt406 => (if bt406.2.2 = 0 then ((d_Mul.f k bt406.1 x1).bind fun t409 => (some t409)) else (some (⟨#[]⟩ : ByteArray)))))
def d_Lcm.f (k : Nat) (a0 : ByteArray) (a1 : ByteArray) : Option (ByteArray) := if a0.toList = ([48] : List UInt8) then (d_Lcm.j0 k a0 a1 true) else (d_Lcm.j0 k a0 a1 (a1.toList == ([48] : List UInt8)))
theorem d_Lcm.mono_l : ∀ k, (∀ y0 y1 y2, LeO (d_Lcm.j0 k y0 y1 y2) (d_Lcm.j0 (k + 1) y0 y1 y2))
  | 0 => fun _ _ _ r h => by simp [d_Lcm.j0] at h
  | k + 1 => by
    have ih0 := d_Lcm.mono_l k
    · intro y0 y1 y2; unfold d_Lcm.j0
      repeat' with_reducible first | apply ih0 | apply d_DivMod.mono | apply d_Gcd.mono | apply d_Mul.mono | apply LeO.refl | apply LeO.none | refine LeO.ite ?_ ?_ | refine LeO.bind ?_ (fun _ => ?_)
theorem d_Lcm.mono : ∀ a0 a1 k, LeO (d_Lcm.f k a0 a1) (d_Lcm.f (k + 1) a0 a1) := by
  intro a0 a1 k; have ih0 := d_Lcm.mono_l k; unfold d_Lcm.f
  repeat' with_reducible first | apply ih0 | apply d_DivMod.mono | apply d_Gcd.mono | apply d_Mul.mono | apply LeO.refl | apply LeO.none | refine LeO.ite ?_ ?_ | refine LeO.bind ?_ (fun _ => ?_)
set_option maxHeartbeats 8000000 in
set_option maxRecDepth 100000 in
theorem d_Lcm.calls (k : Nat) (a0 : ByteArray) (a1 : ByteArray) (r : ByteArray) (w : World) (hT : Tab w) (h : d_Lcm.f k a0 a1 = some r) :
    Calls Tryz.prog 56 #[.string a0, .string a1] w fun e w' => e = .returned (.string r) ∧ Below w.heap.size w w' := by
  have HT := Aside0.mk hT; clear hT; have HB := Aside0.mk (Below.refl w.heap.size w); have H : (if a0.toList = ([48] : List UInt8) then (d_Lcm.j0 k a0 a1 true) else (d_Lcm.j0 k a0 a1 (a1.toList == ([48] : List UInt8)))) = some r := h
  clear h; have HC3 := Aside0.mk H; clear H
  go_enter Tryz.func56, Tryz.ntmps56
  go_upto_region 1 with (fail)
  go_cut [13] (fun v13 wc => ∃ (kq : Nat) (x13_2 : Bool), v13 = .bool x13_2 ∧ Aside0 (d_Lcm.j0 kq a0 a1 x13_2 = some r) ∧ Aside0 (kq ≤ k) ∧ Aside0 (Below w.heap.size w wc))
  case first =>
    have H := HC3.out; clear HC3; by_cases c4 : a0.toList = ([48] : List UInt8)
    · rw [if_pos c4] at H; have c4b0 : (a0.toList == ([48] : List UInt8)) = true := beq_iff_eq.mpr c4; have c4b1 : (a0.toList != ([48] : List UInt8)) = false := bne_eq_false_iff_eq.mpr c4; clear c4
      (first | rw [c4b0] | (simp only [i64_w, i32_w]; rw [c4b0]) | skip)
      have H' := Aside0.mk H; clear H
      go_wp2
      go_meet
      case rel => exact ⟨_, (true), sq, H', ⟨by first | omega | exact Nat.le_refl _⟩, ⟨bq⟩⟩
    · rw [if_neg c4] at H; have c4b0 : (a0.toList == ([48] : List UInt8)) = false := beq_eq_false_iff_ne.mpr c4; have c4b1 : (a0.toList != ([48] : List UInt8)) = true := bne_iff_ne.mpr c4
      (first | rw [c4b0] | (simp only [i64_w, i32_w]; rw [c4b0]) | skip)
      have H' := Aside0.mk H; clear H
      go_wp2
      go_meet
      case rel => exact ⟨_, ((a1.toList == ([48] : List UInt8))), sq, H', ⟨by first | omega | exact Nat.le_refl _⟩, ⟨bq⟩⟩
  case rest =>
    clear HC3; (try clear p2); (try clear c4); (try clear c4b0); (try clear c4b1); obtain ⟨kq, x13_2, rfl, HA, HJ2, HB⟩ := hcut; cases kq with
    | zero => exact absurd HA.out (by simp [d_Lcm.j0])
    | succ kj2 =>
      have H := HA.out; clear HA; simp only [d_Lcm.j0] at H
      by_cases c5 : x13_2 = true
      · subst c5; have H1 : (some (⟨#[48]⟩ : ByteArray)) = some r := by rw [if_pos rfl] at H; exact H
        clear H; have H := H1; clear H1; obtain rfl := Option.some.inj H
        go_wp2
        go_ret
        exact ⟨eq_, bq⟩
      · replace c5 := Bool.eq_false_iff.mpr c5; subst c5; have H1 : ((d_Gcd.f kj2 a0 a1).bind fun t405 => ((d_DivMod.f kj2 a0 t405).bind fun bt406 => (if bt406.2.2 = 0 then ((d_Mul.f kj2 bt406.1 a1).bind fun t409 => (some t409)) else (some (⟨#[]⟩ : ByteArray))))) = some r := by rw [if_neg (show ¬ (false = true) by decide)] at H; exact H
        clear H; have H := H1; clear H1; replace H := Option.bind_eq_some_iff.mp H; obtain ⟨t405, A60, H⟩ := H; have A6 := Aside0.mk A60; clear A60; replace H := Option.bind_eq_some_iff.mp H; obtain ⟨⟨t406, t407, t408⟩, A70, H⟩ := H; have A7 := Aside0.mk A70; clear A70; by_cases c8 : t408 = 0
        · rw [if_pos c8] at H; have c8b0 : (t408 == 0) = true := beq_iff_eq.mpr c8; have c8b1 : (t408 != 0) = false := bne_eq_false_iff_eq.mpr c8; clear c8; replace H := Option.bind_eq_some_iff.mp H; obtain ⟨t409, A90, H⟩ := H; have A9 := Aside0.mk A90; clear A90; obtain rfl := Option.some.inj H
          go_wp2_with (first | ((with_reducible refine gate_callee (f := 55) rfl ?_); refine goesL_ (some 18) rfl rfl Tryz.func55 (by kernel_rfl) rfl #[.string a0, .string a1] rfl mq ?_; (with_reducible refine (d_Gcd.calls (hT := HT.out.below bq) kj2 a0 a1 t405 _ A6.out).mono ?_); rintro e w10 ⟨rfl, hb⟩; refine ⟨_, rfl, ?_⟩; replace HB := Aside0.mk (below_step bq hb); (try clear hb); (try clear hb2); (try clear hk); (try clear hi)) | ((with_reducible refine gate_callee (f := 47) rfl ?_); refine goesL_ (some 19) rfl rfl Tryz.func47 (by kernel_rfl) rfl #[.string a0, .string t405] rfl mq ?_; (with_reducible refine (d_DivMod.calls (hT := HT.out.below bq) kj2 a0 t405 t406 t407 t408 _ A7.out).mono ?_); rintro e w11 ⟨rfl, hb⟩; refine ⟨_, rfl, ?_⟩; replace HB := Aside0.mk (below_step bq hb); (try clear hb); (try clear hb2); (try clear hk); (try clear hi)) | ((with_reducible refine gate_callee (f := 76) rfl ?_); refine goesL_ (some 27) rfl rfl Tryz.func76 (by kernel_rfl) rfl #[.string t406, .string a1] rfl mq ?_; (with_reducible refine (d_Mul.calls (hT := HT.out.below bq) kj2 t406 a1 t409 _ A9.out).mono ?_); rintro e w12 ⟨rfl, hb⟩; refine ⟨_, rfl, ?_⟩; replace HB := Aside0.mk (below_step bq hb); (try clear hb); (try clear hb2); (try clear hk); (try clear hi)))
          go_ret
          exact ⟨eq_, bq⟩
        · rw [if_neg c8] at H; have c8b0 : (t408 == 0) = false := beq_eq_false_iff_ne.mpr c8; have c8b1 : (t408 != 0) = true := bne_iff_ne.mpr c8; obtain rfl := Option.some.inj H
          go_wp2_with (first | ((with_reducible refine gate_callee (f := 55) rfl ?_); refine goesL_ (some 18) rfl rfl Tryz.func55 (by kernel_rfl) rfl #[.string a0, .string a1] rfl mq ?_; (with_reducible refine (d_Gcd.calls (hT := HT.out.below bq) kj2 a0 a1 t405 _ A6.out).mono ?_); rintro e w13 ⟨rfl, hb⟩; refine ⟨_, rfl, ?_⟩; replace HB := Aside0.mk (below_step bq hb); (try clear hb); (try clear hb2); (try clear hk); (try clear hi)) | ((with_reducible refine gate_callee (f := 47) rfl ?_); refine goesL_ (some 19) rfl rfl Tryz.func47 (by kernel_rfl) rfl #[.string a0, .string t405] rfl mq ?_; (with_reducible refine (d_DivMod.calls (hT := HT.out.below bq) kj2 a0 t405 t406 t407 t408 _ A7.out).mono ?_); rintro e w14 ⟨rfl, hb⟩; refine ⟨_, rfl, ?_⟩; replace HB := Aside0.mk (below_step bq hb); (try clear hb); (try clear hb2); (try clear hk); (try clear hi)))
          go_ret
          exact ⟨eq_, bq⟩
def z_Lcm.f (k : Nat) (a0 : ByteArray) (a1 : ByteArray) : Option (ByteArray) := (z_Abs.f a0).bind fun t410 => ((z_Abs.f a1).bind fun t411 => ((d_Lcm.f k t410 t411).bind fun t412 => (some t412)))
theorem z_Lcm.mono : ∀ a0 a1 k, LeO (z_Lcm.f k a0 a1) (z_Lcm.f (k + 1) a0 a1) := by
  intro a0 a1 k; unfold z_Lcm.f
  repeat' with_reducible first | apply d_Lcm.mono | apply LeO.refl | apply LeO.none | refine LeO.ite ?_ ?_ | refine LeO.bind ?_ (fun _ => ?_)
set_option maxHeartbeats 8000000 in
set_option maxRecDepth 100000 in
theorem z_Lcm.calls (k : Nat) (a0 : ByteArray) (a1 : ByteArray) (r : ByteArray) (w : World) (hT : Tab w) (h : z_Lcm.f k a0 a1 = some r) :
    Calls Tryz.prog 24 #[.string a0, .string a1] w fun e w' => e = .returned (.string r) ∧ Below w.heap.size w w' := by
  have HT := Aside0.mk hT; clear hT; have HB := Aside0.mk (Below.refl w.heap.size w); have H : ((z_Abs.f a0).bind fun t410 => ((z_Abs.f a1).bind fun t411 => ((d_Lcm.f k t410 t411).bind fun t412 => (some t412)))) = some r := h
  clear h; replace H := Option.bind_eq_some_iff.mp H; obtain ⟨t410, A30, H⟩ := H; have A3 := Aside0.mk A30; clear A30; replace H := Option.bind_eq_some_iff.mp H; obtain ⟨t411, A40, H⟩ := H; have A4 := Aside0.mk A40; clear A40; replace H := Option.bind_eq_some_iff.mp H; obtain ⟨t412, A50, H⟩ := H; have A5 := Aside0.mk A50; clear A50; obtain rfl := Option.some.inj H
  go_enter Tryz.func24, Tryz.ntmps24
  go_wp2_with (first | ((with_reducible refine gate_callee (f := 50) rfl ?_); refine goesL_ (some 6) rfl rfl Tryz.func50 (by kernel_rfl) rfl #[.string a0] rfl mq ?_; (with_reducible refine (z_Abs.calls a0 t410 _ A3.out).mono ?_); rintro e w' ⟨rfl, ⟨nd, rfl⟩⟩; refine ⟨_, rfl, ?_⟩) | ((with_reducible refine gate_callee (f := 50) rfl ?_); refine goesL_ (some 8) rfl rfl Tryz.func50 (by kernel_rfl) rfl #[.string a1] rfl mq ?_; (with_reducible refine (z_Abs.calls a1 t411 _ A4.out).mono ?_); rintro e w' ⟨rfl, ⟨nd, rfl⟩⟩; refine ⟨_, rfl, ?_⟩) | ((with_reducible refine gate_callee (f := 56) rfl ?_); refine goesL_ (some 9) rfl rfl Tryz.func56 (by kernel_rfl) rfl #[.string t410, .string t411] rfl mq ?_; (with_reducible refine (d_Lcm.calls (hT := HT.out.below bq) k t410 t411 t412 _ A5.out).mono ?_); rintro e w6 ⟨rfl, hb⟩; refine ⟨_, rfl, ?_⟩; replace HB := Aside0.mk (below_step bq hb); (try clear hb); (try clear hb2); (try clear hk); (try clear hi)))
  go_ret
  exact ⟨eq_, bq⟩
def l_HasPrefix.f (a0 : ByteArray) (a1 : ByteArray) : Option (Bool) := if (a0.size : Int) ≥ (a1.size : Int) then (if 0 ≤ (a1.size : Int) then (if (a1.size : Int) ≤ (a0.size : Int) then (some ((a0.extract 0 ((a1.size : Int) : Int).toNat).toList == a1.toList)) else (none)) else (none)) else (some false)
set_option maxHeartbeats 8000000 in
set_option maxRecDepth 100000 in
theorem l_HasPrefix.calls (a0 : ByteArray) (a1 : ByteArray) (r : Bool) (w : World) (h : l_HasPrefix.f a0 a1 = some r) :
    Calls Tryz.prog 90 #[.string a0, .string a1] w fun e w' => e = .returned (.bool r) ∧ Drawn0 w w' := by
  have H : (if (a0.size : Int) ≥ (a1.size : Int) then (if 0 ≤ (a1.size : Int) then (if (a1.size : Int) ≤ (a0.size : Int) then (some ((a0.extract 0 ((a1.size : Int) : Int).toNat).toList == a1.toList)) else (none)) else (none)) else (some false)) = some r := h
  clear h; by_cases c3 : (a0.size : Int) ≥ (a1.size : Int)
  · rw [if_pos c3] at H; have c3b0 : decide ((a1.size : Int) ≤ (a0.size : Int)) = true := decide_eq_true c3; have c3b1 : decide (a1.size ≤ a0.size) = true := decide_eq_true (Int.ofNat_le.mp c3); clear c3; by_cases c4 : 0 ≤ (a1.size : Int)
    · rw [if_pos c4] at H; have c4b0 := eq_true c4; have c4b1 : decide (0 ≤ (a1.size : Int)) = true := decide_eq_true c4; clear c4; by_cases c5 : (a1.size : Int) ≤ (a0.size : Int)
      · rw [if_pos c5] at H; have c5b0 := eq_true c5; have c5b1 : decide ((a1.size : Int) ≤ (a0.size : Int)) = true := decide_eq_true c5; clear c5; obtain rfl := Option.some.inj H
        go_enter Tryz.func90, Tryz.ntmps90
        go_wp2
        go_ret
        exact ⟨sw, by repeat (first | exact Drawn0.refl _ | apply Drawn0.step)⟩
      · rw [if_neg c5] at H; exact absurd H (by simp)
    · rw [if_neg c4] at H; exact absurd H (by simp)
  · rw [if_neg c3] at H; have c3b0 : decide ((a1.size : Int) ≤ (a0.size : Int)) = false := decide_eq_false c3; have c3b1 : decide (a1.size ≤ a0.size) = false := decide_eq_false (fun h => c3 (Int.ofNat_le.mpr h))
    clear c3; obtain rfl := Option.some.inj H
    go_enter Tryz.func90, Tryz.ntmps90
    go_wp2
    go_ret
    exact ⟨sw, by repeat (first | exact Drawn0.refl _ | apply Drawn0.step)⟩
def l_CutPrefix.f (a0 : ByteArray) (a1 : ByteArray) : Option (ByteArray × Bool) := (l_HasPrefix.f a0 a1).bind fun t413 => (if t413 = true then (if 0 ≤ (a1.size : Int) then (if (a1.size : Int) ≤ (a0.size : Int) then (some (a0.extract ((a1.size : Int) : Int).toNat a0.size, true)) else (none)) else (none)) else (some (a0, false)))
set_option maxHeartbeats 8000000 in
set_option maxRecDepth 100000 in
theorem l_CutPrefix.calls (a0 : ByteArray) (a1 : ByteArray) (r1 : ByteArray) (r2 : Bool) (w : World) (h : l_CutPrefix.f a0 a1 = some (r1, r2)) :
    Calls Tryz.prog 77 #[.string a0, .string a1] w fun e w' => e = .returned (.tuple #[.string r1, .bool r2]) ∧ Drawn0 w w' := by
  have H : ((l_HasPrefix.f a0 a1).bind fun t413 => (if t413 = true then (if 0 ≤ (a1.size : Int) then (if (a1.size : Int) ≤ (a0.size : Int) then (some (a0.extract ((a1.size : Int) : Int).toNat a0.size, true)) else (none)) else (none)) else (some (a0, false)))) = some (r1, r2) := h
  clear h; replace H := Option.bind_eq_some_iff.mp H; obtain ⟨t413, A30, H⟩ := H; have A3 := Aside0.mk A30; clear A30; by_cases c4 : t413 = true
  · subst c4; have H1 : (if 0 ≤ (a1.size : Int) then (if (a1.size : Int) ≤ (a0.size : Int) then (some (a0.extract ((a1.size : Int) : Int).toNat a0.size, true)) else (none)) else (none)) = some (r1, r2) := by rw [if_pos rfl] at H; exact H
    clear H; have H := H1; clear H1; by_cases c5 : 0 ≤ (a1.size : Int)
    · rw [if_pos c5] at H; have c5b0 := eq_true c5; have c5b1 : decide (0 ≤ (a1.size : Int)) = true := decide_eq_true c5; clear c5; by_cases c6 : (a1.size : Int) ≤ (a0.size : Int)
      · rw [if_pos c6] at H; have c6b0 := eq_true c6; have c6b1 : decide ((a1.size : Int) ≤ (a0.size : Int)) = true := decide_eq_true c6; clear c6; simp only [Option.some.injEq, Prod.mk.injEq] at H
        obtain ⟨rfl, rfl⟩ := H
        go_enter Tryz.func77, Tryz.ntmps77
        go_wp2_with (first | ((with_reducible refine gate_callee (f := 90) rfl ?_); refine goesL_ (some 8) rfl rfl Tryz.func90 (by kernel_rfl) rfl #[.string a0, .string a1] rfl mq ?_; (with_reducible refine (l_HasPrefix.calls a0 a1 true _ A3.out).mono ?_); rintro e w' ⟨rfl, ⟨nd, rfl⟩⟩; refine ⟨_, rfl, ?_⟩))
        go_ret2
        exact ⟨sw, by repeat (first | exact Drawn0.refl _ | apply Drawn0.step)⟩
      · rw [if_neg c6] at H; exact absurd H (by simp)
    · rw [if_neg c5] at H; exact absurd H (by simp)
  · replace c4 := Bool.eq_false_iff.mpr c4; subst c4; have H1 : (some (a0, false)) = some (r1, r2) := by rw [if_neg (show ¬ (false = true) by decide)] at H; exact H
    clear H; have H := H1; clear H1; simp only [Option.some.injEq, Prod.mk.injEq] at H
    obtain ⟨rfl, rfl⟩ := H
    go_enter Tryz.func77, Tryz.ntmps77
    go_wp2_with (first | ((with_reducible refine gate_callee (f := 90) rfl ?_); refine goesL_ (some 8) rfl rfl Tryz.func90 (by kernel_rfl) rfl #[.string a0, .string a1] rfl mq ?_; (with_reducible refine (l_HasPrefix.calls a0 a1 false _ A3.out).mono ?_); rintro e w' ⟨rfl, ⟨nd, rfl⟩⟩; refine ⟨_, rfl, ?_⟩))
    go_ret2
    exact ⟨sw, by repeat (first | exact Drawn0.refl _ | apply Drawn0.step)⟩
def g_CutPrefix.f (a0 : ByteArray) (a1 : ByteArray) : Option (ByteArray × Bool) := (l_CutPrefix.f a0 a1).bind fun bt414 => (some (bt414.1, bt414.2))
set_option maxHeartbeats 8000000 in
set_option maxRecDepth 100000 in
theorem g_CutPrefix.calls (a0 : ByteArray) (a1 : ByteArray) (r1 : ByteArray) (r2 : Bool) (w : World) (h : g_CutPrefix.f a0 a1 = some (r1, r2)) :
    Calls Tryz.prog 57 #[.string a0, .string a1] w fun e w' => e = .returned (.tuple #[.string r1, .bool r2]) ∧ Drawn0 w w' := by
  have H : ((l_CutPrefix.f a0 a1).bind fun bt414 => (some (bt414.1, bt414.2))) = some (r1, r2) := h
  clear h; replace H := Option.bind_eq_some_iff.mp H; obtain ⟨⟨t414, t415⟩, A30, H⟩ := H; have A3 := Aside0.mk A30; clear A30; simp only [Option.some.injEq, Prod.mk.injEq] at H
  obtain ⟨rfl, rfl⟩ := H
  go_enter Tryz.func57, Tryz.ntmps57
  go_wp2_with (first | ((with_reducible refine gate_callee (f := 77) rfl ?_); refine goesL_ (some 8) rfl rfl Tryz.func77 (by kernel_rfl) rfl #[.string a0, .string a1] rfl mq ?_; (with_reducible refine (l_CutPrefix.calls a0 a1 t414 t415 _ A3.out).mono ?_); rintro e w' ⟨rfl, ⟨nd, rfl⟩⟩; refine ⟨_, rfl, ?_⟩))
  go_ret2
  exact ⟨sw, by repeat (first | exact Drawn0.refl _ | apply Drawn0.step)⟩
def z_Parse.l0 : Nat → ByteArray → Bool → Int → Int → Option (ByteArray × Int)
  | 0, _, _, _, _ => none
  | k + 1, x4, x5, x17, x18 => if x18 < x17 then (if 0 ≤ x18 then (if x18 < (x4.size : Int) then (if (bt x4 x18) < 48 then (some ((⟨#[]⟩ : ByteArray), 15)) else (if (bt x4 x18) > 57 then (some ((⟨#[]⟩ : ByteArray), 15)) else (z_Parse.l0 k x4 x5 x17 (wrap64 (x18 + 1))))) else (none)) else (none)) else ((strings_TrimLeft.f x4 (⟨#[48]⟩ : ByteArray)).bind fun t418 => (if t418.toList = ([] : List UInt8) then (some ((⟨#[48]⟩ : ByteArray), 0)) else (if (t418.size : Int) > 400 then (some ((⟨#[]⟩ : ByteArray), 4)) else ((z_join.f x5 t418).bind fun t419 => (some (t419, 0))))))
def z_Parse.f (k : Nat) (a0 : ByteArray) : Option (ByteArray × Int) := if a0.toList = ([] : List UInt8) then (some ((⟨#[]⟩ : ByteArray), 13)) else ((g_CutPrefix.f a0 (⟨#[45]⟩ : ByteArray)).bind fun bt416 => (if bt416.1.toList = ([] : List UInt8) then (some ((⟨#[]⟩ : ByteArray), 15)) else (z_Parse.l0 k bt416.1 bt416.2 (bt416.1.size : Int) 0)))
theorem z_Parse.mono_l : ∀ k, (∀ y0 y1 y2 y3, LeO (z_Parse.l0 k y0 y1 y2 y3) (z_Parse.l0 (k + 1) y0 y1 y2 y3))
  | 0 => fun _ _ _ _ r h => by simp [z_Parse.l0] at h
  | k + 1 => by
    have ih0 := z_Parse.mono_l k
    · intro y0 y1 y2 y3; unfold z_Parse.l0
      repeat' with_reducible first | apply ih0 | apply LeO.refl | apply LeO.none | refine LeO.ite ?_ ?_ | refine LeO.bind ?_ (fun _ => ?_)
theorem z_Parse.mono : ∀ a0 k, LeO (z_Parse.f k a0) (z_Parse.f (k + 1) a0) := by
  intro a0 k; have ih0 := z_Parse.mono_l k; unfold z_Parse.f
  repeat' with_reducible first | apply ih0 | apply LeO.refl | apply LeO.none | refine LeO.ite ?_ ?_ | refine LeO.bind ?_ (fun _ => ?_)
set_option maxHeartbeats 8000000 in
set_option maxRecDepth 100000 in
theorem z_Parse.calls (k : Nat) (a0 : ByteArray) (r1 : ByteArray) (r2 : Int) (w : World) (h : z_Parse.f k a0 = some (r1, r2)) :
    Calls Tryz.prog 26 #[.string a0] w fun e w' => e = .returned (.tuple #[.string r1, .int .i64 r2]) ∧ Below w.heap.size w w' := by
  have HB := Aside0.mk (Below.refl w.heap.size w); have H : (if a0.toList = ([] : List UInt8) then (some ((⟨#[]⟩ : ByteArray), 13)) else ((g_CutPrefix.f a0 (⟨#[45]⟩ : ByteArray)).bind fun bt416 => (if bt416.1.toList = ([] : List UInt8) then (some ((⟨#[]⟩ : ByteArray), 15)) else (z_Parse.l0 k bt416.1 bt416.2 (bt416.1.size : Int) 0)))) = some (r1, r2) := h
  clear h; by_cases c2 : a0.toList = ([] : List UInt8)
  · rw [if_pos c2] at H; have c2b0 : (a0.toList == ([] : List UInt8)) = true := beq_iff_eq.mpr c2; have c2b1 : (a0.toList != ([] : List UInt8)) = false := bne_eq_false_iff_eq.mpr c2; clear c2; simp only [Option.some.injEq, Prod.mk.injEq] at H
    obtain ⟨rfl, rfl⟩ := H
    go_enter Tryz.func26, Tryz.ntmps26
    go_wp2
    go_ret2
    exact ⟨eq_, bq⟩
  · rw [if_neg c2] at H; have c2b0 : (a0.toList == ([] : List UInt8)) = false := beq_eq_false_iff_ne.mpr c2; have c2b1 : (a0.toList != ([] : List UInt8)) = true := bne_iff_ne.mpr c2; replace H := Option.bind_eq_some_iff.mp H; obtain ⟨⟨t416, t417⟩, A30, H⟩ := H; have A3 := Aside0.mk A30; clear A30; by_cases c4 : t416.toList = ([] : List UInt8)
    · rw [if_pos c4] at H; have c4b0 : (t416.toList == ([] : List UInt8)) = true := beq_iff_eq.mpr c4; have c4b1 : (t416.toList != ([] : List UInt8)) = false := bne_eq_false_iff_eq.mpr c4; clear c4; simp only [Option.some.injEq, Prod.mk.injEq] at H
      obtain ⟨rfl, rfl⟩ := H
      go_enter Tryz.func26, Tryz.ntmps26
      go_wp2_with (first | ((with_reducible refine gate_callee (f := 57) rfl ?_); refine goesL_ (some 11) rfl rfl Tryz.func57 (by kernel_rfl) rfl #[.string a0, .string (⟨#[45]⟩ : ByteArray)] rfl mq ?_; (with_reducible refine (g_CutPrefix.calls a0 (⟨#[45]⟩ : ByteArray) t416 t417 _ A3.out).mono ?_); rintro e w' ⟨rfl, ⟨nd, rfl⟩⟩; refine ⟨_, rfl, ?_⟩))
      go_ret2
      exact ⟨eq_, bq⟩
    · rw [if_neg c4] at H; have c4b0 : (t416.toList == ([] : List UInt8)) = false := beq_eq_false_iff_ne.mpr c4; have c4b1 : (t416.toList != ([] : List UInt8)) = true := bne_iff_ne.mpr c4; have H' := Aside0.mk H; clear H
      go_enter Tryz.func26, Tryz.ntmps26
      go_wp2_with (first | ((with_reducible refine gate_callee (f := 57) rfl ?_); refine goesL_ (some 11) rfl rfl Tryz.func57 (by kernel_rfl) rfl #[.string a0, .string (⟨#[45]⟩ : ByteArray)] rfl mq ?_; (with_reducible refine (g_CutPrefix.calls a0 (⟨#[45]⟩ : ByteArray) t416 t417 _ A3.out).mono ?_); rintro e w' ⟨rfl, ⟨nd, rfl⟩⟩; refine ⟨_, rfl, ?_⟩))
      go_loopg [18] k (fun kq v18 w' => ∃ (x18_1 : Int), v18 = .int .i64 x18_1 ∧ Aside0 (z_Parse.l0 kq t416 t417 (t416.size : Int) x18_1 = some (r1, r2)) ∧ Aside0 (kq ≤ k) ∧ Aside0 (Below w.heap.size w w'))
      case atStart => exact ⟨(0), sq, H', ⟨Nat.le_refl _⟩, ⟨bq⟩⟩
      case round =>
        clear H'; (try clear c2); (try clear c2b0); (try clear c2b1); (try clear p2); (try clear c4); (try clear c4b0); (try clear c4b1); obtain ⟨x18_1, rfl, HA, HK1, HB⟩ := hrel; cases gk with
        | zero => exact absurd HA.out (by simp [z_Parse.l0])
        | succ k1 =>
          have H := HA.out; clear HA; simp only [z_Parse.l0] at H
          by_cases c5 : x18_1 < (t416.size : Int)
          · rw [if_pos c5] at H; have c5b0 : decide (x18_1 < (t416.size : Int)) = true := decide_eq_true c5; clear c5; by_cases c6 : 0 ≤ x18_1
            · rw [if_pos c6] at H; have c6b0 : decide (0 ≤ x18_1) = true := decide_eq_true c6; clear c6; by_cases c7 : x18_1 < (t416.size : Int)
              · rw [if_pos c7] at H; have c7b0 : decide (x18_1 < (t416.size : Int)) = true := decide_eq_true c7; clear c7; by_cases c9 : (bt t416 x18_1) < 48
                · rw [if_pos c9] at H; have c9b0 : decide ((bt t416 x18_1) < 48) = true := decide_eq_true c9; clear c9; simp only [Option.some.injEq, Prod.mk.injEq] at H
                  obtain ⟨rfl, rfl⟩ := H; have p8 : 0 ≤ (x18_1 : Int) := of_decide_eq_true as_; have q8 : x18_1 < (t416.size : Int) := of_decide_eq_true as_; have hx8 := bt_at t416 x18_1; replace p8 := eq_true p8; replace q8 := eq_true q8
                  go_wp2
                  go_ret2
                  exact ⟨eq_, bq⟩
                · rw [if_neg c9] at H; have c9b0 : decide ((bt t416 x18_1) < 48) = false := decide_eq_false c9; clear c9; by_cases c11 : (bt t416 x18_1) > 57
                  · rw [if_pos c11] at H; have c11b0 : decide (57 < (bt t416 x18_1)) = true := decide_eq_true c11; clear c11; simp only [Option.some.injEq, Prod.mk.injEq] at H
                    obtain ⟨rfl, rfl⟩ := H; have p8 : 0 ≤ (x18_1 : Int) := of_decide_eq_true as_; have q8 : x18_1 < (t416.size : Int) := of_decide_eq_true as_; have hx8 := bt_at t416 x18_1; replace p8 := eq_true p8; replace q8 := eq_true q8; have p10 : 0 ≤ (x18_1 : Int) := of_decide_eq_true as_; have q10 : x18_1 < (t416.size : Int) := of_decide_eq_true as_; have hx10 := bt_at t416 x18_1; replace p10 := eq_true p10; replace q10 := eq_true q10
                    go_wp2
                    go_ret2
                    exact ⟨eq_, bq⟩
                  · rw [if_neg c11] at H; have c11b0 : decide (57 < (bt t416 x18_1)) = false := decide_eq_false c11; clear c11; have H' := Aside0.mk H; clear H; have p8 : 0 ≤ (x18_1 : Int) := of_decide_eq_true as_; have q8 : x18_1 < (t416.size : Int) := of_decide_eq_true as_; have hx8 := bt_at t416 x18_1; replace p8 := eq_true p8; replace q8 := eq_true q8; have p10 : 0 ≤ (x18_1 : Int) := of_decide_eq_true as_; have q10 : x18_1 < (t416.size : Int) := of_decide_eq_true as_; have hx10 := bt_at t416 x18_1; replace p10 := eq_true p10; replace q10 := eq_true q10
                    go_wp2
                    go_roundg k1
                    case measure => have := HK1.out; omega
                    case rel => exact ⟨(wrap64 (x18_1 + 1)), sq, H', ⟨by have := HK1.out; omega⟩, ⟨bq⟩⟩
              · rw [if_neg c7] at H; exact absurd H (by simp)
            · rw [if_neg c6] at H; exact absurd H (by simp)
          · rw [if_neg c5] at H; have c5b0 : decide (x18_1 < (t416.size : Int)) = false := decide_eq_false c5; clear c5; replace H := Option.bind_eq_some_iff.mp H; obtain ⟨t418, A120, H⟩ := H; have A12 := Aside0.mk A120; clear A120; by_cases c13 : t418.toList = ([] : List UInt8)
            · rw [if_pos c13] at H; have c13b0 : (t418.toList == ([] : List UInt8)) = true := beq_iff_eq.mpr c13; have c13b1 : (t418.toList != ([] : List UInt8)) = false := bne_eq_false_iff_eq.mpr c13; clear c13; simp only [Option.some.injEq, Prod.mk.injEq] at H
              obtain ⟨rfl, rfl⟩ := H
              go_wp2_with (first | ((with_reducible refine gate_callee (f := 58) rfl ?_); refine goesL_ (some 33) rfl rfl Tryz.func58 (by kernel_rfl) rfl #[.string t416, .string (⟨#[48]⟩ : ByteArray)] rfl mq ?_; (with_reducible refine (strings_TrimLeft.calls t416 (⟨#[48]⟩ : ByteArray) t418 _ A12.out).mono ?_); rintro e w14 ⟨rfl, hb⟩; refine ⟨_, rfl, ?_⟩; replace HB := Aside0.mk (below_step bq hb); (try clear hb); (try clear hb2); (try clear hk); (try clear hi)))
              go_ret2
              exact ⟨eq_, bq⟩
            · rw [if_neg c13] at H; have c13b0 : (t418.toList == ([] : List UInt8)) = false := beq_eq_false_iff_ne.mpr c13; have c13b1 : (t418.toList != ([] : List UInt8)) = true := bne_iff_ne.mpr c13; by_cases c15 : (t418.size : Int) > 400
              · rw [if_pos c15] at H; have c15b0 : decide (400 < (t418.size : Int)) = true := decide_eq_true c15; have c15b1 : decide (400 < t418.size) = true := decide_eq_true (by omega)
                clear c15; simp only [Option.some.injEq, Prod.mk.injEq] at H
                obtain ⟨rfl, rfl⟩ := H
                go_wp2_with (first | ((with_reducible refine gate_callee (f := 58) rfl ?_); refine goesL_ (some 33) rfl rfl Tryz.func58 (by kernel_rfl) rfl #[.string t416, .string (⟨#[48]⟩ : ByteArray)] rfl mq ?_; (with_reducible refine (strings_TrimLeft.calls t416 (⟨#[48]⟩ : ByteArray) t418 _ A12.out).mono ?_); rintro e w16 ⟨rfl, hb⟩; refine ⟨_, rfl, ?_⟩; replace HB := Aside0.mk (below_step bq hb); (try clear hb); (try clear hb2); (try clear hk); (try clear hi)))
                go_ret2
                exact ⟨eq_, bq⟩
              · rw [if_neg c15] at H; have c15b0 : decide (400 < (t418.size : Int)) = false := decide_eq_false c15; have c15b1 : decide (400 < t418.size) = false := decide_eq_false (by omega)
                clear c15; replace H := Option.bind_eq_some_iff.mp H; obtain ⟨t419, A170, H⟩ := H; have A17 := Aside0.mk A170; clear A170; simp only [Option.some.injEq, Prod.mk.injEq] at H
                obtain ⟨rfl, rfl⟩ := H
                go_wp2_with (first | ((with_reducible refine gate_callee (f := 58) rfl ?_); refine goesL_ (some 33) rfl rfl Tryz.func58 (by kernel_rfl) rfl #[.string t416, .string (⟨#[48]⟩ : ByteArray)] rfl mq ?_; (with_reducible refine (strings_TrimLeft.calls t416 (⟨#[48]⟩ : ByteArray) t418 _ A12.out).mono ?_); rintro e w18 ⟨rfl, hb⟩; refine ⟨_, rfl, ?_⟩; replace HB := Aside0.mk (below_step bq hb); (try clear hb); (try clear hb2); (try clear hk); (try clear hi)) | ((with_reducible refine gate_callee (f := 30) rfl ?_); refine goesL_ (some 41) rfl rfl Tryz.func30 (by kernel_rfl) rfl #[.bool t417, .string t418] rfl mq ?_; (with_reducible refine (z_join.calls t417 t418 t419 _ A17.out).mono ?_); rintro e w' ⟨rfl, ⟨nd, rfl⟩⟩; refine ⟨_, rfl, ?_⟩))
                go_ret2
                exact ⟨eq_, bq⟩
def w_known.f (k : Nat)  : Option (Bool) := (z_DivMod.f k (⟨#[45, 55]⟩ : ByteArray) (⟨#[50]⟩ : ByteArray)).bind fun bt420 => ((z_Bezout.f k (⟨#[45, 49, 50]⟩ : ByteArray) (⟨#[49, 56]⟩ : ByteArray)).bind fun bt423 => ((z_Parse.f k (⟨#[45, 48, 48, 55]⟩ : ByteArray)).bind fun bt426 => ((z_Parse.f k (⟨#[43, 49]⟩ : ByteArray)).bind fun bt428 => (if bt420.2.2 = 0 then (if bt420.1.toList = ([45, 52] : List UInt8) then (if bt420.2.1.toList = ([49] : List UInt8) then (if bt423.1.toList = ([54] : List UInt8) then (if bt423.2.1.toList = ([49] : List UInt8) then (if bt423.2.2.toList = ([49] : List UInt8) then (if bt426.2 = 0 then (if bt426.1.toList = ([45, 55] : List UInt8) then (if bt428.2 = 15 then ((z_Lcm.f k (⟨#[45, 49, 50]⟩ : ByteArray) (⟨#[49, 56]⟩ : ByteArray)).bind fun t430 => (if t430.toList = ([51, 54] : List UInt8) then ((z_Sum.f k (([(⟨#[49]⟩ : ByteArray), (⟨#[45, 51]⟩ : ByteArray)] : List ByteArray))).bind fun t434 => (some (t434.toList == ([45, 50] : List UInt8)))) else (some false))) else (some false)) else (some false)) else (some false)) else (some false)) else (some false)) else (some false)) else (some false)) else (some false)) else (some false)))))
theorem w_known.mono : ∀ k, LeO (w_known.f k ) (w_known.f (k + 1) ) := by
  intro  k; unfold w_known.f
  repeat' with_reducible first | apply z_Bezout.mono | apply z_DivMod.mono | apply z_Lcm.mono | apply z_Parse.mono | apply z_Sum.mono | apply LeO.refl | apply LeO.none | refine LeO.ite ?_ ?_ | refine LeO.bind ?_ (fun _ => ?_)
set_option maxHeartbeats 8000000 in
set_option maxRecDepth 100000 in
theorem w_known.calls (k : Nat)  (r : Bool) (w : World) (hT : Tab w) (h : w_known.f k  = some r) :
    Calls Tryz.prog 7 #[] w fun e w' => e = .returned (.bool r) ∧ Below w.heap.size w w' := by
  have HT := Aside0.mk hT; clear hT; have HB := Aside0.mk (Below.refl w.heap.size w); have H : ((z_DivMod.f k (⟨#[45, 55]⟩ : ByteArray) (⟨#[50]⟩ : ByteArray)).bind fun bt420 => ((z_Bezout.f k (⟨#[45, 49, 50]⟩ : ByteArray) (⟨#[49, 56]⟩ : ByteArray)).bind fun bt423 => ((z_Parse.f k (⟨#[45, 48, 48, 55]⟩ : ByteArray)).bind fun bt426 => ((z_Parse.f k (⟨#[43, 49]⟩ : ByteArray)).bind fun bt428 => (if bt420.2.2 = 0 then (if bt420.1.toList = ([45, 52] : List UInt8) then (if bt420.2.1.toList = ([49] : List UInt8) then (if bt423.1.toList = ([54] : List UInt8) then (if bt423.2.1.toList = ([49] : List UInt8) then (if bt423.2.2.toList = ([49] : List UInt8) then (if bt426.2 = 0 then (if bt426.1.toList = ([45, 55] : List UInt8) then (if bt428.2 = 15 then ((z_Lcm.f k (⟨#[45, 49, 50]⟩ : ByteArray) (⟨#[49, 56]⟩ : ByteArray)).bind fun t430 => (if t430.toList = ([51, 54] : List UInt8) then ((z_Sum.f k (([(⟨#[49]⟩ : ByteArray), (⟨#[45, 51]⟩ : ByteArray)] : List ByteArray))).bind fun t434 => (some (t434.toList == ([45, 50] : List UInt8)))) else (some false))) else (some false)) else (some false)) else (some false)) else (some false)) else (some false)) else (some false)) else (some false)) else (some false)) else (some false)))))) = some r := h
  clear h; replace H := Option.bind_eq_some_iff.mp H; obtain ⟨⟨t420, t421, t422⟩, A10, H⟩ := H; have A1 := Aside0.mk A10; clear A10; replace H := Option.bind_eq_some_iff.mp H; obtain ⟨⟨t423, t424, t425⟩, A20, H⟩ := H; have A2 := Aside0.mk A20; clear A20; replace H := Option.bind_eq_some_iff.mp H; obtain ⟨⟨t426, t427⟩, A30, H⟩ := H; have A3 := Aside0.mk A30; clear A30; replace H := Option.bind_eq_some_iff.mp H; obtain ⟨⟨t428, t429⟩, A40, H⟩ := H; have A4 := Aside0.mk A40; clear A40; by_cases c5 : t422 = 0
  · rw [if_pos c5] at H; have c5b0 : (t422 == 0) = true := beq_iff_eq.mpr c5; have c5b1 : (t422 != 0) = false := bne_eq_false_iff_eq.mpr c5; clear c5; by_cases c6 : t420.toList = ([45, 52] : List UInt8)
    · rw [if_pos c6] at H; have c6b0 : (t420.toList == ([45, 52] : List UInt8)) = true := beq_iff_eq.mpr c6; have c6b1 : (t420.toList != ([45, 52] : List UInt8)) = false := bne_eq_false_iff_eq.mpr c6; clear c6; by_cases c7 : t421.toList = ([49] : List UInt8)
      · rw [if_pos c7] at H; have c7b0 : (t421.toList == ([49] : List UInt8)) = true := beq_iff_eq.mpr c7; have c7b1 : (t421.toList != ([49] : List UInt8)) = false := bne_eq_false_iff_eq.mpr c7; clear c7; by_cases c8 : t423.toList = ([54] : List UInt8)
        · rw [if_pos c8] at H; have c8b0 : (t423.toList == ([54] : List UInt8)) = true := beq_iff_eq.mpr c8; have c8b1 : (t423.toList != ([54] : List UInt8)) = false := bne_eq_false_iff_eq.mpr c8; clear c8; by_cases c9 : t424.toList = ([49] : List UInt8)
          · rw [if_pos c9] at H; have c9b0 : (t424.toList == ([49] : List UInt8)) = true := beq_iff_eq.mpr c9; have c9b1 : (t424.toList != ([49] : List UInt8)) = false := bne_eq_false_iff_eq.mpr c9; clear c9; by_cases c10 : t425.toList = ([49] : List UInt8)
            · rw [if_pos c10] at H; have c10b0 : (t425.toList == ([49] : List UInt8)) = true := beq_iff_eq.mpr c10; have c10b1 : (t425.toList != ([49] : List UInt8)) = false := bne_eq_false_iff_eq.mpr c10; clear c10; by_cases c11 : t427 = 0
              · rw [if_pos c11] at H; have c11b0 : (t427 == 0) = true := beq_iff_eq.mpr c11; have c11b1 : (t427 != 0) = false := bne_eq_false_iff_eq.mpr c11; clear c11; by_cases c12 : t426.toList = ([45, 55] : List UInt8)
                · rw [if_pos c12] at H; have c12b0 : (t426.toList == ([45, 55] : List UInt8)) = true := beq_iff_eq.mpr c12; have c12b1 : (t426.toList != ([45, 55] : List UInt8)) = false := bne_eq_false_iff_eq.mpr c12; clear c12; by_cases c13 : t429 = 15
                  · rw [if_pos c13] at H; have c13b0 : (t429 == 15) = true := beq_iff_eq.mpr c13; have c13b1 : (t429 != 15) = false := bne_eq_false_iff_eq.mpr c13; clear c13; replace H := Option.bind_eq_some_iff.mp H; obtain ⟨t430, A140, H⟩ := H; have A14 := Aside0.mk A140; clear A140; by_cases c15 : t430.toList = ([51, 54] : List UInt8)
                    · rw [if_pos c15] at H; have c15b0 : (t430.toList == ([51, 54] : List UInt8)) = true := beq_iff_eq.mpr c15; have c15b1 : (t430.toList != ([51, 54] : List UInt8)) = false := bne_eq_false_iff_eq.mpr c15; clear c15; obtain ⟨y431, hy431⟩ : ∃ y_ : List ByteArray, y_ = (([(⟨#[49]⟩ : ByteArray), (⟨#[45, 51]⟩ : ByteArray)] : List ByteArray)) := ⟨_, rfl⟩; first | rw [Option.bind_some, ← hy431] at H | rw [← hy431] at H | rw [Option.bind_some] at H | skip
                      have Ny431 := Aside0.mk hy431; clear hy431; replace H := Option.bind_eq_some_iff.mp H; obtain ⟨t434, A160, H⟩ := H; have A16 := Aside0.mk A160; clear A160; obtain rfl := Option.some.inj H
                      go_enter Tryz.func7, Tryz.ntmps7
                      go_wp2_with (first | ((with_reducible refine gate_callee (f := 17) rfl ?_); refine goesL_ (some 12) rfl rfl Tryz.func17 (by kernel_rfl) rfl #[.string (⟨#[45, 55]⟩ : ByteArray), .string (⟨#[50]⟩ : ByteArray)] rfl mq ?_; (with_reducible refine (z_DivMod.calls (hT := HT.out.below bq) k (⟨#[45, 55]⟩ : ByteArray) (⟨#[50]⟩ : ByteArray) t420 t421 t422 _ A1.out).mono ?_); rintro e w17 ⟨rfl, hb⟩; refine ⟨_, rfl, ?_⟩; replace HB := Aside0.mk (below_step bq hb); (try clear hb); (try clear hb2); (try clear hk); (try clear hi)) | ((with_reducible refine gate_callee (f := 20) rfl ?_); refine goesL_ (some 17) rfl rfl Tryz.func20 (by kernel_rfl) rfl #[.string (⟨#[45, 49, 50]⟩ : ByteArray), .string (⟨#[49, 56]⟩ : ByteArray)] rfl mq ?_; (with_reducible refine (z_Bezout.calls (hT := HT.out.below bq) k (⟨#[45, 49, 50]⟩ : ByteArray) (⟨#[49, 56]⟩ : ByteArray) t423 t424 t425 _ A2.out).mono ?_); rintro e w18 ⟨rfl, hb⟩; refine ⟨_, rfl, ?_⟩; replace HB := Aside0.mk (below_step bq hb); (try clear hb); (try clear hb2); (try clear hk); (try clear hi)) | ((with_reducible refine gate_callee (f := 26) rfl ?_); refine goesL_ (some 22) rfl rfl Tryz.func26 (by kernel_rfl) rfl #[.string (⟨#[45, 48, 48, 55]⟩ : ByteArray)] rfl mq ?_; (with_reducible refine (z_Parse.calls k (⟨#[45, 48, 48, 55]⟩ : ByteArray) t426 t427 _ A3.out).mono ?_); rintro e w19 ⟨rfl, hb⟩; refine ⟨_, rfl, ?_⟩; replace HB := Aside0.mk (below_step bq hb); (try clear hb); (try clear hb2); (try clear hk); (try clear hi)) | ((with_reducible refine gate_callee (f := 26) rfl ?_); refine goesL_ (some 26) rfl rfl Tryz.func26 (by kernel_rfl) rfl #[.string (⟨#[43, 49]⟩ : ByteArray)] rfl mq ?_; (with_reducible refine (z_Parse.calls k (⟨#[43, 49]⟩ : ByteArray) t428 t429 _ A4.out).mono ?_); rintro e w20 ⟨rfl, hb⟩; refine ⟨_, rfl, ?_⟩; replace HB := Aside0.mk (below_step bq hb); (try clear hb); (try clear hb2); (try clear hk); (try clear hi)) | (go_at_call 24; (with_reducible refine (z_Lcm.calls (hT := HT.out.below bq) k (⟨#[45, 49, 50]⟩ : ByteArray) (⟨#[49, 56]⟩ : ByteArray) t430 _ A14.out).mono ?_); rintro e w21 ⟨rfl, hb⟩; replace HB := Aside0.mk (below_step bq hb); (try clear hb); (try clear hb2); (try clear hk); (try clear hi)) | ((with_reducible refine gate_dst (N := 68) rfl ?_); (try (refine gate_guard (by rfl) ?_; dsimp only)); refine Kd.R_lit Kd.string _ 26 ?hg (N := 68) ?hd (xs := ([(⟨#[49]⟩ : ByteArray), (⟨#[45, 51]⟩ : ByteArray)] : List ByteArray)) (inner := [.string (⟨#[49]⟩ : ByteArray), .string (⟨#[45, 51]⟩ : ByteArray)]) (ok := fun _ => True) (okp := fun _ => True) ?hr ?hp (fun _ hk => hk) trivial (Below.refl _ _) (Nat.le_refl _) (by simp) ?_; (case hd => rfl); (case hg => rfl); (case hr => first | (go_simp; done) | (go_simp; rfl)); (case hp => exact (Reps.one (show Kd.M Kd.string _ _ _ (⟨#[49]⟩ : ByteArray) [.string (⟨#[49]⟩ : ByteArray)] from rfl) (Reps.one (show Kd.M Kd.string _ _ _ (⟨#[45, 51]⟩ : ByteArray) [.string (⟨#[45, 51]⟩ : ByteArray)] from rfl) (Reps.none _ _)))); intro v432 w22 ho23 hb hg_ hnew_; clear hg_ hnew_; (first | rw [← Ny431.out] at ho23 | (simp only [Int.reduceToNat] at ho23; rw [← Ny431.out] at ho23)); have n0_ := Aside0.mk (Kd.R_lower ho23 (below_size bq)); have n1_ := Aside0.mk (below_step bq hb); clear HB; have HO433 := n0_; have HB := n1_; clear n0_ n1_; clear hb ho23; obtain ⟨Ao24, co24, eo24⟩ := Kd.R_slice HO433.out; subst eo24) | (go_at_call 16; (with_reducible refine (z_Sum.calls (hT := HT.out.below bq) k _ _ y431 t434 _ ?side1 ?side2 A16.out).mono ?_); (case side1 => exact cq ((Kd.R_reads' HO433.out).2.2)); (case side2 => exact (Kd.R_reads' HO433.out).2.1); rintro e w25 ⟨rfl, hb⟩; have n0_ := Aside0.mk (Kd.R_below (pl HO433.out) hb); have n1_ := Aside0.mk (below_step bq hb); clear HO433; clear HB; have HO433 := n0_; have HB := n1_; clear n0_ n1_; (try clear hb); (try clear hb2); (try clear hk); (try clear hi)))
                      go_ret
                      exact ⟨eq_, bq⟩
                    · rw [if_neg c15] at H; have c15b0 : (t430.toList == ([51, 54] : List UInt8)) = false := beq_eq_false_iff_ne.mpr c15; have c15b1 : (t430.toList != ([51, 54] : List UInt8)) = true := bne_iff_ne.mpr c15; obtain rfl := Option.some.inj H
                      go_enter Tryz.func7, Tryz.ntmps7
                      go_wp2_with (first | ((with_reducible refine gate_callee (f := 17) rfl ?_); refine goesL_ (some 12) rfl rfl Tryz.func17 (by kernel_rfl) rfl #[.string (⟨#[45, 55]⟩ : ByteArray), .string (⟨#[50]⟩ : ByteArray)] rfl mq ?_; (with_reducible refine (z_DivMod.calls (hT := HT.out.below bq) k (⟨#[45, 55]⟩ : ByteArray) (⟨#[50]⟩ : ByteArray) t420 t421 t422 _ A1.out).mono ?_); rintro e w26 ⟨rfl, hb⟩; refine ⟨_, rfl, ?_⟩; replace HB := Aside0.mk (below_step bq hb); (try clear hb); (try clear hb2); (try clear hk); (try clear hi)) | ((with_reducible refine gate_callee (f := 20) rfl ?_); refine goesL_ (some 17) rfl rfl Tryz.func20 (by kernel_rfl) rfl #[.string (⟨#[45, 49, 50]⟩ : ByteArray), .string (⟨#[49, 56]⟩ : ByteArray)] rfl mq ?_; (with_reducible refine (z_Bezout.calls (hT := HT.out.below bq) k (⟨#[45, 49, 50]⟩ : ByteArray) (⟨#[49, 56]⟩ : ByteArray) t423 t424 t425 _ A2.out).mono ?_); rintro e w27 ⟨rfl, hb⟩; refine ⟨_, rfl, ?_⟩; replace HB := Aside0.mk (below_step bq hb); (try clear hb); (try clear hb2); (try clear hk); (try clear hi)) | ((with_reducible refine gate_callee (f := 26) rfl ?_); refine goesL_ (some 22) rfl rfl Tryz.func26 (by kernel_rfl) rfl #[.string (⟨#[45, 48, 48, 55]⟩ : ByteArray)] rfl mq ?_; (with_reducible refine (z_Parse.calls k (⟨#[45, 48, 48, 55]⟩ : ByteArray) t426 t427 _ A3.out).mono ?_); rintro e w28 ⟨rfl, hb⟩; refine ⟨_, rfl, ?_⟩; replace HB := Aside0.mk (below_step bq hb); (try clear hb); (try clear hb2); (try clear hk); (try clear hi)) | ((with_reducible refine gate_callee (f := 26) rfl ?_); refine goesL_ (some 26) rfl rfl Tryz.func26 (by kernel_rfl) rfl #[.string (⟨#[43, 49]⟩ : ByteArray)] rfl mq ?_; (with_reducible refine (z_Parse.calls k (⟨#[43, 49]⟩ : ByteArray) t428 t429 _ A4.out).mono ?_); rintro e w29 ⟨rfl, hb⟩; refine ⟨_, rfl, ?_⟩; replace HB := Aside0.mk (below_step bq hb); (try clear hb); (try clear hb2); (try clear hk); (try clear hi)) | (go_at_call 24; (with_reducible refine (z_Lcm.calls (hT := HT.out.below bq) k (⟨#[45, 49, 50]⟩ : ByteArray) (⟨#[49, 56]⟩ : ByteArray) t430 _ A14.out).mono ?_); rintro e w30 ⟨rfl, hb⟩; replace HB := Aside0.mk (below_step bq hb); (try clear hb); (try clear hb2); (try clear hk); (try clear hi)))
                      go_ret
                      exact ⟨eq_, bq⟩
                  · rw [if_neg c13] at H; have c13b0 : (t429 == 15) = false := beq_eq_false_iff_ne.mpr c13; have c13b1 : (t429 != 15) = true := bne_iff_ne.mpr c13; obtain rfl := Option.some.inj H
                    go_enter Tryz.func7, Tryz.ntmps7
                    go_wp2_with (first | ((with_reducible refine gate_callee (f := 17) rfl ?_); refine goesL_ (some 12) rfl rfl Tryz.func17 (by kernel_rfl) rfl #[.string (⟨#[45, 55]⟩ : ByteArray), .string (⟨#[50]⟩ : ByteArray)] rfl mq ?_; (with_reducible refine (z_DivMod.calls (hT := HT.out.below bq) k (⟨#[45, 55]⟩ : ByteArray) (⟨#[50]⟩ : ByteArray) t420 t421 t422 _ A1.out).mono ?_); rintro e w31 ⟨rfl, hb⟩; refine ⟨_, rfl, ?_⟩; replace HB := Aside0.mk (below_step bq hb); (try clear hb); (try clear hb2); (try clear hk); (try clear hi)) | ((with_reducible refine gate_callee (f := 20) rfl ?_); refine goesL_ (some 17) rfl rfl Tryz.func20 (by kernel_rfl) rfl #[.string (⟨#[45, 49, 50]⟩ : ByteArray), .string (⟨#[49, 56]⟩ : ByteArray)] rfl mq ?_; (with_reducible refine (z_Bezout.calls (hT := HT.out.below bq) k (⟨#[45, 49, 50]⟩ : ByteArray) (⟨#[49, 56]⟩ : ByteArray) t423 t424 t425 _ A2.out).mono ?_); rintro e w32 ⟨rfl, hb⟩; refine ⟨_, rfl, ?_⟩; replace HB := Aside0.mk (below_step bq hb); (try clear hb); (try clear hb2); (try clear hk); (try clear hi)) | ((with_reducible refine gate_callee (f := 26) rfl ?_); refine goesL_ (some 22) rfl rfl Tryz.func26 (by kernel_rfl) rfl #[.string (⟨#[45, 48, 48, 55]⟩ : ByteArray)] rfl mq ?_; (with_reducible refine (z_Parse.calls k (⟨#[45, 48, 48, 55]⟩ : ByteArray) t426 t427 _ A3.out).mono ?_); rintro e w33 ⟨rfl, hb⟩; refine ⟨_, rfl, ?_⟩; replace HB := Aside0.mk (below_step bq hb); (try clear hb); (try clear hb2); (try clear hk); (try clear hi)) | ((with_reducible refine gate_callee (f := 26) rfl ?_); refine goesL_ (some 26) rfl rfl Tryz.func26 (by kernel_rfl) rfl #[.string (⟨#[43, 49]⟩ : ByteArray)] rfl mq ?_; (with_reducible refine (z_Parse.calls k (⟨#[43, 49]⟩ : ByteArray) t428 t429 _ A4.out).mono ?_); rintro e w34 ⟨rfl, hb⟩; refine ⟨_, rfl, ?_⟩; replace HB := Aside0.mk (below_step bq hb); (try clear hb); (try clear hb2); (try clear hk); (try clear hi)))
                    go_ret
                    exact ⟨eq_, bq⟩
                · rw [if_neg c12] at H; have c12b0 : (t426.toList == ([45, 55] : List UInt8)) = false := beq_eq_false_iff_ne.mpr c12; have c12b1 : (t426.toList != ([45, 55] : List UInt8)) = true := bne_iff_ne.mpr c12; obtain rfl := Option.some.inj H
                  go_enter Tryz.func7, Tryz.ntmps7
                  go_wp2_with (first | ((with_reducible refine gate_callee (f := 17) rfl ?_); refine goesL_ (some 12) rfl rfl Tryz.func17 (by kernel_rfl) rfl #[.string (⟨#[45, 55]⟩ : ByteArray), .string (⟨#[50]⟩ : ByteArray)] rfl mq ?_; (with_reducible refine (z_DivMod.calls (hT := HT.out.below bq) k (⟨#[45, 55]⟩ : ByteArray) (⟨#[50]⟩ : ByteArray) t420 t421 t422 _ A1.out).mono ?_); rintro e w35 ⟨rfl, hb⟩; refine ⟨_, rfl, ?_⟩; replace HB := Aside0.mk (below_step bq hb); (try clear hb); (try clear hb2); (try clear hk); (try clear hi)) | ((with_reducible refine gate_callee (f := 20) rfl ?_); refine goesL_ (some 17) rfl rfl Tryz.func20 (by kernel_rfl) rfl #[.string (⟨#[45, 49, 50]⟩ : ByteArray), .string (⟨#[49, 56]⟩ : ByteArray)] rfl mq ?_; (with_reducible refine (z_Bezout.calls (hT := HT.out.below bq) k (⟨#[45, 49, 50]⟩ : ByteArray) (⟨#[49, 56]⟩ : ByteArray) t423 t424 t425 _ A2.out).mono ?_); rintro e w36 ⟨rfl, hb⟩; refine ⟨_, rfl, ?_⟩; replace HB := Aside0.mk (below_step bq hb); (try clear hb); (try clear hb2); (try clear hk); (try clear hi)) | ((with_reducible refine gate_callee (f := 26) rfl ?_); refine goesL_ (some 22) rfl rfl Tryz.func26 (by kernel_rfl) rfl #[.string (⟨#[45, 48, 48, 55]⟩ : ByteArray)] rfl mq ?_; (with_reducible refine (z_Parse.calls k (⟨#[45, 48, 48, 55]⟩ : ByteArray) t426 t427 _ A3.out).mono ?_); rintro e w37 ⟨rfl, hb⟩; refine ⟨_, rfl, ?_⟩; replace HB := Aside0.mk (below_step bq hb); (try clear hb); (try clear hb2); (try clear hk); (try clear hi)) | ((with_reducible refine gate_callee (f := 26) rfl ?_); refine goesL_ (some 26) rfl rfl Tryz.func26 (by kernel_rfl) rfl #[.string (⟨#[43, 49]⟩ : ByteArray)] rfl mq ?_; (with_reducible refine (z_Parse.calls k (⟨#[43, 49]⟩ : ByteArray) t428 t429 _ A4.out).mono ?_); rintro e w38 ⟨rfl, hb⟩; refine ⟨_, rfl, ?_⟩; replace HB := Aside0.mk (below_step bq hb); (try clear hb); (try clear hb2); (try clear hk); (try clear hi)))
                  go_ret
                  exact ⟨eq_, bq⟩
              · rw [if_neg c11] at H; have c11b0 : (t427 == 0) = false := beq_eq_false_iff_ne.mpr c11; have c11b1 : (t427 != 0) = true := bne_iff_ne.mpr c11; obtain rfl := Option.some.inj H
                go_enter Tryz.func7, Tryz.ntmps7
                go_wp2_with (first | ((with_reducible refine gate_callee (f := 17) rfl ?_); refine goesL_ (some 12) rfl rfl Tryz.func17 (by kernel_rfl) rfl #[.string (⟨#[45, 55]⟩ : ByteArray), .string (⟨#[50]⟩ : ByteArray)] rfl mq ?_; (with_reducible refine (z_DivMod.calls (hT := HT.out.below bq) k (⟨#[45, 55]⟩ : ByteArray) (⟨#[50]⟩ : ByteArray) t420 t421 t422 _ A1.out).mono ?_); rintro e w39 ⟨rfl, hb⟩; refine ⟨_, rfl, ?_⟩; replace HB := Aside0.mk (below_step bq hb); (try clear hb); (try clear hb2); (try clear hk); (try clear hi)) | ((with_reducible refine gate_callee (f := 20) rfl ?_); refine goesL_ (some 17) rfl rfl Tryz.func20 (by kernel_rfl) rfl #[.string (⟨#[45, 49, 50]⟩ : ByteArray), .string (⟨#[49, 56]⟩ : ByteArray)] rfl mq ?_; (with_reducible refine (z_Bezout.calls (hT := HT.out.below bq) k (⟨#[45, 49, 50]⟩ : ByteArray) (⟨#[49, 56]⟩ : ByteArray) t423 t424 t425 _ A2.out).mono ?_); rintro e w40 ⟨rfl, hb⟩; refine ⟨_, rfl, ?_⟩; replace HB := Aside0.mk (below_step bq hb); (try clear hb); (try clear hb2); (try clear hk); (try clear hi)) | ((with_reducible refine gate_callee (f := 26) rfl ?_); refine goesL_ (some 22) rfl rfl Tryz.func26 (by kernel_rfl) rfl #[.string (⟨#[45, 48, 48, 55]⟩ : ByteArray)] rfl mq ?_; (with_reducible refine (z_Parse.calls k (⟨#[45, 48, 48, 55]⟩ : ByteArray) t426 t427 _ A3.out).mono ?_); rintro e w41 ⟨rfl, hb⟩; refine ⟨_, rfl, ?_⟩; replace HB := Aside0.mk (below_step bq hb); (try clear hb); (try clear hb2); (try clear hk); (try clear hi)) | ((with_reducible refine gate_callee (f := 26) rfl ?_); refine goesL_ (some 26) rfl rfl Tryz.func26 (by kernel_rfl) rfl #[.string (⟨#[43, 49]⟩ : ByteArray)] rfl mq ?_; (with_reducible refine (z_Parse.calls k (⟨#[43, 49]⟩ : ByteArray) t428 t429 _ A4.out).mono ?_); rintro e w42 ⟨rfl, hb⟩; refine ⟨_, rfl, ?_⟩; replace HB := Aside0.mk (below_step bq hb); (try clear hb); (try clear hb2); (try clear hk); (try clear hi)))
                go_ret
                exact ⟨eq_, bq⟩
            · rw [if_neg c10] at H; have c10b0 : (t425.toList == ([49] : List UInt8)) = false := beq_eq_false_iff_ne.mpr c10; have c10b1 : (t425.toList != ([49] : List UInt8)) = true := bne_iff_ne.mpr c10; obtain rfl := Option.some.inj H
              go_enter Tryz.func7, Tryz.ntmps7
              go_wp2_with (first | ((with_reducible refine gate_callee (f := 17) rfl ?_); refine goesL_ (some 12) rfl rfl Tryz.func17 (by kernel_rfl) rfl #[.string (⟨#[45, 55]⟩ : ByteArray), .string (⟨#[50]⟩ : ByteArray)] rfl mq ?_; (with_reducible refine (z_DivMod.calls (hT := HT.out.below bq) k (⟨#[45, 55]⟩ : ByteArray) (⟨#[50]⟩ : ByteArray) t420 t421 t422 _ A1.out).mono ?_); rintro e w43 ⟨rfl, hb⟩; refine ⟨_, rfl, ?_⟩; replace HB := Aside0.mk (below_step bq hb); (try clear hb); (try clear hb2); (try clear hk); (try clear hi)) | ((with_reducible refine gate_callee (f := 20) rfl ?_); refine goesL_ (some 17) rfl rfl Tryz.func20 (by kernel_rfl) rfl #[.string (⟨#[45, 49, 50]⟩ : ByteArray), .string (⟨#[49, 56]⟩ : ByteArray)] rfl mq ?_; (with_reducible refine (z_Bezout.calls (hT := HT.out.below bq) k (⟨#[45, 49, 50]⟩ : ByteArray) (⟨#[49, 56]⟩ : ByteArray) t423 t424 t425 _ A2.out).mono ?_); rintro e w44 ⟨rfl, hb⟩; refine ⟨_, rfl, ?_⟩; replace HB := Aside0.mk (below_step bq hb); (try clear hb); (try clear hb2); (try clear hk); (try clear hi)) | ((with_reducible refine gate_callee (f := 26) rfl ?_); refine goesL_ (some 22) rfl rfl Tryz.func26 (by kernel_rfl) rfl #[.string (⟨#[45, 48, 48, 55]⟩ : ByteArray)] rfl mq ?_; (with_reducible refine (z_Parse.calls k (⟨#[45, 48, 48, 55]⟩ : ByteArray) t426 t427 _ A3.out).mono ?_); rintro e w45 ⟨rfl, hb⟩; refine ⟨_, rfl, ?_⟩; replace HB := Aside0.mk (below_step bq hb); (try clear hb); (try clear hb2); (try clear hk); (try clear hi)) | ((with_reducible refine gate_callee (f := 26) rfl ?_); refine goesL_ (some 26) rfl rfl Tryz.func26 (by kernel_rfl) rfl #[.string (⟨#[43, 49]⟩ : ByteArray)] rfl mq ?_; (with_reducible refine (z_Parse.calls k (⟨#[43, 49]⟩ : ByteArray) t428 t429 _ A4.out).mono ?_); rintro e w46 ⟨rfl, hb⟩; refine ⟨_, rfl, ?_⟩; replace HB := Aside0.mk (below_step bq hb); (try clear hb); (try clear hb2); (try clear hk); (try clear hi)))
              go_ret
              exact ⟨eq_, bq⟩
          · rw [if_neg c9] at H; have c9b0 : (t424.toList == ([49] : List UInt8)) = false := beq_eq_false_iff_ne.mpr c9; have c9b1 : (t424.toList != ([49] : List UInt8)) = true := bne_iff_ne.mpr c9; obtain rfl := Option.some.inj H
            go_enter Tryz.func7, Tryz.ntmps7
            go_wp2_with (first | ((with_reducible refine gate_callee (f := 17) rfl ?_); refine goesL_ (some 12) rfl rfl Tryz.func17 (by kernel_rfl) rfl #[.string (⟨#[45, 55]⟩ : ByteArray), .string (⟨#[50]⟩ : ByteArray)] rfl mq ?_; (with_reducible refine (z_DivMod.calls (hT := HT.out.below bq) k (⟨#[45, 55]⟩ : ByteArray) (⟨#[50]⟩ : ByteArray) t420 t421 t422 _ A1.out).mono ?_); rintro e w47 ⟨rfl, hb⟩; refine ⟨_, rfl, ?_⟩; replace HB := Aside0.mk (below_step bq hb); (try clear hb); (try clear hb2); (try clear hk); (try clear hi)) | ((with_reducible refine gate_callee (f := 20) rfl ?_); refine goesL_ (some 17) rfl rfl Tryz.func20 (by kernel_rfl) rfl #[.string (⟨#[45, 49, 50]⟩ : ByteArray), .string (⟨#[49, 56]⟩ : ByteArray)] rfl mq ?_; (with_reducible refine (z_Bezout.calls (hT := HT.out.below bq) k (⟨#[45, 49, 50]⟩ : ByteArray) (⟨#[49, 56]⟩ : ByteArray) t423 t424 t425 _ A2.out).mono ?_); rintro e w48 ⟨rfl, hb⟩; refine ⟨_, rfl, ?_⟩; replace HB := Aside0.mk (below_step bq hb); (try clear hb); (try clear hb2); (try clear hk); (try clear hi)) | ((with_reducible refine gate_callee (f := 26) rfl ?_); refine goesL_ (some 22) rfl rfl Tryz.func26 (by kernel_rfl) rfl #[.string (⟨#[45, 48, 48, 55]⟩ : ByteArray)] rfl mq ?_; (with_reducible refine (z_Parse.calls k (⟨#[45, 48, 48, 55]⟩ : ByteArray) t426 t427 _ A3.out).mono ?_); rintro e w49 ⟨rfl, hb⟩; refine ⟨_, rfl, ?_⟩; replace HB := Aside0.mk (below_step bq hb); (try clear hb); (try clear hb2); (try clear hk); (try clear hi)) | ((with_reducible refine gate_callee (f := 26) rfl ?_); refine goesL_ (some 26) rfl rfl Tryz.func26 (by kernel_rfl) rfl #[.string (⟨#[43, 49]⟩ : ByteArray)] rfl mq ?_; (with_reducible refine (z_Parse.calls k (⟨#[43, 49]⟩ : ByteArray) t428 t429 _ A4.out).mono ?_); rintro e w50 ⟨rfl, hb⟩; refine ⟨_, rfl, ?_⟩; replace HB := Aside0.mk (below_step bq hb); (try clear hb); (try clear hb2); (try clear hk); (try clear hi)))
            go_ret
            exact ⟨eq_, bq⟩
        · rw [if_neg c8] at H; have c8b0 : (t423.toList == ([54] : List UInt8)) = false := beq_eq_false_iff_ne.mpr c8; have c8b1 : (t423.toList != ([54] : List UInt8)) = true := bne_iff_ne.mpr c8; obtain rfl := Option.some.inj H
          go_enter Tryz.func7, Tryz.ntmps7
          go_wp2_with (first | ((with_reducible refine gate_callee (f := 17) rfl ?_); refine goesL_ (some 12) rfl rfl Tryz.func17 (by kernel_rfl) rfl #[.string (⟨#[45, 55]⟩ : ByteArray), .string (⟨#[50]⟩ : ByteArray)] rfl mq ?_; (with_reducible refine (z_DivMod.calls (hT := HT.out.below bq) k (⟨#[45, 55]⟩ : ByteArray) (⟨#[50]⟩ : ByteArray) t420 t421 t422 _ A1.out).mono ?_); rintro e w51 ⟨rfl, hb⟩; refine ⟨_, rfl, ?_⟩; replace HB := Aside0.mk (below_step bq hb); (try clear hb); (try clear hb2); (try clear hk); (try clear hi)) | ((with_reducible refine gate_callee (f := 20) rfl ?_); refine goesL_ (some 17) rfl rfl Tryz.func20 (by kernel_rfl) rfl #[.string (⟨#[45, 49, 50]⟩ : ByteArray), .string (⟨#[49, 56]⟩ : ByteArray)] rfl mq ?_; (with_reducible refine (z_Bezout.calls (hT := HT.out.below bq) k (⟨#[45, 49, 50]⟩ : ByteArray) (⟨#[49, 56]⟩ : ByteArray) t423 t424 t425 _ A2.out).mono ?_); rintro e w52 ⟨rfl, hb⟩; refine ⟨_, rfl, ?_⟩; replace HB := Aside0.mk (below_step bq hb); (try clear hb); (try clear hb2); (try clear hk); (try clear hi)) | ((with_reducible refine gate_callee (f := 26) rfl ?_); refine goesL_ (some 22) rfl rfl Tryz.func26 (by kernel_rfl) rfl #[.string (⟨#[45, 48, 48, 55]⟩ : ByteArray)] rfl mq ?_; (with_reducible refine (z_Parse.calls k (⟨#[45, 48, 48, 55]⟩ : ByteArray) t426 t427 _ A3.out).mono ?_); rintro e w53 ⟨rfl, hb⟩; refine ⟨_, rfl, ?_⟩; replace HB := Aside0.mk (below_step bq hb); (try clear hb); (try clear hb2); (try clear hk); (try clear hi)) | ((with_reducible refine gate_callee (f := 26) rfl ?_); refine goesL_ (some 26) rfl rfl Tryz.func26 (by kernel_rfl) rfl #[.string (⟨#[43, 49]⟩ : ByteArray)] rfl mq ?_; (with_reducible refine (z_Parse.calls k (⟨#[43, 49]⟩ : ByteArray) t428 t429 _ A4.out).mono ?_); rintro e w54 ⟨rfl, hb⟩; refine ⟨_, rfl, ?_⟩; replace HB := Aside0.mk (below_step bq hb); (try clear hb); (try clear hb2); (try clear hk); (try clear hi)))
          go_ret
          exact ⟨eq_, bq⟩
      · rw [if_neg c7] at H; have c7b0 : (t421.toList == ([49] : List UInt8)) = false := beq_eq_false_iff_ne.mpr c7; have c7b1 : (t421.toList != ([49] : List UInt8)) = true := bne_iff_ne.mpr c7; obtain rfl := Option.some.inj H
        go_enter Tryz.func7, Tryz.ntmps7
        go_wp2_with (first | ((with_reducible refine gate_callee (f := 17) rfl ?_); refine goesL_ (some 12) rfl rfl Tryz.func17 (by kernel_rfl) rfl #[.string (⟨#[45, 55]⟩ : ByteArray), .string (⟨#[50]⟩ : ByteArray)] rfl mq ?_; (with_reducible refine (z_DivMod.calls (hT := HT.out.below bq) k (⟨#[45, 55]⟩ : ByteArray) (⟨#[50]⟩ : ByteArray) t420 t421 t422 _ A1.out).mono ?_); rintro e w55 ⟨rfl, hb⟩; refine ⟨_, rfl, ?_⟩; replace HB := Aside0.mk (below_step bq hb); (try clear hb); (try clear hb2); (try clear hk); (try clear hi)) | ((with_reducible refine gate_callee (f := 20) rfl ?_); refine goesL_ (some 17) rfl rfl Tryz.func20 (by kernel_rfl) rfl #[.string (⟨#[45, 49, 50]⟩ : ByteArray), .string (⟨#[49, 56]⟩ : ByteArray)] rfl mq ?_; (with_reducible refine (z_Bezout.calls (hT := HT.out.below bq) k (⟨#[45, 49, 50]⟩ : ByteArray) (⟨#[49, 56]⟩ : ByteArray) t423 t424 t425 _ A2.out).mono ?_); rintro e w56 ⟨rfl, hb⟩; refine ⟨_, rfl, ?_⟩; replace HB := Aside0.mk (below_step bq hb); (try clear hb); (try clear hb2); (try clear hk); (try clear hi)) | ((with_reducible refine gate_callee (f := 26) rfl ?_); refine goesL_ (some 22) rfl rfl Tryz.func26 (by kernel_rfl) rfl #[.string (⟨#[45, 48, 48, 55]⟩ : ByteArray)] rfl mq ?_; (with_reducible refine (z_Parse.calls k (⟨#[45, 48, 48, 55]⟩ : ByteArray) t426 t427 _ A3.out).mono ?_); rintro e w57 ⟨rfl, hb⟩; refine ⟨_, rfl, ?_⟩; replace HB := Aside0.mk (below_step bq hb); (try clear hb); (try clear hb2); (try clear hk); (try clear hi)) | ((with_reducible refine gate_callee (f := 26) rfl ?_); refine goesL_ (some 26) rfl rfl Tryz.func26 (by kernel_rfl) rfl #[.string (⟨#[43, 49]⟩ : ByteArray)] rfl mq ?_; (with_reducible refine (z_Parse.calls k (⟨#[43, 49]⟩ : ByteArray) t428 t429 _ A4.out).mono ?_); rintro e w58 ⟨rfl, hb⟩; refine ⟨_, rfl, ?_⟩; replace HB := Aside0.mk (below_step bq hb); (try clear hb); (try clear hb2); (try clear hk); (try clear hi)))
        go_ret
        exact ⟨eq_, bq⟩
    · rw [if_neg c6] at H; have c6b0 : (t420.toList == ([45, 52] : List UInt8)) = false := beq_eq_false_iff_ne.mpr c6; have c6b1 : (t420.toList != ([45, 52] : List UInt8)) = true := bne_iff_ne.mpr c6; obtain rfl := Option.some.inj H
      go_enter Tryz.func7, Tryz.ntmps7
      go_wp2_with (first | ((with_reducible refine gate_callee (f := 17) rfl ?_); refine goesL_ (some 12) rfl rfl Tryz.func17 (by kernel_rfl) rfl #[.string (⟨#[45, 55]⟩ : ByteArray), .string (⟨#[50]⟩ : ByteArray)] rfl mq ?_; (with_reducible refine (z_DivMod.calls (hT := HT.out.below bq) k (⟨#[45, 55]⟩ : ByteArray) (⟨#[50]⟩ : ByteArray) t420 t421 t422 _ A1.out).mono ?_); rintro e w59 ⟨rfl, hb⟩; refine ⟨_, rfl, ?_⟩; replace HB := Aside0.mk (below_step bq hb); (try clear hb); (try clear hb2); (try clear hk); (try clear hi)) | ((with_reducible refine gate_callee (f := 20) rfl ?_); refine goesL_ (some 17) rfl rfl Tryz.func20 (by kernel_rfl) rfl #[.string (⟨#[45, 49, 50]⟩ : ByteArray), .string (⟨#[49, 56]⟩ : ByteArray)] rfl mq ?_; (with_reducible refine (z_Bezout.calls (hT := HT.out.below bq) k (⟨#[45, 49, 50]⟩ : ByteArray) (⟨#[49, 56]⟩ : ByteArray) t423 t424 t425 _ A2.out).mono ?_); rintro e w60 ⟨rfl, hb⟩; refine ⟨_, rfl, ?_⟩; replace HB := Aside0.mk (below_step bq hb); (try clear hb); (try clear hb2); (try clear hk); (try clear hi)) | ((with_reducible refine gate_callee (f := 26) rfl ?_); refine goesL_ (some 22) rfl rfl Tryz.func26 (by kernel_rfl) rfl #[.string (⟨#[45, 48, 48, 55]⟩ : ByteArray)] rfl mq ?_; (with_reducible refine (z_Parse.calls k (⟨#[45, 48, 48, 55]⟩ : ByteArray) t426 t427 _ A3.out).mono ?_); rintro e w61 ⟨rfl, hb⟩; refine ⟨_, rfl, ?_⟩; replace HB := Aside0.mk (below_step bq hb); (try clear hb); (try clear hb2); (try clear hk); (try clear hi)) | ((with_reducible refine gate_callee (f := 26) rfl ?_); refine goesL_ (some 26) rfl rfl Tryz.func26 (by kernel_rfl) rfl #[.string (⟨#[43, 49]⟩ : ByteArray)] rfl mq ?_; (with_reducible refine (z_Parse.calls k (⟨#[43, 49]⟩ : ByteArray) t428 t429 _ A4.out).mono ?_); rintro e w62 ⟨rfl, hb⟩; refine ⟨_, rfl, ?_⟩; replace HB := Aside0.mk (below_step bq hb); (try clear hb); (try clear hb2); (try clear hk); (try clear hi)))
      go_ret
      exact ⟨eq_, bq⟩
  · rw [if_neg c5] at H; have c5b0 : (t422 == 0) = false := beq_eq_false_iff_ne.mpr c5; have c5b1 : (t422 != 0) = true := bne_iff_ne.mpr c5; obtain rfl := Option.some.inj H
    go_enter Tryz.func7, Tryz.ntmps7
    go_wp2_with (first | ((with_reducible refine gate_callee (f := 17) rfl ?_); refine goesL_ (some 12) rfl rfl Tryz.func17 (by kernel_rfl) rfl #[.string (⟨#[45, 55]⟩ : ByteArray), .string (⟨#[50]⟩ : ByteArray)] rfl mq ?_; (with_reducible refine (z_DivMod.calls (hT := HT.out.below bq) k (⟨#[45, 55]⟩ : ByteArray) (⟨#[50]⟩ : ByteArray) t420 t421 t422 _ A1.out).mono ?_); rintro e w63 ⟨rfl, hb⟩; refine ⟨_, rfl, ?_⟩; replace HB := Aside0.mk (below_step bq hb); (try clear hb); (try clear hb2); (try clear hk); (try clear hi)) | ((with_reducible refine gate_callee (f := 20) rfl ?_); refine goesL_ (some 17) rfl rfl Tryz.func20 (by kernel_rfl) rfl #[.string (⟨#[45, 49, 50]⟩ : ByteArray), .string (⟨#[49, 56]⟩ : ByteArray)] rfl mq ?_; (with_reducible refine (z_Bezout.calls (hT := HT.out.below bq) k (⟨#[45, 49, 50]⟩ : ByteArray) (⟨#[49, 56]⟩ : ByteArray) t423 t424 t425 _ A2.out).mono ?_); rintro e w64 ⟨rfl, hb⟩; refine ⟨_, rfl, ?_⟩; replace HB := Aside0.mk (below_step bq hb); (try clear hb); (try clear hb2); (try clear hk); (try clear hi)) | ((with_reducible refine gate_callee (f := 26) rfl ?_); refine goesL_ (some 22) rfl rfl Tryz.func26 (by kernel_rfl) rfl #[.string (⟨#[45, 48, 48, 55]⟩ : ByteArray)] rfl mq ?_; (with_reducible refine (z_Parse.calls k (⟨#[45, 48, 48, 55]⟩ : ByteArray) t426 t427 _ A3.out).mono ?_); rintro e w65 ⟨rfl, hb⟩; refine ⟨_, rfl, ?_⟩; replace HB := Aside0.mk (below_step bq hb); (try clear hb); (try clear hb2); (try clear hk); (try clear hi)) | ((with_reducible refine gate_callee (f := 26) rfl ?_); refine goesL_ (some 26) rfl rfl Tryz.func26 (by kernel_rfl) rfl #[.string (⟨#[43, 49]⟩ : ByteArray)] rfl mq ?_; (with_reducible refine (z_Parse.calls k (⟨#[43, 49]⟩ : ByteArray) t428 t429 _ A4.out).mono ?_); rintro e w66 ⟨rfl, hb⟩; refine ⟨_, rfl, ?_⟩; replace HB := Aside0.mk (below_step bq hb); (try clear hb); (try clear hb2); (try clear hk); (try clear hi)))
    go_ret
    exact ⟨eq_, bq⟩
end Go.Proofs.YtgicckcahhlbjaaGreatDoor.P
