/- Functions of the program, as functions of Lean, and the walks that show that the code answers as they do: written by a program. Conditions: those of each theorem. -/
import Derived.Test.YtcfddphiflmnlaaDoorDecimalAddsF6
namespace Go.Proofs.YtcfddphiflmnlaaDoor.P
open Go.RowKit Go.Proofs.YtcfddphiflmnlaaDoorW.PrintWords Go.Proofs.YtcfddphiflmnlaaDoorW.PrintLast Go.Proofs.YtcfddphiflmnlaaDoorW.PrintMore
attribute [local go_sem] gtr_text max2_int min2_int max_two min_two max_three min_three max_four min_four
set_option linter.unusedVariables false
set_option linter.unusedSimpArgs false
def decimal_Mul.f (k : Nat) (a0 : ByteArray) (a1 : ByteArray) : Option (ByteArray) := if (wrap64 ((a0.size : Int) + (a1.size : Int))) ≤ 18 then ((decimal_both.f k a0 a1).bind fun bt446 => ((decimal_Of.f (IntKind.u64.wrap (bt446.1 * bt446.2.1))).bind fun t449 => (some t449))) else ((decimal_cut.f k a0).bind fun t450 => ((decimal_cut.f k a1).bind fun t453 => ((decimal_pieces_times.f k t450 t453).bind fun t456 => ((decimal_pieces_text.f k t456).bind fun t459 => (some t459)))))
theorem decimal_Mul.mono : ∀ a0 a1 k, LeO (decimal_Mul.f k a0 a1) (decimal_Mul.f (k + 1) a0 a1) := by
  intro a0 a1 k
  unfold decimal_Mul.f
  repeat' first
      | (with_reducible exact decimal_both.mono _ _ _)
      | (with_reducible exact decimal_cut.mono _ _)
      | (with_reducible exact decimal_pieces_text.mono _ _)
      | (with_reducible exact decimal_pieces_times.mono _ _ _)
      | (with_reducible exact LeO.refl _)
      | (with_reducible exact LeO.none _)
      | (with_reducible refine LeO.ite ?_ ?_)
      | (with_reducible refine LeO.bind ?_ (fun _ => ?_))
      | exact decimal_both.mono _ _ _
      | exact decimal_cut.mono _ _
      | exact decimal_pieces_text.mono _ _
      | exact decimal_pieces_times.mono _ _ _
      | exact LeO.none _
      | refine LeO.ite ?_ ?_
      | refine LeO.bind ?_ (fun _ => ?_)
set_option maxHeartbeats 8000000 in
set_option maxRecDepth 100000 in
theorem decimal_Mul.calls (k : Nat) (a0 : ByteArray) (a1 : ByteArray) (r : ByteArray) (w : World) (hT : Tab w) (h : decimal_Mul.f k a0 a1 = some r) :
    Calls Tryd.prog 37 #[.string a0, .string a1] w fun e w' => e = .returned (.string r) ∧ Below w.heap.size w w' := by
  have HT := Aside0.mk hT
  clear hT
  have HB := Aside0.mk (Below.refl w.heap.size w)
  have H : (if (wrap64 ((a0.size : Int) + (a1.size : Int))) ≤ 18 then ((decimal_both.f k a0 a1).bind fun bt446 => ((decimal_Of.f (IntKind.u64.wrap (bt446.1 * bt446.2.1))).bind fun t449 => (some t449))) else ((decimal_cut.f k a0).bind fun t450 => ((decimal_cut.f k a1).bind fun t453 => ((decimal_pieces_times.f k t450 t453).bind fun t456 => ((decimal_pieces_text.f k t456).bind fun t459 => (some t459)))))) = some r := h
  clear h
  by_cases c3 : (wrap64 ((a0.size : Int) + (a1.size : Int))) ≤ 18
  · rw [if_pos c3] at H
    have c3b0 : decide ((wrap64 ((a0.size : Int) + (a1.size : Int))) ≤ 18) = true := decide_eq_true c3
    clear c3
    replace H := Option.bind_eq_some_iff.mp H
    obtain ⟨⟨t446, t447, t448⟩, A40, H⟩ := H
    replace H : ((decimal_Of.f (IntKind.u64.wrap (t446 * t447))).bind fun t449 => (some t449)) = some r := H
    have A4 := Aside0.mk A40
    clear A40
    replace H := Option.bind_eq_some_iff.mp H
    obtain ⟨t449, A50, H⟩ := H
    replace H : (some t449) = some r := H
    have A5 := Aside0.mk A50
    clear A50
    obtain rfl := Option.some.inj H
    go_enter Tryd.func37, Tryd.ntmps37
    go_wp2_with (first | ((with_reducible refine gate_callee (f := 44) rfl ?_); refine goesL_ (some 17) rfl rfl Tryd.func44 (by kernel_rfl) rfl #[.string a0, .string a1] rfl mq ?_; (with_reducible refine (decimal_both.calls (hT := HT.out.below bq) k a0 a1 t446 t447 t448 _ A4.out).mono ?_); rintro e w6 ⟨rfl, hb⟩; refine ⟨_, rfl, ?_⟩; replace HB := Aside0.mk (below_step bq hb); (try clear hb); (try clear hb2); (try clear hk); (try clear hi)) | ((with_reducible refine gate_callee (f := 14) rfl ?_); refine goesL_ (some 24) rfl rfl Tryd.func14 (by kernel_rfl) rfl #[.int .u64 (IntKind.u64.wrap (t446 * t447))] rfl mq ?_; (with_reducible refine (decimal_Of.calls (hT := HT.out.below bq) (IntKind.u64.wrap (t446 * t447)) t449 _ A5.out).mono ?_); rintro e w7 ⟨rfl, hb⟩; refine ⟨_, rfl, ?_⟩; replace HB := Aside0.mk (below_step bq hb); (try clear hb); (try clear hb2); (try clear hk); (try clear hi)))
    go_ret
    exact ⟨eq_, bq⟩
  · rw [if_neg c3] at H
    have c3b0 : decide ((wrap64 ((a0.size : Int) + (a1.size : Int))) ≤ 18) = false := decide_eq_false c3
    clear c3
    replace H := Option.bind_eq_some_iff.mp H
    obtain ⟨t450, A80, H⟩ := H
    replace H : ((decimal_cut.f k a1).bind fun t453 => ((decimal_pieces_times.f k t450 t453).bind fun t456 => ((decimal_pieces_text.f k t456).bind fun t459 => (some t459)))) = some r := H
    have A8 := Aside0.mk A80
    clear A80
    replace H := Option.bind_eq_some_iff.mp H
    obtain ⟨t453, A90, H⟩ := H
    replace H : ((decimal_pieces_times.f k t450 t453).bind fun t456 => ((decimal_pieces_text.f k t456).bind fun t459 => (some t459))) = some r := H
    have A9 := Aside0.mk A90
    clear A90
    replace H := Option.bind_eq_some_iff.mp H
    obtain ⟨t456, A100, H⟩ := H
    replace H : ((decimal_pieces_text.f k t456).bind fun t459 => (some t459)) = some r := H
    have A10 := Aside0.mk A100
    clear A100
    replace H := Option.bind_eq_some_iff.mp H
    obtain ⟨t459, A110, H⟩ := H
    replace H : (some t459) = some r := H
    have A11 := Aside0.mk A110
    clear A110
    obtain rfl := Option.some.inj H
    go_enter Tryd.func37, Tryd.ntmps37
    go_wp2_with (first | ((with_reducible refine gate_callee (f := 45) rfl ?_); refine goesL_ (some 26) rfl rfl Tryd.func45 (by kernel_rfl) rfl #[.string a0] rfl mq ?_; (with_reducible refine (decimal_cut.calls k a0 t450 _ A8.out).mono ?_); rintro e w12 ⟨v451, rfl, ho0, hb⟩; refine ⟨_, rfl, ?_⟩; have n0_ := Aside0.mk (Kd.R_lower ho0 (below_size bq)); have n1_ := Aside0.mk (below_step bq hb); clear HB; have HO452 := n0_; have HB := n1_; clear n0_ n1_; (try clear hb); (try clear hb2); (try clear hk); (try clear hi); (try clear ho0)) | ((with_reducible refine gate_callee (f := 45) rfl ?_); refine goesL_ (some 28) rfl rfl Tryd.func45 (by kernel_rfl) rfl #[.string a1] rfl mq ?_; (with_reducible refine (decimal_cut.calls k a1 t453 _ A9.out).mono ?_); rintro e w13 ⟨v454, rfl, ho0, hb⟩; refine ⟨_, rfl, ?_⟩; have n0_ := Aside0.mk (Kd.R_elder' (by (with_reducible repeat (first | apply Kd.R_alloc | apply Kd.R_drewN | apply Kd.R_drew)); exact HO452.out) (Kd.R_base ho0) hb); have n1_ := Aside0.mk (Kd.R_lower (Kd.R_new' ho0 (Kd.R_lt (by (with_reducible repeat (first | apply Kd.R_alloc | apply Kd.R_drewN | apply Kd.R_drew)); exact HO452.out))) (below_size bq)); have n2_ := Aside0.mk (below_step bq hb); clear HO452; clear HB; have HO452 := n0_; have HO455 := n1_; have HB := n2_; clear n0_ n1_ n2_; (try clear hb); (try clear hb2); (try clear hk); (try clear hi); (try clear ho0); obtain ⟨Ao14, co14, eo14⟩ := Kd.R_slice HO452.out; subst eo14; obtain ⟨Ao15, co15, eo15⟩ := Kd.R_slice HO455.out; subst eo15) | ((with_reducible refine gate_callee (f := 54) rfl ?_); refine goesL_ (some 29) rfl rfl Tryd.func54 (by kernel_rfl) rfl #[.slice Ao14 t450.length co14, .slice Ao15 t453.length co15] rfl mq ?_; (with_reducible refine (decimal_pieces_times.calls k _ _ t450 _ _ t453 t456 _ ?side1 ?side2 ?side3 ?side4 A10.out).mono ?_); (case side1 => repeat (first | exact (Kd.R_reads' HO452.out).2.2 | (with_reducible refine Kd.C_alloc ?_ _) | (with_reducible refine Kd.C_drewN ?_ _) | (with_reducible refine Kd.C_drew ?_))); (case side2 => exact (Kd.R_reads' HO452.out).2.1); (case side3 => repeat (first | exact (Kd.R_reads' HO455.out).2.2 | (with_reducible refine Kd.C_alloc ?_ _) | (with_reducible refine Kd.C_drewN ?_ _) | (with_reducible refine Kd.C_drew ?_))); (case side4 => exact (Kd.R_reads' HO455.out).2.1); rintro e w16 ⟨v457, rfl, ho0, hb⟩; refine ⟨_, rfl, ?_⟩; have n0_ := Aside0.mk (Kd.R_elder' (by (with_reducible repeat (first | apply Kd.R_alloc | apply Kd.R_drewN | apply Kd.R_drew)); exact HO452.out) (Kd.R_base ho0) hb); have n1_ := Aside0.mk (Kd.R_elder' (by (with_reducible repeat (first | apply Kd.R_alloc | apply Kd.R_drewN | apply Kd.R_drew)); exact HO455.out) (Kd.R_base ho0) hb); have n2_ := Aside0.mk (Kd.R_lower (Kd.R_new' (Kd.R_new' ho0 (Kd.R_lt (by (with_reducible repeat (first | apply Kd.R_alloc | apply Kd.R_drewN | apply Kd.R_drew)); exact HO452.out))) (Kd.R_lt (by (with_reducible repeat (first | apply Kd.R_alloc | apply Kd.R_drewN | apply Kd.R_drew)); exact HO455.out))) (below_size bq)); have n3_ := Aside0.mk (below_step bq hb); clear HO452; clear HO455; clear HB; have HO452 := n0_; have HO455 := n1_; have HO458 := n2_; have HB := n3_; clear n0_ n1_ n2_ n3_; (try clear hb); (try clear hb2); (try clear hk); (try clear hi); (try clear ho0); obtain ⟨Ao17, co17, eo17⟩ := Kd.R_slice HO458.out; subst eo17) | ((with_reducible refine gate_callee (f := 48) rfl ?_); refine goesL_ (some 30) rfl rfl Tryd.func48 (by kernel_rfl) rfl #[.slice Ao17 t456.length co17] rfl mq ?_; (with_reducible refine (decimal_pieces_text.calls k _ _ t456 t459 _ ?side1 ?side2 A11.out).mono ?_); (case side1 => repeat (first | exact (Kd.R_reads' HO458.out).2.2 | (with_reducible refine Kd.C_alloc ?_ _) | (with_reducible refine Kd.C_drewN ?_ _) | (with_reducible refine Kd.C_drew ?_))); (case side2 => exact (Kd.R_reads' HO458.out).2.1); rintro e w18 ⟨rfl, hb⟩; refine ⟨_, rfl, ?_⟩; have n0_ := Aside0.mk (Kd.R_below (by (with_reducible repeat (first | apply Kd.R_alloc | apply Kd.R_drewN | apply Kd.R_drew)); exact HO452.out) hb); have n1_ := Aside0.mk (Kd.R_below (by (with_reducible repeat (first | apply Kd.R_alloc | apply Kd.R_drewN | apply Kd.R_drew)); exact HO455.out) hb); have n2_ := Aside0.mk (Kd.R_below (by (with_reducible repeat (first | apply Kd.R_alloc | apply Kd.R_drewN | apply Kd.R_drew)); exact HO458.out) hb); have n3_ := Aside0.mk (below_step bq hb); clear HO452; clear HO455; clear HO458; clear HB; have HO452 := n0_; have HO455 := n1_; have HO458 := n2_; have HB := n3_; clear n0_ n1_ n2_ n3_; (try clear hb); (try clear hb2); (try clear hk); (try clear hi)))
    go_ret
    exact ⟨eq_, bq⟩
def decimal_Add.f (k : Nat) (a0 : ByteArray) (a1 : ByteArray) : Option (ByteArray) := (decimal_both.f k a0 a1).bind fun bt477 => (if bt477.2.2 = true then ((decimal_Of.f (IntKind.u64.wrap (bt477.1 + bt477.2.1))).bind fun t480 => (some t480)) else ((decimal_cut.f k a0).bind fun t481 => ((decimal_cut.f k a1).bind fun t484 => (if (t481.length : Int) < (t484.length : Int) then (if t484.length < 17592186044416 then ((some (t484 ++ [0] : List Int)).bind fun y487 => (if 0 ≤ (wrap64 ((wrap64 ((y487.length : Int) - 1)) - (t481.length : Int))) then (if t481.length + (wrap64 ((wrap64 ((y487.length : Int) - 1)) - (t481.length : Int)) : Int).toNat < 17592186044416 then ((decimal_pieces_back.f k y487 (t481 ++ List.replicate (wrap64 ((wrap64 ((y487.length : Int) - 1)) - (t481.length : Int)) : Int).toNat 0) 0).bind fun t493 => ((decimal_pieces_trim.f k t493).bind fun t494 => ((decimal_pieces_text.f k t494).bind fun t497 => (some t497)))) else (none)) else (none))) else (none)) else (if t481.length < 17592186044416 then ((some (t481 ++ [0] : List Int)).bind fun y498 => (if 0 ≤ (wrap64 ((wrap64 ((y498.length : Int) - 1)) - (t484.length : Int))) then (if t484.length + (wrap64 ((wrap64 ((y498.length : Int) - 1)) - (t484.length : Int)) : Int).toNat < 17592186044416 then ((decimal_pieces_back.f k y498 (t484 ++ List.replicate (wrap64 ((wrap64 ((y498.length : Int) - 1)) - (t484.length : Int)) : Int).toNat 0) 0).bind fun t504 => ((decimal_pieces_trim.f k t504).bind fun t505 => ((decimal_pieces_text.f k t505).bind fun t508 => (some t508)))) else (none)) else (none))) else (none))))))
theorem decimal_Add.mono : ∀ a0 a1 k, LeO (decimal_Add.f k a0 a1) (decimal_Add.f (k + 1) a0 a1) := by
  intro a0 a1 k
  unfold decimal_Add.f
  repeat' first
      | (with_reducible exact decimal_both.mono _ _ _)
      | (with_reducible exact decimal_cut.mono _ _)
      | (with_reducible exact decimal_pieces_back.mono _ _ _ _)
      | (with_reducible exact decimal_pieces_text.mono _ _)
      | (with_reducible exact decimal_pieces_trim.mono _ _)
      | (with_reducible exact LeO.refl _)
      | (with_reducible exact LeO.none _)
      | (with_reducible refine LeO.ite ?_ ?_)
      | (with_reducible refine LeO.bind ?_ (fun _ => ?_))
      | exact decimal_both.mono _ _ _
      | exact decimal_cut.mono _ _
      | exact decimal_pieces_back.mono _ _ _ _
      | exact decimal_pieces_text.mono _ _
      | exact decimal_pieces_trim.mono _ _
      | exact LeO.none _
      | refine LeO.ite ?_ ?_
      | refine LeO.bind ?_ (fun _ => ?_)
set_option maxHeartbeats 8000000 in
set_option maxRecDepth 100000 in
theorem decimal_Add.calls (k : Nat) (a0 : ByteArray) (a1 : ByteArray) (r : ByteArray) (w : World) (hT : Tab w) (h : decimal_Add.f k a0 a1 = some r) :
    Calls Tryd.prog 38 #[.string a0, .string a1] w fun e w' => e = .returned (.string r) ∧ Below w.heap.size w w' := by
  have HT := Aside0.mk hT
  clear hT
  have HB := Aside0.mk (Below.refl w.heap.size w)
  have H : ((decimal_both.f k a0 a1).bind fun bt477 => (if bt477.2.2 = true then ((decimal_Of.f (IntKind.u64.wrap (bt477.1 + bt477.2.1))).bind fun t480 => (some t480)) else ((decimal_cut.f k a0).bind fun t481 => ((decimal_cut.f k a1).bind fun t484 => (if (t481.length : Int) < (t484.length : Int) then (if t484.length < 17592186044416 then ((some (t484 ++ [0] : List Int)).bind fun y487 => (if 0 ≤ (wrap64 ((wrap64 ((y487.length : Int) - 1)) - (t481.length : Int))) then (if t481.length + (wrap64 ((wrap64 ((y487.length : Int) - 1)) - (t481.length : Int)) : Int).toNat < 17592186044416 then ((decimal_pieces_back.f k y487 (t481 ++ List.replicate (wrap64 ((wrap64 ((y487.length : Int) - 1)) - (t481.length : Int)) : Int).toNat 0) 0).bind fun t493 => ((decimal_pieces_trim.f k t493).bind fun t494 => ((decimal_pieces_text.f k t494).bind fun t497 => (some t497)))) else (none)) else (none))) else (none)) else (if t481.length < 17592186044416 then ((some (t481 ++ [0] : List Int)).bind fun y498 => (if 0 ≤ (wrap64 ((wrap64 ((y498.length : Int) - 1)) - (t484.length : Int))) then (if t484.length + (wrap64 ((wrap64 ((y498.length : Int) - 1)) - (t484.length : Int)) : Int).toNat < 17592186044416 then ((decimal_pieces_back.f k y498 (t484 ++ List.replicate (wrap64 ((wrap64 ((y498.length : Int) - 1)) - (t484.length : Int)) : Int).toNat 0) 0).bind fun t504 => ((decimal_pieces_trim.f k t504).bind fun t505 => ((decimal_pieces_text.f k t505).bind fun t508 => (some t508)))) else (none)) else (none))) else (none))))))) = some r := h
  clear h
  replace H := Option.bind_eq_some_iff.mp H
  obtain ⟨⟨t477, t478, t479⟩, A30, H⟩ := H
  replace H : (if t479 = true then ((decimal_Of.f (IntKind.u64.wrap (t477 + t478))).bind fun t480 => (some t480)) else ((decimal_cut.f k a0).bind fun t481 => ((decimal_cut.f k a1).bind fun t484 => (if (t481.length : Int) < (t484.length : Int) then (if t484.length < 17592186044416 then ((some (t484 ++ [0] : List Int)).bind fun y487 => (if 0 ≤ (wrap64 ((wrap64 ((y487.length : Int) - 1)) - (t481.length : Int))) then (if t481.length + (wrap64 ((wrap64 ((y487.length : Int) - 1)) - (t481.length : Int)) : Int).toNat < 17592186044416 then ((decimal_pieces_back.f k y487 (t481 ++ List.replicate (wrap64 ((wrap64 ((y487.length : Int) - 1)) - (t481.length : Int)) : Int).toNat 0) 0).bind fun t493 => ((decimal_pieces_trim.f k t493).bind fun t494 => ((decimal_pieces_text.f k t494).bind fun t497 => (some t497)))) else (none)) else (none))) else (none)) else (if t481.length < 17592186044416 then ((some (t481 ++ [0] : List Int)).bind fun y498 => (if 0 ≤ (wrap64 ((wrap64 ((y498.length : Int) - 1)) - (t484.length : Int))) then (if t484.length + (wrap64 ((wrap64 ((y498.length : Int) - 1)) - (t484.length : Int)) : Int).toNat < 17592186044416 then ((decimal_pieces_back.f k y498 (t484 ++ List.replicate (wrap64 ((wrap64 ((y498.length : Int) - 1)) - (t484.length : Int)) : Int).toNat 0) 0).bind fun t504 => ((decimal_pieces_trim.f k t504).bind fun t505 => ((decimal_pieces_text.f k t505).bind fun t508 => (some t508)))) else (none)) else (none))) else (none)))))) = some r := H
  have A3 := Aside0.mk A30
  clear A30
  by_cases c4 : t479 = true
  · subst c4
    have H1 : ((decimal_Of.f (IntKind.u64.wrap (t477 + t478))).bind fun t480 => (some t480)) = some r := by rw [if_pos rfl] at H; exact H
    clear H
    have H := H1
    clear H1
    replace H := Option.bind_eq_some_iff.mp H
    obtain ⟨t480, A50, H⟩ := H
    replace H : (some t480) = some r := H
    have A5 := Aside0.mk A50
    clear A50
    obtain rfl := Option.some.inj H
    go_enter Tryd.func38, Tryd.ntmps38
    go_wp2_with (first | ((with_reducible refine gate_callee (f := 44) rfl ?_); refine goesL_ (some 13) rfl rfl Tryd.func44 (by kernel_rfl) rfl #[.string a0, .string a1] rfl mq ?_; (with_reducible refine (decimal_both.calls (hT := HT.out.below bq) k a0 a1 t477 t478 true _ A3.out).mono ?_); rintro e w6 ⟨rfl, hb⟩; refine ⟨_, rfl, ?_⟩; replace HB := Aside0.mk (below_step bq hb); (try clear hb); (try clear hb2); (try clear hk); (try clear hi)) | ((with_reducible refine gate_callee (f := 14) rfl ?_); refine goesL_ (some 21) rfl rfl Tryd.func14 (by kernel_rfl) rfl #[.int .u64 (IntKind.u64.wrap (t477 + t478))] rfl mq ?_; (with_reducible refine (decimal_Of.calls (hT := HT.out.below bq) (IntKind.u64.wrap (t477 + t478)) t480 _ A5.out).mono ?_); rintro e w7 ⟨rfl, hb⟩; refine ⟨_, rfl, ?_⟩; replace HB := Aside0.mk (below_step bq hb); (try clear hb); (try clear hb2); (try clear hk); (try clear hi)))
    go_ret
    exact ⟨eq_, bq⟩
  · replace c4 := Bool.eq_false_iff.mpr c4
    subst c4
    have H1 : ((decimal_cut.f k a0).bind fun t481 => ((decimal_cut.f k a1).bind fun t484 => (if (t481.length : Int) < (t484.length : Int) then (if t484.length < 17592186044416 then ((some (t484 ++ [0] : List Int)).bind fun y487 => (if 0 ≤ (wrap64 ((wrap64 ((y487.length : Int) - 1)) - (t481.length : Int))) then (if t481.length + (wrap64 ((wrap64 ((y487.length : Int) - 1)) - (t481.length : Int)) : Int).toNat < 17592186044416 then ((decimal_pieces_back.f k y487 (t481 ++ List.replicate (wrap64 ((wrap64 ((y487.length : Int) - 1)) - (t481.length : Int)) : Int).toNat 0) 0).bind fun t493 => ((decimal_pieces_trim.f k t493).bind fun t494 => ((decimal_pieces_text.f k t494).bind fun t497 => (some t497)))) else (none)) else (none))) else (none)) else (if t481.length < 17592186044416 then ((some (t481 ++ [0] : List Int)).bind fun y498 => (if 0 ≤ (wrap64 ((wrap64 ((y498.length : Int) - 1)) - (t484.length : Int))) then (if t484.length + (wrap64 ((wrap64 ((y498.length : Int) - 1)) - (t484.length : Int)) : Int).toNat < 17592186044416 then ((decimal_pieces_back.f k y498 (t484 ++ List.replicate (wrap64 ((wrap64 ((y498.length : Int) - 1)) - (t484.length : Int)) : Int).toNat 0) 0).bind fun t504 => ((decimal_pieces_trim.f k t504).bind fun t505 => ((decimal_pieces_text.f k t505).bind fun t508 => (some t508)))) else (none)) else (none))) else (none))))) = some r := by rw [if_neg (show ¬ (false = true) by decide)] at H; exact H
    clear H
    have H := H1
    clear H1
    replace H := Option.bind_eq_some_iff.mp H
    obtain ⟨t481, A80, H⟩ := H
    replace H : ((decimal_cut.f k a1).bind fun t484 => (if (t481.length : Int) < (t484.length : Int) then (if t484.length < 17592186044416 then ((some (t484 ++ [0] : List Int)).bind fun y487 => (if 0 ≤ (wrap64 ((wrap64 ((y487.length : Int) - 1)) - (t481.length : Int))) then (if t481.length + (wrap64 ((wrap64 ((y487.length : Int) - 1)) - (t481.length : Int)) : Int).toNat < 17592186044416 then ((decimal_pieces_back.f k y487 (t481 ++ List.replicate (wrap64 ((wrap64 ((y487.length : Int) - 1)) - (t481.length : Int)) : Int).toNat 0) 0).bind fun t493 => ((decimal_pieces_trim.f k t493).bind fun t494 => ((decimal_pieces_text.f k t494).bind fun t497 => (some t497)))) else (none)) else (none))) else (none)) else (if t481.length < 17592186044416 then ((some (t481 ++ [0] : List Int)).bind fun y498 => (if 0 ≤ (wrap64 ((wrap64 ((y498.length : Int) - 1)) - (t484.length : Int))) then (if t484.length + (wrap64 ((wrap64 ((y498.length : Int) - 1)) - (t484.length : Int)) : Int).toNat < 17592186044416 then ((decimal_pieces_back.f k y498 (t484 ++ List.replicate (wrap64 ((wrap64 ((y498.length : Int) - 1)) - (t484.length : Int)) : Int).toNat 0) 0).bind fun t504 => ((decimal_pieces_trim.f k t504).bind fun t505 => ((decimal_pieces_text.f k t505).bind fun t508 => (some t508)))) else (none)) else (none))) else (none)))) = some r := H
    have A8 := Aside0.mk A80
    clear A80
    replace H := Option.bind_eq_some_iff.mp H
    obtain ⟨t484, A90, H⟩ := H
    replace H : (if (t481.length : Int) < (t484.length : Int) then (if t484.length < 17592186044416 then ((some (t484 ++ [0] : List Int)).bind fun y487 => (if 0 ≤ (wrap64 ((wrap64 ((y487.length : Int) - 1)) - (t481.length : Int))) then (if t481.length + (wrap64 ((wrap64 ((y487.length : Int) - 1)) - (t481.length : Int)) : Int).toNat < 17592186044416 then ((decimal_pieces_back.f k y487 (t481 ++ List.replicate (wrap64 ((wrap64 ((y487.length : Int) - 1)) - (t481.length : Int)) : Int).toNat 0) 0).bind fun t493 => ((decimal_pieces_trim.f k t493).bind fun t494 => ((decimal_pieces_text.f k t494).bind fun t497 => (some t497)))) else (none)) else (none))) else (none)) else (if t481.length < 17592186044416 then ((some (t481 ++ [0] : List Int)).bind fun y498 => (if 0 ≤ (wrap64 ((wrap64 ((y498.length : Int) - 1)) - (t484.length : Int))) then (if t484.length + (wrap64 ((wrap64 ((y498.length : Int) - 1)) - (t484.length : Int)) : Int).toNat < 17592186044416 then ((decimal_pieces_back.f k y498 (t484 ++ List.replicate (wrap64 ((wrap64 ((y498.length : Int) - 1)) - (t484.length : Int)) : Int).toNat 0) 0).bind fun t504 => ((decimal_pieces_trim.f k t504).bind fun t505 => ((decimal_pieces_text.f k t505).bind fun t508 => (some t508)))) else (none)) else (none))) else (none))) = some r := H
    have A9 := Aside0.mk A90
    clear A90
    by_cases c10 : (t481.length : Int) < (t484.length : Int)
    · rw [if_pos c10] at H
      have c10b0 : decide ((t481.length : Int) < (t484.length : Int)) = true := decide_eq_true c10
      have c10b1 : decide (t481.length < t484.length) = true := decide_eq_true (Int.ofNat_lt.mp c10)
      clear c10
      by_cases c11 : t484.length < 17592186044416
      · rw [if_pos c11] at H
        have LMc11 := Aside0.mk c11
        clear c11
        obtain ⟨y487, hy487⟩ : ∃ y_ : List Int, y_ = (t484 ++ [0]) := ⟨_, rfl⟩
        replace H : (if 0 ≤ (wrap64 ((wrap64 ((y487.length : Int) - 1)) - (t481.length : Int))) then (if t481.length + (wrap64 ((wrap64 ((y487.length : Int) - 1)) - (t481.length : Int)) : Int).toNat < 17592186044416 then ((decimal_pieces_back.f k y487 (t481 ++ List.replicate (wrap64 ((wrap64 ((y487.length : Int) - 1)) - (t481.length : Int)) : Int).toNat 0) 0).bind fun t493 => ((decimal_pieces_trim.f k t493).bind fun t494 => ((decimal_pieces_text.f k t494).bind fun t497 => (some t497)))) else (none)) else (none)) = some r := by first | (rw [hy487]; with_reducible exact H) | (have H2_ := (Option.bind_some _ _).symm.trans H; rw [hy487]; with_reducible exact H2_) | (have H2_ := (Option.bind_some _ _).symm.trans H; with_reducible exact H2_) | with_reducible exact H | (rw [hy487]; exact H) | exact H
        have Ny487 := Aside0.mk hy487
        clear hy487
        obtain ⟨ji12, hji12⟩ : ∃ j_ : Int, (wrap64 ((wrap64 ((y487.length : Int) - 1)) - (t481.length : Int))) = j_ := ⟨_, rfl⟩
        replace H : (if 0 ≤ (ji12) then (if t481.length + (ji12 : Int).toNat < 17592186044416 then ((decimal_pieces_back.f k y487 (t481 ++ List.replicate (ji12 : Int).toNat 0) 0).bind fun t493 => ((decimal_pieces_trim.f k t493).bind fun t494 => ((decimal_pieces_text.f k t494).bind fun t497 => (some t497)))) else (none)) else (none)) = some r := by first | (rw [hji12] at H; exact H) | (simp only [hji12] at H ⊢; exact H)
        (try rw [hji12] at A3)
        (try rw [hji12] at A8)
        (try rw [hji12] at A9)
        have hji12w : (IntKind.i64.wrap ((wrap64 ((y487.length : Int) - 1)) - (t481.length : Int))) = ji12 := (i64_w _).trans hji12
        by_cases c13 : 0 ≤ (ji12)
        · rw [if_pos c13] at H
          have c13b0 := eq_true c13
          have c13b1 : decide (0 ≤ (ji12)) = true := decide_eq_true c13
          clear c13
          by_cases c14 : t481.length + (ji12 : Int).toNat < 17592186044416
          · rw [if_pos c14] at H
            have LMc14 := Aside0.mk c14
            clear c14
            obtain ⟨y490, hy490⟩ : ∃ y_ : List Int, y_ = (t481 ++ List.replicate (ji12 : Int).toNat 0) := ⟨_, rfl⟩
            replace H : ((decimal_pieces_back.f k y487 y490 0).bind fun t493 => ((decimal_pieces_trim.f k t493).bind fun t494 => ((decimal_pieces_text.f k t494).bind fun t497 => (some t497)))) = some r := by first | (rw [hy490]; with_reducible exact H) | (have H2_ := (Option.bind_some _ _).symm.trans H; rw [hy490]; with_reducible exact H2_) | (have H2_ := (Option.bind_some _ _).symm.trans H; with_reducible exact H2_) | with_reducible exact H | (rw [hy490]; exact H) | exact H
            have Ny490 := Aside0.mk hy490
            clear hy490
            replace H := Option.bind_eq_some_iff.mp H
            obtain ⟨t493, A150, H⟩ := H
            replace H : ((decimal_pieces_trim.f k t493).bind fun t494 => ((decimal_pieces_text.f k t494).bind fun t497 => (some t497))) = some r := H
            have A15 := Aside0.mk A150
            clear A150
            replace H := Option.bind_eq_some_iff.mp H
            obtain ⟨t494, A160, H⟩ := H
            replace H : ((decimal_pieces_text.f k t494).bind fun t497 => (some t497)) = some r := H
            have A16 := Aside0.mk A160
            clear A160
            replace H := Option.bind_eq_some_iff.mp H
            obtain ⟨t497, A170, H⟩ := H
            replace H : (some t497) = some r := H
            have A17 := Aside0.mk A170
            clear A170
            obtain rfl := Option.some.inj H
            go_enter Tryd.func38, Tryd.ntmps38
            go_wp2_with (first | ((with_reducible refine gate_callee (f := 44) rfl ?_); refine goesL_ (some 13) rfl rfl Tryd.func44 (by kernel_rfl) rfl #[.string a0, .string a1] rfl mq ?_; (with_reducible refine (decimal_both.calls (hT := HT.out.below bq) k a0 a1 t477 t478 false _ A3.out).mono ?_); rintro e w18 ⟨rfl, hb⟩; refine ⟨_, rfl, ?_⟩; replace HB := Aside0.mk (below_step bq hb); (try clear hb); (try clear hb2); (try clear hk); (try clear hi)) | ((with_reducible refine gate_callee (f := 45) rfl ?_); refine goesL_ (some 23) rfl rfl Tryd.func45 (by kernel_rfl) rfl #[.string a0] rfl mq ?_; (with_reducible refine (decimal_cut.calls k a0 t481 _ A8.out).mono ?_); rintro e w19 ⟨v482, rfl, ho0, hb⟩; refine ⟨_, rfl, ?_⟩; have n0_ := Aside0.mk (Kd.R_lower ho0 (below_size bq)); have n1_ := Aside0.mk (below_step bq hb); clear HB; have HO483 := n0_; have HB := n1_; clear n0_ n1_; (try clear hb); (try clear hb2); (try clear hk); (try clear hi); (try clear ho0)) | ((with_reducible refine gate_callee (f := 45) rfl ?_); refine goesL_ (some 25) rfl rfl Tryd.func45 (by kernel_rfl) rfl #[.string a1] rfl mq ?_; (with_reducible refine (decimal_cut.calls k a1 t484 _ A9.out).mono ?_); rintro e w20 ⟨v485, rfl, ho0, hb⟩; refine ⟨_, rfl, ?_⟩; have n0_ := Aside0.mk (Kd.R_elder' (by (with_reducible repeat (first | apply Kd.R_alloc | apply Kd.R_drewN | apply Kd.R_drew)); exact HO483.out) (Kd.R_base ho0) hb); have n1_ := Aside0.mk (Kd.R_lower (Kd.R_new' ho0 (Kd.R_lt (by (with_reducible repeat (first | apply Kd.R_alloc | apply Kd.R_drewN | apply Kd.R_drew)); exact HO483.out))) (below_size bq)); have n2_ := Aside0.mk (below_step bq hb); clear HO483; clear HB; have HO483 := n0_; have HO486 := n1_; have HB := n2_; clear n0_ n1_ n2_; (try clear hb); (try clear hb2); (try clear hk); (try clear hi); (try clear ho0); obtain ⟨Ao21, co21, eo21⟩ := Kd.R_slice HO483.out; subst eo21; obtain ⟨Ao22, co22, eo22⟩ := Kd.R_slice HO486.out; subst eo22) | ((with_reducible refine gate_builtin (b := .append) (xs := #[.tmp 33, .tmp 34]) rfl ?_); at_builtin; refine Kd.R_append (Kd.int .u64) (w0 := w) w.heap.size rfl (.tmp 33) (.tmp 34) 62 22 (.int .u64 0) 8 rfl Tryd.underlying62 info22 rfl (by decide) (by omega) (.slice Ao22 t484.length co22) t484 0 [.int .u64 0] (fun k_ => some k_ ≠ (.slice Ao21 t481.length co21 : Value).ownBlock) (fun _ => False) rfl rfl ?aP (fun _ hk => hk.elim) ?aF ?aO ?aB ?aS ?aL ?_; (case aP => exact rfl); (case aB => exact bq); (case aF => exact (fun k_ hk => Kd.fresh' (Kd.R_lt (by (with_reducible repeat (first | apply Kd.R_alloc | apply Kd.R_drewN | apply Kd.R_drew)); exact HO483.out)) k_ hk)); (case aO => exact (by (with_reducible repeat (first | apply Kd.R_alloc | apply Kd.R_drewN | apply Kd.R_drew)); exact Kd.R_mono HO486.out (fun _ hk => hk.2))); (case aS => exact (below_size bq)); (case aL => have := LMc11.out; omega); intro v488 w23 ho hb hg hat; rw [← Ny487.out] at ho; have n0_ := Aside0.mk (Kd.R_after (ok := (fun _ => True)) (by (with_reducible repeat (first | apply Kd.R_alloc | apply Kd.R_drewN | apply Kd.R_drew)); exact HO483.out) hg hat); have n1_ := Aside0.mk (hb); have n2_ := Aside0.mk (ho); clear HO483; clear HB; clear HO486; have HO483 := n0_; have HB := n1_; have HO489 := n2_; clear n0_ n1_ n2_; clear ho hb hg hat; obtain ⟨Ao24, co24, eo24⟩ := Kd.R_slice HO489.out; subst eo24) | (at_builtin; refine Kd.R_append_zeros (Kd.int .u64) (w0 := w) w.heap.size rfl (.tmp 37) (.tmp 43) 62 3 22 (.int .u64 0) 8 rfl Tryd.underlying62 Tryd.underlying3 info22 rfl (by decide) (by omega) (.slice Ao21 t481.length co21) t481 0 (ji12 : Int) (fun k_ => some k_ ≠ (.slice Ao24 y487.length co24 : Value).ownBlock) rfl rfl rfl ?aF ?aO (of_decide_eq_true (by first | (with_reducible assumption) | assumption)) ?aB ?aS ?aL ?_; (case aB => exact bq); (case aF => exact (fun k_ hk => Kd.fresh' (Kd.R_lt (by (with_reducible repeat (first | apply Kd.R_alloc | apply Kd.R_drewN | apply Kd.R_drew)); exact HO489.out)) k_ hk)); (case aO => exact (by (with_reducible repeat (first | apply Kd.R_alloc | apply Kd.R_drewN | apply Kd.R_drew)); exact Kd.R_mono HO483.out (fun _ hk => hk.2))); (case aS => exact (below_size bq)); (case aL => have := LMc14.out; omega); intro v491 w25 ho hb hg hat; rw [← Ny490.out] at ho; have n0_ := Aside0.mk (Kd.R_after (ok := (fun _ => True)) (by (with_reducible repeat (first | apply Kd.R_alloc | apply Kd.R_drewN | apply Kd.R_drew)); exact Kd.R_mono HO489.out (fun _ hk => ⟨trivial, hk⟩)) hg hat); have n1_ := Aside0.mk (hb); have n2_ := Aside0.mk (ho); clear HO489; clear HB; clear HO483; have HO489 := n0_; have HB := n1_; have HO492 := n2_; clear n0_ n1_ n2_; clear ho hb hg hat; obtain ⟨Ao26, co26, eo26⟩ := Kd.R_slice HO492.out; subst eo26) | ((with_reducible refine gate_callee (f := 56) rfl ?_); refine goesL_ (some 45) rfl rfl Tryd.func56 (by kernel_rfl) rfl #[.slice Ao24 y487.length co24, .slice Ao26 y490.length co26, .int .i64 0] rfl mq ?_; (with_reducible refine (decimal_pieces_back.calls k (fun k_ => some k_ = (.slice Ao24 y487.length co24 : Value).ownBlock) (.slice Ao24 y487.length co24) y487 _ _ y490 0 t493 w _ ?side1 ?side2 ?side3 ?side4 A15.out).mono ?_); (case side1 => exact bq); (case side2 => exact Kd.R_tight rfl HO489.out); (case side3 => exact Kd.C_kept_own (HO492.out) (fun k_ hk_ hs_ => (hk_) hs_)); (case side4 => exact (Kd.R_reads' HO492.out).2.1); rintro e w27 ⟨rfl, hy0, hb, hkp⟩; refine ⟨_, rfl, ?_⟩; have n0_ := Aside0.mk (Kd.R_reok rfl hy0 (fun k_ e_ => HO489.out.1 k_ e_)); have n1_ := Aside0.mk (Kd.R_mono (ok' := fun k_ => some k_ ≠ (.slice Ao24 y487.length co24 : Value).ownBlock) (Kd.R_keptB (HO492.out) hkp (fun k_ hk_ hs_ => (hk_) hs_)) (fun k_ hk_ => hk_.1)); have n2_ := Aside0.mk (hb); clear HO489; clear HO492; clear HB; have HO489 := n0_; have HO492 := n1_; have HB := n2_; clear n0_ n1_ n2_; (try clear hb); (try clear hkp); (try clear hy0)) | ((with_reducible refine gate_callee (f := 57) rfl ?_); refine goesL_ (some 47) rfl rfl Tryd.func57 (by kernel_rfl) rfl #[.slice Ao24 y487.length co24] rfl mq ?_; (with_reducible refine (decimal_pieces_trim.calls k (fun k_ => some k_ = (.slice Ao24 y487.length co24 : Value).ownBlock) (.slice Ao24 y487.length co24) t493 t494 w _ ?side1 ?side2 A16.out).mono ?_); (case side1 => exact bq); (case side2 => exact Kd.R_tight rfl HO489.out); rintro e w28 ⟨v495, rfl, ho0, hb, hkp⟩; refine ⟨_, rfl, ?_⟩; have n0_ := Aside0.mk (Kd.R_mono (ok' := fun k_ => some k_ ≠ (v495 : Value).ownBlock) (Kd.R_keptB (HO492.out) hkp (fun k_ hk_ hs_ => (hk_) hs_)) (fun k_ hk_ => fun e_ => Or.elim (ho0.1 k_ e_.symm) (fun hs_ => hk_.2.1 hs_) (fun hn_ => Nat.not_le.2 hk_.2.2 hn_))); have n1_ := Aside0.mk (Kd.R_mono (ok' := fun k_ => some k_ ≠ (.slice Ao26 y490.length co26 : Value).ownBlock) ho0 (fun k_ hk_ => Or.elim hk_ (fun hs_ => fun e_ => (((HO492.out).1 k_ e_.symm)) hs_) (fun hn_ => (Kd.fresh' (Kd.R_lt (by (with_reducible repeat (first | apply Kd.R_alloc | apply Kd.R_drewN | apply Kd.R_drew)); exact HO492.out)) k_ hn_)))); have n2_ := Aside0.mk (hb); clear HO492; clear HB; clear HO489; have HO492 := n0_; have HO496 := n1_; have HB := n2_; clear n0_ n1_ n2_; (try clear hb); (try clear hkp); (try clear ho0); obtain ⟨Ao29, co29, eo29⟩ := Kd.R_slice HO496.out; subst eo29) | ((with_reducible refine gate_callee (f := 48) rfl ?_); refine goesL_ (some 48) rfl rfl Tryd.func48 (by kernel_rfl) rfl #[.slice Ao29 t494.length co29] rfl mq ?_; (with_reducible refine (decimal_pieces_text.calls k _ _ t494 t497 _ ?side1 ?side2 A17.out).mono ?_); (case side1 => repeat (first | exact (Kd.R_reads' HO496.out).2.2 | (with_reducible refine Kd.C_alloc ?_ _) | (with_reducible refine Kd.C_drewN ?_ _) | (with_reducible refine Kd.C_drew ?_))); (case side2 => exact (Kd.R_reads' HO496.out).2.1); rintro e w30 ⟨rfl, hb⟩; refine ⟨_, rfl, ?_⟩; have n0_ := Aside0.mk (Kd.R_below (by (with_reducible repeat (first | apply Kd.R_alloc | apply Kd.R_drewN | apply Kd.R_drew)); exact HO492.out) hb); have n1_ := Aside0.mk (Kd.R_below (by (with_reducible repeat (first | apply Kd.R_alloc | apply Kd.R_drewN | apply Kd.R_drew)); exact HO496.out) hb); have n2_ := Aside0.mk (below_step bq hb); clear HO492; clear HO496; clear HB; have HO492 := n0_; have HO496 := n1_; have HB := n2_; clear n0_ n1_ n2_; (try clear hb); (try clear hb2); (try clear hk); (try clear hi)))
            go_ret
            exact ⟨by first | rfl | (simp [errW_none, errW_some] <;> rfl) | (simp only [← hji12]; first | rfl | (simp [errW_none, errW_some] <;> rfl)) | (simp [*, errW_none, errW_some] <;> rfl), bq⟩
          · rw [if_neg c14] at H
            exact absurd H (by simp)
        · rw [if_neg c13] at H
          exact absurd H (by simp)
      · rw [if_neg c11] at H
        exact absurd H (by simp)
    · rw [if_neg c10] at H
      have c10b0 : decide ((t481.length : Int) < (t484.length : Int)) = false := decide_eq_false c10
      have c10b1 : decide (t481.length < t484.length) = false := decide_eq_false (fun h => c10 (Int.ofNat_lt.mpr h))
      clear c10
      by_cases c31 : t481.length < 17592186044416
      · rw [if_pos c31] at H
        have LMc31 := Aside0.mk c31
        clear c31
        obtain ⟨y498, hy498⟩ : ∃ y_ : List Int, y_ = (t481 ++ [0]) := ⟨_, rfl⟩
        replace H : (if 0 ≤ (wrap64 ((wrap64 ((y498.length : Int) - 1)) - (t484.length : Int))) then (if t484.length + (wrap64 ((wrap64 ((y498.length : Int) - 1)) - (t484.length : Int)) : Int).toNat < 17592186044416 then ((decimal_pieces_back.f k y498 (t484 ++ List.replicate (wrap64 ((wrap64 ((y498.length : Int) - 1)) - (t484.length : Int)) : Int).toNat 0) 0).bind fun t504 => ((decimal_pieces_trim.f k t504).bind fun t505 => ((decimal_pieces_text.f k t505).bind fun t508 => (some t508)))) else (none)) else (none)) = some r := by first | (rw [hy498]; with_reducible exact H) | (have H2_ := (Option.bind_some _ _).symm.trans H; rw [hy498]; with_reducible exact H2_) | (have H2_ := (Option.bind_some _ _).symm.trans H; with_reducible exact H2_) | with_reducible exact H | (rw [hy498]; exact H) | exact H
        have Ny498 := Aside0.mk hy498
        clear hy498
        obtain ⟨ji32, hji32⟩ : ∃ j_ : Int, (wrap64 ((wrap64 ((y498.length : Int) - 1)) - (t484.length : Int))) = j_ := ⟨_, rfl⟩
        replace H : (if 0 ≤ (ji32) then (if t484.length + (ji32 : Int).toNat < 17592186044416 then ((decimal_pieces_back.f k y498 (t484 ++ List.replicate (ji32 : Int).toNat 0) 0).bind fun t504 => ((decimal_pieces_trim.f k t504).bind fun t505 => ((decimal_pieces_text.f k t505).bind fun t508 => (some t508)))) else (none)) else (none)) = some r := by first | (rw [hji32] at H; exact H) | (simp only [hji32] at H ⊢; exact H)
        (try rw [hji32] at A3)
        (try rw [hji32] at A8)
        (try rw [hji32] at A9)
        have hji32w : (IntKind.i64.wrap ((wrap64 ((y498.length : Int) - 1)) - (t484.length : Int))) = ji32 := (i64_w _).trans hji32
        by_cases c33 : 0 ≤ (ji32)
        · rw [if_pos c33] at H
          have c33b0 := eq_true c33
          have c33b1 : decide (0 ≤ (ji32)) = true := decide_eq_true c33
          clear c33
          by_cases c34 : t484.length + (ji32 : Int).toNat < 17592186044416
          · rw [if_pos c34] at H
            have LMc34 := Aside0.mk c34
            clear c34
            obtain ⟨y501, hy501⟩ : ∃ y_ : List Int, y_ = (t484 ++ List.replicate (ji32 : Int).toNat 0) := ⟨_, rfl⟩
            replace H : ((decimal_pieces_back.f k y498 y501 0).bind fun t504 => ((decimal_pieces_trim.f k t504).bind fun t505 => ((decimal_pieces_text.f k t505).bind fun t508 => (some t508)))) = some r := by first | (rw [hy501]; with_reducible exact H) | (have H2_ := (Option.bind_some _ _).symm.trans H; rw [hy501]; with_reducible exact H2_) | (have H2_ := (Option.bind_some _ _).symm.trans H; with_reducible exact H2_) | with_reducible exact H | (rw [hy501]; exact H) | exact H
            have Ny501 := Aside0.mk hy501
            clear hy501
            replace H := Option.bind_eq_some_iff.mp H
            obtain ⟨t504, A350, H⟩ := H
            replace H : ((decimal_pieces_trim.f k t504).bind fun t505 => ((decimal_pieces_text.f k t505).bind fun t508 => (some t508))) = some r := H
            have A35 := Aside0.mk A350
            clear A350
            replace H := Option.bind_eq_some_iff.mp H
            obtain ⟨t505, A360, H⟩ := H
            replace H : ((decimal_pieces_text.f k t505).bind fun t508 => (some t508)) = some r := H
            have A36 := Aside0.mk A360
            clear A360
            replace H := Option.bind_eq_some_iff.mp H
            obtain ⟨t508, A370, H⟩ := H
            replace H : (some t508) = some r := H
            have A37 := Aside0.mk A370
            clear A370
            obtain rfl := Option.some.inj H
            go_enter Tryd.func38, Tryd.ntmps38
            go_wp2_with (first | ((with_reducible refine gate_callee (f := 44) rfl ?_); refine goesL_ (some 13) rfl rfl Tryd.func44 (by kernel_rfl) rfl #[.string a0, .string a1] rfl mq ?_; (with_reducible refine (decimal_both.calls (hT := HT.out.below bq) k a0 a1 t477 t478 false _ A3.out).mono ?_); rintro e w38 ⟨rfl, hb⟩; refine ⟨_, rfl, ?_⟩; replace HB := Aside0.mk (below_step bq hb); (try clear hb); (try clear hb2); (try clear hk); (try clear hi)) | ((with_reducible refine gate_callee (f := 45) rfl ?_); refine goesL_ (some 23) rfl rfl Tryd.func45 (by kernel_rfl) rfl #[.string a0] rfl mq ?_; (with_reducible refine (decimal_cut.calls k a0 t481 _ A8.out).mono ?_); rintro e w39 ⟨v482, rfl, ho0, hb⟩; refine ⟨_, rfl, ?_⟩; have n0_ := Aside0.mk (Kd.R_lower ho0 (below_size bq)); have n1_ := Aside0.mk (below_step bq hb); clear HB; have HO483 := n0_; have HB := n1_; clear n0_ n1_; (try clear hb); (try clear hb2); (try clear hk); (try clear hi); (try clear ho0)) | ((with_reducible refine gate_callee (f := 45) rfl ?_); refine goesL_ (some 25) rfl rfl Tryd.func45 (by kernel_rfl) rfl #[.string a1] rfl mq ?_; (with_reducible refine (decimal_cut.calls k a1 t484 _ A9.out).mono ?_); rintro e w40 ⟨v485, rfl, ho0, hb⟩; refine ⟨_, rfl, ?_⟩; have n0_ := Aside0.mk (Kd.R_elder' (by (with_reducible repeat (first | apply Kd.R_alloc | apply Kd.R_drewN | apply Kd.R_drew)); exact HO483.out) (Kd.R_base ho0) hb); have n1_ := Aside0.mk (Kd.R_lower (Kd.R_new' ho0 (Kd.R_lt (by (with_reducible repeat (first | apply Kd.R_alloc | apply Kd.R_drewN | apply Kd.R_drew)); exact HO483.out))) (below_size bq)); have n2_ := Aside0.mk (below_step bq hb); clear HO483; clear HB; have HO483 := n0_; have HO486 := n1_; have HB := n2_; clear n0_ n1_ n2_; (try clear hb); (try clear hb2); (try clear hk); (try clear hi); (try clear ho0); obtain ⟨Ao41, co41, eo41⟩ := Kd.R_slice HO483.out; subst eo41; obtain ⟨Ao42, co42, eo42⟩ := Kd.R_slice HO486.out; subst eo42) | ((with_reducible refine gate_builtin (b := .append) (xs := #[.tmp 33, .tmp 34]) rfl ?_); at_builtin; refine Kd.R_append (Kd.int .u64) (w0 := w) w.heap.size rfl (.tmp 33) (.tmp 34) 62 22 (.int .u64 0) 8 rfl Tryd.underlying62 info22 rfl (by decide) (by omega) (.slice Ao41 t481.length co41) t481 0 [.int .u64 0] (fun k_ => some k_ ≠ (.slice Ao42 t484.length co42 : Value).ownBlock) (fun _ => False) rfl rfl ?aP (fun _ hk => hk.elim) ?aF ?aO ?aB ?aS ?aL ?_; (case aP => exact rfl); (case aB => exact bq); (case aF => exact (fun k_ hk => Kd.fresh' (Kd.R_lt (by (with_reducible repeat (first | apply Kd.R_alloc | apply Kd.R_drewN | apply Kd.R_drew)); exact HO486.out)) k_ hk)); (case aO => exact (by (with_reducible repeat (first | apply Kd.R_alloc | apply Kd.R_drewN | apply Kd.R_drew)); exact Kd.R_mono HO483.out (fun _ hk => hk.2))); (case aS => exact (below_size bq)); (case aL => have := LMc31.out; omega); intro v499 w43 ho hb hg hat; rw [← Ny498.out] at ho; have n0_ := Aside0.mk (Kd.R_after (ok := (fun _ => True)) (by (with_reducible repeat (first | apply Kd.R_alloc | apply Kd.R_drewN | apply Kd.R_drew)); exact HO486.out) hg hat); have n1_ := Aside0.mk (hb); have n2_ := Aside0.mk (ho); clear HO486; clear HB; clear HO483; have HO486 := n0_; have HB := n1_; have HO500 := n2_; clear n0_ n1_ n2_; clear ho hb hg hat; obtain ⟨Ao44, co44, eo44⟩ := Kd.R_slice HO500.out; subst eo44) | (at_builtin; refine Kd.R_append_zeros (Kd.int .u64) (w0 := w) w.heap.size rfl (.tmp 37) (.tmp 43) 62 3 22 (.int .u64 0) 8 rfl Tryd.underlying62 Tryd.underlying3 info22 rfl (by decide) (by omega) (.slice Ao42 t484.length co42) t484 0 (ji32 : Int) (fun k_ => some k_ ≠ (.slice Ao44 y498.length co44 : Value).ownBlock) rfl rfl rfl ?aF ?aO (of_decide_eq_true (by first | (with_reducible assumption) | assumption)) ?aB ?aS ?aL ?_; (case aB => exact bq); (case aF => exact (fun k_ hk => Kd.fresh' (Kd.R_lt (by (with_reducible repeat (first | apply Kd.R_alloc | apply Kd.R_drewN | apply Kd.R_drew)); exact HO500.out)) k_ hk)); (case aO => exact (by (with_reducible repeat (first | apply Kd.R_alloc | apply Kd.R_drewN | apply Kd.R_drew)); exact Kd.R_mono HO486.out (fun _ hk => hk.2))); (case aS => exact (below_size bq)); (case aL => have := LMc34.out; omega); intro v502 w45 ho hb hg hat; rw [← Ny501.out] at ho; have n0_ := Aside0.mk (Kd.R_after (ok := (fun _ => True)) (by (with_reducible repeat (first | apply Kd.R_alloc | apply Kd.R_drewN | apply Kd.R_drew)); exact Kd.R_mono HO500.out (fun _ hk => ⟨trivial, hk⟩)) hg hat); have n1_ := Aside0.mk (hb); have n2_ := Aside0.mk (ho); clear HO500; clear HB; clear HO486; have HO500 := n0_; have HB := n1_; have HO503 := n2_; clear n0_ n1_ n2_; clear ho hb hg hat; obtain ⟨Ao46, co46, eo46⟩ := Kd.R_slice HO503.out; subst eo46) | ((with_reducible refine gate_callee (f := 56) rfl ?_); refine goesL_ (some 45) rfl rfl Tryd.func56 (by kernel_rfl) rfl #[.slice Ao44 y498.length co44, .slice Ao46 y501.length co46, .int .i64 0] rfl mq ?_; (with_reducible refine (decimal_pieces_back.calls k (fun k_ => some k_ = (.slice Ao44 y498.length co44 : Value).ownBlock) (.slice Ao44 y498.length co44) y498 _ _ y501 0 t504 w _ ?side1 ?side2 ?side3 ?side4 A35.out).mono ?_); (case side1 => exact bq); (case side2 => exact Kd.R_tight rfl HO500.out); (case side3 => exact Kd.C_kept_own (HO503.out) (fun k_ hk_ hs_ => (hk_) hs_)); (case side4 => exact (Kd.R_reads' HO503.out).2.1); rintro e w47 ⟨rfl, hy0, hb, hkp⟩; refine ⟨_, rfl, ?_⟩; have n0_ := Aside0.mk (Kd.R_reok rfl hy0 (fun k_ e_ => HO500.out.1 k_ e_)); have n1_ := Aside0.mk (Kd.R_mono (ok' := fun k_ => some k_ ≠ (.slice Ao44 y498.length co44 : Value).ownBlock) (Kd.R_keptB (HO503.out) hkp (fun k_ hk_ hs_ => (hk_) hs_)) (fun k_ hk_ => hk_.1)); have n2_ := Aside0.mk (hb); clear HO500; clear HO503; clear HB; have HO500 := n0_; have HO503 := n1_; have HB := n2_; clear n0_ n1_ n2_; (try clear hb); (try clear hkp); (try clear hy0)) | ((with_reducible refine gate_callee (f := 57) rfl ?_); refine goesL_ (some 47) rfl rfl Tryd.func57 (by kernel_rfl) rfl #[.slice Ao44 y498.length co44] rfl mq ?_; (with_reducible refine (decimal_pieces_trim.calls k (fun k_ => some k_ = (.slice Ao44 y498.length co44 : Value).ownBlock) (.slice Ao44 y498.length co44) t504 t505 w _ ?side1 ?side2 A36.out).mono ?_); (case side1 => exact bq); (case side2 => exact Kd.R_tight rfl HO500.out); rintro e w48 ⟨v506, rfl, ho0, hb, hkp⟩; refine ⟨_, rfl, ?_⟩; have n0_ := Aside0.mk (Kd.R_mono (ok' := fun k_ => some k_ ≠ (v506 : Value).ownBlock) (Kd.R_keptB (HO503.out) hkp (fun k_ hk_ hs_ => (hk_) hs_)) (fun k_ hk_ => fun e_ => Or.elim (ho0.1 k_ e_.symm) (fun hs_ => hk_.2.1 hs_) (fun hn_ => Nat.not_le.2 hk_.2.2 hn_))); have n1_ := Aside0.mk (Kd.R_mono (ok' := fun k_ => some k_ ≠ (.slice Ao46 y501.length co46 : Value).ownBlock) ho0 (fun k_ hk_ => Or.elim hk_ (fun hs_ => fun e_ => (((HO503.out).1 k_ e_.symm)) hs_) (fun hn_ => (Kd.fresh' (Kd.R_lt (by (with_reducible repeat (first | apply Kd.R_alloc | apply Kd.R_drewN | apply Kd.R_drew)); exact HO503.out)) k_ hn_)))); have n2_ := Aside0.mk (hb); clear HO503; clear HB; clear HO500; have HO503 := n0_; have HO507 := n1_; have HB := n2_; clear n0_ n1_ n2_; (try clear hb); (try clear hkp); (try clear ho0); obtain ⟨Ao49, co49, eo49⟩ := Kd.R_slice HO507.out; subst eo49) | ((with_reducible refine gate_callee (f := 48) rfl ?_); refine goesL_ (some 48) rfl rfl Tryd.func48 (by kernel_rfl) rfl #[.slice Ao49 t505.length co49] rfl mq ?_; (with_reducible refine (decimal_pieces_text.calls k _ _ t505 t508 _ ?side1 ?side2 A37.out).mono ?_); (case side1 => repeat (first | exact (Kd.R_reads' HO507.out).2.2 | (with_reducible refine Kd.C_alloc ?_ _) | (with_reducible refine Kd.C_drewN ?_ _) | (with_reducible refine Kd.C_drew ?_))); (case side2 => exact (Kd.R_reads' HO507.out).2.1); rintro e w50 ⟨rfl, hb⟩; refine ⟨_, rfl, ?_⟩; have n0_ := Aside0.mk (Kd.R_below (by (with_reducible repeat (first | apply Kd.R_alloc | apply Kd.R_drewN | apply Kd.R_drew)); exact HO503.out) hb); have n1_ := Aside0.mk (Kd.R_below (by (with_reducible repeat (first | apply Kd.R_alloc | apply Kd.R_drewN | apply Kd.R_drew)); exact HO507.out) hb); have n2_ := Aside0.mk (below_step bq hb); clear HO503; clear HO507; clear HB; have HO503 := n0_; have HO507 := n1_; have HB := n2_; clear n0_ n1_ n2_; (try clear hb); (try clear hb2); (try clear hk); (try clear hi)))
            go_ret
            exact ⟨by first | rfl | (simp [errW_none, errW_some] <;> rfl) | (simp only [← hji32]; first | rfl | (simp [errW_none, errW_some] <;> rfl)) | (simp [*, errW_none, errW_some] <;> rfl), bq⟩
          · rw [if_neg c34] at H
            exact absurd H (by simp)
        · rw [if_neg c33] at H
          exact absurd H (by simp)
      · rw [if_neg c31] at H
        exact absurd H (by simp)
def decimal_Sub.f (k : Nat) (a0 : ByteArray) (a1 : ByteArray) : Option (ByteArray × Int) := (decimal_Compare.f a0 a1).bind fun t525 => (if t525 < 0 then (some ((⟨#[]⟩ : ByteArray), 3)) else ((decimal_both.f k a0 a1).bind fun bt526 => (if bt526.2.2 = true then ((decimal_Of.f (IntKind.u64.wrap (bt526.1 - bt526.2.1))).bind fun t529 => (some (t529, 0))) else ((decimal_cut.f k a0).bind fun t530 => (if t530.length < 17592186044416 then ((some (t530 ++ [0] : List Int)).bind fun y533 => ((decimal_cut.f k a1).bind fun t536 => ((decimal_cut.f k a1).bind fun t539 => (if 0 ≤ (wrap64 ((wrap64 ((y533.length : Int) - 1)) - (t539.length : Int))) then (if t536.length + (wrap64 ((wrap64 ((y533.length : Int) - 1)) - (t539.length : Int)) : Int).toNat < 17592186044416 then ((decimal_pieces_take.f k y533 (t536 ++ List.replicate (wrap64 ((wrap64 ((y533.length : Int) - 1)) - (t539.length : Int)) : Int).toNat 0) 1 0).bind fun bt545 => ((decimal_pieces_trim.f k bt545.2).bind fun t547 => ((decimal_pieces_text.f k t547).bind fun t550 => (some (t550, 0))))) else (none)) else (none))))) else (none))))))
theorem decimal_Sub.mono : ∀ a0 a1 k, LeO (decimal_Sub.f k a0 a1) (decimal_Sub.f (k + 1) a0 a1) := by
  intro a0 a1 k
  unfold decimal_Sub.f
  repeat' first
      | (with_reducible exact decimal_both.mono _ _ _)
      | (with_reducible exact decimal_cut.mono _ _)
      | (with_reducible exact decimal_pieces_take.mono _ _ _ _ _)
      | (with_reducible exact decimal_pieces_text.mono _ _)
      | (with_reducible exact decimal_pieces_trim.mono _ _)
      | (with_reducible exact LeO.refl _)
      | (with_reducible exact LeO.none _)
      | (with_reducible refine LeO.ite ?_ ?_)
      | (with_reducible refine LeO.bind ?_ (fun _ => ?_))
      | exact decimal_both.mono _ _ _
      | exact decimal_cut.mono _ _
      | exact decimal_pieces_take.mono _ _ _ _ _
      | exact decimal_pieces_text.mono _ _
      | exact decimal_pieces_trim.mono _ _
      | exact LeO.none _
      | refine LeO.ite ?_ ?_
      | refine LeO.bind ?_ (fun _ => ?_)
set_option maxHeartbeats 8000000 in
set_option maxRecDepth 100000 in
theorem decimal_Sub.calls (k : Nat) (a0 : ByteArray) (a1 : ByteArray) (r1 : ByteArray) (r2 : Int) (w : World) (hT : Tab w) (h : decimal_Sub.f k a0 a1 = some (r1, r2)) :
    Calls Tryd.prog 39 #[.string a0, .string a1] w fun e w' => e = .returned (.tuple #[.string r1, .int .i64 r2]) ∧ Below w.heap.size w w' := by
  have HT := Aside0.mk hT
  clear hT
  have HB := Aside0.mk (Below.refl w.heap.size w)
  have H : ((decimal_Compare.f a0 a1).bind fun t525 => (if t525 < 0 then (some ((⟨#[]⟩ : ByteArray), 3)) else ((decimal_both.f k a0 a1).bind fun bt526 => (if bt526.2.2 = true then ((decimal_Of.f (IntKind.u64.wrap (bt526.1 - bt526.2.1))).bind fun t529 => (some (t529, 0))) else ((decimal_cut.f k a0).bind fun t530 => (if t530.length < 17592186044416 then ((some (t530 ++ [0] : List Int)).bind fun y533 => ((decimal_cut.f k a1).bind fun t536 => ((decimal_cut.f k a1).bind fun t539 => (if 0 ≤ (wrap64 ((wrap64 ((y533.length : Int) - 1)) - (t539.length : Int))) then (if t536.length + (wrap64 ((wrap64 ((y533.length : Int) - 1)) - (t539.length : Int)) : Int).toNat < 17592186044416 then ((decimal_pieces_take.f k y533 (t536 ++ List.replicate (wrap64 ((wrap64 ((y533.length : Int) - 1)) - (t539.length : Int)) : Int).toNat 0) 1 0).bind fun bt545 => ((decimal_pieces_trim.f k bt545.2).bind fun t547 => ((decimal_pieces_text.f k t547).bind fun t550 => (some (t550, 0))))) else (none)) else (none))))) else (none))))))) = some (r1, r2) := h
  clear h
  replace H := Option.bind_eq_some_iff.mp H
  obtain ⟨t525, A30, H⟩ := H
  replace H : (if t525 < 0 then (some ((⟨#[]⟩ : ByteArray), 3)) else ((decimal_both.f k a0 a1).bind fun bt526 => (if bt526.2.2 = true then ((decimal_Of.f (IntKind.u64.wrap (bt526.1 - bt526.2.1))).bind fun t529 => (some (t529, 0))) else ((decimal_cut.f k a0).bind fun t530 => (if t530.length < 17592186044416 then ((some (t530 ++ [0] : List Int)).bind fun y533 => ((decimal_cut.f k a1).bind fun t536 => ((decimal_cut.f k a1).bind fun t539 => (if 0 ≤ (wrap64 ((wrap64 ((y533.length : Int) - 1)) - (t539.length : Int))) then (if t536.length + (wrap64 ((wrap64 ((y533.length : Int) - 1)) - (t539.length : Int)) : Int).toNat < 17592186044416 then ((decimal_pieces_take.f k y533 (t536 ++ List.replicate (wrap64 ((wrap64 ((y533.length : Int) - 1)) - (t539.length : Int)) : Int).toNat 0) 1 0).bind fun bt545 => ((decimal_pieces_trim.f k bt545.2).bind fun t547 => ((decimal_pieces_text.f k t547).bind fun t550 => (some (t550, 0))))) else (none)) else (none))))) else (none)))))) = some (r1, r2) := H
  have A3 := Aside0.mk A30
  clear A30
  by_cases c4 : t525 < 0
  · rw [if_pos c4] at H
    have c4b0 : decide (t525 < 0) = true := decide_eq_true c4
    clear c4
    simp only [Option.some.injEq, Prod.mk.injEq] at H
    obtain ⟨rfl, rfl⟩ := H
    go_enter Tryd.func39, Tryd.ntmps39
    go_wp2_with (first | ((with_reducible refine gate_callee (f := 30) rfl ?_); refine goesL_ (some 12) rfl rfl Tryd.func30 (by kernel_rfl) rfl #[.string a0, .string a1] rfl mq ?_; (with_reducible refine (decimal_Compare.calls a0 a1 t525 _ A3.out).mono ?_); rintro e w5 ⟨rfl, hb⟩; refine ⟨_, rfl, ?_⟩; replace HB := Aside0.mk (below_step bq hb); (try clear hb); (try clear hb2); (try clear hk); (try clear hi)))
    go_ret2
    exact ⟨eq_, bq⟩
  · rw [if_neg c4] at H
    have c4b0 : decide (t525 < 0) = false := decide_eq_false c4
    clear c4
    replace H := Option.bind_eq_some_iff.mp H
    obtain ⟨⟨t526, t527, t528⟩, A60, H⟩ := H
    replace H : (if t528 = true then ((decimal_Of.f (IntKind.u64.wrap (t526 - t527))).bind fun t529 => (some (t529, 0))) else ((decimal_cut.f k a0).bind fun t530 => (if t530.length < 17592186044416 then ((some (t530 ++ [0] : List Int)).bind fun y533 => ((decimal_cut.f k a1).bind fun t536 => ((decimal_cut.f k a1).bind fun t539 => (if 0 ≤ (wrap64 ((wrap64 ((y533.length : Int) - 1)) - (t539.length : Int))) then (if t536.length + (wrap64 ((wrap64 ((y533.length : Int) - 1)) - (t539.length : Int)) : Int).toNat < 17592186044416 then ((decimal_pieces_take.f k y533 (t536 ++ List.replicate (wrap64 ((wrap64 ((y533.length : Int) - 1)) - (t539.length : Int)) : Int).toNat 0) 1 0).bind fun bt545 => ((decimal_pieces_trim.f k bt545.2).bind fun t547 => ((decimal_pieces_text.f k t547).bind fun t550 => (some (t550, 0))))) else (none)) else (none))))) else (none)))) = some (r1, r2) := H
    have A6 := Aside0.mk A60
    clear A60
    by_cases c7 : t528 = true
    · subst c7
      have H1 : ((decimal_Of.f (IntKind.u64.wrap (t526 - t527))).bind fun t529 => (some (t529, 0))) = some (r1, r2) := by rw [if_pos rfl] at H; exact H
      clear H
      have H := H1
      clear H1
      replace H := Option.bind_eq_some_iff.mp H
      obtain ⟨t529, A80, H⟩ := H
      replace H : (some (t529, 0)) = some (r1, r2) := H
      have A8 := Aside0.mk A80
      clear A80
      simp only [Option.some.injEq, Prod.mk.injEq] at H
      obtain ⟨rfl, rfl⟩ := H
      go_enter Tryd.func39, Tryd.ntmps39
      go_wp2_with (first | ((with_reducible refine gate_callee (f := 30) rfl ?_); refine goesL_ (some 12) rfl rfl Tryd.func30 (by kernel_rfl) rfl #[.string a0, .string a1] rfl mq ?_; (with_reducible refine (decimal_Compare.calls a0 a1 t525 _ A3.out).mono ?_); rintro e w9 ⟨rfl, hb⟩; refine ⟨_, rfl, ?_⟩; replace HB := Aside0.mk (below_step bq hb); (try clear hb); (try clear hb2); (try clear hk); (try clear hi)) | ((with_reducible refine gate_callee (f := 44) rfl ?_); refine goesL_ (some 17) rfl rfl Tryd.func44 (by kernel_rfl) rfl #[.string a0, .string a1] rfl mq ?_; (with_reducible refine (decimal_both.calls (hT := HT.out.below bq) k a0 a1 t526 t527 true _ A6.out).mono ?_); rintro e w10 ⟨rfl, hb⟩; refine ⟨_, rfl, ?_⟩; replace HB := Aside0.mk (below_step bq hb); (try clear hb); (try clear hb2); (try clear hk); (try clear hi)) | ((with_reducible refine gate_callee (f := 14) rfl ?_); refine goesL_ (some 25) rfl rfl Tryd.func14 (by kernel_rfl) rfl #[.int .u64 (IntKind.u64.wrap (t526 - t527))] rfl mq ?_; (with_reducible refine (decimal_Of.calls (hT := HT.out.below bq) (IntKind.u64.wrap (t526 - t527)) t529 _ A8.out).mono ?_); rintro e w11 ⟨rfl, hb⟩; refine ⟨_, rfl, ?_⟩; replace HB := Aside0.mk (below_step bq hb); (try clear hb); (try clear hb2); (try clear hk); (try clear hi)))
      go_ret2
      exact ⟨eq_, bq⟩
    · replace c7 := Bool.eq_false_iff.mpr c7
      subst c7
      have H1 : ((decimal_cut.f k a0).bind fun t530 => (if t530.length < 17592186044416 then ((some (t530 ++ [0] : List Int)).bind fun y533 => ((decimal_cut.f k a1).bind fun t536 => ((decimal_cut.f k a1).bind fun t539 => (if 0 ≤ (wrap64 ((wrap64 ((y533.length : Int) - 1)) - (t539.length : Int))) then (if t536.length + (wrap64 ((wrap64 ((y533.length : Int) - 1)) - (t539.length : Int)) : Int).toNat < 17592186044416 then ((decimal_pieces_take.f k y533 (t536 ++ List.replicate (wrap64 ((wrap64 ((y533.length : Int) - 1)) - (t539.length : Int)) : Int).toNat 0) 1 0).bind fun bt545 => ((decimal_pieces_trim.f k bt545.2).bind fun t547 => ((decimal_pieces_text.f k t547).bind fun t550 => (some (t550, 0))))) else (none)) else (none))))) else (none))) = some (r1, r2) := by rw [if_neg (show ¬ (false = true) by decide)] at H; exact H
      clear H
      have H := H1
      clear H1
      replace H := Option.bind_eq_some_iff.mp H
      obtain ⟨t530, A120, H⟩ := H
      replace H : (if t530.length < 17592186044416 then ((some (t530 ++ [0] : List Int)).bind fun y533 => ((decimal_cut.f k a1).bind fun t536 => ((decimal_cut.f k a1).bind fun t539 => (if 0 ≤ (wrap64 ((wrap64 ((y533.length : Int) - 1)) - (t539.length : Int))) then (if t536.length + (wrap64 ((wrap64 ((y533.length : Int) - 1)) - (t539.length : Int)) : Int).toNat < 17592186044416 then ((decimal_pieces_take.f k y533 (t536 ++ List.replicate (wrap64 ((wrap64 ((y533.length : Int) - 1)) - (t539.length : Int)) : Int).toNat 0) 1 0).bind fun bt545 => ((decimal_pieces_trim.f k bt545.2).bind fun t547 => ((decimal_pieces_text.f k t547).bind fun t550 => (some (t550, 0))))) else (none)) else (none))))) else (none)) = some (r1, r2) := H
      have A12 := Aside0.mk A120
      clear A120
      by_cases c13 : t530.length < 17592186044416
      · rw [if_pos c13] at H
        have LMc13 := Aside0.mk c13
        clear c13
        obtain ⟨y533, hy533⟩ : ∃ y_ : List Int, y_ = (t530 ++ [0]) := ⟨_, rfl⟩
        replace H : ((decimal_cut.f k a1).bind fun t536 => ((decimal_cut.f k a1).bind fun t539 => (if 0 ≤ (wrap64 ((wrap64 ((y533.length : Int) - 1)) - (t539.length : Int))) then (if t536.length + (wrap64 ((wrap64 ((y533.length : Int) - 1)) - (t539.length : Int)) : Int).toNat < 17592186044416 then ((decimal_pieces_take.f k y533 (t536 ++ List.replicate (wrap64 ((wrap64 ((y533.length : Int) - 1)) - (t539.length : Int)) : Int).toNat 0) 1 0).bind fun bt545 => ((decimal_pieces_trim.f k bt545.2).bind fun t547 => ((decimal_pieces_text.f k t547).bind fun t550 => (some (t550, 0))))) else (none)) else (none)))) = some (r1, r2) := by first | (rw [hy533]; with_reducible exact H) | (have H2_ := (Option.bind_some _ _).symm.trans H; rw [hy533]; with_reducible exact H2_) | (have H2_ := (Option.bind_some _ _).symm.trans H; with_reducible exact H2_) | with_reducible exact H | (rw [hy533]; exact H) | exact H
        have Ny533 := Aside0.mk hy533
        clear hy533
        replace H := Option.bind_eq_some_iff.mp H
        obtain ⟨t536, A140, H⟩ := H
        replace H : ((decimal_cut.f k a1).bind fun t539 => (if 0 ≤ (wrap64 ((wrap64 ((y533.length : Int) - 1)) - (t539.length : Int))) then (if t536.length + (wrap64 ((wrap64 ((y533.length : Int) - 1)) - (t539.length : Int)) : Int).toNat < 17592186044416 then ((decimal_pieces_take.f k y533 (t536 ++ List.replicate (wrap64 ((wrap64 ((y533.length : Int) - 1)) - (t539.length : Int)) : Int).toNat 0) 1 0).bind fun bt545 => ((decimal_pieces_trim.f k bt545.2).bind fun t547 => ((decimal_pieces_text.f k t547).bind fun t550 => (some (t550, 0))))) else (none)) else (none))) = some (r1, r2) := H
        have A14 := Aside0.mk A140
        clear A140
        replace H := Option.bind_eq_some_iff.mp H
        obtain ⟨t539, A150, H⟩ := H
        replace H : (if 0 ≤ (wrap64 ((wrap64 ((y533.length : Int) - 1)) - (t539.length : Int))) then (if t536.length + (wrap64 ((wrap64 ((y533.length : Int) - 1)) - (t539.length : Int)) : Int).toNat < 17592186044416 then ((decimal_pieces_take.f k y533 (t536 ++ List.replicate (wrap64 ((wrap64 ((y533.length : Int) - 1)) - (t539.length : Int)) : Int).toNat 0) 1 0).bind fun bt545 => ((decimal_pieces_trim.f k bt545.2).bind fun t547 => ((decimal_pieces_text.f k t547).bind fun t550 => (some (t550, 0))))) else (none)) else (none)) = some (r1, r2) := H
        have A15 := Aside0.mk A150
        clear A150
        have hq2_ : t536 = t539 := Option.some.inj (A14.out.symm.trans A15.out)
        obtain rfl := hq2_
        obtain ⟨ji16, hji16⟩ : ∃ j_ : Int, (wrap64 ((wrap64 ((y533.length : Int) - 1)) - (t536.length : Int))) = j_ := ⟨_, rfl⟩
        replace H : (if 0 ≤ (ji16) then (if t536.length + (ji16 : Int).toNat < 17592186044416 then ((decimal_pieces_take.f k y533 (t536 ++ List.replicate (ji16 : Int).toNat 0) 1 0).bind fun bt545 => ((decimal_pieces_trim.f k bt545.2).bind fun t547 => ((decimal_pieces_text.f k t547).bind fun t550 => (some (t550, 0))))) else (none)) else (none)) = some (r1, r2) := by first | (rw [hji16] at H; exact H) | (simp only [hji16] at H ⊢; exact H)
        (try rw [hji16] at A3)
        (try rw [hji16] at A6)
        (try rw [hji16] at A12)
        (try rw [hji16] at A14)
        (try rw [hji16] at A15)
        have hji16w : (IntKind.i64.wrap ((wrap64 ((y533.length : Int) - 1)) - (t536.length : Int))) = ji16 := (i64_w _).trans hji16
        by_cases c17 : 0 ≤ (ji16)
        · rw [if_pos c17] at H
          have c17b0 := eq_true c17
          have c17b1 : decide (0 ≤ (ji16)) = true := decide_eq_true c17
          clear c17
          by_cases c18 : t536.length + (ji16 : Int).toNat < 17592186044416
          · rw [if_pos c18] at H
            have LMc18 := Aside0.mk c18
            clear c18
            obtain ⟨y542, hy542⟩ : ∃ y_ : List Int, y_ = (t536 ++ List.replicate (ji16 : Int).toNat 0) := ⟨_, rfl⟩
            replace H : ((decimal_pieces_take.f k y533 y542 1 0).bind fun bt545 => ((decimal_pieces_trim.f k bt545.2).bind fun t547 => ((decimal_pieces_text.f k t547).bind fun t550 => (some (t550, 0))))) = some (r1, r2) := by first | (rw [hy542]; with_reducible exact H) | (have H2_ := (Option.bind_some _ _).symm.trans H; rw [hy542]; with_reducible exact H2_) | (have H2_ := (Option.bind_some _ _).symm.trans H; with_reducible exact H2_) | with_reducible exact H | (rw [hy542]; exact H) | exact H
            have Ny542 := Aside0.mk hy542
            clear hy542
            replace H := Option.bind_eq_some_iff.mp H
            obtain ⟨⟨t545, t546⟩, A190, H⟩ := H
            replace H : ((decimal_pieces_trim.f k t546).bind fun t547 => ((decimal_pieces_text.f k t547).bind fun t550 => (some (t550, 0)))) = some (r1, r2) := H
            have A19 := Aside0.mk A190
            clear A190
            replace H := Option.bind_eq_some_iff.mp H
            obtain ⟨t547, A200, H⟩ := H
            replace H : ((decimal_pieces_text.f k t547).bind fun t550 => (some (t550, 0))) = some (r1, r2) := H
            have A20 := Aside0.mk A200
            clear A200
            replace H := Option.bind_eq_some_iff.mp H
            obtain ⟨t550, A210, H⟩ := H
            replace H : (some (t550, 0)) = some (r1, r2) := H
            have A21 := Aside0.mk A210
            clear A210
            simp only [Option.some.injEq, Prod.mk.injEq] at H
            obtain ⟨rfl, rfl⟩ := H
            go_enter Tryd.func39, Tryd.ntmps39
            go_wp2_with (first | ((with_reducible refine gate_callee (f := 30) rfl ?_); refine goesL_ (some 12) rfl rfl Tryd.func30 (by kernel_rfl) rfl #[.string a0, .string a1] rfl mq ?_; (with_reducible refine (decimal_Compare.calls a0 a1 t525 _ A3.out).mono ?_); rintro e w22 ⟨rfl, hb⟩; refine ⟨_, rfl, ?_⟩; replace HB := Aside0.mk (below_step bq hb); (try clear hb); (try clear hb2); (try clear hk); (try clear hi)) | ((with_reducible refine gate_callee (f := 44) rfl ?_); refine goesL_ (some 17) rfl rfl Tryd.func44 (by kernel_rfl) rfl #[.string a0, .string a1] rfl mq ?_; (with_reducible refine (decimal_both.calls (hT := HT.out.below bq) k a0 a1 t526 t527 false _ A6.out).mono ?_); rintro e w23 ⟨rfl, hb⟩; refine ⟨_, rfl, ?_⟩; replace HB := Aside0.mk (below_step bq hb); (try clear hb); (try clear hb2); (try clear hk); (try clear hi)) | ((with_reducible refine gate_callee (f := 45) rfl ?_); refine goesL_ (some 27) rfl rfl Tryd.func45 (by kernel_rfl) rfl #[.string a0] rfl mq ?_; (with_reducible refine (decimal_cut.calls k a0 t530 _ A12.out).mono ?_); rintro e w24 ⟨v531, rfl, ho0, hb⟩; refine ⟨_, rfl, ?_⟩; have n0_ := Aside0.mk (Kd.R_lower ho0 (below_size bq)); have n1_ := Aside0.mk (below_step bq hb); clear HB; have HO532 := n0_; have HB := n1_; clear n0_ n1_; (try clear hb); (try clear hb2); (try clear hk); (try clear hi); (try clear ho0)) | ((with_reducible refine gate_builtin (b := .append) (xs := #[.tmp 27, .tmp 28]) rfl ?_); at_builtin; refine Kd.R_append (Kd.int .u64) (w0 := w) w.heap.size rfl (.tmp 27) (.tmp 28) 62 22 (.int .u64 0) 8 rfl Tryd.underlying62 info22 rfl (by decide) (by omega) v531 t530 0 [.int .u64 0] (fun _ => True) (fun _ => False) rfl rfl ?aP (fun _ hk => hk.elim) ?aF ?aO ?aB ?aS ?aL ?_; (case aP => exact rfl); (case aB => exact bq); (case aF => exact (fun _ _ => trivial)); (case aO => exact (by (with_reducible repeat (first | apply Kd.R_alloc | apply Kd.R_drewN | apply Kd.R_drew)); exact HO532.out)); (case aS => exact (below_size bq)); (case aL => have := LMc13.out; omega); intro v534 w25 ho hb hg hat; rw [← Ny533.out] at ho; have n0_ := Aside0.mk (hb); have n1_ := Aside0.mk (ho); clear HB; clear HO532; have HB := n0_; have HO535 := n1_; clear n0_ n1_; clear ho hb hg hat) | ((with_reducible refine gate_callee (f := 45) rfl ?_); refine goesL_ (some 32) rfl rfl Tryd.func45 (by kernel_rfl) rfl #[.string a1] rfl mq ?_; (with_reducible refine (decimal_cut.calls k a1 t536 _ A14.out).mono ?_); rintro e w26 ⟨v537, rfl, ho0, hb⟩; refine ⟨_, rfl, ?_⟩; have n0_ := Aside0.mk (Kd.R_elder' (by (with_reducible repeat (first | apply Kd.R_alloc | apply Kd.R_drewN | apply Kd.R_drew)); exact HO535.out) (Kd.R_base ho0) hb); have n1_ := Aside0.mk (Kd.R_lower (Kd.R_new' ho0 (Kd.R_lt (by (with_reducible repeat (first | apply Kd.R_alloc | apply Kd.R_drewN | apply Kd.R_drew)); exact HO535.out))) (below_size bq)); have n2_ := Aside0.mk (below_step bq hb); clear HO535; clear HB; have HO535 := n0_; have HO538 := n1_; have HB := n2_; clear n0_ n1_ n2_; (try clear hb); (try clear hb2); (try clear hk); (try clear hi); (try clear ho0); obtain ⟨Ao27, co27, eo27⟩ := Kd.R_slice HO535.out; subst eo27) | ((with_reducible refine gate_callee (f := 45) rfl ?_); refine goesL_ (some 37) rfl rfl Tryd.func45 (by kernel_rfl) rfl #[.string a1] rfl mq ?_; (with_reducible refine (decimal_cut.calls k a1 t536 _ A15.out).mono ?_); rintro e w28 ⟨v540, rfl, ho0, hb⟩; refine ⟨_, rfl, ?_⟩; have n0_ := Aside0.mk (Kd.R_elder' (by (with_reducible repeat (first | apply Kd.R_alloc | apply Kd.R_drewN | apply Kd.R_drew)); exact HO535.out) (Kd.R_base ho0) hb); have n1_ := Aside0.mk (Kd.R_elder' (by (with_reducible repeat (first | apply Kd.R_alloc | apply Kd.R_drewN | apply Kd.R_drew)); exact HO538.out) (Kd.R_base ho0) hb); have n2_ := Aside0.mk (Kd.R_lower (Kd.R_new' (Kd.R_new' ho0 (Kd.R_lt (by (with_reducible repeat (first | apply Kd.R_alloc | apply Kd.R_drewN | apply Kd.R_drew)); exact HO535.out))) (Kd.R_lt (by (with_reducible repeat (first | apply Kd.R_alloc | apply Kd.R_drewN | apply Kd.R_drew)); exact HO538.out))) (below_size bq)); have n3_ := Aside0.mk (below_step bq hb); clear HO535; clear HO538; clear HB; have HO535 := n0_; have HO538 := n1_; have HO541 := n2_; have HB := n3_; clear n0_ n1_ n2_ n3_; (try clear hb); (try clear hb2); (try clear hk); (try clear hi); (try clear ho0); obtain ⟨Ao29, co29, eo29⟩ := Kd.R_slice HO541.out; subst eo29) | (at_builtin; refine Kd.R_append_zeros (Kd.int .u64) (w0 := w) w.heap.size rfl (.tmp 32) (.tmp 39) 62 3 22 (.int .u64 0) 8 rfl Tryd.underlying62 Tryd.underlying3 info22 rfl (by decide) (by omega) v537 t536 0 (ji16 : Int) (fun k_ => some k_ ≠ (.slice Ao27 y533.length co27 : Value).ownBlock ∧ some k_ ≠ (.slice Ao29 t536.length co29 : Value).ownBlock) rfl rfl rfl ?aF ?aO (of_decide_eq_true (by first | (with_reducible assumption) | assumption)) ?aB ?aS ?aL ?_; (case aB => exact bq); (case aF => exact (fun k_ hk => ⟨Kd.fresh' (Kd.R_lt (by (with_reducible repeat (first | apply Kd.R_alloc | apply Kd.R_drewN | apply Kd.R_drew)); exact HO535.out)) k_ hk, Kd.fresh' (Kd.R_lt (by (with_reducible repeat (first | apply Kd.R_alloc | apply Kd.R_drewN | apply Kd.R_drew)); exact HO541.out)) k_ hk⟩)); (case aO => exact (by (with_reducible repeat (first | apply Kd.R_alloc | apply Kd.R_drewN | apply Kd.R_drew)); exact Kd.R_mono HO538.out (fun _ hk => ⟨hk.1.2, hk.2⟩))); (case aS => exact (below_size bq)); (case aL => have := LMc18.out; omega); intro v543 w30 ho hb hg hat; rw [← Ny542.out] at ho; have n0_ := Aside0.mk (Kd.R_after (ok := (fun k_ => some k_ ≠ (.slice Ao29 t536.length co29 : Value).ownBlock)) (by (with_reducible repeat (first | apply Kd.R_alloc | apply Kd.R_drewN | apply Kd.R_drew)); exact Kd.R_mono HO535.out (fun _ hk => ⟨hk.2, hk.1.2⟩)) hg hat); have n1_ := Aside0.mk (Kd.R_after (ok := (fun k_ => some k_ ≠ (.slice Ao27 y533.length co27 : Value).ownBlock)) (by (with_reducible repeat (first | apply Kd.R_alloc | apply Kd.R_drewN | apply Kd.R_drew)); exact Kd.R_mono HO541.out (fun _ hk => ⟨hk.1.2, hk.2⟩)) hg hat); have n2_ := Aside0.mk (hb); have n3_ := Aside0.mk (ho); clear HO535; clear HO541; clear HB; clear HO538; have HO535 := n0_; have HO541 := n1_; have HB := n2_; have HO544 := n3_; clear n0_ n1_ n2_ n3_; clear ho hb hg hat; obtain ⟨Ao31, co31, eo31⟩ := Kd.R_slice HO544.out; subst eo31) | ((with_reducible refine gate_callee (f := 58) rfl ?_); refine goesL_ (some 41) rfl rfl Tryd.func58 (by kernel_rfl) rfl #[.slice Ao27 y533.length co27, .slice Ao31 y542.length co31, .int .u64 1, .int .i64 0] rfl mq ?_; (with_reducible refine (decimal_pieces_take.calls k (fun k_ => some k_ = (.slice Ao27 y533.length co27 : Value).ownBlock) (.slice Ao27 y533.length co27) y533 _ _ y542 1 0 t545 t546 w _ ?side1 ?side2 ?side3 ?side4 A19.out).mono ?_); (case side1 => exact bq); (case side2 => exact Kd.R_tight rfl HO535.out); (case side3 => exact Kd.C_kept_own (HO544.out) (fun k_ hk_ hs_ => (hk_.1) hs_)); (case side4 => exact (Kd.R_reads' HO544.out).2.1); rintro e w32 ⟨rfl, hy0, hb, hkp⟩; refine ⟨_, rfl, ?_⟩; have n0_ := Aside0.mk (Kd.R_reok rfl hy0 (fun k_ e_ => HO535.out.1 k_ e_)); have n1_ := Aside0.mk (Kd.R_mono (ok' := fun k_ => some k_ ≠ (.slice Ao27 y533.length co27 : Value).ownBlock ∧ some k_ ≠ (.slice Ao31 y542.length co31 : Value).ownBlock) (Kd.R_keptB (HO541.out) hkp (fun k_ hk_ hs_ => (hk_.1) hs_)) (fun k_ hk_ => ⟨hk_.1.1, hk_.1.2⟩)); have n2_ := Aside0.mk (Kd.R_mono (ok' := fun k_ => some k_ ≠ (.slice Ao27 y533.length co27 : Value).ownBlock ∧ some k_ ≠ (.slice Ao29 t536.length co29 : Value).ownBlock) (Kd.R_keptB (HO544.out) hkp (fun k_ hk_ hs_ => (hk_.1) hs_)) (fun k_ hk_ => ⟨hk_.1.1, hk_.1.2⟩)); have n3_ := Aside0.mk (hb); clear HO535; clear HO541; clear HO544; clear HB; have HO535 := n0_; have HO541 := n1_; have HO544 := n2_; have HB := n3_; clear n0_ n1_ n2_ n3_; (try clear hb); (try clear hkp); (try clear hy0)) | ((with_reducible refine gate_callee (f := 57) rfl ?_); refine goesL_ (some 43) rfl rfl Tryd.func57 (by kernel_rfl) rfl #[.slice Ao27 y533.length co27] rfl mq ?_; (with_reducible refine (decimal_pieces_trim.calls k (fun k_ => some k_ = (.slice Ao27 y533.length co27 : Value).ownBlock) (.slice Ao27 y533.length co27) t546 t547 w _ ?side1 ?side2 A20.out).mono ?_); (case side1 => exact bq); (case side2 => exact Kd.R_tight rfl HO535.out); rintro e w33 ⟨v548, rfl, ho0, hb, hkp⟩; refine ⟨_, rfl, ?_⟩; have n0_ := Aside0.mk (Kd.R_mono (ok' := fun k_ => some k_ ≠ (.slice Ao31 y542.length co31 : Value).ownBlock ∧ some k_ ≠ (v548 : Value).ownBlock) (Kd.R_keptB (HO541.out) hkp (fun k_ hk_ hs_ => (hk_.1) hs_)) (fun k_ hk_ => ⟨hk_.1.2, fun e_ => Or.elim (ho0.1 k_ e_.symm) (fun hs_ => hk_.2.1 hs_) (fun hn_ => Nat.not_le.2 hk_.2.2 hn_)⟩)); have n1_ := Aside0.mk (Kd.R_mono (ok' := fun k_ => some k_ ≠ (.slice Ao29 t536.length co29 : Value).ownBlock ∧ some k_ ≠ (v548 : Value).ownBlock) (Kd.R_keptB (HO544.out) hkp (fun k_ hk_ hs_ => (hk_.1) hs_)) (fun k_ hk_ => ⟨hk_.1.2, fun e_ => Or.elim (ho0.1 k_ e_.symm) (fun hs_ => hk_.2.1 hs_) (fun hn_ => Nat.not_le.2 hk_.2.2 hn_)⟩)); have n2_ := Aside0.mk (Kd.R_mono (ok' := fun k_ => some k_ ≠ (.slice Ao29 t536.length co29 : Value).ownBlock ∧ some k_ ≠ (.slice Ao31 y542.length co31 : Value).ownBlock) ho0 (fun k_ hk_ => ⟨Or.elim hk_ (fun hs_ => fun e_ => (((HO541.out).1 k_ e_.symm).1) hs_) (fun hn_ => (Kd.fresh' (Kd.R_lt (by (with_reducible repeat (first | apply Kd.R_alloc | apply Kd.R_drewN | apply Kd.R_drew)); exact HO541.out)) k_ hn_)), Or.elim hk_ (fun hs_ => fun e_ => (((HO544.out).1 k_ e_.symm).1) hs_) (fun hn_ => (Kd.fresh' (Kd.R_lt (by (with_reducible repeat (first | apply Kd.R_alloc | apply Kd.R_drewN | apply Kd.R_drew)); exact HO544.out)) k_ hn_))⟩)); have n3_ := Aside0.mk (hb); clear HO541; clear HO544; clear HB; clear HO535; have HO541 := n0_; have HO544 := n1_; have HO549 := n2_; have HB := n3_; clear n0_ n1_ n2_ n3_; (try clear hb); (try clear hkp); (try clear ho0); obtain ⟨Ao34, co34, eo34⟩ := Kd.R_slice HO549.out; subst eo34) | ((with_reducible refine gate_callee (f := 48) rfl ?_); refine goesL_ (some 44) rfl rfl Tryd.func48 (by kernel_rfl) rfl #[.slice Ao34 t547.length co34] rfl mq ?_; (with_reducible refine (decimal_pieces_text.calls k _ _ t547 t550 _ ?side1 ?side2 A21.out).mono ?_); (case side1 => repeat (first | exact (Kd.R_reads' HO549.out).2.2 | (with_reducible refine Kd.C_alloc ?_ _) | (with_reducible refine Kd.C_drewN ?_ _) | (with_reducible refine Kd.C_drew ?_))); (case side2 => exact (Kd.R_reads' HO549.out).2.1); rintro e w35 ⟨rfl, hb⟩; refine ⟨_, rfl, ?_⟩; have n0_ := Aside0.mk (Kd.R_below (by (with_reducible repeat (first | apply Kd.R_alloc | apply Kd.R_drewN | apply Kd.R_drew)); exact HO541.out) hb); have n1_ := Aside0.mk (Kd.R_below (by (with_reducible repeat (first | apply Kd.R_alloc | apply Kd.R_drewN | apply Kd.R_drew)); exact HO544.out) hb); have n2_ := Aside0.mk (Kd.R_below (by (with_reducible repeat (first | apply Kd.R_alloc | apply Kd.R_drewN | apply Kd.R_drew)); exact HO549.out) hb); have n3_ := Aside0.mk (below_step bq hb); clear HO541; clear HO544; clear HO549; clear HB; have HO541 := n0_; have HO544 := n1_; have HO549 := n2_; have HB := n3_; clear n0_ n1_ n2_ n3_; (try clear hb); (try clear hb2); (try clear hk); (try clear hi)))
            go_ret2
            exact ⟨by first | rfl | (simp [errW_none, errW_some] <;> rfl) | (simp only [← hji16]; first | rfl | (simp [errW_none, errW_some] <;> rfl)) | (simp [*, errW_none, errW_some] <;> rfl), bq⟩
          · rw [if_neg c18] at H
            exact absurd H (by simp)
        · rw [if_neg c17] at H
          exact absurd H (by simp)
      · rw [if_neg c13] at H
        exact absurd H (by simp)
mutual
def schismalaw01_DecimalAdds.j0 : Nat → List Int → List Int → Bool → Option (Bool)
  | 0, _, _, _ => none
  | k + 1, x0, x1, x16 => if x16 = true then ((schismalaw01_known.f k).bind fun t553 => (some t553)) else ((schismalaw01_Make.f k x0).bind fun t554 => ((schismalaw01_Make.f k x1).bind fun t555 => ((decimal_Sub.f k t554 t555).bind fun bt556 => ((decimal_Add.f k t554 t555).bind fun t558 => ((schismaref01_Add.f k t554 t555).bind fun t559 => (if t558.toList = t559.toList then ((decimal_Mul.f k t554 t555).bind fun t560 => ((schismaref01_Mul.f k t554 t555).bind fun t561 => (schismalaw01_DecimalAdds.j1 k t554 t555 bt556.1 bt556.2 (t560.toList != t561.toList)))) else (schismalaw01_DecimalAdds.j1 k t554 t555 bt556.1 bt556.2 true)))))))
def schismalaw01_DecimalAdds.j1 : Nat → ByteArray → ByteArray → ByteArray → Int → Bool → Option (Bool)
  | 0, _, _, _, _, _ => none
  | k + 1, x5, x6, x7, x8, x43 => if x43 = true then (some false) else ((schismaref01_Compare.f x5 x6).bind fun t562 => (if t562 < 0 then (if x7.toList = ([] : List UInt8) then (some (x8 == 3)) else (some false)) else (if x8 = 0 then ((schismaref01_Minus.f k x5 x6).bind fun t563 => (some (x7.toList == t563.toList))) else (some false))))
end
def schismalaw01_DecimalAdds.f (k : Nat) (l0 : List Int) (l1 : List Int) : Option (Bool) := (schismalaw01_known.f k).bind fun t551 => (if t551 = true then ((schismalaw01_few.f l0 l1 ([] : List Int)).bind fun t552 => (schismalaw01_DecimalAdds.j0 k l0 l1 (!t552))) else (schismalaw01_DecimalAdds.j0 k l0 l1 true))
theorem schismalaw01_DecimalAdds.mono_l : ∀ k, (∀ y0 y1 y2, LeO (schismalaw01_DecimalAdds.j0 k y0 y1 y2) (schismalaw01_DecimalAdds.j0 (k + 1) y0 y1 y2)) ∧ (∀ y0 y1 y2 y3 y4, LeO (schismalaw01_DecimalAdds.j1 k y0 y1 y2 y3 y4) (schismalaw01_DecimalAdds.j1 (k + 1) y0 y1 y2 y3 y4))
  | 0 => ⟨fun _ _ _ r h => by simp [schismalaw01_DecimalAdds.j0] at h, fun _ _ _ _ _ r h => by simp [schismalaw01_DecimalAdds.j1] at h⟩
  | k + 1 => by
    obtain ⟨ih0, ih1⟩ := schismalaw01_DecimalAdds.mono_l k
    refine ⟨?_, ?_⟩
    · intro y0 y1 y2
      unfold schismalaw01_DecimalAdds.j0
      repeat' first
      | (with_reducible exact ih0 _ _ _)
      | (with_reducible exact ih1 _ _ _ _ _)
      | (with_reducible exact decimal_Add.mono _ _ _)
      | (with_reducible exact decimal_Mul.mono _ _ _)
      | (with_reducible exact decimal_Sub.mono _ _ _)
      | (with_reducible exact schismalaw01_Make.mono _ _)
      | (with_reducible exact schismalaw01_known.mono _)
      | (with_reducible exact schismaref01_Add.mono _ _ _)
      | (with_reducible exact schismaref01_Minus.mono _ _ _)
      | (with_reducible exact schismaref01_Mul.mono _ _ _)
      | (with_reducible exact LeO.refl _)
      | (with_reducible exact LeO.none _)
      | (with_reducible refine LeO.ite ?_ ?_)
      | (with_reducible refine LeO.bind ?_ (fun _ => ?_))
      | exact ih0 _ _ _
      | exact ih1 _ _ _ _ _
      | exact decimal_Add.mono _ _ _
      | exact decimal_Mul.mono _ _ _
      | exact decimal_Sub.mono _ _ _
      | exact schismalaw01_Make.mono _ _
      | exact schismalaw01_known.mono _
      | exact schismaref01_Add.mono _ _ _
      | exact schismaref01_Minus.mono _ _ _
      | exact schismaref01_Mul.mono _ _ _
      | exact LeO.none _
      | refine LeO.ite ?_ ?_
      | refine LeO.bind ?_ (fun _ => ?_)
    · intro y0 y1 y2 y3 y4
      unfold schismalaw01_DecimalAdds.j1
      repeat' first
      | (with_reducible exact ih0 _ _ _)
      | (with_reducible exact ih1 _ _ _ _ _)
      | (with_reducible exact decimal_Add.mono _ _ _)
      | (with_reducible exact decimal_Mul.mono _ _ _)
      | (with_reducible exact decimal_Sub.mono _ _ _)
      | (with_reducible exact schismalaw01_Make.mono _ _)
      | (with_reducible exact schismalaw01_known.mono _)
      | (with_reducible exact schismaref01_Add.mono _ _ _)
      | (with_reducible exact schismaref01_Minus.mono _ _ _)
      | (with_reducible exact schismaref01_Mul.mono _ _ _)
      | (with_reducible exact LeO.refl _)
      | (with_reducible exact LeO.none _)
      | (with_reducible refine LeO.ite ?_ ?_)
      | (with_reducible refine LeO.bind ?_ (fun _ => ?_))
      | exact ih0 _ _ _
      | exact ih1 _ _ _ _ _
      | exact decimal_Add.mono _ _ _
      | exact decimal_Mul.mono _ _ _
      | exact decimal_Sub.mono _ _ _
      | exact schismalaw01_Make.mono _ _
      | exact schismalaw01_known.mono _
      | exact schismaref01_Add.mono _ _ _
      | exact schismaref01_Minus.mono _ _ _
      | exact schismaref01_Mul.mono _ _ _
      | exact LeO.none _
      | refine LeO.ite ?_ ?_
      | refine LeO.bind ?_ (fun _ => ?_)
theorem schismalaw01_DecimalAdds.mono : ∀ a0 a1 k, LeO (schismalaw01_DecimalAdds.f k a0 a1) (schismalaw01_DecimalAdds.f (k + 1) a0 a1) := by
  intro a0 a1 k
  obtain ⟨ih0, ih1⟩ := schismalaw01_DecimalAdds.mono_l k
  unfold schismalaw01_DecimalAdds.f
  repeat' first
      | (with_reducible exact ih0 _ _ _)
      | (with_reducible exact ih1 _ _ _ _ _)
      | (with_reducible exact decimal_Add.mono _ _ _)
      | (with_reducible exact decimal_Mul.mono _ _ _)
      | (with_reducible exact decimal_Sub.mono _ _ _)
      | (with_reducible exact schismalaw01_Make.mono _ _)
      | (with_reducible exact schismalaw01_known.mono _)
      | (with_reducible exact schismaref01_Add.mono _ _ _)
      | (with_reducible exact schismaref01_Minus.mono _ _ _)
      | (with_reducible exact schismaref01_Mul.mono _ _ _)
      | (with_reducible exact LeO.refl _)
      | (with_reducible exact LeO.none _)
      | (with_reducible refine LeO.ite ?_ ?_)
      | (with_reducible refine LeO.bind ?_ (fun _ => ?_))
      | exact ih0 _ _ _
      | exact ih1 _ _ _ _ _
      | exact decimal_Add.mono _ _ _
      | exact decimal_Mul.mono _ _ _
      | exact decimal_Sub.mono _ _ _
      | exact schismalaw01_Make.mono _ _
      | exact schismalaw01_known.mono _
      | exact schismaref01_Add.mono _ _ _
      | exact schismaref01_Minus.mono _ _ _
      | exact schismaref01_Mul.mono _ _ _
      | exact LeO.none _
      | refine LeO.ite ?_ ?_
      | refine LeO.bind ?_ (fun _ => ?_)
set_option maxHeartbeats 8000000 in
set_option maxRecDepth 100000 in
theorem schismalaw01_DecimalAdds.calls (k : Nat) (A0 : Option Addr) (c0 : Nat) (l0 : List Int) (A1 : Option Addr) (c1 : Nat) (l1 : List Int) (r : Bool) (w : World) (hr0 : Kd.C (Kd.int .u8) w A0 l0.length l0) (hc0 : l0.length ≤ c0) (hr1 : Kd.C (Kd.int .u8) w A1 l1.length l1) (hc1 : l1.length ≤ c1) (hT : Tab w) (h : schismalaw01_DecimalAdds.f k l0 l1 = some r) :
    Calls Tryd.prog 11 #[.slice A0 l0.length c0, .slice A1 l1.length c1] w fun e w' => e = .returned (.bool r) ∧ Below w.heap.size w w' := by
  have HT := Aside0.mk hT
  clear hT
  have HR0 := Aside0.mk hr0
  have HC0 := Aside0.mk hc0
  clear hr0 hc0
  have HR1 := Aside0.mk hr1
  have HC1 := Aside0.mk hc1
  clear hr1 hc1
  have HB := Aside0.mk (Below.refl w.heap.size w)
  have H : ((schismalaw01_known.f k).bind fun t551 => (if t551 = true then ((schismalaw01_few.f l0 l1 ([] : List Int)).bind fun t552 => (schismalaw01_DecimalAdds.j0 k l0 l1 (!t552))) else (schismalaw01_DecimalAdds.j0 k l0 l1 true))) = some r := h
  clear h
  have HC3 := Aside0.mk H
  clear H
  go_enter Tryd.func11, Tryd.ntmps11
  go_upto_region 1 with (fail)
  go_cut [16] (fun v16 wc => ∃ (kq : Nat) (x16_2 : Bool), v16 = .bool x16_2 ∧ Aside0 (schismalaw01_DecimalAdds.j0 kq l0 l1 x16_2 = some r) ∧ Aside0 (kq ≤ k) ∧ Aside0 (Below w.heap.size w wc))
  case first =>
    have H := HC3.out
    clear HC3
    replace H := Option.bind_eq_some_iff.mp H
    obtain ⟨t551, A40, H⟩ := H
    replace H : (if t551 = true then ((schismalaw01_few.f l0 l1 ([] : List Int)).bind fun t552 => (schismalaw01_DecimalAdds.j0 k l0 l1 (!t552))) else (schismalaw01_DecimalAdds.j0 k l0 l1 true)) = some r := H
    have A4 := Aside0.mk A40
    clear A40
    by_cases c5 : t551 = true
    · subst c5
      have H1 : ((schismalaw01_few.f l0 l1 ([] : List Int)).bind fun t552 => (schismalaw01_DecimalAdds.j0 k l0 l1 (!t552))) = some r := by rw [if_pos rfl] at H; exact H
      clear H
      have H := H1
      clear H1
      replace H := Option.bind_eq_some_iff.mp H
      obtain ⟨t552, A60, H⟩ := H
      replace H : (schismalaw01_DecimalAdds.j0 k l0 l1 (!t552)) = some r := H
      have A6 := Aside0.mk A60
      clear A60
      have H' := Aside0.mk H
      clear H
      go_wp2_with (first | ((with_reducible refine gate_callee (f := 13) rfl ?_); refine goesL_ (some 9) rfl rfl Tryd.func13 (by kernel_rfl) rfl #[] rfl mq ?_; (with_reducible refine (schismalaw01_known.calls (hT := HT.out.below bq) k  true _ A4.out).mono ?_); rintro e w7 ⟨rfl, hb⟩; refine ⟨_, rfl, ?_⟩; replace HB := Aside0.mk (below_step bq hb); (try clear hb); (try clear hb2); (try clear hk); (try clear hi)) | (go_at_call 19; (refine (schismalaw01_few.calls _ _ l0 _ _ l1 _ _ ([] : List Int) t552 _ ?side1 ?side2 ?side3 ?side4 ?side5 ?side6 A6.out).mono ?_); (case side1 => repeat (first | exact (Kd.C_below HR0.out HB.out) | (with_reducible refine Kd.C_alloc ?_ _) | (with_reducible refine Kd.C_drewN ?_ _) | (with_reducible refine Kd.C_drew ?_))); (case side2 => exact HC0.out); (case side3 => repeat (first | exact (Kd.C_below HR1.out HB.out) | (with_reducible refine Kd.C_alloc ?_ _) | (with_reducible refine Kd.C_drewN ?_ _) | (with_reducible refine Kd.C_drew ?_))); (case side4 => exact HC1.out); (case side5 => exact Kd.C_nil _ _); (case side6 => exact Nat.le_refl _); rintro e w' ⟨rfl, ⟨nd, rfl⟩⟩))
      go_meet
      case rel => exact ⟨_, (!t552), (by first | rfl | (simp; done) | (simp [*]; done)), H', ⟨by first | omega | exact Nat.le_refl _⟩, ⟨bq⟩⟩
    · replace c5 := Bool.eq_false_iff.mpr c5
      subst c5
      have H1 : (schismalaw01_DecimalAdds.j0 k l0 l1 true) = some r := by rw [if_neg (show ¬ (false = true) by decide)] at H; exact H
      clear H
      have H := H1
      clear H1
      have H' := Aside0.mk H
      clear H
      go_wp2_with (first | ((with_reducible refine gate_callee (f := 13) rfl ?_); refine goesL_ (some 9) rfl rfl Tryd.func13 (by kernel_rfl) rfl #[] rfl mq ?_; (with_reducible refine (schismalaw01_known.calls (hT := HT.out.below bq) k  false _ A4.out).mono ?_); rintro e w8 ⟨rfl, hb⟩; refine ⟨_, rfl, ?_⟩; replace HB := Aside0.mk (below_step bq hb); (try clear hb); (try clear hb2); (try clear hk); (try clear hi)))
      go_meet
      case rel => exact ⟨_, (true), (by first | rfl | (simp; done) | (simp [*]; done)), H', ⟨by first | omega | exact Nat.le_refl _⟩, ⟨bq⟩⟩
  case rest =>
    clear HC3
    try clear c1
    try clear p2
    try clear c5
    obtain ⟨kq, x16_2, rfl, HA, HJ2, HB⟩ := hcut
    cases kq with
    | zero => exact absurd HA.out (by simp [schismalaw01_DecimalAdds.j0])
    | succ kj2 =>
      have H := HA.out
      clear HA
      simp only [schismalaw01_DecimalAdds.j0] at H
      by_cases c9 : x16_2 = true
      · subst c9
        have H1 : ((schismalaw01_known.f kj2).bind fun t553 => (some t553)) = some r := by rw [if_pos rfl] at H; exact H
        clear H
        have H := H1
        clear H1
        replace H := Option.bind_eq_some_iff.mp H
        obtain ⟨t553, A100, H⟩ := H
        replace H : (some t553) = some r := H
        have A10 := Aside0.mk A100
        clear A100
        obtain rfl := Option.some.inj H
        go_wp2_with (first | ((with_reducible refine gate_callee (f := 13) rfl ?_); refine goesL_ (some 17) rfl rfl Tryd.func13 (by kernel_rfl) rfl #[] rfl mq ?_; (with_reducible refine (schismalaw01_known.calls (hT := HT.out.below bq) kj2  t553 _ A10.out).mono ?_); rintro e w11 ⟨rfl, hb⟩; refine ⟨_, rfl, ?_⟩; replace HB := Aside0.mk (below_step bq hb); (try clear hb); (try clear hb2); (try clear hk); (try clear hi)))
        go_ret
        exact ⟨eq_, bq⟩
      · replace c9 := Bool.eq_false_iff.mpr c9
        subst c9
        have H1 : ((schismalaw01_Make.f kj2 l0).bind fun t554 => ((schismalaw01_Make.f kj2 l1).bind fun t555 => ((decimal_Sub.f kj2 t554 t555).bind fun bt556 => ((decimal_Add.f kj2 t554 t555).bind fun t558 => ((schismaref01_Add.f kj2 t554 t555).bind fun t559 => (if t558.toList = t559.toList then ((decimal_Mul.f kj2 t554 t555).bind fun t560 => ((schismaref01_Mul.f kj2 t554 t555).bind fun t561 => (schismalaw01_DecimalAdds.j1 kj2 t554 t555 bt556.1 bt556.2 (t560.toList != t561.toList)))) else (schismalaw01_DecimalAdds.j1 kj2 t554 t555 bt556.1 bt556.2 true))))))) = some r := by rw [if_neg (show ¬ (false = true) by decide)] at H; exact H
        clear H
        have H := H1
        clear H1
        replace H := Option.bind_eq_some_iff.mp H
        obtain ⟨t554, A120, H⟩ := H
        replace H : ((schismalaw01_Make.f kj2 l1).bind fun t555 => ((decimal_Sub.f kj2 t554 t555).bind fun bt556 => ((decimal_Add.f kj2 t554 t555).bind fun t558 => ((schismaref01_Add.f kj2 t554 t555).bind fun t559 => (if t558.toList = t559.toList then ((decimal_Mul.f kj2 t554 t555).bind fun t560 => ((schismaref01_Mul.f kj2 t554 t555).bind fun t561 => (schismalaw01_DecimalAdds.j1 kj2 t554 t555 bt556.1 bt556.2 (t560.toList != t561.toList)))) else (schismalaw01_DecimalAdds.j1 kj2 t554 t555 bt556.1 bt556.2 true)))))) = some r := H
        have A12 := Aside0.mk A120
        clear A120
        replace H := Option.bind_eq_some_iff.mp H
        obtain ⟨t555, A130, H⟩ := H
        replace H : ((decimal_Sub.f kj2 t554 t555).bind fun bt556 => ((decimal_Add.f kj2 t554 t555).bind fun t558 => ((schismaref01_Add.f kj2 t554 t555).bind fun t559 => (if t558.toList = t559.toList then ((decimal_Mul.f kj2 t554 t555).bind fun t560 => ((schismaref01_Mul.f kj2 t554 t555).bind fun t561 => (schismalaw01_DecimalAdds.j1 kj2 t554 t555 bt556.1 bt556.2 (t560.toList != t561.toList)))) else (schismalaw01_DecimalAdds.j1 kj2 t554 t555 bt556.1 bt556.2 true))))) = some r := H
        have A13 := Aside0.mk A130
        clear A130
        replace H := Option.bind_eq_some_iff.mp H
        obtain ⟨⟨t556, t557⟩, A140, H⟩ := H
        replace H : ((decimal_Add.f kj2 t554 t555).bind fun t558 => ((schismaref01_Add.f kj2 t554 t555).bind fun t559 => (if t558.toList = t559.toList then ((decimal_Mul.f kj2 t554 t555).bind fun t560 => ((schismaref01_Mul.f kj2 t554 t555).bind fun t561 => (schismalaw01_DecimalAdds.j1 kj2 t554 t555 t556 t557 (t560.toList != t561.toList)))) else (schismalaw01_DecimalAdds.j1 kj2 t554 t555 t556 t557 true)))) = some r := H
        have A14 := Aside0.mk A140
        clear A140
        have HC15 := Aside0.mk H
        clear H
        go_upto_region 5 with (first | ((with_reducible refine gate_callee (f := 16) rfl ?_); refine goesL_ (some 19) rfl rfl Tryd.func16 (by kernel_rfl) rfl #[.slice A0 l0.length c0] rfl mq ?_; (with_reducible refine (schismalaw01_Make.calls kj2 _ _ l0 t554 _ ?side1 ?side2 A12.out).mono ?_); (case side1 => repeat (first | exact (Kd.C_below HR0.out HB.out) | (with_reducible refine Kd.C_alloc ?_ _) | (with_reducible refine Kd.C_drewN ?_ _) | (with_reducible refine Kd.C_drew ?_))); (case side2 => exact HC0.out); rintro e w16 ⟨rfl, hb⟩; refine ⟨_, rfl, ?_⟩; replace HB := Aside0.mk (below_step bq hb); (try clear hb); (try clear hb2); (try clear hk); (try clear hi)) | ((with_reducible refine gate_callee (f := 16) rfl ?_); refine goesL_ (some 21) rfl rfl Tryd.func16 (by kernel_rfl) rfl #[.slice A1 l1.length c1] rfl mq ?_; (with_reducible refine (schismalaw01_Make.calls kj2 _ _ l1 t555 _ ?side1 ?side2 A13.out).mono ?_); (case side1 => repeat (first | exact (Kd.C_below HR1.out HB.out) | (with_reducible refine Kd.C_alloc ?_ _) | (with_reducible refine Kd.C_drewN ?_ _) | (with_reducible refine Kd.C_drew ?_))); (case side2 => exact HC1.out); rintro e w17 ⟨rfl, hb⟩; refine ⟨_, rfl, ?_⟩; replace HB := Aside0.mk (below_step bq hb); (try clear hb); (try clear hb2); (try clear hk); (try clear hi)) | ((with_reducible refine gate_callee (f := 39) rfl ?_); refine goesL_ (some 25) rfl rfl Tryd.func39 (by kernel_rfl) rfl #[.string t554, .string t555] rfl mq ?_; (with_reducible refine (decimal_Sub.calls (hT := HT.out.below bq) kj2 t554 t555 t556 t557 _ A14.out).mono ?_); rintro e w18 ⟨rfl, hb⟩; refine ⟨_, rfl, ?_⟩; replace HB := Aside0.mk (below_step bq hb); (try clear hb); (try clear hb2); (try clear hk); (try clear hi)))
        (try simp only [Act.put, List.setIfInBounds_toArray, List.set_cons_zero, List.set_cons_succ])
        go_cut [43] (fun v43 wc => ∃ (kq : Nat) (x43_14 : Bool), v43 = .bool x43_14 ∧ Aside0 (schismalaw01_DecimalAdds.j1 kq t554 t555 t556 t557 x43_14 = some r) ∧ Aside0 (kq ≤ kj2) ∧ Aside0 (Below w.heap.size w wc))
        case first =>
          have H := HC15.out
          clear HC15
          replace H := Option.bind_eq_some_iff.mp H
          obtain ⟨t558, A190, H⟩ := H
          replace H : ((schismaref01_Add.f kj2 t554 t555).bind fun t559 => (if t558.toList = t559.toList then ((decimal_Mul.f kj2 t554 t555).bind fun t560 => ((schismaref01_Mul.f kj2 t554 t555).bind fun t561 => (schismalaw01_DecimalAdds.j1 kj2 t554 t555 t556 t557 (t560.toList != t561.toList)))) else (schismalaw01_DecimalAdds.j1 kj2 t554 t555 t556 t557 true))) = some r := H
          have A19 := Aside0.mk A190
          clear A190
          replace H := Option.bind_eq_some_iff.mp H
          obtain ⟨t559, A200, H⟩ := H
          replace H : (if t558.toList = t559.toList then ((decimal_Mul.f kj2 t554 t555).bind fun t560 => ((schismaref01_Mul.f kj2 t554 t555).bind fun t561 => (schismalaw01_DecimalAdds.j1 kj2 t554 t555 t556 t557 (t560.toList != t561.toList)))) else (schismalaw01_DecimalAdds.j1 kj2 t554 t555 t556 t557 true)) = some r := H
          have A20 := Aside0.mk A200
          clear A200
          by_cases c21 : t558.toList = t559.toList
          · rw [if_pos c21] at H
            have c21b0 : (t558.toList == t559.toList) = true := beq_iff_eq.mpr c21
            have c21b1 : (t558.toList != t559.toList) = false := bne_eq_false_iff_eq.mpr c21
            clear c21
            (first | rw [c21b0] | (simp only [i64_w, i32_w]; rw [c21b0]) | skip)
            replace H := Option.bind_eq_some_iff.mp H
            obtain ⟨t560, A220, H⟩ := H
            replace H : ((schismaref01_Mul.f kj2 t554 t555).bind fun t561 => (schismalaw01_DecimalAdds.j1 kj2 t554 t555 t556 t557 (t560.toList != t561.toList))) = some r := H
            have A22 := Aside0.mk A220
            clear A220
            replace H := Option.bind_eq_some_iff.mp H
            obtain ⟨t561, A230, H⟩ := H
            replace H : (schismalaw01_DecimalAdds.j1 kj2 t554 t555 t556 t557 (t560.toList != t561.toList)) = some r := H
            have A23 := Aside0.mk A230
            clear A230
            have H' := Aside0.mk H
            clear H
            go_wp2_with (first | ((with_reducible refine gate_callee (f := 38) rfl ?_); refine goesL_ (some 30) rfl rfl Tryd.func38 (by kernel_rfl) rfl #[.string t554, .string t555] rfl mq ?_; (with_reducible refine (decimal_Add.calls (hT := HT.out.below bq) kj2 t554 t555 t558 _ A19.out).mono ?_); rintro e w24 ⟨rfl, hb⟩; refine ⟨_, rfl, ?_⟩; replace HB := Aside0.mk (below_step bq hb); (try clear hb); (try clear hb2); (try clear hk); (try clear hi)) | ((with_reducible refine gate_callee (f := 23) rfl ?_); refine goesL_ (some 33) rfl rfl Tryd.func23 (by kernel_rfl) rfl #[.string t554, .string t555] rfl mq ?_; (with_reducible refine (schismaref01_Add.calls kj2 t554 t555 t559 _ A20.out).mono ?_); rintro e w25 ⟨rfl, hb⟩; refine ⟨_, rfl, ?_⟩; replace HB := Aside0.mk (below_step bq hb); (try clear hb); (try clear hb2); (try clear hk); (try clear hi)) | (go_at_call 37; (with_reducible refine (decimal_Mul.calls (hT := HT.out.below bq) kj2 t554 t555 t560 _ A22.out).mono ?_); rintro e w26 ⟨rfl, hb⟩; replace HB := Aside0.mk (below_step bq hb); (try clear hb); (try clear hb2); (try clear hk); (try clear hi)) | (go_at_call 24; (with_reducible refine (schismaref01_Mul.calls kj2 t554 t555 t561 _ A23.out).mono ?_); rintro e w27 ⟨rfl, hb⟩; replace HB := Aside0.mk (below_step bq hb); (try clear hb); (try clear hb2); (try clear hk); (try clear hi)))
            go_meet
            case rel => exact ⟨_, ((t560.toList != t561.toList)), (by first | rfl | (simp; done) | (simp [*]; done)), H', ⟨by have := HJ2.out; first | omega | exact Nat.le_refl _⟩, ⟨bq⟩⟩
          · rw [if_neg c21] at H
            have c21b0 : (t558.toList == t559.toList) = false := beq_eq_false_iff_ne.mpr c21
            have c21b1 : (t558.toList != t559.toList) = true := bne_iff_ne.mpr c21
            (first | rw [c21b0] | (simp only [i64_w, i32_w]; rw [c21b0]) | skip)
            have H' := Aside0.mk H
            clear H
            go_wp2_with (first | ((with_reducible refine gate_callee (f := 38) rfl ?_); refine goesL_ (some 30) rfl rfl Tryd.func38 (by kernel_rfl) rfl #[.string t554, .string t555] rfl mq ?_; (with_reducible refine (decimal_Add.calls (hT := HT.out.below bq) kj2 t554 t555 t558 _ A19.out).mono ?_); rintro e w28 ⟨rfl, hb⟩; refine ⟨_, rfl, ?_⟩; replace HB := Aside0.mk (below_step bq hb); (try clear hb); (try clear hb2); (try clear hk); (try clear hi)) | ((with_reducible refine gate_callee (f := 23) rfl ?_); refine goesL_ (some 33) rfl rfl Tryd.func23 (by kernel_rfl) rfl #[.string t554, .string t555] rfl mq ?_; (with_reducible refine (schismaref01_Add.calls kj2 t554 t555 t559 _ A20.out).mono ?_); rintro e w29 ⟨rfl, hb⟩; refine ⟨_, rfl, ?_⟩; replace HB := Aside0.mk (below_step bq hb); (try clear hb); (try clear hb2); (try clear hk); (try clear hi)))
            go_meet
            case rel => exact ⟨_, (true), (by first | rfl | (simp; done) | (simp [*]; done)), H', ⟨by have := HJ2.out; first | omega | exact Nat.le_refl _⟩, ⟨bq⟩⟩
        case rest =>
          clear HC15
          try clear c1
          try clear c2
          try clear p2
          try clear c3
          try clear c5
          try clear c9
          try clear c11
          try clear c13
          try clear c16
          try clear c21
          try clear c21b0
          try clear c21b1
          try clear c23
          try clear p2
          obtain ⟨kq, x43_14, rfl, HA, HJ14, HB⟩ := hcut
          cases kq with
          | zero => exact absurd HA.out (by simp [schismalaw01_DecimalAdds.j1])
          | succ kj14 =>
            have H := HA.out
            clear HA
            simp only [schismalaw01_DecimalAdds.j1] at H
            by_cases c30 : x43_14 = true
            · subst c30
              have H1 : (some false) = some r := by rw [if_pos rfl] at H; exact H
              clear H
              have H := H1
              clear H1
              obtain rfl := Option.some.inj H
              go_wp2
              go_ret
              exact ⟨eq_, bq⟩
            · replace c30 := Bool.eq_false_iff.mpr c30
              subst c30
              have H1 : ((schismaref01_Compare.f t554 t555).bind fun t562 => (if t562 < 0 then (if t556.toList = ([] : List UInt8) then (some (t557 == 3)) else (some false)) else (if t557 = 0 then ((schismaref01_Minus.f kj14 t554 t555).bind fun t563 => (some (t556.toList == t563.toList))) else (some false)))) = some r := by rw [if_neg (show ¬ (false = true) by decide)] at H; exact H
              clear H
              have H := H1
              clear H1
              replace H := Option.bind_eq_some_iff.mp H
              obtain ⟨t562, A310, H⟩ := H
              replace H : (if t562 < 0 then (if t556.toList = ([] : List UInt8) then (some (t557 == 3)) else (some false)) else (if t557 = 0 then ((schismaref01_Minus.f kj14 t554 t555).bind fun t563 => (some (t556.toList == t563.toList))) else (some false))) = some r := H
              have A31 := Aside0.mk A310
              clear A310
              by_cases c32 : t562 < 0
              · rw [if_pos c32] at H
                have c32b0 : decide (t562 < 0) = true := decide_eq_true c32
                clear c32
                by_cases c33 : t556.toList = ([] : List UInt8)
                · rw [if_pos c33] at H
                  have c33b0 : (t556.toList == ([] : List UInt8)) = true := beq_iff_eq.mpr c33
                  have c33b1 : (t556.toList != ([] : List UInt8)) = false := bne_eq_false_iff_eq.mpr c33
                  clear c33
                  obtain rfl := Option.some.inj H
                  go_wp2_with (first | ((with_reducible refine gate_callee (f := 22) rfl ?_); refine goesL_ (some 46) rfl rfl Tryd.func22 (by kernel_rfl) rfl #[.string t554, .string t555] rfl mq ?_; (with_reducible refine (schismaref01_Compare.calls t554 t555 t562 _ A31.out).mono ?_); rintro e w' ⟨rfl, ⟨nd, rfl⟩⟩; refine ⟨_, rfl, ?_⟩))
                  go_ret
                  exact ⟨eq_, bq⟩
                · rw [if_neg c33] at H
                  have c33b0 : (t556.toList == ([] : List UInt8)) = false := beq_eq_false_iff_ne.mpr c33
                  have c33b1 : (t556.toList != ([] : List UInt8)) = true := bne_iff_ne.mpr c33
                  obtain rfl := Option.some.inj H
                  go_wp2_with (first | ((with_reducible refine gate_callee (f := 22) rfl ?_); refine goesL_ (some 46) rfl rfl Tryd.func22 (by kernel_rfl) rfl #[.string t554, .string t555] rfl mq ?_; (with_reducible refine (schismaref01_Compare.calls t554 t555 t562 _ A31.out).mono ?_); rintro e w' ⟨rfl, ⟨nd, rfl⟩⟩; refine ⟨_, rfl, ?_⟩))
                  go_ret
                  exact ⟨eq_, bq⟩
              · rw [if_neg c32] at H
                have c32b0 : decide (t562 < 0) = false := decide_eq_false c32
                clear c32
                by_cases c34 : t557 = 0
                · rw [if_pos c34] at H
                  have c34b0 : (t557 == 0) = true := beq_iff_eq.mpr c34
                  have c34b1 : (t557 != 0) = false := bne_eq_false_iff_eq.mpr c34
                  clear c34
                  replace H := Option.bind_eq_some_iff.mp H
                  obtain ⟨t563, A350, H⟩ := H
                  replace H : (some (t556.toList == t563.toList)) = some r := H
                  have A35 := Aside0.mk A350
                  clear A350
                  obtain rfl := Option.some.inj H
                  go_wp2_with (first | ((with_reducible refine gate_callee (f := 22) rfl ?_); refine goesL_ (some 46) rfl rfl Tryd.func22 (by kernel_rfl) rfl #[.string t554, .string t555] rfl mq ?_; (with_reducible refine (schismaref01_Compare.calls t554 t555 t562 _ A31.out).mono ?_); rintro e w' ⟨rfl, ⟨nd, rfl⟩⟩; refine ⟨_, rfl, ?_⟩) | (go_at_call 40; (with_reducible refine (schismaref01_Minus.calls kj14 t554 t555 t563 _ A35.out).mono ?_); rintro e w36 ⟨rfl, hb⟩; replace HB := Aside0.mk (below_step bq hb); (try clear hb); (try clear hb2); (try clear hk); (try clear hi)))
                  go_ret
                  exact ⟨eq_, bq⟩
                · rw [if_neg c34] at H
                  have c34b0 : (t557 == 0) = false := beq_eq_false_iff_ne.mpr c34
                  have c34b1 : (t557 != 0) = true := bne_iff_ne.mpr c34
                  obtain rfl := Option.some.inj H
                  go_wp2_with (first | ((with_reducible refine gate_callee (f := 22) rfl ?_); refine goesL_ (some 46) rfl rfl Tryd.func22 (by kernel_rfl) rfl #[.string t554, .string t555] rfl mq ?_; (with_reducible refine (schismaref01_Compare.calls t554 t555 t562 _ A31.out).mono ?_); rintro e w' ⟨rfl, ⟨nd, rfl⟩⟩; refine ⟨_, rfl, ?_⟩))
                  go_ret
                  exact ⟨eq_, bq⟩
def schismalaw01_DecimalAdds.Pure : Prop := ∀ (l0 : List Int) (l1 : List Int), l0.length ≤ maxLen → l0.length * 1 ≤ 140737488351232 → (∀ x ∈ l0, (Lit.int .u8 x).wf = true) → l1.length ≤ maxLen → l1.length * 1 ≤ 140737488351232 → (∀ x ∈ l1, (Lit.int .u8 x).wf = true) → ∃ k, schismalaw01_DecimalAdds.f k l0 l1 = some true
theorem schismalaw01_DecimalAdds.walk (P : schismalaw01_DecimalAdds.Pure) (a0 : Option Addr) (len0 cap0 : Nat) (z0 : List Int) (a1 : Option Addr) (len1 cap1 : Nat) (z1 : List Int) (w : World) (w0 : (a0 = none ∧ len0 = 0 ∧ cap0 = 0 ∧ z0 = []) ∨ ∃ x, a0 = some x ∧ len0 ≤ cap0 ∧ cap0 ≤ maxLen ∧ z0.length = cap0 ∧ (∀ i, i < z0.length → w.cell? (x.add i) = some (.int .u8 (z0.getD i 0))) ∧ ∀ n ∈ z0, (Lit.int .u8 n).wf = true) (y0 : len0 * 1 ≤ 140737488351232) (w1 : (a1 = none ∧ len1 = 0 ∧ cap1 = 0 ∧ z1 = []) ∨ ∃ x, a1 = some x ∧ len1 ≤ cap1 ∧ cap1 ≤ maxLen ∧ z1.length = cap1 ∧ (∀ i, i < z1.length → w.cell? (x.add i) = some (.int .u8 (z1.getD i 0))) ∧ ∀ n ∈ z1, (Lit.int .u8 n).wf = true) (y1 : len1 * 1 ≤ 140737488351232) (hT : Tab w) :
    Calls Tryd.prog 11 #[.slice a0 len0 cap0, .slice a1 len1 cap1] w fun e w' => e = .returned (.bool true) ∧ Below w.heap.size w w' := by
  obtain ⟨l0, rfl, hr0, hm0, hw0, hc0⟩ := ReadsInt.ofRowC w0
  obtain ⟨l1, rfl, hr1, hm1, hw1, hc1⟩ := ReadsInt.ofRowC w1
  obtain ⟨k, h⟩ := P l0 l1 hm0 y0 hw0 hm1 y1 hw1
  refine (schismalaw01_DecimalAdds.calls (hT := hT) k _ _ l0 _ _ l1 true w (Kd.C_of_reads (d := (0 : Int)) (h1 := fun _ => rfl) hr0) hc0 (Kd.C_of_reads (d := (0 : Int)) (h1 := fun _ => rfl) hr1) hc1 h).mono ?_
  rintro e w' ⟨rfl, hd⟩
  exact ⟨rfl, hd⟩
end Go.Proofs.YtcfddphiflmnlaaDoor.P
