/- Functions of the program, as functions of Lean, and the walks that show that the code answers as they do: written by a program. Conditions: those of each theorem. -/
import Derived.Test.YtcfddphiflmnlaaDoorDecimalLawsF5
namespace Go.Proofs.YtcfddphiflmnlaaDoor.P
open Go.RowKit Go.Proofs.YtcfddphiflmnlaaDoorW.PrintWords Go.Proofs.YtcfddphiflmnlaaDoorW.PrintLast Go.Proofs.YtcfddphiflmnlaaDoorW.PrintMore
attribute [local go_sem] gtr_text max2_int min2_int max_two min_two max_three min_three max_four min_four
set_option linter.unusedVariables false
set_option linter.unusedSimpArgs false
def decimal_Sub.f (k : Nat) (a0 : ByteArray) (a1 : ByteArray) : Option (ByteArray × Int) := (decimal_Compare.f a0 a1).bind fun t525 => (if t525 < 0 then (some ((⟨#[]⟩ : ByteArray), 3)) else ((decimal_both.f k a0 a1).bind fun bt526 => (if bt526.2.2 = true then ((decimal_Of.f (IntKind.u64.wrap (bt526.1 - bt526.2.1))).bind fun t529 => (some (t529, 0))) else ((decimal_cut.f k a0).bind fun t530 => (if t530.length < 17592186044416 then ((some (t530 ++ [0] : List Int)).bind fun y533 => ((decimal_cut.f k a1).bind fun t536 => ((decimal_cut.f k a1).bind fun t539 => (if 0 ≤ (wrap64 ((wrap64 ((y533.length : Int) - 1)) - (t539.length : Int))) then (if t536.length + (wrap64 ((wrap64 ((y533.length : Int) - 1)) - (t539.length : Int)) : Int).toNat < 17592186044416 then ((decimal_pieces_take.f k y533 (t536 ++ List.replicate (wrap64 ((wrap64 ((y533.length : Int) - 1)) - (t539.length : Int)) : Int).toNat 0) 1 0).bind fun bt545 => ((decimal_pieces_trim.f k bt545.2).bind fun t547 => ((decimal_pieces_text.f k t547).bind fun t550 => (some (t550, 0))))) else (none)) else (none))))) else (none))))))
theorem decimal_Sub.mono : ∀ a0 a1 k, LeO (decimal_Sub.f k a0 a1) (decimal_Sub.f (k + 1) a0 a1) := by
  intro a0 a1 k
  unfold decimal_Sub.f
  repeat' first
      | (with_reducible exact decimal_both.mono _ _ _)
      | (with_reducible exact decimal_cut.mono _ _)
      | (with_reducible exact decimal_pieces_take.mono _ _ _ _ _)
      | (with_reducible exact decimal_pieces_text.mono _ _)
      | (with_reducible exact decimal_pieces_trim.mono _ _)
      | (with_reducible exact LeO.refl _)
      | (with_reducible exact LeO.none _)
      | (with_reducible refine LeO.ite ?_ ?_)
      | (with_reducible refine LeO.bind ?_ (fun _ => ?_))
      | exact decimal_both.mono _ _ _
      | exact decimal_cut.mono _ _
      | exact decimal_pieces_take.mono _ _ _ _ _
      | exact decimal_pieces_text.mono _ _
      | exact decimal_pieces_trim.mono _ _
      | exact LeO.none _
      | refine LeO.ite ?_ ?_
      | refine LeO.bind ?_ (fun _ => ?_)
set_option maxHeartbeats 8000000 in
set_option maxRecDepth 100000 in
theorem decimal_Sub.calls (k : Nat) (a0 : ByteArray) (a1 : ByteArray) (r1 : ByteArray) (r2 : Int) (w : World) (hT : Tab w) (h : decimal_Sub.f k a0 a1 = some (r1, r2)) :
    Calls Tryd.prog 39 #[.string a0, .string a1] w fun e w' => e = .returned (.tuple #[.string r1, .int .i64 r2]) ∧ Below w.heap.size w w' := by
  have HT := Aside0.mk hT
  clear hT
  have HB := Aside0.mk (Below.refl w.heap.size w)
  have H : ((decimal_Compare.f a0 a1).bind fun t525 => (if t525 < 0 then (some ((⟨#[]⟩ : ByteArray), 3)) else ((decimal_both.f k a0 a1).bind fun bt526 => (if bt526.2.2 = true then ((decimal_Of.f (IntKind.u64.wrap (bt526.1 - bt526.2.1))).bind fun t529 => (some (t529, 0))) else ((decimal_cut.f k a0).bind fun t530 => (if t530.length < 17592186044416 then ((some (t530 ++ [0] : List Int)).bind fun y533 => ((decimal_cut.f k a1).bind fun t536 => ((decimal_cut.f k a1).bind fun t539 => (if 0 ≤ (wrap64 ((wrap64 ((y533.length : Int) - 1)) - (t539.length : Int))) then (if t536.length + (wrap64 ((wrap64 ((y533.length : Int) - 1)) - (t539.length : Int)) : Int).toNat < 17592186044416 then ((decimal_pieces_take.f k y533 (t536 ++ List.replicate (wrap64 ((wrap64 ((y533.length : Int) - 1)) - (t539.length : Int)) : Int).toNat 0) 1 0).bind fun bt545 => ((decimal_pieces_trim.f k bt545.2).bind fun t547 => ((decimal_pieces_text.f k t547).bind fun t550 => (some (t550, 0))))) else (none)) else (none))))) else (none))))))) = some (r1, r2) := h
  clear h
  replace H := Option.bind_eq_some_iff.mp H
  obtain ⟨t525, A30, H⟩ := H
  replace H : (if t525 < 0 then (some ((⟨#[]⟩ : ByteArray), 3)) else ((decimal_both.f k a0 a1).bind fun bt526 => (if bt526.2.2 = true then ((decimal_Of.f (IntKind.u64.wrap (bt526.1 - bt526.2.1))).bind fun t529 => (some (t529, 0))) else ((decimal_cut.f k a0).bind fun t530 => (if t530.length < 17592186044416 then ((some (t530 ++ [0] : List Int)).bind fun y533 => ((decimal_cut.f k a1).bind fun t536 => ((decimal_cut.f k a1).bind fun t539 => (if 0 ≤ (wrap64 ((wrap64 ((y533.length : Int) - 1)) - (t539.length : Int))) then (if t536.length + (wrap64 ((wrap64 ((y533.length : Int) - 1)) - (t539.length : Int)) : Int).toNat < 17592186044416 then ((decimal_pieces_take.f k y533 (t536 ++ List.replicate (wrap64 ((wrap64 ((y533.length : Int) - 1)) - (t539.length : Int)) : Int).toNat 0) 1 0).bind fun bt545 => ((decimal_pieces_trim.f k bt545.2).bind fun t547 => ((decimal_pieces_text.f k t547).bind fun t550 => (some (t550, 0))))) else (none)) else (none))))) else (none)))))) = some (r1, r2) := H
  have A3 := Aside0.mk A30
  clear A30
  by_cases c4 : t525 < 0
  · rw [if_pos c4] at H
    have c4b0 : decide (t525 < 0) = true := decide_eq_true c4
    clear c4
    simp only [Option.some.injEq, Prod.mk.injEq] at H
    obtain ⟨rfl, rfl⟩ := H
    go_enter Tryd.func39, Tryd.ntmps39
    go_wp2_with (first | ((with_reducible refine gate_callee (f := 30) rfl ?_); refine goesL_ (some 12) rfl rfl Tryd.func30 (by kernel_rfl) rfl #[.string a0, .string a1] rfl mq ?_; (with_reducible refine (decimal_Compare.calls a0 a1 t525 _ A3.out).mono ?_); rintro e w5 ⟨rfl, hb⟩; refine ⟨_, rfl, ?_⟩; replace HB := Aside0.mk (below_step bq hb); (try clear hb); (try clear hb2); (try clear hk); (try clear hi)))
    go_ret2
    exact ⟨eq_, bq⟩
  · rw [if_neg c4] at H
    have c4b0 : decide (t525 < 0) = false := decide_eq_false c4
    clear c4
    replace H := Option.bind_eq_some_iff.mp H
    obtain ⟨⟨t526, t527, t528⟩, A60, H⟩ := H
    replace H : (if t528 = true then ((decimal_Of.f (IntKind.u64.wrap (t526 - t527))).bind fun t529 => (some (t529, 0))) else ((decimal_cut.f k a0).bind fun t530 => (if t530.length < 17592186044416 then ((some (t530 ++ [0] : List Int)).bind fun y533 => ((decimal_cut.f k a1).bind fun t536 => ((decimal_cut.f k a1).bind fun t539 => (if 0 ≤ (wrap64 ((wrap64 ((y533.length : Int) - 1)) - (t539.length : Int))) then (if t536.length + (wrap64 ((wrap64 ((y533.length : Int) - 1)) - (t539.length : Int)) : Int).toNat < 17592186044416 then ((decimal_pieces_take.f k y533 (t536 ++ List.replicate (wrap64 ((wrap64 ((y533.length : Int) - 1)) - (t539.length : Int)) : Int).toNat 0) 1 0).bind fun bt545 => ((decimal_pieces_trim.f k bt545.2).bind fun t547 => ((decimal_pieces_text.f k t547).bind fun t550 => (some (t550, 0))))) else (none)) else (none))))) else (none)))) = some (r1, r2) := H
    have A6 := Aside0.mk A60
    clear A60
    by_cases c7 : t528 = true
    · subst c7
      have H1 : ((decimal_Of.f (IntKind.u64.wrap (t526 - t527))).bind fun t529 => (some (t529, 0))) = some (r1, r2) := by rw [if_pos rfl] at H; exact H
      clear H
      have H := H1
      clear H1
      replace H := Option.bind_eq_some_iff.mp H
      obtain ⟨t529, A80, H⟩ := H
      replace H : (some (t529, 0)) = some (r1, r2) := H
      have A8 := Aside0.mk A80
      clear A80
      simp only [Option.some.injEq, Prod.mk.injEq] at H
      obtain ⟨rfl, rfl⟩ := H
      go_enter Tryd.func39, Tryd.ntmps39
      go_wp2_with (first | ((with_reducible refine gate_callee (f := 30) rfl ?_); refine goesL_ (some 12) rfl rfl Tryd.func30 (by kernel_rfl) rfl #[.string a0, .string a1] rfl mq ?_; (with_reducible refine (decimal_Compare.calls a0 a1 t525 _ A3.out).mono ?_); rintro e w9 ⟨rfl, hb⟩; refine ⟨_, rfl, ?_⟩; replace HB := Aside0.mk (below_step bq hb); (try clear hb); (try clear hb2); (try clear hk); (try clear hi)) | ((with_reducible refine gate_callee (f := 44) rfl ?_); refine goesL_ (some 17) rfl rfl Tryd.func44 (by kernel_rfl) rfl #[.string a0, .string a1] rfl mq ?_; (with_reducible refine (decimal_both.calls (hT := HT.out.below bq) k a0 a1 t526 t527 true _ A6.out).mono ?_); rintro e w10 ⟨rfl, hb⟩; refine ⟨_, rfl, ?_⟩; replace HB := Aside0.mk (below_step bq hb); (try clear hb); (try clear hb2); (try clear hk); (try clear hi)) | ((with_reducible refine gate_callee (f := 14) rfl ?_); refine goesL_ (some 25) rfl rfl Tryd.func14 (by kernel_rfl) rfl #[.int .u64 (IntKind.u64.wrap (t526 - t527))] rfl mq ?_; (with_reducible refine (decimal_Of.calls (hT := HT.out.below bq) (IntKind.u64.wrap (t526 - t527)) t529 _ A8.out).mono ?_); rintro e w11 ⟨rfl, hb⟩; refine ⟨_, rfl, ?_⟩; replace HB := Aside0.mk (below_step bq hb); (try clear hb); (try clear hb2); (try clear hk); (try clear hi)))
      go_ret2
      exact ⟨eq_, bq⟩
    · replace c7 := Bool.eq_false_iff.mpr c7
      subst c7
      have H1 : ((decimal_cut.f k a0).bind fun t530 => (if t530.length < 17592186044416 then ((some (t530 ++ [0] : List Int)).bind fun y533 => ((decimal_cut.f k a1).bind fun t536 => ((decimal_cut.f k a1).bind fun t539 => (if 0 ≤ (wrap64 ((wrap64 ((y533.length : Int) - 1)) - (t539.length : Int))) then (if t536.length + (wrap64 ((wrap64 ((y533.length : Int) - 1)) - (t539.length : Int)) : Int).toNat < 17592186044416 then ((decimal_pieces_take.f k y533 (t536 ++ List.replicate (wrap64 ((wrap64 ((y533.length : Int) - 1)) - (t539.length : Int)) : Int).toNat 0) 1 0).bind fun bt545 => ((decimal_pieces_trim.f k bt545.2).bind fun t547 => ((decimal_pieces_text.f k t547).bind fun t550 => (some (t550, 0))))) else (none)) else (none))))) else (none))) = some (r1, r2) := by rw [if_neg (show ¬ (false = true) by decide)] at H; exact H
      clear H
      have H := H1
      clear H1
      replace H := Option.bind_eq_some_iff.mp H
      obtain ⟨t530, A120, H⟩ := H
      replace H : (if t530.length < 17592186044416 then ((some (t530 ++ [0] : List Int)).bind fun y533 => ((decimal_cut.f k a1).bind fun t536 => ((decimal_cut.f k a1).bind fun t539 => (if 0 ≤ (wrap64 ((wrap64 ((y533.length : Int) - 1)) - (t539.length : Int))) then (if t536.length + (wrap64 ((wrap64 ((y533.length : Int) - 1)) - (t539.length : Int)) : Int).toNat < 17592186044416 then ((decimal_pieces_take.f k y533 (t536 ++ List.replicate (wrap64 ((wrap64 ((y533.length : Int) - 1)) - (t539.length : Int)) : Int).toNat 0) 1 0).bind fun bt545 => ((decimal_pieces_trim.f k bt545.2).bind fun t547 => ((decimal_pieces_text.f k t547).bind fun t550 => (some (t550, 0))))) else (none)) else (none))))) else (none)) = some (r1, r2) := H
      have A12 := Aside0.mk A120
      clear A120
      by_cases c13 : t530.length < 17592186044416
      · rw [if_pos c13] at H
        have LMc13 := Aside0.mk c13
        clear c13
        obtain ⟨y533, hy533⟩ : ∃ y_ : List Int, y_ = (t530 ++ [0]) := ⟨_, rfl⟩
        replace H : ((decimal_cut.f k a1).bind fun t536 => ((decimal_cut.f k a1).bind fun t539 => (if 0 ≤ (wrap64 ((wrap64 ((y533.length : Int) - 1)) - (t539.length : Int))) then (if t536.length + (wrap64 ((wrap64 ((y533.length : Int) - 1)) - (t539.length : Int)) : Int).toNat < 17592186044416 then ((decimal_pieces_take.f k y533 (t536 ++ List.replicate (wrap64 ((wrap64 ((y533.length : Int) - 1)) - (t539.length : Int)) : Int).toNat 0) 1 0).bind fun bt545 => ((decimal_pieces_trim.f k bt545.2).bind fun t547 => ((decimal_pieces_text.f k t547).bind fun t550 => (some (t550, 0))))) else (none)) else (none)))) = some (r1, r2) := by first | (rw [hy533]; with_reducible exact H) | (have H2_ := (Option.bind_some _ _).symm.trans H; rw [hy533]; with_reducible exact H2_) | (have H2_ := (Option.bind_some _ _).symm.trans H; with_reducible exact H2_) | with_reducible exact H | (rw [hy533]; exact H) | exact H
        have Ny533 := Aside0.mk hy533
        clear hy533
        replace H := Option.bind_eq_some_iff.mp H
        obtain ⟨t536, A140, H⟩ := H
        replace H : ((decimal_cut.f k a1).bind fun t539 => (if 0 ≤ (wrap64 ((wrap64 ((y533.length : Int) - 1)) - (t539.length : Int))) then (if t536.length + (wrap64 ((wrap64 ((y533.length : Int) - 1)) - (t539.length : Int)) : Int).toNat < 17592186044416 then ((decimal_pieces_take.f k y533 (t536 ++ List.replicate (wrap64 ((wrap64 ((y533.length : Int) - 1)) - (t539.length : Int)) : Int).toNat 0) 1 0).bind fun bt545 => ((decimal_pieces_trim.f k bt545.2).bind fun t547 => ((decimal_pieces_text.f k t547).bind fun t550 => (some (t550, 0))))) else (none)) else (none))) = some (r1, r2) := H
        have A14 := Aside0.mk A140
        clear A140
        replace H := Option.bind_eq_some_iff.mp H
        obtain ⟨t539, A150, H⟩ := H
        replace H : (if 0 ≤ (wrap64 ((wrap64 ((y533.length : Int) - 1)) - (t539.length : Int))) then (if t536.length + (wrap64 ((wrap64 ((y533.length : Int) - 1)) - (t539.length : Int)) : Int).toNat < 17592186044416 then ((decimal_pieces_take.f k y533 (t536 ++ List.replicate (wrap64 ((wrap64 ((y533.length : Int) - 1)) - (t539.length : Int)) : Int).toNat 0) 1 0).bind fun bt545 => ((decimal_pieces_trim.f k bt545.2).bind fun t547 => ((decimal_pieces_text.f k t547).bind fun t550 => (some (t550, 0))))) else (none)) else (none)) = some (r1, r2) := H
        have A15 := Aside0.mk A150
        clear A150
        have hq2_ : t536 = t539 := Option.some.inj (A14.out.symm.trans A15.out)
        obtain rfl := hq2_
        obtain ⟨ji16, hji16⟩ : ∃ j_ : Int, (wrap64 ((wrap64 ((y533.length : Int) - 1)) - (t536.length : Int))) = j_ := ⟨_, rfl⟩
        replace H : (if 0 ≤ (ji16) then (if t536.length + (ji16 : Int).toNat < 17592186044416 then ((decimal_pieces_take.f k y533 (t536 ++ List.replicate (ji16 : Int).toNat 0) 1 0).bind fun bt545 => ((decimal_pieces_trim.f k bt545.2).bind fun t547 => ((decimal_pieces_text.f k t547).bind fun t550 => (some (t550, 0))))) else (none)) else (none)) = some (r1, r2) := by first | (rw [hji16] at H; exact H) | (simp only [hji16] at H ⊢; exact H)
        (try rw [hji16] at A3)
        (try rw [hji16] at A6)
        (try rw [hji16] at A12)
        (try rw [hji16] at A14)
        (try rw [hji16] at A15)
        have hji16w : (IntKind.i64.wrap ((wrap64 ((y533.length : Int) - 1)) - (t536.length : Int))) = ji16 := (i64_w _).trans hji16
        by_cases c17 : 0 ≤ (ji16)
        · rw [if_pos c17] at H
          have c17b0 := eq_true c17
          have c17b1 : decide (0 ≤ (ji16)) = true := decide_eq_true c17
          clear c17
          by_cases c18 : t536.length + (ji16 : Int).toNat < 17592186044416
          · rw [if_pos c18] at H
            have LMc18 := Aside0.mk c18
            clear c18
            obtain ⟨y542, hy542⟩ : ∃ y_ : List Int, y_ = (t536 ++ List.replicate (ji16 : Int).toNat 0) := ⟨_, rfl⟩
            replace H : ((decimal_pieces_take.f k y533 y542 1 0).bind fun bt545 => ((decimal_pieces_trim.f k bt545.2).bind fun t547 => ((decimal_pieces_text.f k t547).bind fun t550 => (some (t550, 0))))) = some (r1, r2) := by first | (rw [hy542]; with_reducible exact H) | (have H2_ := (Option.bind_some _ _).symm.trans H; rw [hy542]; with_reducible exact H2_) | (have H2_ := (Option.bind_some _ _).symm.trans H; with_reducible exact H2_) | with_reducible exact H | (rw [hy542]; exact H) | exact H
            have Ny542 := Aside0.mk hy542
            clear hy542
            replace H := Option.bind_eq_some_iff.mp H
            obtain ⟨⟨t545, t546⟩, A190, H⟩ := H
            replace H : ((decimal_pieces_trim.f k t546).bind fun t547 => ((decimal_pieces_text.f k t547).bind fun t550 => (some (t550, 0)))) = some (r1, r2) := H
            have A19 := Aside0.mk A190
            clear A190
            replace H := Option.bind_eq_some_iff.mp H
            obtain ⟨t547, A200, H⟩ := H
            replace H : ((decimal_pieces_text.f k t547).bind fun t550 => (some (t550, 0))) = some (r1, r2) := H
            have A20 := Aside0.mk A200
            clear A200
            replace H := Option.bind_eq_some_iff.mp H
            obtain ⟨t550, A210, H⟩ := H
            replace H : (some (t550, 0)) = some (r1, r2) := H
            have A21 := Aside0.mk A210
            clear A210
            simp only [Option.some.injEq, Prod.mk.injEq] at H
            obtain ⟨rfl, rfl⟩ := H
            go_enter Tryd.func39, Tryd.ntmps39
            go_wp2_with (first | ((with_reducible refine gate_callee (f := 30) rfl ?_); refine goesL_ (some 12) rfl rfl Tryd.func30 (by kernel_rfl) rfl #[.string a0, .string a1] rfl mq ?_; (with_reducible refine (decimal_Compare.calls a0 a1 t525 _ A3.out).mono ?_); rintro e w22 ⟨rfl, hb⟩; refine ⟨_, rfl, ?_⟩; replace HB := Aside0.mk (below_step bq hb); (try clear hb); (try clear hb2); (try clear hk); (try clear hi)) | ((with_reducible refine gate_callee (f := 44) rfl ?_); refine goesL_ (some 17) rfl rfl Tryd.func44 (by kernel_rfl) rfl #[.string a0, .string a1] rfl mq ?_; (with_reducible refine (decimal_both.calls (hT := HT.out.below bq) k a0 a1 t526 t527 false _ A6.out).mono ?_); rintro e w23 ⟨rfl, hb⟩; refine ⟨_, rfl, ?_⟩; replace HB := Aside0.mk (below_step bq hb); (try clear hb); (try clear hb2); (try clear hk); (try clear hi)) | ((with_reducible refine gate_callee (f := 45) rfl ?_); refine goesL_ (some 27) rfl rfl Tryd.func45 (by kernel_rfl) rfl #[.string a0] rfl mq ?_; (with_reducible refine (decimal_cut.calls k a0 t530 _ A12.out).mono ?_); rintro e w24 ⟨v531, rfl, ho0, hb⟩; refine ⟨_, rfl, ?_⟩; have n0_ := Aside0.mk (Kd.R_lower ho0 (below_size bq)); have n1_ := Aside0.mk (below_step bq hb); clear HB; have HO532 := n0_; have HB := n1_; clear n0_ n1_; (try clear hb); (try clear hb2); (try clear hk); (try clear hi); (try clear ho0)) | ((with_reducible refine gate_builtin (b := .append) (xs := #[.tmp 27, .tmp 28]) rfl ?_); at_builtin; refine Kd.R_append (Kd.int .u64) (w0 := w) w.heap.size rfl (.tmp 27) (.tmp 28) 62 22 (.int .u64 0) 8 rfl Tryd.underlying62 info22 rfl (by decide) (by omega) v531 t530 0 [.int .u64 0] (fun _ => True) (fun _ => False) rfl rfl ?aP (fun _ hk => hk.elim) ?aF ?aO ?aB ?aS ?aL ?_; (case aP => exact rfl); (case aB => exact bq); (case aF => exact (fun _ _ => trivial)); (case aO => exact (by (with_reducible repeat (first | apply Kd.R_alloc | apply Kd.R_drewN | apply Kd.R_drew)); exact HO532.out)); (case aS => exact (below_size bq)); (case aL => have := LMc13.out; omega); intro v534 w25 ho hb hg hat; rw [← Ny533.out] at ho; have n0_ := Aside0.mk (hb); have n1_ := Aside0.mk (ho); clear HB; clear HO532; have HB := n0_; have HO535 := n1_; clear n0_ n1_; clear ho hb hg hat) | ((with_reducible refine gate_callee (f := 45) rfl ?_); refine goesL_ (some 32) rfl rfl Tryd.func45 (by kernel_rfl) rfl #[.string a1] rfl mq ?_; (with_reducible refine (decimal_cut.calls k a1 t536 _ A14.out).mono ?_); rintro e w26 ⟨v537, rfl, ho0, hb⟩; refine ⟨_, rfl, ?_⟩; have n0_ := Aside0.mk (Kd.R_elder' (by (with_reducible repeat (first | apply Kd.R_alloc | apply Kd.R_drewN | apply Kd.R_drew)); exact HO535.out) (Kd.R_base ho0) hb); have n1_ := Aside0.mk (Kd.R_lower (Kd.R_new' ho0 (Kd.R_lt (by (with_reducible repeat (first | apply Kd.R_alloc | apply Kd.R_drewN | apply Kd.R_drew)); exact HO535.out))) (below_size bq)); have n2_ := Aside0.mk (below_step bq hb); clear HO535; clear HB; have HO535 := n0_; have HO538 := n1_; have HB := n2_; clear n0_ n1_ n2_; (try clear hb); (try clear hb2); (try clear hk); (try clear hi); (try clear ho0); obtain ⟨Ao27, co27, eo27⟩ := Kd.R_slice HO535.out; subst eo27) | ((with_reducible refine gate_callee (f := 45) rfl ?_); refine goesL_ (some 37) rfl rfl Tryd.func45 (by kernel_rfl) rfl #[.string a1] rfl mq ?_; (with_reducible refine (decimal_cut.calls k a1 t536 _ A15.out).mono ?_); rintro e w28 ⟨v540, rfl, ho0, hb⟩; refine ⟨_, rfl, ?_⟩; have n0_ := Aside0.mk (Kd.R_elder' (by (with_reducible repeat (first | apply Kd.R_alloc | apply Kd.R_drewN | apply Kd.R_drew)); exact HO535.out) (Kd.R_base ho0) hb); have n1_ := Aside0.mk (Kd.R_elder' (by (with_reducible repeat (first | apply Kd.R_alloc | apply Kd.R_drewN | apply Kd.R_drew)); exact HO538.out) (Kd.R_base ho0) hb); have n2_ := Aside0.mk (Kd.R_lower (Kd.R_new' (Kd.R_new' ho0 (Kd.R_lt (by (with_reducible repeat (first | apply Kd.R_alloc | apply Kd.R_drewN | apply Kd.R_drew)); exact HO535.out))) (Kd.R_lt (by (with_reducible repeat (first | apply Kd.R_alloc | apply Kd.R_drewN | apply Kd.R_drew)); exact HO538.out))) (below_size bq)); have n3_ := Aside0.mk (below_step bq hb); clear HO535; clear HO538; clear HB; have HO535 := n0_; have HO538 := n1_; have HO541 := n2_; have HB := n3_; clear n0_ n1_ n2_ n3_; (try clear hb); (try clear hb2); (try clear hk); (try clear hi); (try clear ho0); obtain ⟨Ao29, co29, eo29⟩ := Kd.R_slice HO541.out; subst eo29) | (at_builtin; refine Kd.R_append_zeros (Kd.int .u64) (w0 := w) w.heap.size rfl (.tmp 32) (.tmp 39) 62 3 22 (.int .u64 0) 8 rfl Tryd.underlying62 Tryd.underlying3 info22 rfl (by decide) (by omega) v537 t536 0 (ji16 : Int) (fun k_ => some k_ ≠ (.slice Ao27 y533.length co27 : Value).ownBlock ∧ some k_ ≠ (.slice Ao29 t536.length co29 : Value).ownBlock) rfl rfl rfl ?aF ?aO (of_decide_eq_true (by first | (with_reducible assumption) | assumption)) ?aB ?aS ?aL ?_; (case aB => exact bq); (case aF => exact (fun k_ hk => ⟨Kd.fresh' (Kd.R_lt (by (with_reducible repeat (first | apply Kd.R_alloc | apply Kd.R_drewN | apply Kd.R_drew)); exact HO535.out)) k_ hk, Kd.fresh' (Kd.R_lt (by (with_reducible repeat (first | apply Kd.R_alloc | apply Kd.R_drewN | apply Kd.R_drew)); exact HO541.out)) k_ hk⟩)); (case aO => exact (by (with_reducible repeat (first | apply Kd.R_alloc | apply Kd.R_drewN | apply Kd.R_drew)); exact Kd.R_mono HO538.out (fun _ hk => ⟨hk.1.2, hk.2⟩))); (case aS => exact (below_size bq)); (case aL => have := LMc18.out; omega); intro v543 w30 ho hb hg hat; rw [← Ny542.out] at ho; have n0_ := Aside0.mk (Kd.R_after (ok := (fun k_ => some k_ ≠ (.slice Ao29 t536.length co29 : Value).ownBlock)) (by (with_reducible repeat (first | apply Kd.R_alloc | apply Kd.R_drewN | apply Kd.R_drew)); exact Kd.R_mono HO535.out (fun _ hk => ⟨hk.2, hk.1.2⟩)) hg hat); have n1_ := Aside0.mk (Kd.R_after (ok := (fun k_ => some k_ ≠ (.slice Ao27 y533.length co27 : Value).ownBlock)) (by (with_reducible repeat (first | apply Kd.R_alloc | apply Kd.R_drewN | apply Kd.R_drew)); exact Kd.R_mono HO541.out (fun _ hk => ⟨hk.1.2, hk.2⟩)) hg hat); have n2_ := Aside0.mk (hb); have n3_ := Aside0.mk (ho); clear HO535; clear HO541; clear HB; clear HO538; have HO535 := n0_; have HO541 := n1_; have HB := n2_; have HO544 := n3_; clear n0_ n1_ n2_ n3_; clear ho hb hg hat; obtain ⟨Ao31, co31, eo31⟩ := Kd.R_slice HO544.out; subst eo31) | ((with_reducible refine gate_callee (f := 58) rfl ?_); refine goesL_ (some 41) rfl rfl Tryd.func58 (by kernel_rfl) rfl #[.slice Ao27 y533.length co27, .slice Ao31 y542.length co31, .int .u64 1, .int .i64 0] rfl mq ?_; (with_reducible refine (decimal_pieces_take.calls k (fun k_ => some k_ = (.slice Ao27 y533.length co27 : Value).ownBlock) (.slice Ao27 y533.length co27) y533 _ _ y542 1 0 t545 t546 w _ ?side1 ?side2 ?side3 ?side4 A19.out).mono ?_); (case side1 => exact bq); (case side2 => exact Kd.R_tight rfl HO535.out); (case side3 => exact Kd.C_kept_own (HO544.out) (fun k_ hk_ hs_ => (hk_.1) hs_)); (case side4 => exact (Kd.R_reads' HO544.out).2.1); rintro e w32 ⟨rfl, hy0, hb, hkp⟩; refine ⟨_, rfl, ?_⟩; have n0_ := Aside0.mk (Kd.R_reok rfl hy0 (fun k_ e_ => HO535.out.1 k_ e_)); have n1_ := Aside0.mk (Kd.R_mono (ok' := fun k_ => some k_ ≠ (.slice Ao27 y533.length co27 : Value).ownBlock ∧ some k_ ≠ (.slice Ao31 y542.length co31 : Value).ownBlock) (Kd.R_keptB (HO541.out) hkp (fun k_ hk_ hs_ => (hk_.1) hs_)) (fun k_ hk_ => ⟨hk_.1.1, hk_.1.2⟩)); have n2_ := Aside0.mk (Kd.R_mono (ok' := fun k_ => some k_ ≠ (.slice Ao27 y533.length co27 : Value).ownBlock ∧ some k_ ≠ (.slice Ao29 t536.length co29 : Value).ownBlock) (Kd.R_keptB (HO544.out) hkp (fun k_ hk_ hs_ => (hk_.1) hs_)) (fun k_ hk_ => ⟨hk_.1.1, hk_.1.2⟩)); have n3_ := Aside0.mk (hb); clear HO535; clear HO541; clear HO544; clear HB; have HO535 := n0_; have HO541 := n1_; have HO544 := n2_; have HB := n3_; clear n0_ n1_ n2_ n3_; (try clear hb); (try clear hkp); (try clear hy0)) | ((with_reducible refine gate_callee (f := 57) rfl ?_); refine goesL_ (some 43) rfl rfl Tryd.func57 (by kernel_rfl) rfl #[.slice Ao27 y533.length co27] rfl mq ?_; (with_reducible refine (decimal_pieces_trim.calls k (fun k_ => some k_ = (.slice Ao27 y533.length co27 : Value).ownBlock) (.slice Ao27 y533.length co27) t546 t547 w _ ?side1 ?side2 A20.out).mono ?_); (case side1 => exact bq); (case side2 => exact Kd.R_tight rfl HO535.out); rintro e w33 ⟨v548, rfl, ho0, hb, hkp⟩; refine ⟨_, rfl, ?_⟩; have n0_ := Aside0.mk (Kd.R_mono (ok' := fun k_ => some k_ ≠ (.slice Ao31 y542.length co31 : Value).ownBlock ∧ some k_ ≠ (v548 : Value).ownBlock) (Kd.R_keptB (HO541.out) hkp (fun k_ hk_ hs_ => (hk_.1) hs_)) (fun k_ hk_ => ⟨hk_.1.2, fun e_ => Or.elim (ho0.1 k_ e_.symm) (fun hs_ => hk_.2.1 hs_) (fun hn_ => Nat.not_le.2 hk_.2.2 hn_)⟩)); have n1_ := Aside0.mk (Kd.R_mono (ok' := fun k_ => some k_ ≠ (.slice Ao29 t536.length co29 : Value).ownBlock ∧ some k_ ≠ (v548 : Value).ownBlock) (Kd.R_keptB (HO544.out) hkp (fun k_ hk_ hs_ => (hk_.1) hs_)) (fun k_ hk_ => ⟨hk_.1.2, fun e_ => Or.elim (ho0.1 k_ e_.symm) (fun hs_ => hk_.2.1 hs_) (fun hn_ => Nat.not_le.2 hk_.2.2 hn_)⟩)); have n2_ := Aside0.mk (Kd.R_mono (ok' := fun k_ => some k_ ≠ (.slice Ao29 t536.length co29 : Value).ownBlock ∧ some k_ ≠ (.slice Ao31 y542.length co31 : Value).ownBlock) ho0 (fun k_ hk_ => ⟨Or.elim hk_ (fun hs_ => fun e_ => (((HO541.out).1 k_ e_.symm).1) hs_) (fun hn_ => (Kd.fresh' (Kd.R_lt (by (with_reducible repeat (first | apply Kd.R_alloc | apply Kd.R_drewN | apply Kd.R_drew)); exact HO541.out)) k_ hn_)), Or.elim hk_ (fun hs_ => fun e_ => (((HO544.out).1 k_ e_.symm).1) hs_) (fun hn_ => (Kd.fresh' (Kd.R_lt (by (with_reducible repeat (first | apply Kd.R_alloc | apply Kd.R_drewN | apply Kd.R_drew)); exact HO544.out)) k_ hn_))⟩)); have n3_ := Aside0.mk (hb); clear HO541; clear HO544; clear HB; clear HO535; have HO541 := n0_; have HO544 := n1_; have HO549 := n2_; have HB := n3_; clear n0_ n1_ n2_ n3_; (try clear hb); (try clear hkp); (try clear ho0); obtain ⟨Ao34, co34, eo34⟩ := Kd.R_slice HO549.out; subst eo34) | ((with_reducible refine gate_callee (f := 48) rfl ?_); refine goesL_ (some 44) rfl rfl Tryd.func48 (by kernel_rfl) rfl #[.slice Ao34 t547.length co34] rfl mq ?_; (with_reducible refine (decimal_pieces_text.calls k _ _ t547 t550 _ ?side1 ?side2 A21.out).mono ?_); (case side1 => repeat (first | exact (Kd.R_reads' HO549.out).2.2 | (with_reducible refine Kd.C_alloc ?_ _) | (with_reducible refine Kd.C_drewN ?_ _) | (with_reducible refine Kd.C_drew ?_))); (case side2 => exact (Kd.R_reads' HO549.out).2.1); rintro e w35 ⟨rfl, hb⟩; refine ⟨_, rfl, ?_⟩; have n0_ := Aside0.mk (Kd.R_below (by (with_reducible repeat (first | apply Kd.R_alloc | apply Kd.R_drewN | apply Kd.R_drew)); exact HO541.out) hb); have n1_ := Aside0.mk (Kd.R_below (by (with_reducible repeat (first | apply Kd.R_alloc | apply Kd.R_drewN | apply Kd.R_drew)); exact HO544.out) hb); have n2_ := Aside0.mk (Kd.R_below (by (with_reducible repeat (first | apply Kd.R_alloc | apply Kd.R_drewN | apply Kd.R_drew)); exact HO549.out) hb); have n3_ := Aside0.mk (below_step bq hb); clear HO541; clear HO544; clear HO549; clear HB; have HO541 := n0_; have HO544 := n1_; have HO549 := n2_; have HB := n3_; clear n0_ n1_ n2_ n3_; (try clear hb); (try clear hb2); (try clear hk); (try clear hi)))
            go_ret2
            exact ⟨by first | rfl | (simp [errW_none, errW_some] <;> rfl) | (simp only [← hji16]; first | rfl | (simp [errW_none, errW_some] <;> rfl)) | (simp [*, errW_none, errW_some] <;> rfl), bq⟩
          · rw [if_neg c18] at H
            exact absurd H (by simp)
        · rw [if_neg c17] at H
          exact absurd H (by simp)
      · rw [if_neg c13] at H
        exact absurd H (by simp)
mutual
def schismalaw01_DecimalLaws.j0 : Nat → List Int → List Int → List Int → Bool → Option (Bool)
  | 0, _, _, _, _ => none
  | k + 1, x0, x1, x2, x20 => if x20 = true then ((schismalaw01_known.f k).bind fun t566 => (some t566)) else ((schismalaw01_Make.f k x0).bind fun t567 => ((schismalaw01_Make.f k x1).bind fun t568 => ((schismalaw01_Make.f k x2).bind fun t569 => ((decimal_Add.f k t567 t568).bind fun t570 => ((decimal_Add.f k t568 t567).bind fun t571 => (if t570.toList = t571.toList then ((decimal_Add.f k t567 t568).bind fun t572 => ((decimal_Add.f k t572 t569).bind fun t573 => ((decimal_Add.f k t568 t569).bind fun t574 => ((decimal_Add.f k t567 t574).bind fun t575 => (schismalaw01_DecimalLaws.j1 k t567 t568 t569 (t573.toList != t575.toList)))))) else (schismalaw01_DecimalLaws.j1 k t567 t568 t569 true)))))))
def schismalaw01_DecimalLaws.j1 : Nat → ByteArray → ByteArray → ByteArray → Bool → Option (Bool)
  | 0, _, _, _, _ => none
  | k + 1, x7, x8, x9, x47 => if x47 = true then (some false) else ((decimal_Mul.f k x7 x8).bind fun t576 => ((decimal_Mul.f k x8 x7).bind fun t577 => (if t576.toList = t577.toList then ((decimal_Mul.f k x7 x8).bind fun t578 => ((decimal_Mul.f k t578 x9).bind fun t579 => ((decimal_Mul.f k x8 x9).bind fun t580 => ((decimal_Mul.f k x7 t580).bind fun t581 => (schismalaw01_DecimalLaws.j2 k x7 x8 x9 (t579.toList != t581.toList)))))) else (schismalaw01_DecimalLaws.j2 k x7 x8 x9 true))))
def schismalaw01_DecimalLaws.j2 : Nat → ByteArray → ByteArray → ByteArray → Bool → Option (Bool)
  | 0, _, _, _, _ => none
  | k + 1, x7, x8, x9, x67 => if x67 = true then (some false) else ((decimal_Add.f k x7 x8).bind fun t582 => ((decimal_Sub.f k t582 x8).bind fun bt583 => ((decimal_Add.f k x8 x9).bind fun t585 => ((decimal_Mul.f k x7 t585).bind fun t586 => ((decimal_Mul.f k x7 x8).bind fun t587 => ((decimal_Mul.f k x7 x9).bind fun t588 => ((decimal_Add.f k t587 t588).bind fun t589 => (if t586.toList = t589.toList then (if bt583.2 = 0 then (some (bt583.1.toList == x7.toList)) else (some false)) else (some false)))))))))
end
def schismalaw01_DecimalLaws.f (k : Nat) (l0 : List Int) (l1 : List Int) (l2 : List Int) : Option (Bool) := (schismalaw01_known.f k).bind fun t564 => (if t564 = true then ((schismalaw01_few.f l0 l1 l2).bind fun t565 => (schismalaw01_DecimalLaws.j0 k l0 l1 l2 (!t565))) else (schismalaw01_DecimalLaws.j0 k l0 l1 l2 true))
theorem schismalaw01_DecimalLaws.mono_l : ∀ k, (∀ y0 y1 y2 y3, LeO (schismalaw01_DecimalLaws.j0 k y0 y1 y2 y3) (schismalaw01_DecimalLaws.j0 (k + 1) y0 y1 y2 y3)) ∧ (∀ y0 y1 y2 y3, LeO (schismalaw01_DecimalLaws.j1 k y0 y1 y2 y3) (schismalaw01_DecimalLaws.j1 (k + 1) y0 y1 y2 y3)) ∧ (∀ y0 y1 y2 y3, LeO (schismalaw01_DecimalLaws.j2 k y0 y1 y2 y3) (schismalaw01_DecimalLaws.j2 (k + 1) y0 y1 y2 y3))
  | 0 => ⟨fun _ _ _ _ r h => by simp [schismalaw01_DecimalLaws.j0] at h, fun _ _ _ _ r h => by simp [schismalaw01_DecimalLaws.j1] at h, fun _ _ _ _ r h => by simp [schismalaw01_DecimalLaws.j2] at h⟩
  | k + 1 => by
    obtain ⟨ih0, ih1, ih2⟩ := schismalaw01_DecimalLaws.mono_l k
    refine ⟨?_, ?_, ?_⟩
    · intro y0 y1 y2 y3
      unfold schismalaw01_DecimalLaws.j0
      repeat' first
      | (with_reducible exact ih0 _ _ _ _)
      | (with_reducible exact ih1 _ _ _ _)
      | (with_reducible exact ih2 _ _ _ _)
      | (with_reducible exact decimal_Add.mono _ _ _)
      | (with_reducible exact decimal_Mul.mono _ _ _)
      | (with_reducible exact decimal_Sub.mono _ _ _)
      | (with_reducible exact schismalaw01_Make.mono _ _)
      | (with_reducible exact schismalaw01_known.mono _)
      | (with_reducible exact LeO.refl _)
      | (with_reducible exact LeO.none _)
      | (with_reducible refine LeO.ite ?_ ?_)
      | (with_reducible refine LeO.bind ?_ (fun _ => ?_))
      | exact ih0 _ _ _ _
      | exact ih1 _ _ _ _
      | exact ih2 _ _ _ _
      | exact decimal_Add.mono _ _ _
      | exact decimal_Mul.mono _ _ _
      | exact decimal_Sub.mono _ _ _
      | exact schismalaw01_Make.mono _ _
      | exact schismalaw01_known.mono _
      | exact LeO.none _
      | refine LeO.ite ?_ ?_
      | refine LeO.bind ?_ (fun _ => ?_)
    · intro y0 y1 y2 y3
      unfold schismalaw01_DecimalLaws.j1
      repeat' first
      | (with_reducible exact ih0 _ _ _ _)
      | (with_reducible exact ih1 _ _ _ _)
      | (with_reducible exact ih2 _ _ _ _)
      | (with_reducible exact decimal_Add.mono _ _ _)
      | (with_reducible exact decimal_Mul.mono _ _ _)
      | (with_reducible exact decimal_Sub.mono _ _ _)
      | (with_reducible exact schismalaw01_Make.mono _ _)
      | (with_reducible exact schismalaw01_known.mono _)
      | (with_reducible exact LeO.refl _)
      | (with_reducible exact LeO.none _)
      | (with_reducible refine LeO.ite ?_ ?_)
      | (with_reducible refine LeO.bind ?_ (fun _ => ?_))
      | exact ih0 _ _ _ _
      | exact ih1 _ _ _ _
      | exact ih2 _ _ _ _
      | exact decimal_Add.mono _ _ _
      | exact decimal_Mul.mono _ _ _
      | exact decimal_Sub.mono _ _ _
      | exact schismalaw01_Make.mono _ _
      | exact schismalaw01_known.mono _
      | exact LeO.none _
      | refine LeO.ite ?_ ?_
      | refine LeO.bind ?_ (fun _ => ?_)
    · intro y0 y1 y2 y3
      unfold schismalaw01_DecimalLaws.j2
      repeat' first
      | (with_reducible exact ih0 _ _ _ _)
      | (with_reducible exact ih1 _ _ _ _)
      | (with_reducible exact ih2 _ _ _ _)
      | (with_reducible exact decimal_Add.mono _ _ _)
      | (with_reducible exact decimal_Mul.mono _ _ _)
      | (with_reducible exact decimal_Sub.mono _ _ _)
      | (with_reducible exact schismalaw01_Make.mono _ _)
      | (with_reducible exact schismalaw01_known.mono _)
      | (with_reducible exact LeO.refl _)
      | (with_reducible exact LeO.none _)
      | (with_reducible refine LeO.ite ?_ ?_)
      | (with_reducible refine LeO.bind ?_ (fun _ => ?_))
      | exact ih0 _ _ _ _
      | exact ih1 _ _ _ _
      | exact ih2 _ _ _ _
      | exact decimal_Add.mono _ _ _
      | exact decimal_Mul.mono _ _ _
      | exact decimal_Sub.mono _ _ _
      | exact schismalaw01_Make.mono _ _
      | exact schismalaw01_known.mono _
      | exact LeO.none _
      | refine LeO.ite ?_ ?_
      | refine LeO.bind ?_ (fun _ => ?_)
theorem schismalaw01_DecimalLaws.mono : ∀ a0 a1 a2 k, LeO (schismalaw01_DecimalLaws.f k a0 a1 a2) (schismalaw01_DecimalLaws.f (k + 1) a0 a1 a2) := by
  intro a0 a1 a2 k
  obtain ⟨ih0, ih1, ih2⟩ := schismalaw01_DecimalLaws.mono_l k
  unfold schismalaw01_DecimalLaws.f
  repeat' first
      | (with_reducible exact ih0 _ _ _ _)
      | (with_reducible exact ih1 _ _ _ _)
      | (with_reducible exact ih2 _ _ _ _)
      | (with_reducible exact decimal_Add.mono _ _ _)
      | (with_reducible exact decimal_Mul.mono _ _ _)
      | (with_reducible exact decimal_Sub.mono _ _ _)
      | (with_reducible exact schismalaw01_Make.mono _ _)
      | (with_reducible exact schismalaw01_known.mono _)
      | (with_reducible exact LeO.refl _)
      | (with_reducible exact LeO.none _)
      | (with_reducible refine LeO.ite ?_ ?_)
      | (with_reducible refine LeO.bind ?_ (fun _ => ?_))
      | exact ih0 _ _ _ _
      | exact ih1 _ _ _ _
      | exact ih2 _ _ _ _
      | exact decimal_Add.mono _ _ _
      | exact decimal_Mul.mono _ _ _
      | exact decimal_Sub.mono _ _ _
      | exact schismalaw01_Make.mono _ _
      | exact schismalaw01_known.mono _
      | exact LeO.none _
      | refine LeO.ite ?_ ?_
      | refine LeO.bind ?_ (fun _ => ?_)
set_option maxHeartbeats 8000000 in
set_option maxRecDepth 100000 in
theorem schismalaw01_DecimalLaws.calls (k : Nat) (A0 : Option Addr) (c0 : Nat) (l0 : List Int) (A1 : Option Addr) (c1 : Nat) (l1 : List Int) (A2 : Option Addr) (c2 : Nat) (l2 : List Int) (r : Bool) (w : World) (hr0 : Kd.C (Kd.int .u8) w A0 l0.length l0) (hc0 : l0.length ≤ c0) (hr1 : Kd.C (Kd.int .u8) w A1 l1.length l1) (hc1 : l1.length ≤ c1) (hr2 : Kd.C (Kd.int .u8) w A2 l2.length l2) (hc2 : l2.length ≤ c2) (hT : Tab w) (h : schismalaw01_DecimalLaws.f k l0 l1 l2 = some r) :
    Calls Tryd.prog 12 #[.slice A0 l0.length c0, .slice A1 l1.length c1, .slice A2 l2.length c2] w fun e w' => e = .returned (.bool r) ∧ Below w.heap.size w w' := by
  have HT := Aside0.mk hT
  clear hT
  have HR0 := Aside0.mk hr0
  have HC0 := Aside0.mk hc0
  clear hr0 hc0
  have HR1 := Aside0.mk hr1
  have HC1 := Aside0.mk hc1
  clear hr1 hc1
  have HR2 := Aside0.mk hr2
  have HC2 := Aside0.mk hc2
  clear hr2 hc2
  have HB := Aside0.mk (Below.refl w.heap.size w)
  have H : ((schismalaw01_known.f k).bind fun t564 => (if t564 = true then ((schismalaw01_few.f l0 l1 l2).bind fun t565 => (schismalaw01_DecimalLaws.j0 k l0 l1 l2 (!t565))) else (schismalaw01_DecimalLaws.j0 k l0 l1 l2 true))) = some r := h
  clear h
  have HC4 := Aside0.mk H
  clear H
  go_enter Tryd.func12, Tryd.ntmps12
  go_upto_region 1 with (fail)
  go_cut [20] (fun v20 wc => ∃ (kq : Nat) (x20_3 : Bool), v20 = .bool x20_3 ∧ Aside0 (schismalaw01_DecimalLaws.j0 kq l0 l1 l2 x20_3 = some r) ∧ Aside0 (kq ≤ k) ∧ Aside0 (Below w.heap.size w wc))
  case first =>
    have H := HC4.out
    clear HC4
    replace H := Option.bind_eq_some_iff.mp H
    obtain ⟨t564, A50, H⟩ := H
    replace H : (if t564 = true then ((schismalaw01_few.f l0 l1 l2).bind fun t565 => (schismalaw01_DecimalLaws.j0 k l0 l1 l2 (!t565))) else (schismalaw01_DecimalLaws.j0 k l0 l1 l2 true)) = some r := H
    have A5 := Aside0.mk A50
    clear A50
    by_cases c6 : t564 = true
    · subst c6
      have H1 : ((schismalaw01_few.f l0 l1 l2).bind fun t565 => (schismalaw01_DecimalLaws.j0 k l0 l1 l2 (!t565))) = some r := by rw [if_pos rfl] at H; exact H
      clear H
      have H := H1
      clear H1
      replace H := Option.bind_eq_some_iff.mp H
      obtain ⟨t565, A70, H⟩ := H
      replace H : (schismalaw01_DecimalLaws.j0 k l0 l1 l2 (!t565)) = some r := H
      have A7 := Aside0.mk A70
      clear A70
      have H' := Aside0.mk H
      clear H
      go_wp2_with (first | ((with_reducible refine gate_callee (f := 13) rfl ?_); refine goesL_ (some 12) rfl rfl Tryd.func13 (by kernel_rfl) rfl #[] rfl mq ?_; (with_reducible refine (schismalaw01_known.calls (hT := HT.out.below bq) k  true _ A5.out).mono ?_); rintro e w8 ⟨rfl, hb⟩; refine ⟨_, rfl, ?_⟩; replace HB := Aside0.mk (below_step bq hb); (try clear hb); (try clear hb2); (try clear hk); (try clear hi)) | (go_at_call 19; (with_reducible refine (schismalaw01_few.calls _ _ l0 _ _ l1 _ _ l2 t565 _ ?side1 ?side2 ?side3 ?side4 ?side5 ?side6 A7.out).mono ?_); (case side1 => repeat (first | exact (Kd.C_below HR0.out HB.out) | (with_reducible refine Kd.C_alloc ?_ _) | (with_reducible refine Kd.C_drewN ?_ _) | (with_reducible refine Kd.C_drew ?_))); (case side2 => exact HC0.out); (case side3 => repeat (first | exact (Kd.C_below HR1.out HB.out) | (with_reducible refine Kd.C_alloc ?_ _) | (with_reducible refine Kd.C_drewN ?_ _) | (with_reducible refine Kd.C_drew ?_))); (case side4 => exact HC1.out); (case side5 => repeat (first | exact (Kd.C_below HR2.out HB.out) | (with_reducible refine Kd.C_alloc ?_ _) | (with_reducible refine Kd.C_drewN ?_ _) | (with_reducible refine Kd.C_drew ?_))); (case side6 => exact HC2.out); rintro e w' ⟨rfl, ⟨nd, rfl⟩⟩))
      go_meet
      case rel => exact ⟨_, (!t565), (by first | rfl | (simp; done) | (simp [*]; done)), H', ⟨by first | omega | exact Nat.le_refl _⟩, ⟨bq⟩⟩
    · replace c6 := Bool.eq_false_iff.mpr c6
      subst c6
      have H1 : (schismalaw01_DecimalLaws.j0 k l0 l1 l2 true) = some r := by rw [if_neg (show ¬ (false = true) by decide)] at H; exact H
      clear H
      have H := H1
      clear H1
      have H' := Aside0.mk H
      clear H
      go_wp2_with (first | ((with_reducible refine gate_callee (f := 13) rfl ?_); refine goesL_ (some 12) rfl rfl Tryd.func13 (by kernel_rfl) rfl #[] rfl mq ?_; (with_reducible refine (schismalaw01_known.calls (hT := HT.out.below bq) k  false _ A5.out).mono ?_); rintro e w9 ⟨rfl, hb⟩; refine ⟨_, rfl, ?_⟩; replace HB := Aside0.mk (below_step bq hb); (try clear hb); (try clear hb2); (try clear hk); (try clear hi)))
      go_meet
      case rel => exact ⟨_, (true), (by first | rfl | (simp; done) | (simp [*]; done)), H', ⟨by first | omega | exact Nat.le_refl _⟩, ⟨bq⟩⟩
  case rest =>
    clear HC4
    try clear c1
    try clear c2
    try clear p2
    try clear c6
    obtain ⟨kq, x20_3, rfl, HA, HJ3, HB⟩ := hcut
    cases kq with
    | zero => exact absurd HA.out (by simp [schismalaw01_DecimalLaws.j0])
    | succ kj3 =>
      have H := HA.out
      clear HA
      simp only [schismalaw01_DecimalLaws.j0] at H
      by_cases c10 : x20_3 = true
      · subst c10
        have H1 : ((schismalaw01_known.f kj3).bind fun t566 => (some t566)) = some r := by rw [if_pos rfl] at H; exact H
        clear H
        have H := H1
        clear H1
        replace H := Option.bind_eq_some_iff.mp H
        obtain ⟨t566, A110, H⟩ := H
        replace H : (some t566) = some r := H
        have A11 := Aside0.mk A110
        clear A110
        obtain rfl := Option.some.inj H
        go_wp2_with (first | ((with_reducible refine gate_callee (f := 13) rfl ?_); refine goesL_ (some 21) rfl rfl Tryd.func13 (by kernel_rfl) rfl #[] rfl mq ?_; (with_reducible refine (schismalaw01_known.calls (hT := HT.out.below bq) kj3  t566 _ A11.out).mono ?_); rintro e w12 ⟨rfl, hb⟩; refine ⟨_, rfl, ?_⟩; replace HB := Aside0.mk (below_step bq hb); (try clear hb); (try clear hb2); (try clear hk); (try clear hi)))
        go_ret
        exact ⟨eq_, bq⟩
      · replace c10 := Bool.eq_false_iff.mpr c10
        subst c10
        have H1 : ((schismalaw01_Make.f kj3 l0).bind fun t567 => ((schismalaw01_Make.f kj3 l1).bind fun t568 => ((schismalaw01_Make.f kj3 l2).bind fun t569 => ((decimal_Add.f kj3 t567 t568).bind fun t570 => ((decimal_Add.f kj3 t568 t567).bind fun t571 => (if t570.toList = t571.toList then ((decimal_Add.f kj3 t567 t568).bind fun t572 => ((decimal_Add.f kj3 t572 t569).bind fun t573 => ((decimal_Add.f kj3 t568 t569).bind fun t574 => ((decimal_Add.f kj3 t567 t574).bind fun t575 => (schismalaw01_DecimalLaws.j1 kj3 t567 t568 t569 (t573.toList != t575.toList)))))) else (schismalaw01_DecimalLaws.j1 kj3 t567 t568 t569 true))))))) = some r := by rw [if_neg (show ¬ (false = true) by decide)] at H; exact H
        clear H
        have H := H1
        clear H1
        replace H := Option.bind_eq_some_iff.mp H
        obtain ⟨t567, A130, H⟩ := H
        replace H : ((schismalaw01_Make.f kj3 l1).bind fun t568 => ((schismalaw01_Make.f kj3 l2).bind fun t569 => ((decimal_Add.f kj3 t567 t568).bind fun t570 => ((decimal_Add.f kj3 t568 t567).bind fun t571 => (if t570.toList = t571.toList then ((decimal_Add.f kj3 t567 t568).bind fun t572 => ((decimal_Add.f kj3 t572 t569).bind fun t573 => ((decimal_Add.f kj3 t568 t569).bind fun t574 => ((decimal_Add.f kj3 t567 t574).bind fun t575 => (schismalaw01_DecimalLaws.j1 kj3 t567 t568 t569 (t573.toList != t575.toList)))))) else (schismalaw01_DecimalLaws.j1 kj3 t567 t568 t569 true)))))) = some r := H
        have A13 := Aside0.mk A130
        clear A130
        replace H := Option.bind_eq_some_iff.mp H
        obtain ⟨t568, A140, H⟩ := H
        replace H : ((schismalaw01_Make.f kj3 l2).bind fun t569 => ((decimal_Add.f kj3 t567 t568).bind fun t570 => ((decimal_Add.f kj3 t568 t567).bind fun t571 => (if t570.toList = t571.toList then ((decimal_Add.f kj3 t567 t568).bind fun t572 => ((decimal_Add.f kj3 t572 t569).bind fun t573 => ((decimal_Add.f kj3 t568 t569).bind fun t574 => ((decimal_Add.f kj3 t567 t574).bind fun t575 => (schismalaw01_DecimalLaws.j1 kj3 t567 t568 t569 (t573.toList != t575.toList)))))) else (schismalaw01_DecimalLaws.j1 kj3 t567 t568 t569 true))))) = some r := H
        have A14 := Aside0.mk A140
        clear A140
        replace H := Option.bind_eq_some_iff.mp H
        obtain ⟨t569, A150, H⟩ := H
        replace H : ((decimal_Add.f kj3 t567 t568).bind fun t570 => ((decimal_Add.f kj3 t568 t567).bind fun t571 => (if t570.toList = t571.toList then ((decimal_Add.f kj3 t567 t568).bind fun t572 => ((decimal_Add.f kj3 t572 t569).bind fun t573 => ((decimal_Add.f kj3 t568 t569).bind fun t574 => ((decimal_Add.f kj3 t567 t574).bind fun t575 => (schismalaw01_DecimalLaws.j1 kj3 t567 t568 t569 (t573.toList != t575.toList)))))) else (schismalaw01_DecimalLaws.j1 kj3 t567 t568 t569 true)))) = some r := H
        have A15 := Aside0.mk A150
        clear A150
        have HC16 := Aside0.mk H
        clear H
        go_upto_region 4 with (first | ((with_reducible refine gate_callee (f := 16) rfl ?_); refine goesL_ (some 23) rfl rfl Tryd.func16 (by kernel_rfl) rfl #[.slice A0 l0.length c0] rfl mq ?_; (with_reducible refine (schismalaw01_Make.calls kj3 _ _ l0 t567 _ ?side1 ?side2 A13.out).mono ?_); (case side1 => repeat (first | exact (Kd.C_below HR0.out HB.out) | (with_reducible refine Kd.C_alloc ?_ _) | (with_reducible refine Kd.C_drewN ?_ _) | (with_reducible refine Kd.C_drew ?_))); (case side2 => exact HC0.out); rintro e w17 ⟨rfl, hb⟩; refine ⟨_, rfl, ?_⟩; replace HB := Aside0.mk (below_step bq hb); (try clear hb); (try clear hb2); (try clear hk); (try clear hi)) | ((with_reducible refine gate_callee (f := 16) rfl ?_); refine goesL_ (some 25) rfl rfl Tryd.func16 (by kernel_rfl) rfl #[.slice A1 l1.length c1] rfl mq ?_; (with_reducible refine (schismalaw01_Make.calls kj3 _ _ l1 t568 _ ?side1 ?side2 A14.out).mono ?_); (case side1 => repeat (first | exact (Kd.C_below HR1.out HB.out) | (with_reducible refine Kd.C_alloc ?_ _) | (with_reducible refine Kd.C_drewN ?_ _) | (with_reducible refine Kd.C_drew ?_))); (case side2 => exact HC1.out); rintro e w18 ⟨rfl, hb⟩; refine ⟨_, rfl, ?_⟩; replace HB := Aside0.mk (below_step bq hb); (try clear hb); (try clear hb2); (try clear hk); (try clear hi)) | ((with_reducible refine gate_callee (f := 16) rfl ?_); refine goesL_ (some 27) rfl rfl Tryd.func16 (by kernel_rfl) rfl #[.slice A2 l2.length c2] rfl mq ?_; (with_reducible refine (schismalaw01_Make.calls kj3 _ _ l2 t569 _ ?side1 ?side2 A15.out).mono ?_); (case side1 => repeat (first | exact (Kd.C_below HR2.out HB.out) | (with_reducible refine Kd.C_alloc ?_ _) | (with_reducible refine Kd.C_drewN ?_ _) | (with_reducible refine Kd.C_drew ?_))); (case side2 => exact HC2.out); rintro e w19 ⟨rfl, hb⟩; refine ⟨_, rfl, ?_⟩; replace HB := Aside0.mk (below_step bq hb); (try clear hb); (try clear hb2); (try clear hk); (try clear hi)))
        (try simp only [Act.put, List.setIfInBounds_toArray, List.set_cons_zero, List.set_cons_succ])
        go_cut [47] (fun v47 wc => ∃ (kq : Nat) (x47_15 : Bool), v47 = .bool x47_15 ∧ Aside0 (schismalaw01_DecimalLaws.j1 kq t567 t568 t569 x47_15 = some r) ∧ Aside0 (kq ≤ kj3) ∧ Aside0 (Below w.heap.size w wc))
        case first =>
          have H := HC16.out
          clear HC16
          replace H := Option.bind_eq_some_iff.mp H
          obtain ⟨t570, A200, H⟩ := H
          replace H : ((decimal_Add.f kj3 t568 t567).bind fun t571 => (if t570.toList = t571.toList then ((decimal_Add.f kj3 t567 t568).bind fun t572 => ((decimal_Add.f kj3 t572 t569).bind fun t573 => ((decimal_Add.f kj3 t568 t569).bind fun t574 => ((decimal_Add.f kj3 t567 t574).bind fun t575 => (schismalaw01_DecimalLaws.j1 kj3 t567 t568 t569 (t573.toList != t575.toList)))))) else (schismalaw01_DecimalLaws.j1 kj3 t567 t568 t569 true))) = some r := H
          have A20 := Aside0.mk A200
          clear A200
          replace H := Option.bind_eq_some_iff.mp H
          obtain ⟨t571, A210, H⟩ := H
          replace H : (if t570.toList = t571.toList then ((decimal_Add.f kj3 t567 t568).bind fun t572 => ((decimal_Add.f kj3 t572 t569).bind fun t573 => ((decimal_Add.f kj3 t568 t569).bind fun t574 => ((decimal_Add.f kj3 t567 t574).bind fun t575 => (schismalaw01_DecimalLaws.j1 kj3 t567 t568 t569 (t573.toList != t575.toList)))))) else (schismalaw01_DecimalLaws.j1 kj3 t567 t568 t569 true)) = some r := H
          have A21 := Aside0.mk A210
          clear A210
          by_cases c22 : t570.toList = t571.toList
          · rw [if_pos c22] at H
            have c22b0 : (t570.toList == t571.toList) = true := beq_iff_eq.mpr c22
            have c22b1 : (t570.toList != t571.toList) = false := bne_eq_false_iff_eq.mpr c22
            clear c22
            (first | rw [c22b0] | (simp only [i64_w, i32_w]; rw [c22b0]) | skip)
            replace H := Option.bind_eq_some_iff.mp H
            obtain ⟨t572, A230, H⟩ := H
            replace H : ((decimal_Add.f kj3 t572 t569).bind fun t573 => ((decimal_Add.f kj3 t568 t569).bind fun t574 => ((decimal_Add.f kj3 t567 t574).bind fun t575 => (schismalaw01_DecimalLaws.j1 kj3 t567 t568 t569 (t573.toList != t575.toList))))) = some r := H
            have A23 := Aside0.mk A230
            clear A230
            have hq2_ : t570 = t572 := Option.some.inj (A20.out.symm.trans A23.out)
            obtain rfl := hq2_
            replace H := Option.bind_eq_some_iff.mp H
            obtain ⟨t573, A240, H⟩ := H
            replace H : ((decimal_Add.f kj3 t568 t569).bind fun t574 => ((decimal_Add.f kj3 t567 t574).bind fun t575 => (schismalaw01_DecimalLaws.j1 kj3 t567 t568 t569 (t573.toList != t575.toList)))) = some r := H
            have A24 := Aside0.mk A240
            clear A240
            replace H := Option.bind_eq_some_iff.mp H
            obtain ⟨t574, A250, H⟩ := H
            replace H : ((decimal_Add.f kj3 t567 t574).bind fun t575 => (schismalaw01_DecimalLaws.j1 kj3 t567 t568 t569 (t573.toList != t575.toList))) = some r := H
            have A25 := Aside0.mk A250
            clear A250
            replace H := Option.bind_eq_some_iff.mp H
            obtain ⟨t575, A260, H⟩ := H
            replace H : (schismalaw01_DecimalLaws.j1 kj3 t567 t568 t569 (t573.toList != t575.toList)) = some r := H
            have A26 := Aside0.mk A260
            clear A260
            have H' := Aside0.mk H
            clear H
            go_wp2_with (first | ((with_reducible refine gate_callee (f := 38) rfl ?_); refine goesL_ (some 30) rfl rfl Tryd.func38 (by kernel_rfl) rfl #[.string t567, .string t568] rfl mq ?_; (with_reducible refine (decimal_Add.calls (hT := HT.out.below bq) kj3 t567 t568 t570 _ A20.out).mono ?_); rintro e w27 ⟨rfl, hb⟩; refine ⟨_, rfl, ?_⟩; replace HB := Aside0.mk (below_step bq hb); (try clear hb); (try clear hb2); (try clear hk); (try clear hi)) | ((with_reducible refine gate_callee (f := 38) rfl ?_); refine goesL_ (some 33) rfl rfl Tryd.func38 (by kernel_rfl) rfl #[.string t568, .string t567] rfl mq ?_; (with_reducible refine (decimal_Add.calls (hT := HT.out.below bq) kj3 t568 t567 t571 _ A21.out).mono ?_); rintro e w28 ⟨rfl, hb⟩; refine ⟨_, rfl, ?_⟩; replace HB := Aside0.mk (below_step bq hb); (try clear hb); (try clear hb2); (try clear hk); (try clear hi)) | (go_at_call 38; (with_reducible refine (decimal_Add.calls (hT := HT.out.below bq) kj3 t567 t568 t570 _ A23.out).mono ?_); rintro e w29 ⟨rfl, hb⟩; replace HB := Aside0.mk (below_step bq hb); (try clear hb); (try clear hb2); (try clear hk); (try clear hi)) | (go_at_call 38; (with_reducible refine (decimal_Add.calls (hT := HT.out.below bq) kj3 t570 t569 t573 _ A24.out).mono ?_); rintro e w30 ⟨rfl, hb⟩; replace HB := Aside0.mk (below_step bq hb); (try clear hb); (try clear hb2); (try clear hk); (try clear hi)) | (go_at_call 38; (with_reducible refine (decimal_Add.calls (hT := HT.out.below bq) kj3 t568 t569 t574 _ A25.out).mono ?_); rintro e w31 ⟨rfl, hb⟩; replace HB := Aside0.mk (below_step bq hb); (try clear hb); (try clear hb2); (try clear hk); (try clear hi)) | (go_at_call 38; (with_reducible refine (decimal_Add.calls (hT := HT.out.below bq) kj3 t567 t574 t575 _ A26.out).mono ?_); rintro e w32 ⟨rfl, hb⟩; replace HB := Aside0.mk (below_step bq hb); (try clear hb); (try clear hb2); (try clear hk); (try clear hi)))
            go_meet
            case rel => exact ⟨_, ((t573.toList != t575.toList)), (by first | rfl | (simp; done) | (simp [*]; done)), H', ⟨by have := HJ3.out; first | omega | exact Nat.le_refl _⟩, ⟨bq⟩⟩
          · rw [if_neg c22] at H
            have c22b0 : (t570.toList == t571.toList) = false := beq_eq_false_iff_ne.mpr c22
            have c22b1 : (t570.toList != t571.toList) = true := bne_iff_ne.mpr c22
            (first | rw [c22b0] | (simp only [i64_w, i32_w]; rw [c22b0]) | skip)
            have H' := Aside0.mk H
            clear H
            go_wp2_with (first | ((with_reducible refine gate_callee (f := 38) rfl ?_); refine goesL_ (some 30) rfl rfl Tryd.func38 (by kernel_rfl) rfl #[.string t567, .string t568] rfl mq ?_; (with_reducible refine (decimal_Add.calls (hT := HT.out.below bq) kj3 t567 t568 t570 _ A20.out).mono ?_); rintro e w33 ⟨rfl, hb⟩; refine ⟨_, rfl, ?_⟩; replace HB := Aside0.mk (below_step bq hb); (try clear hb); (try clear hb2); (try clear hk); (try clear hi)) | ((with_reducible refine gate_callee (f := 38) rfl ?_); refine goesL_ (some 33) rfl rfl Tryd.func38 (by kernel_rfl) rfl #[.string t568, .string t567] rfl mq ?_; (with_reducible refine (decimal_Add.calls (hT := HT.out.below bq) kj3 t568 t567 t571 _ A21.out).mono ?_); rintro e w34 ⟨rfl, hb⟩; refine ⟨_, rfl, ?_⟩; replace HB := Aside0.mk (below_step bq hb); (try clear hb); (try clear hb2); (try clear hk); (try clear hi)))
            go_meet
            case rel => exact ⟨_, (true), (by first | rfl | (simp; done) | (simp [*]; done)), H', ⟨by have := HJ3.out; first | omega | exact Nat.le_refl _⟩, ⟨bq⟩⟩
        case rest =>
          clear HC16
          try clear c1
          try clear c2
          try clear p2
          try clear c3
          try clear c6
          try clear c10
          try clear c12
          try clear c13
          try clear c16
          try clear c22
          try clear c22b0
          try clear c22b1
          try clear p2
          obtain ⟨kq, x47_15, rfl, HA, HJ15, HB⟩ := hcut
          cases kq with
          | zero => exact absurd HA.out (by simp [schismalaw01_DecimalLaws.j1])
          | succ kj15 =>
            have H := HA.out
            clear HA
            simp only [schismalaw01_DecimalLaws.j1] at H
            by_cases c35 : x47_15 = true
            · subst c35
              have H1 : (some false) = some r := by rw [if_pos rfl] at H; exact H
              clear H
              have H := H1
              clear H1
              obtain rfl := Option.some.inj H
              go_wp2
              go_ret
              exact ⟨eq_, bq⟩
            · replace c35 := Bool.eq_false_iff.mpr c35
              subst c35
              have H1 : ((decimal_Mul.f kj15 t567 t568).bind fun t576 => ((decimal_Mul.f kj15 t568 t567).bind fun t577 => (if t576.toList = t577.toList then ((decimal_Mul.f kj15 t567 t568).bind fun t578 => ((decimal_Mul.f kj15 t578 t569).bind fun t579 => ((decimal_Mul.f kj15 t568 t569).bind fun t580 => ((decimal_Mul.f kj15 t567 t580).bind fun t581 => (schismalaw01_DecimalLaws.j2 kj15 t567 t568 t569 (t579.toList != t581.toList)))))) else (schismalaw01_DecimalLaws.j2 kj15 t567 t568 t569 true)))) = some r := by rw [if_neg (show ¬ (false = true) by decide)] at H; exact H
              clear H
              have H := H1
              clear H1
              have HC36 := Aside0.mk H
              clear H
              go_upto_region 6 with (fail)
              go_cut [67] (fun v67 wc => ∃ (kq : Nat) (x67_35 : Bool), v67 = .bool x67_35 ∧ Aside0 (schismalaw01_DecimalLaws.j2 kq t567 t568 t569 x67_35 = some r) ∧ Aside0 (kq ≤ kj15) ∧ Aside0 (Below w.heap.size w wc))
              case first =>
                have H := HC36.out
                clear HC36
                replace H := Option.bind_eq_some_iff.mp H
                obtain ⟨t576, A370, H⟩ := H
                replace H : ((decimal_Mul.f kj15 t568 t567).bind fun t577 => (if t576.toList = t577.toList then ((decimal_Mul.f kj15 t567 t568).bind fun t578 => ((decimal_Mul.f kj15 t578 t569).bind fun t579 => ((decimal_Mul.f kj15 t568 t569).bind fun t580 => ((decimal_Mul.f kj15 t567 t580).bind fun t581 => (schismalaw01_DecimalLaws.j2 kj15 t567 t568 t569 (t579.toList != t581.toList)))))) else (schismalaw01_DecimalLaws.j2 kj15 t567 t568 t569 true))) = some r := H
                have A37 := Aside0.mk A370
                clear A370
                replace H := Option.bind_eq_some_iff.mp H
                obtain ⟨t577, A380, H⟩ := H
                replace H : (if t576.toList = t577.toList then ((decimal_Mul.f kj15 t567 t568).bind fun t578 => ((decimal_Mul.f kj15 t578 t569).bind fun t579 => ((decimal_Mul.f kj15 t568 t569).bind fun t580 => ((decimal_Mul.f kj15 t567 t580).bind fun t581 => (schismalaw01_DecimalLaws.j2 kj15 t567 t568 t569 (t579.toList != t581.toList)))))) else (schismalaw01_DecimalLaws.j2 kj15 t567 t568 t569 true)) = some r := H
                have A38 := Aside0.mk A380
                clear A380
                by_cases c39 : t576.toList = t577.toList
                · rw [if_pos c39] at H
                  have c39b0 : (t576.toList == t577.toList) = true := beq_iff_eq.mpr c39
                  have c39b1 : (t576.toList != t577.toList) = false := bne_eq_false_iff_eq.mpr c39
                  clear c39
                  (first | rw [c39b0] | (simp only [i64_w, i32_w]; rw [c39b0]) | skip)
                  replace H := Option.bind_eq_some_iff.mp H
                  obtain ⟨t578, A400, H⟩ := H
                  replace H : ((decimal_Mul.f kj15 t578 t569).bind fun t579 => ((decimal_Mul.f kj15 t568 t569).bind fun t580 => ((decimal_Mul.f kj15 t567 t580).bind fun t581 => (schismalaw01_DecimalLaws.j2 kj15 t567 t568 t569 (t579.toList != t581.toList))))) = some r := H
                  have A40 := Aside0.mk A400
                  clear A400
                  have hq2_ : t576 = t578 := Option.some.inj (A37.out.symm.trans A40.out)
                  obtain rfl := hq2_
                  replace H := Option.bind_eq_some_iff.mp H
                  obtain ⟨t579, A410, H⟩ := H
                  replace H : ((decimal_Mul.f kj15 t568 t569).bind fun t580 => ((decimal_Mul.f kj15 t567 t580).bind fun t581 => (schismalaw01_DecimalLaws.j2 kj15 t567 t568 t569 (t579.toList != t581.toList)))) = some r := H
                  have A41 := Aside0.mk A410
                  clear A410
                  replace H := Option.bind_eq_some_iff.mp H
                  obtain ⟨t580, A420, H⟩ := H
                  replace H : ((decimal_Mul.f kj15 t567 t580).bind fun t581 => (schismalaw01_DecimalLaws.j2 kj15 t567 t568 t569 (t579.toList != t581.toList))) = some r := H
                  have A42 := Aside0.mk A420
                  clear A420
                  replace H := Option.bind_eq_some_iff.mp H
                  obtain ⟨t581, A430, H⟩ := H
                  replace H : (schismalaw01_DecimalLaws.j2 kj15 t567 t568 t569 (t579.toList != t581.toList)) = some r := H
                  have A43 := Aside0.mk A430
                  clear A430
                  have H' := Aside0.mk H
                  clear H
                  go_wp2_with (first | ((with_reducible refine gate_callee (f := 37) rfl ?_); refine goesL_ (some 50) rfl rfl Tryd.func37 (by kernel_rfl) rfl #[.string t567, .string t568] rfl mq ?_; (with_reducible refine (decimal_Mul.calls (hT := HT.out.below bq) kj15 t567 t568 t576 _ A37.out).mono ?_); rintro e w44 ⟨rfl, hb⟩; refine ⟨_, rfl, ?_⟩; replace HB := Aside0.mk (below_step bq hb); (try clear hb); (try clear hb2); (try clear hk); (try clear hi)) | ((with_reducible refine gate_callee (f := 37) rfl ?_); refine goesL_ (some 53) rfl rfl Tryd.func37 (by kernel_rfl) rfl #[.string t568, .string t567] rfl mq ?_; (with_reducible refine (decimal_Mul.calls (hT := HT.out.below bq) kj15 t568 t567 t577 _ A38.out).mono ?_); rintro e w45 ⟨rfl, hb⟩; refine ⟨_, rfl, ?_⟩; replace HB := Aside0.mk (below_step bq hb); (try clear hb); (try clear hb2); (try clear hk); (try clear hi)) | (go_at_call 37; (with_reducible refine (decimal_Mul.calls (hT := HT.out.below bq) kj15 t567 t568 t576 _ A40.out).mono ?_); rintro e w46 ⟨rfl, hb⟩; replace HB := Aside0.mk (below_step bq hb); (try clear hb); (try clear hb2); (try clear hk); (try clear hi)) | (go_at_call 37; (with_reducible refine (decimal_Mul.calls (hT := HT.out.below bq) kj15 t576 t569 t579 _ A41.out).mono ?_); rintro e w47 ⟨rfl, hb⟩; replace HB := Aside0.mk (below_step bq hb); (try clear hb); (try clear hb2); (try clear hk); (try clear hi)) | (go_at_call 37; (with_reducible refine (decimal_Mul.calls (hT := HT.out.below bq) kj15 t568 t569 t580 _ A42.out).mono ?_); rintro e w48 ⟨rfl, hb⟩; replace HB := Aside0.mk (below_step bq hb); (try clear hb); (try clear hb2); (try clear hk); (try clear hi)) | (go_at_call 37; (with_reducible refine (decimal_Mul.calls (hT := HT.out.below bq) kj15 t567 t580 t581 _ A43.out).mono ?_); rintro e w49 ⟨rfl, hb⟩; replace HB := Aside0.mk (below_step bq hb); (try clear hb); (try clear hb2); (try clear hk); (try clear hi)))
                  go_meet
                  case rel => exact ⟨_, ((t579.toList != t581.toList)), (by first | rfl | (simp; done) | (simp [*]; done)), H', ⟨by have := HJ3.out; have := HJ15.out; first | omega | exact Nat.le_refl _⟩, ⟨bq⟩⟩
                · rw [if_neg c39] at H
                  have c39b0 : (t576.toList == t577.toList) = false := beq_eq_false_iff_ne.mpr c39
                  have c39b1 : (t576.toList != t577.toList) = true := bne_iff_ne.mpr c39
                  (first | rw [c39b0] | (simp only [i64_w, i32_w]; rw [c39b0]) | skip)
                  have H' := Aside0.mk H
                  clear H
                  go_wp2_with (first | ((with_reducible refine gate_callee (f := 37) rfl ?_); refine goesL_ (some 50) rfl rfl Tryd.func37 (by kernel_rfl) rfl #[.string t567, .string t568] rfl mq ?_; (with_reducible refine (decimal_Mul.calls (hT := HT.out.below bq) kj15 t567 t568 t576 _ A37.out).mono ?_); rintro e w50 ⟨rfl, hb⟩; refine ⟨_, rfl, ?_⟩; replace HB := Aside0.mk (below_step bq hb); (try clear hb); (try clear hb2); (try clear hk); (try clear hi)) | ((with_reducible refine gate_callee (f := 37) rfl ?_); refine goesL_ (some 53) rfl rfl Tryd.func37 (by kernel_rfl) rfl #[.string t568, .string t567] rfl mq ?_; (with_reducible refine (decimal_Mul.calls (hT := HT.out.below bq) kj15 t568 t567 t577 _ A38.out).mono ?_); rintro e w51 ⟨rfl, hb⟩; refine ⟨_, rfl, ?_⟩; replace HB := Aside0.mk (below_step bq hb); (try clear hb); (try clear hb2); (try clear hk); (try clear hi)))
                  go_meet
                  case rel => exact ⟨_, (true), (by first | rfl | (simp; done) | (simp [*]; done)), H', ⟨by have := HJ3.out; have := HJ15.out; first | omega | exact Nat.le_refl _⟩, ⟨bq⟩⟩
              case rest =>
                clear HC36
                try clear c1
                try clear c2
                try clear p2
                try clear c3
                try clear c6
                try clear c10
                try clear c12
                try clear c13
                try clear c16
                try clear c22
                try clear c22b0
                try clear c22b1
                try clear c35
                try clear c37
                try clear c38
                try clear c39
                try clear c39b0
                try clear c39b1
                try clear p2
                obtain ⟨kq, x67_35, rfl, HA, HJ35, HB⟩ := hcut
                cases kq with
                | zero => exact absurd HA.out (by simp [schismalaw01_DecimalLaws.j2])
                | succ kj35 =>
                  have H := HA.out
                  clear HA
                  simp only [schismalaw01_DecimalLaws.j2] at H
                  by_cases c52 : x67_35 = true
                  · subst c52
                    have H1 : (some false) = some r := by rw [if_pos rfl] at H; exact H
                    clear H
                    have H := H1
                    clear H1
                    obtain rfl := Option.some.inj H
                    go_wp2
                    go_ret
                    exact ⟨eq_, bq⟩
                  · replace c52 := Bool.eq_false_iff.mpr c52
                    subst c52
                    have H1 : ((decimal_Add.f kj35 t567 t568).bind fun t582 => ((decimal_Sub.f kj35 t582 t568).bind fun bt583 => ((decimal_Add.f kj35 t568 t569).bind fun t585 => ((decimal_Mul.f kj35 t567 t585).bind fun t586 => ((decimal_Mul.f kj35 t567 t568).bind fun t587 => ((decimal_Mul.f kj35 t567 t569).bind fun t588 => ((decimal_Add.f kj35 t587 t588).bind fun t589 => (if t586.toList = t589.toList then (if bt583.2 = 0 then (some (bt583.1.toList == t567.toList)) else (some false)) else (some false))))))))) = some r := by rw [if_neg (show ¬ (false = true) by decide)] at H; exact H
                    clear H
                    have H := H1
                    clear H1
                    replace H := Option.bind_eq_some_iff.mp H
                    obtain ⟨t582, A530, H⟩ := H
                    replace H : ((decimal_Sub.f kj35 t582 t568).bind fun bt583 => ((decimal_Add.f kj35 t568 t569).bind fun t585 => ((decimal_Mul.f kj35 t567 t585).bind fun t586 => ((decimal_Mul.f kj35 t567 t568).bind fun t587 => ((decimal_Mul.f kj35 t567 t569).bind fun t588 => ((decimal_Add.f kj35 t587 t588).bind fun t589 => (if t586.toList = t589.toList then (if bt583.2 = 0 then (some (bt583.1.toList == t567.toList)) else (some false)) else (some false)))))))) = some r := H
                    have A53 := Aside0.mk A530
                    clear A530
                    replace H := Option.bind_eq_some_iff.mp H
                    obtain ⟨⟨t583, t584⟩, A540, H⟩ := H
                    replace H : ((decimal_Add.f kj35 t568 t569).bind fun t585 => ((decimal_Mul.f kj35 t567 t585).bind fun t586 => ((decimal_Mul.f kj35 t567 t568).bind fun t587 => ((decimal_Mul.f kj35 t567 t569).bind fun t588 => ((decimal_Add.f kj35 t587 t588).bind fun t589 => (if t586.toList = t589.toList then (if t584 = 0 then (some (t583.toList == t567.toList)) else (some false)) else (some false))))))) = some r := H
                    have A54 := Aside0.mk A540
                    clear A540
                    replace H := Option.bind_eq_some_iff.mp H
                    obtain ⟨t585, A550, H⟩ := H
                    replace H : ((decimal_Mul.f kj35 t567 t585).bind fun t586 => ((decimal_Mul.f kj35 t567 t568).bind fun t587 => ((decimal_Mul.f kj35 t567 t569).bind fun t588 => ((decimal_Add.f kj35 t587 t588).bind fun t589 => (if t586.toList = t589.toList then (if t584 = 0 then (some (t583.toList == t567.toList)) else (some false)) else (some false)))))) = some r := H
                    have A55 := Aside0.mk A550
                    clear A550
                    replace H := Option.bind_eq_some_iff.mp H
                    obtain ⟨t586, A560, H⟩ := H
                    replace H : ((decimal_Mul.f kj35 t567 t568).bind fun t587 => ((decimal_Mul.f kj35 t567 t569).bind fun t588 => ((decimal_Add.f kj35 t587 t588).bind fun t589 => (if t586.toList = t589.toList then (if t584 = 0 then (some (t583.toList == t567.toList)) else (some false)) else (some false))))) = some r := H
                    have A56 := Aside0.mk A560
                    clear A560
                    replace H := Option.bind_eq_some_iff.mp H
                    obtain ⟨t587, A570, H⟩ := H
                    replace H : ((decimal_Mul.f kj35 t567 t569).bind fun t588 => ((decimal_Add.f kj35 t587 t588).bind fun t589 => (if t586.toList = t589.toList then (if t584 = 0 then (some (t583.toList == t567.toList)) else (some false)) else (some false)))) = some r := H
                    have A57 := Aside0.mk A570
                    clear A570
                    replace H := Option.bind_eq_some_iff.mp H
                    obtain ⟨t588, A580, H⟩ := H
                    replace H : ((decimal_Add.f kj35 t587 t588).bind fun t589 => (if t586.toList = t589.toList then (if t584 = 0 then (some (t583.toList == t567.toList)) else (some false)) else (some false))) = some r := H
                    have A58 := Aside0.mk A580
                    clear A580
                    replace H := Option.bind_eq_some_iff.mp H
                    obtain ⟨t589, A590, H⟩ := H
                    replace H : (if t586.toList = t589.toList then (if t584 = 0 then (some (t583.toList == t567.toList)) else (some false)) else (some false)) = some r := H
                    have A59 := Aside0.mk A590
                    clear A590
                    by_cases c60 : t586.toList = t589.toList
                    · rw [if_pos c60] at H
                      have c60b0 : (t586.toList == t589.toList) = true := beq_iff_eq.mpr c60
                      have c60b1 : (t586.toList != t589.toList) = false := bne_eq_false_iff_eq.mpr c60
                      clear c60
                      by_cases c61 : t584 = 0
                      · rw [if_pos c61] at H
                        have c61b0 : (t584 == 0) = true := beq_iff_eq.mpr c61
                        have c61b1 : (t584 != 0) = false := bne_eq_false_iff_eq.mpr c61
                        clear c61
                        obtain rfl := Option.some.inj H
                        go_wp2_with (first | ((with_reducible refine gate_callee (f := 38) rfl ?_); refine goesL_ (some 71) rfl rfl Tryd.func38 (by kernel_rfl) rfl #[.string t567, .string t568] rfl mq ?_; (with_reducible refine (decimal_Add.calls (hT := HT.out.below bq) kj35 t567 t568 t582 _ A53.out).mono ?_); rintro e w62 ⟨rfl, hb⟩; refine ⟨_, rfl, ?_⟩; replace HB := Aside0.mk (below_step bq hb); (try clear hb); (try clear hb2); (try clear hk); (try clear hi)) | ((with_reducible refine gate_callee (f := 39) rfl ?_); refine goesL_ (some 73) rfl rfl Tryd.func39 (by kernel_rfl) rfl #[.string t582, .string t568] rfl mq ?_; (with_reducible refine (decimal_Sub.calls (hT := HT.out.below bq) kj35 t582 t568 t583 t584 _ A54.out).mono ?_); rintro e w63 ⟨rfl, hb⟩; refine ⟨_, rfl, ?_⟩; replace HB := Aside0.mk (below_step bq hb); (try clear hb); (try clear hb2); (try clear hk); (try clear hi)) | ((with_reducible refine gate_callee (f := 38) rfl ?_); refine goesL_ (some 79) rfl rfl Tryd.func38 (by kernel_rfl) rfl #[.string t568, .string t569] rfl mq ?_; (with_reducible refine (decimal_Add.calls (hT := HT.out.below bq) kj35 t568 t569 t585 _ A55.out).mono ?_); rintro e w64 ⟨rfl, hb⟩; refine ⟨_, rfl, ?_⟩; replace HB := Aside0.mk (below_step bq hb); (try clear hb); (try clear hb2); (try clear hk); (try clear hi)) | ((with_reducible refine gate_callee (f := 37) rfl ?_); refine goesL_ (some 80) rfl rfl Tryd.func37 (by kernel_rfl) rfl #[.string t567, .string t585] rfl mq ?_; (with_reducible refine (decimal_Mul.calls (hT := HT.out.below bq) kj35 t567 t585 t586 _ A56.out).mono ?_); rintro e w65 ⟨rfl, hb⟩; refine ⟨_, rfl, ?_⟩; replace HB := Aside0.mk (below_step bq hb); (try clear hb); (try clear hb2); (try clear hk); (try clear hi)) | ((with_reducible refine gate_callee (f := 37) rfl ?_); refine goesL_ (some 83) rfl rfl Tryd.func37 (by kernel_rfl) rfl #[.string t567, .string t568] rfl mq ?_; (with_reducible refine (decimal_Mul.calls (hT := HT.out.below bq) kj35 t567 t568 t587 _ A57.out).mono ?_); rintro e w66 ⟨rfl, hb⟩; refine ⟨_, rfl, ?_⟩; replace HB := Aside0.mk (below_step bq hb); (try clear hb); (try clear hb2); (try clear hk); (try clear hi)) | ((with_reducible refine gate_callee (f := 37) rfl ?_); refine goesL_ (some 86) rfl rfl Tryd.func37 (by kernel_rfl) rfl #[.string t567, .string t569] rfl mq ?_; (with_reducible refine (decimal_Mul.calls (hT := HT.out.below bq) kj35 t567 t569 t588 _ A58.out).mono ?_); rintro e w67 ⟨rfl, hb⟩; refine ⟨_, rfl, ?_⟩; replace HB := Aside0.mk (below_step bq hb); (try clear hb); (try clear hb2); (try clear hk); (try clear hi)) | ((with_reducible refine gate_callee (f := 38) rfl ?_); refine goesL_ (some 87) rfl rfl Tryd.func38 (by kernel_rfl) rfl #[.string t587, .string t588] rfl mq ?_; (with_reducible refine (decimal_Add.calls (hT := HT.out.below bq) kj35 t587 t588 t589 _ A59.out).mono ?_); rintro e w68 ⟨rfl, hb⟩; refine ⟨_, rfl, ?_⟩; replace HB := Aside0.mk (below_step bq hb); (try clear hb); (try clear hb2); (try clear hk); (try clear hi)))
                        go_ret
                        exact ⟨eq_, bq⟩
                      · rw [if_neg c61] at H
                        have c61b0 : (t584 == 0) = false := beq_eq_false_iff_ne.mpr c61
                        have c61b1 : (t584 != 0) = true := bne_iff_ne.mpr c61
                        obtain rfl := Option.some.inj H
                        go_wp2_with (first | ((with_reducible refine gate_callee (f := 38) rfl ?_); refine goesL_ (some 71) rfl rfl Tryd.func38 (by kernel_rfl) rfl #[.string t567, .string t568] rfl mq ?_; (with_reducible refine (decimal_Add.calls (hT := HT.out.below bq) kj35 t567 t568 t582 _ A53.out).mono ?_); rintro e w69 ⟨rfl, hb⟩; refine ⟨_, rfl, ?_⟩; replace HB := Aside0.mk (below_step bq hb); (try clear hb); (try clear hb2); (try clear hk); (try clear hi)) | ((with_reducible refine gate_callee (f := 39) rfl ?_); refine goesL_ (some 73) rfl rfl Tryd.func39 (by kernel_rfl) rfl #[.string t582, .string t568] rfl mq ?_; (with_reducible refine (decimal_Sub.calls (hT := HT.out.below bq) kj35 t582 t568 t583 t584 _ A54.out).mono ?_); rintro e w70 ⟨rfl, hb⟩; refine ⟨_, rfl, ?_⟩; replace HB := Aside0.mk (below_step bq hb); (try clear hb); (try clear hb2); (try clear hk); (try clear hi)) | ((with_reducible refine gate_callee (f := 38) rfl ?_); refine goesL_ (some 79) rfl rfl Tryd.func38 (by kernel_rfl) rfl #[.string t568, .string t569] rfl mq ?_; (with_reducible refine (decimal_Add.calls (hT := HT.out.below bq) kj35 t568 t569 t585 _ A55.out).mono ?_); rintro e w71 ⟨rfl, hb⟩; refine ⟨_, rfl, ?_⟩; replace HB := Aside0.mk (below_step bq hb); (try clear hb); (try clear hb2); (try clear hk); (try clear hi)) | ((with_reducible refine gate_callee (f := 37) rfl ?_); refine goesL_ (some 80) rfl rfl Tryd.func37 (by kernel_rfl) rfl #[.string t567, .string t585] rfl mq ?_; (with_reducible refine (decimal_Mul.calls (hT := HT.out.below bq) kj35 t567 t585 t586 _ A56.out).mono ?_); rintro e w72 ⟨rfl, hb⟩; refine ⟨_, rfl, ?_⟩; replace HB := Aside0.mk (below_step bq hb); (try clear hb); (try clear hb2); (try clear hk); (try clear hi)) | ((with_reducible refine gate_callee (f := 37) rfl ?_); refine goesL_ (some 83) rfl rfl Tryd.func37 (by kernel_rfl) rfl #[.string t567, .string t568] rfl mq ?_; (with_reducible refine (decimal_Mul.calls (hT := HT.out.below bq) kj35 t567 t568 t587 _ A57.out).mono ?_); rintro e w73 ⟨rfl, hb⟩; refine ⟨_, rfl, ?_⟩; replace HB := Aside0.mk (below_step bq hb); (try clear hb); (try clear hb2); (try clear hk); (try clear hi)) | ((with_reducible refine gate_callee (f := 37) rfl ?_); refine goesL_ (some 86) rfl rfl Tryd.func37 (by kernel_rfl) rfl #[.string t567, .string t569] rfl mq ?_; (with_reducible refine (decimal_Mul.calls (hT := HT.out.below bq) kj35 t567 t569 t588 _ A58.out).mono ?_); rintro e w74 ⟨rfl, hb⟩; refine ⟨_, rfl, ?_⟩; replace HB := Aside0.mk (below_step bq hb); (try clear hb); (try clear hb2); (try clear hk); (try clear hi)) | ((with_reducible refine gate_callee (f := 38) rfl ?_); refine goesL_ (some 87) rfl rfl Tryd.func38 (by kernel_rfl) rfl #[.string t587, .string t588] rfl mq ?_; (with_reducible refine (decimal_Add.calls (hT := HT.out.below bq) kj35 t587 t588 t589 _ A59.out).mono ?_); rintro e w75 ⟨rfl, hb⟩; refine ⟨_, rfl, ?_⟩; replace HB := Aside0.mk (below_step bq hb); (try clear hb); (try clear hb2); (try clear hk); (try clear hi)))
                        go_ret
                        exact ⟨eq_, bq⟩
                    · rw [if_neg c60] at H
                      have c60b0 : (t586.toList == t589.toList) = false := beq_eq_false_iff_ne.mpr c60
                      have c60b1 : (t586.toList != t589.toList) = true := bne_iff_ne.mpr c60
                      obtain rfl := Option.some.inj H
                      go_wp2_with (first | ((with_reducible refine gate_callee (f := 38) rfl ?_); refine goesL_ (some 71) rfl rfl Tryd.func38 (by kernel_rfl) rfl #[.string t567, .string t568] rfl mq ?_; (with_reducible refine (decimal_Add.calls (hT := HT.out.below bq) kj35 t567 t568 t582 _ A53.out).mono ?_); rintro e w76 ⟨rfl, hb⟩; refine ⟨_, rfl, ?_⟩; replace HB := Aside0.mk (below_step bq hb); (try clear hb); (try clear hb2); (try clear hk); (try clear hi)) | ((with_reducible refine gate_callee (f := 39) rfl ?_); refine goesL_ (some 73) rfl rfl Tryd.func39 (by kernel_rfl) rfl #[.string t582, .string t568] rfl mq ?_; (with_reducible refine (decimal_Sub.calls (hT := HT.out.below bq) kj35 t582 t568 t583 t584 _ A54.out).mono ?_); rintro e w77 ⟨rfl, hb⟩; refine ⟨_, rfl, ?_⟩; replace HB := Aside0.mk (below_step bq hb); (try clear hb); (try clear hb2); (try clear hk); (try clear hi)) | ((with_reducible refine gate_callee (f := 38) rfl ?_); refine goesL_ (some 79) rfl rfl Tryd.func38 (by kernel_rfl) rfl #[.string t568, .string t569] rfl mq ?_; (with_reducible refine (decimal_Add.calls (hT := HT.out.below bq) kj35 t568 t569 t585 _ A55.out).mono ?_); rintro e w78 ⟨rfl, hb⟩; refine ⟨_, rfl, ?_⟩; replace HB := Aside0.mk (below_step bq hb); (try clear hb); (try clear hb2); (try clear hk); (try clear hi)) | ((with_reducible refine gate_callee (f := 37) rfl ?_); refine goesL_ (some 80) rfl rfl Tryd.func37 (by kernel_rfl) rfl #[.string t567, .string t585] rfl mq ?_; (with_reducible refine (decimal_Mul.calls (hT := HT.out.below bq) kj35 t567 t585 t586 _ A56.out).mono ?_); rintro e w79 ⟨rfl, hb⟩; refine ⟨_, rfl, ?_⟩; replace HB := Aside0.mk (below_step bq hb); (try clear hb); (try clear hb2); (try clear hk); (try clear hi)) | ((with_reducible refine gate_callee (f := 37) rfl ?_); refine goesL_ (some 83) rfl rfl Tryd.func37 (by kernel_rfl) rfl #[.string t567, .string t568] rfl mq ?_; (with_reducible refine (decimal_Mul.calls (hT := HT.out.below bq) kj35 t567 t568 t587 _ A57.out).mono ?_); rintro e w80 ⟨rfl, hb⟩; refine ⟨_, rfl, ?_⟩; replace HB := Aside0.mk (below_step bq hb); (try clear hb); (try clear hb2); (try clear hk); (try clear hi)) | ((with_reducible refine gate_callee (f := 37) rfl ?_); refine goesL_ (some 86) rfl rfl Tryd.func37 (by kernel_rfl) rfl #[.string t567, .string t569] rfl mq ?_; (with_reducible refine (decimal_Mul.calls (hT := HT.out.below bq) kj35 t567 t569 t588 _ A58.out).mono ?_); rintro e w81 ⟨rfl, hb⟩; refine ⟨_, rfl, ?_⟩; replace HB := Aside0.mk (below_step bq hb); (try clear hb); (try clear hb2); (try clear hk); (try clear hi)) | ((with_reducible refine gate_callee (f := 38) rfl ?_); refine goesL_ (some 87) rfl rfl Tryd.func38 (by kernel_rfl) rfl #[.string t587, .string t588] rfl mq ?_; (with_reducible refine (decimal_Add.calls (hT := HT.out.below bq) kj35 t587 t588 t589 _ A59.out).mono ?_); rintro e w82 ⟨rfl, hb⟩; refine ⟨_, rfl, ?_⟩; replace HB := Aside0.mk (below_step bq hb); (try clear hb); (try clear hb2); (try clear hk); (try clear hi)))
                      go_ret
                      exact ⟨eq_, bq⟩
def schismalaw01_DecimalLaws.Pure : Prop := ∀ (l0 : List Int) (l1 : List Int) (l2 : List Int), l0.length ≤ maxLen → l0.length * 1 ≤ 140737488351232 → (∀ x ∈ l0, (Lit.int .u8 x).wf = true) → l1.length ≤ maxLen → l1.length * 1 ≤ 140737488351232 → (∀ x ∈ l1, (Lit.int .u8 x).wf = true) → l2.length ≤ maxLen → l2.length * 1 ≤ 140737488351232 → (∀ x ∈ l2, (Lit.int .u8 x).wf = true) → ∃ k, schismalaw01_DecimalLaws.f k l0 l1 l2 = some true
theorem schismalaw01_DecimalLaws.walk (P : schismalaw01_DecimalLaws.Pure) (a0 : Option Addr) (len0 cap0 : Nat) (z0 : List Int) (a1 : Option Addr) (len1 cap1 : Nat) (z1 : List Int) (a2 : Option Addr) (len2 cap2 : Nat) (z2 : List Int) (w : World) (w0 : (a0 = none ∧ len0 = 0 ∧ cap0 = 0 ∧ z0 = []) ∨ ∃ x, a0 = some x ∧ len0 ≤ cap0 ∧ cap0 ≤ maxLen ∧ z0.length = cap0 ∧ (∀ i, i < z0.length → w.cell? (x.add i) = some (.int .u8 (z0.getD i 0))) ∧ ∀ n ∈ z0, (Lit.int .u8 n).wf = true) (y0 : len0 * 1 ≤ 140737488351232) (w1 : (a1 = none ∧ len1 = 0 ∧ cap1 = 0 ∧ z1 = []) ∨ ∃ x, a1 = some x ∧ len1 ≤ cap1 ∧ cap1 ≤ maxLen ∧ z1.length = cap1 ∧ (∀ i, i < z1.length → w.cell? (x.add i) = some (.int .u8 (z1.getD i 0))) ∧ ∀ n ∈ z1, (Lit.int .u8 n).wf = true) (y1 : len1 * 1 ≤ 140737488351232) (w2 : (a2 = none ∧ len2 = 0 ∧ cap2 = 0 ∧ z2 = []) ∨ ∃ x, a2 = some x ∧ len2 ≤ cap2 ∧ cap2 ≤ maxLen ∧ z2.length = cap2 ∧ (∀ i, i < z2.length → w.cell? (x.add i) = some (.int .u8 (z2.getD i 0))) ∧ ∀ n ∈ z2, (Lit.int .u8 n).wf = true) (y2 : len2 * 1 ≤ 140737488351232) (hT : Tab w) :
    Calls Tryd.prog 12 #[.slice a0 len0 cap0, .slice a1 len1 cap1, .slice a2 len2 cap2] w fun e w' => e = .returned (.bool true) ∧ Below w.heap.size w w' := by
  obtain ⟨l0, rfl, hr0, hm0, hw0, hc0⟩ := ReadsInt.ofRowC w0
  obtain ⟨l1, rfl, hr1, hm1, hw1, hc1⟩ := ReadsInt.ofRowC w1
  obtain ⟨l2, rfl, hr2, hm2, hw2, hc2⟩ := ReadsInt.ofRowC w2
  obtain ⟨k, h⟩ := P l0 l1 l2 hm0 y0 hw0 hm1 y1 hw1 hm2 y2 hw2
  refine (schismalaw01_DecimalLaws.calls (hT := hT) k _ _ l0 _ _ l1 _ _ l2 true w (Kd.C_of_reads (d := (0 : Int)) (h1 := fun _ => rfl) hr0) hc0 (Kd.C_of_reads (d := (0 : Int)) (h1 := fun _ => rfl) hr1) hc1 (Kd.C_of_reads (d := (0 : Int)) (h1 := fun _ => rfl) hr2) hc2 h).mono ?_
  rintro e w' ⟨rfl, hd⟩
  exact ⟨rfl, hd⟩
end Go.Proofs.YtcfddphiflmnlaaDoor.P
