/- Functions of the program, as functions of Lean, and the walks that show that the code answers as they do: written by a program. Conditions: those of each theorem. -/
import Derived.Test.YtioimihminelaaaDoorWholeRemaindersF4
namespace Go.Proofs.YtioimihminelaaaDoor.P
open Go.RowKit Go.Proofs.YtioimihminelaaaDoorW.PrintWords Go.Proofs.YtioimihminelaaaDoorW.PrintLast Go.Proofs.YtioimihminelaaaDoorW.PrintMore
attribute [local go_sem] gtr_text max2_int min2_int max_two min_two max_three min_three max_four min_four
set_option linter.unusedVariables false
set_option linter.unusedSimpArgs false
def decimal_Sub.f (k : Nat) (a0 : ByteArray) (a1 : ByteArray) : Option (ByteArray × Int) := (decimal_Compare.f a0 a1).bind fun t324 => (if t324 < 0 then (some ((⟨#[]⟩ : ByteArray), 3)) else ((decimal_both.f k a0 a1).bind fun bt325 => (if bt325.2.2 = true then ((decimal_Of.f (IntKind.u64.wrap (bt325.1 - bt325.2.1))).bind fun t328 => (some (t328, 0))) else ((decimal_cut.f k a0).bind fun t329 => (if t329.length < 17592186044416 then ((some (t329 ++ [0] : List Int)).bind fun y332 => ((decimal_cut.f k a1).bind fun t335 => ((decimal_cut.f k a1).bind fun t338 => (if 0 ≤ (wrap64 ((wrap64 ((y332.length : Int) - 1)) - (t338.length : Int))) then (if t335.length + (wrap64 ((wrap64 ((y332.length : Int) - 1)) - (t338.length : Int)) : Int).toNat < 17592186044416 then ((decimal_pieces_take.f k y332 (t335 ++ List.replicate (wrap64 ((wrap64 ((y332.length : Int) - 1)) - (t338.length : Int)) : Int).toNat 0) 1 0).bind fun bt344 => ((decimal_pieces_trim.f k bt344.2).bind fun t346 => ((decimal_pieces_text.f k t346).bind fun t349 => (some (t349, 0))))) else (none)) else (none))))) else (none))))))
theorem decimal_Sub.mono : ∀ a0 a1 k, LeO (decimal_Sub.f k a0 a1) (decimal_Sub.f (k + 1) a0 a1) := by
  intro a0 a1 k
  unfold decimal_Sub.f
  repeat' first
      | (with_reducible exact decimal_both.mono _ _ _)
      | (with_reducible exact decimal_cut.mono _ _)
      | (with_reducible exact decimal_pieces_take.mono _ _ _ _ _)
      | (with_reducible exact decimal_pieces_text.mono _ _)
      | (with_reducible exact decimal_pieces_trim.mono _ _)
      | (with_reducible exact LeO.refl _)
      | (with_reducible exact LeO.none _)
      | (with_reducible refine LeO.ite ?_ ?_)
      | (with_reducible refine LeO.bind ?_ (fun _ => ?_))
      | exact decimal_both.mono _ _ _
      | exact decimal_cut.mono _ _
      | exact decimal_pieces_take.mono _ _ _ _ _
      | exact decimal_pieces_text.mono _ _
      | exact decimal_pieces_trim.mono _ _
      | exact LeO.none _
      | refine LeO.ite ?_ ?_
      | refine LeO.bind ?_ (fun _ => ?_)
set_option maxHeartbeats 8000000 in
set_option maxRecDepth 100000 in
theorem decimal_Sub.calls (k : Nat) (a0 : ByteArray) (a1 : ByteArray) (r1 : ByteArray) (r2 : Int) (w : World) (hT : Tab w) (h : decimal_Sub.f k a0 a1 = some (r1, r2)) :
    Calls Tryd.prog 28 #[.string a0, .string a1] w fun e w' => e = .returned (.tuple #[.string r1, .int .i64 r2]) ∧ Below w.heap.size w w' := by
  have HT := Aside0.mk hT
  clear hT
  have HB := Aside0.mk (Below.refl w.heap.size w)
  have H : ((decimal_Compare.f a0 a1).bind fun t324 => (if t324 < 0 then (some ((⟨#[]⟩ : ByteArray), 3)) else ((decimal_both.f k a0 a1).bind fun bt325 => (if bt325.2.2 = true then ((decimal_Of.f (IntKind.u64.wrap (bt325.1 - bt325.2.1))).bind fun t328 => (some (t328, 0))) else ((decimal_cut.f k a0).bind fun t329 => (if t329.length < 17592186044416 then ((some (t329 ++ [0] : List Int)).bind fun y332 => ((decimal_cut.f k a1).bind fun t335 => ((decimal_cut.f k a1).bind fun t338 => (if 0 ≤ (wrap64 ((wrap64 ((y332.length : Int) - 1)) - (t338.length : Int))) then (if t335.length + (wrap64 ((wrap64 ((y332.length : Int) - 1)) - (t338.length : Int)) : Int).toNat < 17592186044416 then ((decimal_pieces_take.f k y332 (t335 ++ List.replicate (wrap64 ((wrap64 ((y332.length : Int) - 1)) - (t338.length : Int)) : Int).toNat 0) 1 0).bind fun bt344 => ((decimal_pieces_trim.f k bt344.2).bind fun t346 => ((decimal_pieces_text.f k t346).bind fun t349 => (some (t349, 0))))) else (none)) else (none))))) else (none))))))) = some (r1, r2) := h
  clear h
  replace H := Option.bind_eq_some_iff.mp H
  obtain ⟨t324, A30, H⟩ := H
  replace H : (if t324 < 0 then (some ((⟨#[]⟩ : ByteArray), 3)) else ((decimal_both.f k a0 a1).bind fun bt325 => (if bt325.2.2 = true then ((decimal_Of.f (IntKind.u64.wrap (bt325.1 - bt325.2.1))).bind fun t328 => (some (t328, 0))) else ((decimal_cut.f k a0).bind fun t329 => (if t329.length < 17592186044416 then ((some (t329 ++ [0] : List Int)).bind fun y332 => ((decimal_cut.f k a1).bind fun t335 => ((decimal_cut.f k a1).bind fun t338 => (if 0 ≤ (wrap64 ((wrap64 ((y332.length : Int) - 1)) - (t338.length : Int))) then (if t335.length + (wrap64 ((wrap64 ((y332.length : Int) - 1)) - (t338.length : Int)) : Int).toNat < 17592186044416 then ((decimal_pieces_take.f k y332 (t335 ++ List.replicate (wrap64 ((wrap64 ((y332.length : Int) - 1)) - (t338.length : Int)) : Int).toNat 0) 1 0).bind fun bt344 => ((decimal_pieces_trim.f k bt344.2).bind fun t346 => ((decimal_pieces_text.f k t346).bind fun t349 => (some (t349, 0))))) else (none)) else (none))))) else (none)))))) = some (r1, r2) := H
  have A3 := Aside0.mk A30
  clear A30
  by_cases c4 : t324 < 0
  · rw [if_pos c4] at H
    have c4b0 : decide (t324 < 0) = true := decide_eq_true c4
    clear c4
    simp only [Option.some.injEq, Prod.mk.injEq] at H
    obtain ⟨rfl, rfl⟩ := H
    go_enter Tryd.func28, Tryd.ntmps28
    go_wp2_with (first | ((with_reducible refine gate_callee (f := 27) rfl ?_); refine goesL_ (some 12) rfl rfl Tryd.func27 (by kernel_rfl) rfl #[.string a0, .string a1] rfl mq ?_; (with_reducible refine (decimal_Compare.calls a0 a1 t324 _ A3.out).mono ?_); rintro e w5 ⟨rfl, hb⟩; refine ⟨_, rfl, ?_⟩; replace HB := Aside0.mk (below_step bq hb); (try clear hb); (try clear hb2); (try clear hk); (try clear hi)))
    go_ret2
    exact ⟨eq_, bq⟩
  · rw [if_neg c4] at H
    have c4b0 : decide (t324 < 0) = false := decide_eq_false c4
    clear c4
    replace H := Option.bind_eq_some_iff.mp H
    obtain ⟨⟨t325, t326, t327⟩, A60, H⟩ := H
    replace H : (if t327 = true then ((decimal_Of.f (IntKind.u64.wrap (t325 - t326))).bind fun t328 => (some (t328, 0))) else ((decimal_cut.f k a0).bind fun t329 => (if t329.length < 17592186044416 then ((some (t329 ++ [0] : List Int)).bind fun y332 => ((decimal_cut.f k a1).bind fun t335 => ((decimal_cut.f k a1).bind fun t338 => (if 0 ≤ (wrap64 ((wrap64 ((y332.length : Int) - 1)) - (t338.length : Int))) then (if t335.length + (wrap64 ((wrap64 ((y332.length : Int) - 1)) - (t338.length : Int)) : Int).toNat < 17592186044416 then ((decimal_pieces_take.f k y332 (t335 ++ List.replicate (wrap64 ((wrap64 ((y332.length : Int) - 1)) - (t338.length : Int)) : Int).toNat 0) 1 0).bind fun bt344 => ((decimal_pieces_trim.f k bt344.2).bind fun t346 => ((decimal_pieces_text.f k t346).bind fun t349 => (some (t349, 0))))) else (none)) else (none))))) else (none)))) = some (r1, r2) := H
    have A6 := Aside0.mk A60
    clear A60
    by_cases c7 : t327 = true
    · subst c7
      have H1 : ((decimal_Of.f (IntKind.u64.wrap (t325 - t326))).bind fun t328 => (some (t328, 0))) = some (r1, r2) := by rw [if_pos rfl] at H; exact H
      clear H
      have H := H1
      clear H1
      replace H := Option.bind_eq_some_iff.mp H
      obtain ⟨t328, A80, H⟩ := H
      replace H : (some (t328, 0)) = some (r1, r2) := H
      have A8 := Aside0.mk A80
      clear A80
      simp only [Option.some.injEq, Prod.mk.injEq] at H
      obtain ⟨rfl, rfl⟩ := H
      go_enter Tryd.func28, Tryd.ntmps28
      go_wp2_with (first | ((with_reducible refine gate_callee (f := 27) rfl ?_); refine goesL_ (some 12) rfl rfl Tryd.func27 (by kernel_rfl) rfl #[.string a0, .string a1] rfl mq ?_; (with_reducible refine (decimal_Compare.calls a0 a1 t324 _ A3.out).mono ?_); rintro e w9 ⟨rfl, hb⟩; refine ⟨_, rfl, ?_⟩; replace HB := Aside0.mk (below_step bq hb); (try clear hb); (try clear hb2); (try clear hk); (try clear hi)) | ((with_reducible refine gate_callee (f := 42) rfl ?_); refine goesL_ (some 17) rfl rfl Tryd.func42 (by kernel_rfl) rfl #[.string a0, .string a1] rfl mq ?_; (with_reducible refine (decimal_both.calls (hT := HT.out.below bq) k a0 a1 t325 t326 true _ A6.out).mono ?_); rintro e w10 ⟨rfl, hb⟩; refine ⟨_, rfl, ?_⟩; replace HB := Aside0.mk (below_step bq hb); (try clear hb); (try clear hb2); (try clear hk); (try clear hi)) | ((with_reducible refine gate_callee (f := 43) rfl ?_); refine goesL_ (some 25) rfl rfl Tryd.func43 (by kernel_rfl) rfl #[.int .u64 (IntKind.u64.wrap (t325 - t326))] rfl mq ?_; (with_reducible refine (decimal_Of.calls (hT := HT.out.below bq) (IntKind.u64.wrap (t325 - t326)) t328 _ A8.out).mono ?_); rintro e w11 ⟨rfl, hb⟩; refine ⟨_, rfl, ?_⟩; replace HB := Aside0.mk (below_step bq hb); (try clear hb); (try clear hb2); (try clear hk); (try clear hi)))
      go_ret2
      exact ⟨eq_, bq⟩
    · replace c7 := Bool.eq_false_iff.mpr c7
      subst c7
      have H1 : ((decimal_cut.f k a0).bind fun t329 => (if t329.length < 17592186044416 then ((some (t329 ++ [0] : List Int)).bind fun y332 => ((decimal_cut.f k a1).bind fun t335 => ((decimal_cut.f k a1).bind fun t338 => (if 0 ≤ (wrap64 ((wrap64 ((y332.length : Int) - 1)) - (t338.length : Int))) then (if t335.length + (wrap64 ((wrap64 ((y332.length : Int) - 1)) - (t338.length : Int)) : Int).toNat < 17592186044416 then ((decimal_pieces_take.f k y332 (t335 ++ List.replicate (wrap64 ((wrap64 ((y332.length : Int) - 1)) - (t338.length : Int)) : Int).toNat 0) 1 0).bind fun bt344 => ((decimal_pieces_trim.f k bt344.2).bind fun t346 => ((decimal_pieces_text.f k t346).bind fun t349 => (some (t349, 0))))) else (none)) else (none))))) else (none))) = some (r1, r2) := by rw [if_neg (show ¬ (false = true) by decide)] at H; exact H
      clear H
      have H := H1
      clear H1
      replace H := Option.bind_eq_some_iff.mp H
      obtain ⟨t329, A120, H⟩ := H
      replace H : (if t329.length < 17592186044416 then ((some (t329 ++ [0] : List Int)).bind fun y332 => ((decimal_cut.f k a1).bind fun t335 => ((decimal_cut.f k a1).bind fun t338 => (if 0 ≤ (wrap64 ((wrap64 ((y332.length : Int) - 1)) - (t338.length : Int))) then (if t335.length + (wrap64 ((wrap64 ((y332.length : Int) - 1)) - (t338.length : Int)) : Int).toNat < 17592186044416 then ((decimal_pieces_take.f k y332 (t335 ++ List.replicate (wrap64 ((wrap64 ((y332.length : Int) - 1)) - (t338.length : Int)) : Int).toNat 0) 1 0).bind fun bt344 => ((decimal_pieces_trim.f k bt344.2).bind fun t346 => ((decimal_pieces_text.f k t346).bind fun t349 => (some (t349, 0))))) else (none)) else (none))))) else (none)) = some (r1, r2) := H
      have A12 := Aside0.mk A120
      clear A120
      by_cases c13 : t329.length < 17592186044416
      · rw [if_pos c13] at H
        have LMc13 := Aside0.mk c13
        clear c13
        obtain ⟨y332, hy332⟩ : ∃ y_ : List Int, y_ = (t329 ++ [0]) := ⟨_, rfl⟩
        replace H : ((decimal_cut.f k a1).bind fun t335 => ((decimal_cut.f k a1).bind fun t338 => (if 0 ≤ (wrap64 ((wrap64 ((y332.length : Int) - 1)) - (t338.length : Int))) then (if t335.length + (wrap64 ((wrap64 ((y332.length : Int) - 1)) - (t338.length : Int)) : Int).toNat < 17592186044416 then ((decimal_pieces_take.f k y332 (t335 ++ List.replicate (wrap64 ((wrap64 ((y332.length : Int) - 1)) - (t338.length : Int)) : Int).toNat 0) 1 0).bind fun bt344 => ((decimal_pieces_trim.f k bt344.2).bind fun t346 => ((decimal_pieces_text.f k t346).bind fun t349 => (some (t349, 0))))) else (none)) else (none)))) = some (r1, r2) := by first | (rw [hy332]; with_reducible exact H) | (have H2_ := (Option.bind_some _ _).symm.trans H; rw [hy332]; with_reducible exact H2_) | (have H2_ := (Option.bind_some _ _).symm.trans H; with_reducible exact H2_) | with_reducible exact H | (rw [hy332]; exact H) | exact H
        have Ny332 := Aside0.mk hy332
        clear hy332
        replace H := Option.bind_eq_some_iff.mp H
        obtain ⟨t335, A140, H⟩ := H
        replace H : ((decimal_cut.f k a1).bind fun t338 => (if 0 ≤ (wrap64 ((wrap64 ((y332.length : Int) - 1)) - (t338.length : Int))) then (if t335.length + (wrap64 ((wrap64 ((y332.length : Int) - 1)) - (t338.length : Int)) : Int).toNat < 17592186044416 then ((decimal_pieces_take.f k y332 (t335 ++ List.replicate (wrap64 ((wrap64 ((y332.length : Int) - 1)) - (t338.length : Int)) : Int).toNat 0) 1 0).bind fun bt344 => ((decimal_pieces_trim.f k bt344.2).bind fun t346 => ((decimal_pieces_text.f k t346).bind fun t349 => (some (t349, 0))))) else (none)) else (none))) = some (r1, r2) := H
        have A14 := Aside0.mk A140
        clear A140
        replace H := Option.bind_eq_some_iff.mp H
        obtain ⟨t338, A150, H⟩ := H
        replace H : (if 0 ≤ (wrap64 ((wrap64 ((y332.length : Int) - 1)) - (t338.length : Int))) then (if t335.length + (wrap64 ((wrap64 ((y332.length : Int) - 1)) - (t338.length : Int)) : Int).toNat < 17592186044416 then ((decimal_pieces_take.f k y332 (t335 ++ List.replicate (wrap64 ((wrap64 ((y332.length : Int) - 1)) - (t338.length : Int)) : Int).toNat 0) 1 0).bind fun bt344 => ((decimal_pieces_trim.f k bt344.2).bind fun t346 => ((decimal_pieces_text.f k t346).bind fun t349 => (some (t349, 0))))) else (none)) else (none)) = some (r1, r2) := H
        have A15 := Aside0.mk A150
        clear A150
        have hq2_ : t335 = t338 := Option.some.inj (A14.out.symm.trans A15.out)
        obtain rfl := hq2_
        obtain ⟨ji16, hji16⟩ : ∃ j_ : Int, (wrap64 ((wrap64 ((y332.length : Int) - 1)) - (t335.length : Int))) = j_ := ⟨_, rfl⟩
        replace H : (if 0 ≤ (ji16) then (if t335.length + (ji16 : Int).toNat < 17592186044416 then ((decimal_pieces_take.f k y332 (t335 ++ List.replicate (ji16 : Int).toNat 0) 1 0).bind fun bt344 => ((decimal_pieces_trim.f k bt344.2).bind fun t346 => ((decimal_pieces_text.f k t346).bind fun t349 => (some (t349, 0))))) else (none)) else (none)) = some (r1, r2) := by first | (rw [hji16] at H; exact H) | (simp only [hji16] at H ⊢; exact H)
        (try rw [hji16] at A3)
        (try rw [hji16] at A6)
        (try rw [hji16] at A12)
        (try rw [hji16] at A14)
        (try rw [hji16] at A15)
        have hji16w : (IntKind.i64.wrap ((wrap64 ((y332.length : Int) - 1)) - (t335.length : Int))) = ji16 := (i64_w _).trans hji16
        by_cases c17 : 0 ≤ (ji16)
        · rw [if_pos c17] at H
          have c17b0 := eq_true c17
          have c17b1 : decide (0 ≤ (ji16)) = true := decide_eq_true c17
          clear c17
          by_cases c18 : t335.length + (ji16 : Int).toNat < 17592186044416
          · rw [if_pos c18] at H
            have LMc18 := Aside0.mk c18
            clear c18
            obtain ⟨y341, hy341⟩ : ∃ y_ : List Int, y_ = (t335 ++ List.replicate (ji16 : Int).toNat 0) := ⟨_, rfl⟩
            replace H : ((decimal_pieces_take.f k y332 y341 1 0).bind fun bt344 => ((decimal_pieces_trim.f k bt344.2).bind fun t346 => ((decimal_pieces_text.f k t346).bind fun t349 => (some (t349, 0))))) = some (r1, r2) := by first | (rw [hy341]; with_reducible exact H) | (have H2_ := (Option.bind_some _ _).symm.trans H; rw [hy341]; with_reducible exact H2_) | (have H2_ := (Option.bind_some _ _).symm.trans H; with_reducible exact H2_) | with_reducible exact H | (rw [hy341]; exact H) | exact H
            have Ny341 := Aside0.mk hy341
            clear hy341
            replace H := Option.bind_eq_some_iff.mp H
            obtain ⟨⟨t344, t345⟩, A190, H⟩ := H
            replace H : ((decimal_pieces_trim.f k t345).bind fun t346 => ((decimal_pieces_text.f k t346).bind fun t349 => (some (t349, 0)))) = some (r1, r2) := H
            have A19 := Aside0.mk A190
            clear A190
            replace H := Option.bind_eq_some_iff.mp H
            obtain ⟨t346, A200, H⟩ := H
            replace H : ((decimal_pieces_text.f k t346).bind fun t349 => (some (t349, 0))) = some (r1, r2) := H
            have A20 := Aside0.mk A200
            clear A200
            replace H := Option.bind_eq_some_iff.mp H
            obtain ⟨t349, A210, H⟩ := H
            replace H : (some (t349, 0)) = some (r1, r2) := H
            have A21 := Aside0.mk A210
            clear A210
            simp only [Option.some.injEq, Prod.mk.injEq] at H
            obtain ⟨rfl, rfl⟩ := H
            go_enter Tryd.func28, Tryd.ntmps28
            go_wp2_with (first | ((with_reducible refine gate_callee (f := 27) rfl ?_); refine goesL_ (some 12) rfl rfl Tryd.func27 (by kernel_rfl) rfl #[.string a0, .string a1] rfl mq ?_; (with_reducible refine (decimal_Compare.calls a0 a1 t324 _ A3.out).mono ?_); rintro e w22 ⟨rfl, hb⟩; refine ⟨_, rfl, ?_⟩; replace HB := Aside0.mk (below_step bq hb); (try clear hb); (try clear hb2); (try clear hk); (try clear hi)) | ((with_reducible refine gate_callee (f := 42) rfl ?_); refine goesL_ (some 17) rfl rfl Tryd.func42 (by kernel_rfl) rfl #[.string a0, .string a1] rfl mq ?_; (with_reducible refine (decimal_both.calls (hT := HT.out.below bq) k a0 a1 t325 t326 false _ A6.out).mono ?_); rintro e w23 ⟨rfl, hb⟩; refine ⟨_, rfl, ?_⟩; replace HB := Aside0.mk (below_step bq hb); (try clear hb); (try clear hb2); (try clear hk); (try clear hi)) | ((with_reducible refine gate_callee (f := 44) rfl ?_); refine goesL_ (some 27) rfl rfl Tryd.func44 (by kernel_rfl) rfl #[.string a0] rfl mq ?_; (with_reducible refine (decimal_cut.calls k a0 t329 _ A12.out).mono ?_); rintro e w24 ⟨v330, rfl, ho0, hb⟩; refine ⟨_, rfl, ?_⟩; have n0_ := Aside0.mk (Kd.R_lower ho0 (below_size bq)); have n1_ := Aside0.mk (below_step bq hb); clear HB; have HO331 := n0_; have HB := n1_; clear n0_ n1_; (try clear hb); (try clear hb2); (try clear hk); (try clear hi); (try clear ho0)) | ((with_reducible refine gate_builtin (b := .append) (xs := #[.tmp 27, .tmp 28]) rfl ?_); at_builtin; refine Kd.R_append (Kd.int .u64) (w0 := w) w.heap.size rfl (.tmp 27) (.tmp 28) 71 66 (.int .u64 0) 8 rfl Tryd.underlying71 info66 rfl (by decide) (by omega) v330 t329 0 [.int .u64 0] (fun _ => True) (fun _ => False) rfl rfl ?aP (fun _ hk => hk.elim) ?aF ?aO ?aB ?aS ?aL ?_; (case aP => exact rfl); (case aB => exact bq); (case aF => exact (fun _ _ => trivial)); (case aO => exact (by (with_reducible repeat (first | apply Kd.R_alloc | apply Kd.R_drewN | apply Kd.R_drew)); exact HO331.out)); (case aS => exact (below_size bq)); (case aL => have := LMc13.out; omega); intro v333 w25 ho hb hg hat; rw [← Ny332.out] at ho; have n0_ := Aside0.mk (hb); have n1_ := Aside0.mk (ho); clear HB; clear HO331; have HB := n0_; have HO334 := n1_; clear n0_ n1_; clear ho hb hg hat) | ((with_reducible refine gate_callee (f := 44) rfl ?_); refine goesL_ (some 32) rfl rfl Tryd.func44 (by kernel_rfl) rfl #[.string a1] rfl mq ?_; (with_reducible refine (decimal_cut.calls k a1 t335 _ A14.out).mono ?_); rintro e w26 ⟨v336, rfl, ho0, hb⟩; refine ⟨_, rfl, ?_⟩; have n0_ := Aside0.mk (Kd.R_elder' (by (with_reducible repeat (first | apply Kd.R_alloc | apply Kd.R_drewN | apply Kd.R_drew)); exact HO334.out) (Kd.R_base ho0) hb); have n1_ := Aside0.mk (Kd.R_lower (Kd.R_new' ho0 (Kd.R_lt (by (with_reducible repeat (first | apply Kd.R_alloc | apply Kd.R_drewN | apply Kd.R_drew)); exact HO334.out))) (below_size bq)); have n2_ := Aside0.mk (below_step bq hb); clear HO334; clear HB; have HO334 := n0_; have HO337 := n1_; have HB := n2_; clear n0_ n1_ n2_; (try clear hb); (try clear hb2); (try clear hk); (try clear hi); (try clear ho0); obtain ⟨Ao27, co27, eo27⟩ := Kd.R_slice HO334.out; subst eo27) | ((with_reducible refine gate_callee (f := 44) rfl ?_); refine goesL_ (some 37) rfl rfl Tryd.func44 (by kernel_rfl) rfl #[.string a1] rfl mq ?_; (with_reducible refine (decimal_cut.calls k a1 t335 _ A15.out).mono ?_); rintro e w28 ⟨v339, rfl, ho0, hb⟩; refine ⟨_, rfl, ?_⟩; have n0_ := Aside0.mk (Kd.R_elder' (by (with_reducible repeat (first | apply Kd.R_alloc | apply Kd.R_drewN | apply Kd.R_drew)); exact HO334.out) (Kd.R_base ho0) hb); have n1_ := Aside0.mk (Kd.R_elder' (by (with_reducible repeat (first | apply Kd.R_alloc | apply Kd.R_drewN | apply Kd.R_drew)); exact HO337.out) (Kd.R_base ho0) hb); have n2_ := Aside0.mk (Kd.R_lower (Kd.R_new' (Kd.R_new' ho0 (Kd.R_lt (by (with_reducible repeat (first | apply Kd.R_alloc | apply Kd.R_drewN | apply Kd.R_drew)); exact HO334.out))) (Kd.R_lt (by (with_reducible repeat (first | apply Kd.R_alloc | apply Kd.R_drewN | apply Kd.R_drew)); exact HO337.out))) (below_size bq)); have n3_ := Aside0.mk (below_step bq hb); clear HO334; clear HO337; clear HB; have HO334 := n0_; have HO337 := n1_; have HO340 := n2_; have HB := n3_; clear n0_ n1_ n2_ n3_; (try clear hb); (try clear hb2); (try clear hk); (try clear hi); (try clear ho0); obtain ⟨Ao29, co29, eo29⟩ := Kd.R_slice HO340.out; subst eo29) | (at_builtin; refine Kd.R_append_zeros (Kd.int .u64) (w0 := w) w.heap.size rfl (.tmp 32) (.tmp 39) 71 3 66 (.int .u64 0) 8 rfl Tryd.underlying71 Tryd.underlying3 info66 rfl (by decide) (by omega) v336 t335 0 (ji16 : Int) (fun k_ => some k_ ≠ (.slice Ao27 y332.length co27 : Value).ownBlock ∧ some k_ ≠ (.slice Ao29 t335.length co29 : Value).ownBlock) rfl rfl rfl ?aF ?aO (of_decide_eq_true (by first | (with_reducible assumption) | assumption)) ?aB ?aS ?aL ?_; (case aB => exact bq); (case aF => exact (fun k_ hk => ⟨Kd.fresh' (Kd.R_lt (by (with_reducible repeat (first | apply Kd.R_alloc | apply Kd.R_drewN | apply Kd.R_drew)); exact HO334.out)) k_ hk, Kd.fresh' (Kd.R_lt (by (with_reducible repeat (first | apply Kd.R_alloc | apply Kd.R_drewN | apply Kd.R_drew)); exact HO340.out)) k_ hk⟩)); (case aO => exact (by (with_reducible repeat (first | apply Kd.R_alloc | apply Kd.R_drewN | apply Kd.R_drew)); exact Kd.R_mono HO337.out (fun _ hk => ⟨hk.1.2, hk.2⟩))); (case aS => exact (below_size bq)); (case aL => have := LMc18.out; omega); intro v342 w30 ho hb hg hat; rw [← Ny341.out] at ho; have n0_ := Aside0.mk (Kd.R_after (ok := (fun k_ => some k_ ≠ (.slice Ao29 t335.length co29 : Value).ownBlock)) (by (with_reducible repeat (first | apply Kd.R_alloc | apply Kd.R_drewN | apply Kd.R_drew)); exact Kd.R_mono HO334.out (fun _ hk => ⟨hk.2, hk.1.2⟩)) hg hat); have n1_ := Aside0.mk (Kd.R_after (ok := (fun k_ => some k_ ≠ (.slice Ao27 y332.length co27 : Value).ownBlock)) (by (with_reducible repeat (first | apply Kd.R_alloc | apply Kd.R_drewN | apply Kd.R_drew)); exact Kd.R_mono HO340.out (fun _ hk => ⟨hk.1.2, hk.2⟩)) hg hat); have n2_ := Aside0.mk (hb); have n3_ := Aside0.mk (ho); clear HO334; clear HO340; clear HB; clear HO337; have HO334 := n0_; have HO340 := n1_; have HB := n2_; have HO343 := n3_; clear n0_ n1_ n2_ n3_; clear ho hb hg hat; obtain ⟨Ao31, co31, eo31⟩ := Kd.R_slice HO343.out; subst eo31) | ((with_reducible refine gate_callee (f := 48) rfl ?_); refine goesL_ (some 41) rfl rfl Tryd.func48 (by kernel_rfl) rfl #[.slice Ao27 y332.length co27, .slice Ao31 y341.length co31, .int .u64 1, .int .i64 0] rfl mq ?_; (with_reducible refine (decimal_pieces_take.calls k (fun k_ => some k_ = (.slice Ao27 y332.length co27 : Value).ownBlock) (.slice Ao27 y332.length co27) y332 _ _ y341 1 0 t344 t345 w _ ?side1 ?side2 ?side3 ?side4 A19.out).mono ?_); (case side1 => exact bq); (case side2 => exact Kd.R_tight rfl HO334.out); (case side3 => exact Kd.C_kept_own (HO343.out) (fun k_ hk_ hs_ => (hk_.1) hs_)); (case side4 => exact (Kd.R_reads' HO343.out).2.1); rintro e w32 ⟨rfl, hy0, hb, hkp⟩; refine ⟨_, rfl, ?_⟩; have n0_ := Aside0.mk (Kd.R_reok rfl hy0 (fun k_ e_ => HO334.out.1 k_ e_)); have n1_ := Aside0.mk (Kd.R_mono (ok' := fun k_ => some k_ ≠ (.slice Ao27 y332.length co27 : Value).ownBlock ∧ some k_ ≠ (.slice Ao31 y341.length co31 : Value).ownBlock) (Kd.R_keptB (HO340.out) hkp (fun k_ hk_ hs_ => (hk_.1) hs_)) (fun k_ hk_ => ⟨hk_.1.1, hk_.1.2⟩)); have n2_ := Aside0.mk (Kd.R_mono (ok' := fun k_ => some k_ ≠ (.slice Ao27 y332.length co27 : Value).ownBlock ∧ some k_ ≠ (.slice Ao29 t335.length co29 : Value).ownBlock) (Kd.R_keptB (HO343.out) hkp (fun k_ hk_ hs_ => (hk_.1) hs_)) (fun k_ hk_ => ⟨hk_.1.1, hk_.1.2⟩)); have n3_ := Aside0.mk (hb); clear HO334; clear HO340; clear HO343; clear HB; have HO334 := n0_; have HO340 := n1_; have HO343 := n2_; have HB := n3_; clear n0_ n1_ n2_ n3_; (try clear hb); (try clear hkp); (try clear hy0)) | ((with_reducible refine gate_callee (f := 46) rfl ?_); refine goesL_ (some 43) rfl rfl Tryd.func46 (by kernel_rfl) rfl #[.slice Ao27 y332.length co27] rfl mq ?_; (with_reducible refine (decimal_pieces_trim.calls k (fun k_ => some k_ = (.slice Ao27 y332.length co27 : Value).ownBlock) (.slice Ao27 y332.length co27) t345 t346 w _ ?side1 ?side2 A20.out).mono ?_); (case side1 => exact bq); (case side2 => exact Kd.R_tight rfl HO334.out); rintro e w33 ⟨v347, rfl, ho0, hb, hkp⟩; refine ⟨_, rfl, ?_⟩; have n0_ := Aside0.mk (Kd.R_mono (ok' := fun k_ => some k_ ≠ (.slice Ao31 y341.length co31 : Value).ownBlock ∧ some k_ ≠ (v347 : Value).ownBlock) (Kd.R_keptB (HO340.out) hkp (fun k_ hk_ hs_ => (hk_.1) hs_)) (fun k_ hk_ => ⟨hk_.1.2, fun e_ => Or.elim (ho0.1 k_ e_.symm) (fun hs_ => hk_.2.1 hs_) (fun hn_ => Nat.not_le.2 hk_.2.2 hn_)⟩)); have n1_ := Aside0.mk (Kd.R_mono (ok' := fun k_ => some k_ ≠ (.slice Ao29 t335.length co29 : Value).ownBlock ∧ some k_ ≠ (v347 : Value).ownBlock) (Kd.R_keptB (HO343.out) hkp (fun k_ hk_ hs_ => (hk_.1) hs_)) (fun k_ hk_ => ⟨hk_.1.2, fun e_ => Or.elim (ho0.1 k_ e_.symm) (fun hs_ => hk_.2.1 hs_) (fun hn_ => Nat.not_le.2 hk_.2.2 hn_)⟩)); have n2_ := Aside0.mk (Kd.R_mono (ok' := fun k_ => some k_ ≠ (.slice Ao29 t335.length co29 : Value).ownBlock ∧ some k_ ≠ (.slice Ao31 y341.length co31 : Value).ownBlock) ho0 (fun k_ hk_ => ⟨Or.elim hk_ (fun hs_ => fun e_ => (((HO340.out).1 k_ e_.symm).1) hs_) (fun hn_ => (Kd.fresh' (Kd.R_lt (by (with_reducible repeat (first | apply Kd.R_alloc | apply Kd.R_drewN | apply Kd.R_drew)); exact HO340.out)) k_ hn_)), Or.elim hk_ (fun hs_ => fun e_ => (((HO343.out).1 k_ e_.symm).1) hs_) (fun hn_ => (Kd.fresh' (Kd.R_lt (by (with_reducible repeat (first | apply Kd.R_alloc | apply Kd.R_drewN | apply Kd.R_drew)); exact HO343.out)) k_ hn_))⟩)); have n3_ := Aside0.mk (hb); clear HO340; clear HO343; clear HB; clear HO334; have HO340 := n0_; have HO343 := n1_; have HO348 := n2_; have HB := n3_; clear n0_ n1_ n2_ n3_; (try clear hb); (try clear hkp); (try clear ho0); obtain ⟨Ao34, co34, eo34⟩ := Kd.R_slice HO348.out; subst eo34) | ((with_reducible refine gate_callee (f := 47) rfl ?_); refine goesL_ (some 44) rfl rfl Tryd.func47 (by kernel_rfl) rfl #[.slice Ao34 t346.length co34] rfl mq ?_; (with_reducible refine (decimal_pieces_text.calls k _ _ t346 t349 _ ?side1 ?side2 A21.out).mono ?_); (case side1 => repeat (first | exact (Kd.R_reads' HO348.out).2.2 | (with_reducible refine Kd.C_alloc ?_ _) | (with_reducible refine Kd.C_drewN ?_ _) | (with_reducible refine Kd.C_drew ?_))); (case side2 => exact (Kd.R_reads' HO348.out).2.1); rintro e w35 ⟨rfl, hb⟩; refine ⟨_, rfl, ?_⟩; have n0_ := Aside0.mk (Kd.R_below (by (with_reducible repeat (first | apply Kd.R_alloc | apply Kd.R_drewN | apply Kd.R_drew)); exact HO340.out) hb); have n1_ := Aside0.mk (Kd.R_below (by (with_reducible repeat (first | apply Kd.R_alloc | apply Kd.R_drewN | apply Kd.R_drew)); exact HO343.out) hb); have n2_ := Aside0.mk (Kd.R_below (by (with_reducible repeat (first | apply Kd.R_alloc | apply Kd.R_drewN | apply Kd.R_drew)); exact HO348.out) hb); have n3_ := Aside0.mk (below_step bq hb); clear HO340; clear HO343; clear HO348; clear HB; have HO340 := n0_; have HO343 := n1_; have HO348 := n2_; have HB := n3_; clear n0_ n1_ n2_ n3_; (try clear hb); (try clear hb2); (try clear hk); (try clear hi)))
            go_ret2
            exact ⟨by first | rfl | (simp [errW_none, errW_some] <;> rfl) | (simp only [← hji16]; first | rfl | (simp [errW_none, errW_some] <;> rfl)) | (simp [*, errW_none, errW_some] <;> rfl), bq⟩
          · rw [if_neg c18] at H
            exact absurd H (by simp)
        · rw [if_neg c17] at H
          exact absurd H (by simp)
      · rw [if_neg c13] at H
        exact absurd H (by simp)
def whole_Add.j0 : Nat → ByteArray → ByteArray → Option (ByteArray)
  | 0, _, _ => none
  | k + 1, x0, x1 => (whole_split.f x0).bind fun bt355 => ((whole_split.f x1).bind fun bt357 => (if (bt355.1 == bt357.1) = true then ((decimal_Add.f k bt355.2 bt357.2).bind fun t359 => ((whole_join.f bt355.1 t359).bind fun t360 => (some t360))) else ((decimal_Compare.f bt355.2 bt357.2).bind fun t361 => (if t361 < 0 then ((decimal_Sub.f k bt357.2 bt355.2).bind fun bt362 => ((whole_join.f bt357.1 bt362.1).bind fun t364 => (some t364))) else ((decimal_Sub.f k bt355.2 bt357.2).bind fun bt365 => ((whole_join.f bt355.1 bt365.1).bind fun t367 => (some t367)))))))
def whole_Add.f (k : Nat) (a0 : ByteArray) (a1 : ByteArray) : Option (ByteArray) := (whole_little.f a0 18).bind fun bt350 => (if bt350.2 = true then ((whole_little.f a1 18).bind fun bt352 => (if bt352.2 = true then ((whole_Of.f (wrap64 (bt350.1 + bt352.1))).bind fun t354 => (some t354)) else (whole_Add.j0 k a0 a1))) else (whole_Add.j0 k a0 a1))
theorem whole_Add.mono_l : ∀ k, (∀ y0 y1, LeO (whole_Add.j0 k y0 y1) (whole_Add.j0 (k + 1) y0 y1))
  | 0 => fun _ _ r h => by simp [whole_Add.j0] at h
  | k + 1 => by
    have ih0 := whole_Add.mono_l k
    · intro y0 y1
      unfold whole_Add.j0
      repeat' first
      | (with_reducible exact ih0 _ _)
      | (with_reducible exact decimal_Add.mono _ _ _)
      | (with_reducible exact decimal_Sub.mono _ _ _)
      | (with_reducible exact LeO.refl _)
      | (with_reducible exact LeO.none _)
      | (with_reducible refine LeO.ite ?_ ?_)
      | (with_reducible refine LeO.bind ?_ (fun _ => ?_))
      | exact ih0 _ _
      | exact decimal_Add.mono _ _ _
      | exact decimal_Sub.mono _ _ _
      | exact LeO.none _
      | refine LeO.ite ?_ ?_
      | refine LeO.bind ?_ (fun _ => ?_)
theorem whole_Add.mono : ∀ a0 a1 k, LeO (whole_Add.f k a0 a1) (whole_Add.f (k + 1) a0 a1) := by
  intro a0 a1 k
  have ih0 := whole_Add.mono_l k
  unfold whole_Add.f
  repeat' first
      | (with_reducible exact ih0 _ _)
      | (with_reducible exact decimal_Add.mono _ _ _)
      | (with_reducible exact decimal_Sub.mono _ _ _)
      | (with_reducible exact LeO.refl _)
      | (with_reducible exact LeO.none _)
      | (with_reducible refine LeO.ite ?_ ?_)
      | (with_reducible refine LeO.bind ?_ (fun _ => ?_))
      | exact ih0 _ _
      | exact decimal_Add.mono _ _ _
      | exact decimal_Sub.mono _ _ _
      | exact LeO.none _
      | refine LeO.ite ?_ ?_
      | refine LeO.bind ?_ (fun _ => ?_)
set_option maxHeartbeats 8000000 in
set_option maxRecDepth 100000 in
theorem whole_Add.calls (k : Nat) (a0 : ByteArray) (a1 : ByteArray) (r : ByteArray) (w : World) (hT : Tab w) (h : whole_Add.f k a0 a1 = some r) :
    Calls Tryd.prog 8 #[.string a0, .string a1] w fun e w' => e = .returned (.string r) ∧ Below w.heap.size w w' := by
  have HT := Aside0.mk hT
  clear hT
  have HB := Aside0.mk (Below.refl w.heap.size w)
  have H : ((whole_little.f a0 18).bind fun bt350 => (if bt350.2 = true then ((whole_little.f a1 18).bind fun bt352 => (if bt352.2 = true then ((whole_Of.f (wrap64 (bt350.1 + bt352.1))).bind fun t354 => (some t354)) else (whole_Add.j0 k a0 a1))) else (whole_Add.j0 k a0 a1))) = some r := h
  clear h
  replace H := Option.bind_eq_some_iff.mp H
  obtain ⟨⟨t350, t351⟩, A30, H⟩ := H
  replace H : (if t351 = true then ((whole_little.f a1 18).bind fun bt352 => (if bt352.2 = true then ((whole_Of.f (wrap64 (t350 + bt352.1))).bind fun t354 => (some t354)) else (whole_Add.j0 k a0 a1))) else (whole_Add.j0 k a0 a1)) = some r := H
  have A3 := Aside0.mk A30
  clear A30
  have HC4 := Aside0.mk H
  clear H
  go_enter Tryd.func8, Tryd.ntmps8
  go_upto_if 20 with (first | ((with_reducible refine gate_callee (f := 23) rfl ?_); refine goesL_ (some 17) rfl rfl Tryd.func23 (by kernel_rfl) rfl #[.string a0, .int .i64 18] rfl mq ?_; (with_reducible refine (whole_little.calls a0 18 t350 t351 _ A3.out).mono ?_); rintro e w5 ⟨rfl, hb⟩; refine ⟨_, rfl, ?_⟩; replace HB := Aside0.mk (below_step bq hb); (try clear hb); (try clear hb2); (try clear hk); (try clear hi)))
  (try simp only [Act.put, List.setIfInBounds_toArray, List.set_cons_zero, List.set_cons_succ])
  go_cut [] (fun wc => ∃ (kq : Nat), Aside0 (whole_Add.j0 kq a0 a1 = some r) ∧ Aside0 (kq ≤ k) ∧ Aside0 (Below w.heap.size w wc))
  case first =>
    have H := HC4.out
    clear HC4
    by_cases c6 : t351 = true
    · subst c6
      have H1 : ((whole_little.f a1 18).bind fun bt352 => (if bt352.2 = true then ((whole_Of.f (wrap64 (t350 + bt352.1))).bind fun t354 => (some t354)) else (whole_Add.j0 k a0 a1))) = some r := by rw [if_pos rfl] at H; exact H
      clear H
      have H := H1
      clear H1
      replace H := Option.bind_eq_some_iff.mp H
      obtain ⟨⟨t352, t353⟩, A70, H⟩ := H
      replace H : (if t353 = true then ((whole_Of.f (wrap64 (t350 + t352))).bind fun t354 => (some t354)) else (whole_Add.j0 k a0 a1)) = some r := H
      have A7 := Aside0.mk A70
      clear A70
      by_cases c8 : t353 = true
      · subst c8
        have H1 : ((whole_Of.f (wrap64 (t350 + t352))).bind fun t354 => (some t354)) = some r := by rw [if_pos rfl] at H; exact H
        clear H
        have H := H1
        clear H1
        replace H := Option.bind_eq_some_iff.mp H
        obtain ⟨t354, A90, H⟩ := H
        replace H : (some t354) = some r := H
        have A9 := Aside0.mk A90
        clear A90
        obtain rfl := Option.some.inj H
        go_wp2_with (first | ((with_reducible refine gate_callee (f := 23) rfl ?_); refine goesL_ (some 23) rfl rfl Tryd.func23 (by kernel_rfl) rfl #[.string a1, .int .i64 18] rfl mq ?_; (with_reducible refine (whole_little.calls a1 18 t352 true _ A7.out).mono ?_); rintro e w10 ⟨rfl, hb⟩; refine ⟨_, rfl, ?_⟩; replace HB := Aside0.mk (below_step bq hb); (try clear hb); (try clear hb2); (try clear hk); (try clear hi)) | ((with_reducible refine gate_callee (f := 24) rfl ?_); refine goesL_ (some 30) rfl rfl Tryd.func24 (by kernel_rfl) rfl #[.int .i64 (wrap64 (t350 + t352))] rfl mq ?_; (with_reducible refine (whole_Of.calls (hT := HT.out.below bq) (wrap64 (t350 + t352)) t354 _ A9.out).mono ?_); rintro e w11 ⟨rfl, hb⟩; refine ⟨_, rfl, ?_⟩; replace HB := Aside0.mk (below_step bq hb); (try clear hb); (try clear hb2); (try clear hk); (try clear hi)))
        go_ret
        exact ⟨eq_, bq⟩
      · replace c8 := Bool.eq_false_iff.mpr c8
        subst c8
        have H1 : (whole_Add.j0 k a0 a1) = some r := by rw [if_neg (show ¬ (false = true) by decide)] at H; exact H
        clear H
        have H := H1
        clear H1
        have H' := Aside0.mk H
        clear H
        go_wp2_with (first | ((with_reducible refine gate_callee (f := 23) rfl ?_); refine goesL_ (some 23) rfl rfl Tryd.func23 (by kernel_rfl) rfl #[.string a1, .int .i64 18] rfl mq ?_; (with_reducible refine (whole_little.calls a1 18 t352 false _ A7.out).mono ?_); rintro e w12 ⟨rfl, hb⟩; refine ⟨_, rfl, ?_⟩; replace HB := Aside0.mk (below_step bq hb); (try clear hb); (try clear hb2); (try clear hk); (try clear hi)))
        go_meet
        case rel => exact ⟨_, H', ⟨by first | omega | exact Nat.le_refl _⟩, ⟨bq⟩⟩
    · replace c6 := Bool.eq_false_iff.mpr c6
      subst c6
      have H1 : (whole_Add.j0 k a0 a1) = some r := by rw [if_neg (show ¬ (false = true) by decide)] at H; exact H
      clear H
      have H := H1
      clear H1
      have H' := Aside0.mk H
      clear H
      go_wp2
      go_meet
      case rel => exact ⟨_, H', ⟨by first | omega | exact Nat.le_refl _⟩, ⟨bq⟩⟩
  case rest =>
    clear HC4
    try clear c2
    try clear p2
    try clear c6
    try clear p6
    try clear c8
    obtain ⟨kq, HA, HJ3, HB⟩ := hcut
    cases kq with
    | zero => exact absurd HA.out (by simp [whole_Add.j0])
    | succ kj3 =>
      have H := HA.out
      clear HA
      simp only [whole_Add.j0] at H
      replace H := Option.bind_eq_some_iff.mp H
      obtain ⟨⟨t355, t356⟩, A130, H⟩ := H
      replace H : ((whole_split.f a1).bind fun bt357 => (if (t355 == bt357.1) = true then ((decimal_Add.f kj3 t356 bt357.2).bind fun t359 => ((whole_join.f t355 t359).bind fun t360 => (some t360))) else ((decimal_Compare.f t356 bt357.2).bind fun t361 => (if t361 < 0 then ((decimal_Sub.f kj3 bt357.2 t356).bind fun bt362 => ((whole_join.f bt357.1 bt362.1).bind fun t364 => (some t364))) else ((decimal_Sub.f kj3 t356 bt357.2).bind fun bt365 => ((whole_join.f t355 bt365.1).bind fun t367 => (some t367))))))) = some r := H
      have A13 := Aside0.mk A130
      clear A130
      replace H := Option.bind_eq_some_iff.mp H
      obtain ⟨⟨t357, t358⟩, A140, H⟩ := H
      replace H : (if (t355 == t357) = true then ((decimal_Add.f kj3 t356 t358).bind fun t359 => ((whole_join.f t355 t359).bind fun t360 => (some t360))) else ((decimal_Compare.f t356 t358).bind fun t361 => (if t361 < 0 then ((decimal_Sub.f kj3 t358 t356).bind fun bt362 => ((whole_join.f t357 bt362.1).bind fun t364 => (some t364))) else ((decimal_Sub.f kj3 t356 t358).bind fun bt365 => ((whole_join.f t355 bt365.1).bind fun t367 => (some t367)))))) = some r := H
      have A14 := Aside0.mk A140
      clear A140
      by_cases c15 : (t355 == t357) = true
      · rw [if_pos c15] at H
        have c15b0 : (t355 == t357) = true := c15
        (try (have c15b1 : decide (t355 = t357) = true := by simpa using c15))
        (try (have c15b2 : (t355 == t357) = true := by simpa using c15))
        clear c15
        replace H := Option.bind_eq_some_iff.mp H
        obtain ⟨t359, A160, H⟩ := H
        replace H : ((whole_join.f t355 t359).bind fun t360 => (some t360)) = some r := H
        have A16 := Aside0.mk A160
        clear A160
        replace H := Option.bind_eq_some_iff.mp H
        obtain ⟨t360, A170, H⟩ := H
        replace H : (some t360) = some r := H
        have A17 := Aside0.mk A170
        clear A170
        obtain rfl := Option.some.inj H
        go_wp2_with (first | ((with_reducible refine gate_callee (f := 25) rfl ?_); refine goesL_ (some 33) rfl rfl Tryd.func25 (by kernel_rfl) rfl #[.string a0] rfl mq ?_; (with_reducible refine (whole_split.calls a0 t355 t356 _ A13.out).mono ?_); rintro e w' ⟨rfl, ⟨nd, rfl⟩⟩; refine ⟨_, rfl, ?_⟩) | ((with_reducible refine gate_callee (f := 25) rfl ?_); refine goesL_ (some 38) rfl rfl Tryd.func25 (by kernel_rfl) rfl #[.string a1] rfl mq ?_; (with_reducible refine (whole_split.calls a1 t357 t358 _ A14.out).mono ?_); rintro e w' ⟨rfl, ⟨nd, rfl⟩⟩; refine ⟨_, rfl, ?_⟩) | ((with_reducible refine gate_callee (f := 26) rfl ?_); refine goesL_ (some 47) rfl rfl Tryd.func26 (by kernel_rfl) rfl #[.string t356, .string t358] rfl mq ?_; (with_reducible refine (decimal_Add.calls (hT := HT.out.below bq) kj3 t356 t358 t359 _ A16.out).mono ?_); rintro e w18 ⟨rfl, hb⟩; refine ⟨_, rfl, ?_⟩; replace HB := Aside0.mk (below_step bq hb); (try clear hb); (try clear hb2); (try clear hk); (try clear hi)) | ((with_reducible refine gate_callee (f := 22) rfl ?_); refine goesL_ (some 48) rfl rfl Tryd.func22 (by kernel_rfl) rfl #[.bool t355, .string t359] rfl mq ?_; (with_reducible refine (whole_join.calls t355 t359 t360 _ A17.out).mono ?_); rintro e w' ⟨rfl, ⟨nd, rfl⟩⟩; refine ⟨_, rfl, ?_⟩))
        go_ret
        exact ⟨eq_, bq⟩
      · rw [if_neg c15] at H
        have c15b0 : (t355 == t357) = false := by simpa using c15
        (try (have c15b1 : decide (t355 = t357) = false := by simpa using c15))
        (try (have c15b2 : (t355 == t357) = false := by simpa using c15))
        (try (have c15b3 : ¬ (t355 = t357) := by simpa using c15))
        clear c15
        replace H := Option.bind_eq_some_iff.mp H
        obtain ⟨t361, A190, H⟩ := H
        replace H : (if t361 < 0 then ((decimal_Sub.f kj3 t358 t356).bind fun bt362 => ((whole_join.f t357 bt362.1).bind fun t364 => (some t364))) else ((decimal_Sub.f kj3 t356 t358).bind fun bt365 => ((whole_join.f t355 bt365.1).bind fun t367 => (some t367)))) = some r := H
        have A19 := Aside0.mk A190
        clear A190
        by_cases c20 : t361 < 0
        · rw [if_pos c20] at H
          have c20b0 : decide (t361 < 0) = true := decide_eq_true c20
          clear c20
          replace H := Option.bind_eq_some_iff.mp H
          obtain ⟨⟨t362, t363⟩, A210, H⟩ := H
          replace H : ((whole_join.f t357 t362).bind fun t364 => (some t364)) = some r := H
          have A21 := Aside0.mk A210
          clear A210
          replace H := Option.bind_eq_some_iff.mp H
          obtain ⟨t364, A220, H⟩ := H
          replace H : (some t364) = some r := H
          have A22 := Aside0.mk A220
          clear A220
          obtain rfl := Option.some.inj H
          go_wp2_with (first | ((with_reducible refine gate_callee (f := 25) rfl ?_); refine goesL_ (some 33) rfl rfl Tryd.func25 (by kernel_rfl) rfl #[.string a0] rfl mq ?_; (with_reducible refine (whole_split.calls a0 t355 t356 _ A13.out).mono ?_); rintro e w' ⟨rfl, ⟨nd, rfl⟩⟩; refine ⟨_, rfl, ?_⟩) | ((with_reducible refine gate_callee (f := 25) rfl ?_); refine goesL_ (some 38) rfl rfl Tryd.func25 (by kernel_rfl) rfl #[.string a1] rfl mq ?_; (with_reducible refine (whole_split.calls a1 t357 t358 _ A14.out).mono ?_); rintro e w' ⟨rfl, ⟨nd, rfl⟩⟩; refine ⟨_, rfl, ?_⟩) | ((with_reducible refine gate_callee (f := 27) rfl ?_); refine goesL_ (some 51) rfl rfl Tryd.func27 (by kernel_rfl) rfl #[.string t356, .string t358] rfl mq ?_; (with_reducible refine (decimal_Compare.calls t356 t358 t361 _ A19.out).mono ?_); rintro e w23 ⟨rfl, hb⟩; refine ⟨_, rfl, ?_⟩; replace HB := Aside0.mk (below_step bq hb); (try clear hb); (try clear hb2); (try clear hk); (try clear hi)) | ((with_reducible refine gate_callee (f := 28) rfl ?_); refine goesL_ (some 59) rfl rfl Tryd.func28 (by kernel_rfl) rfl #[.string t358, .string t356] rfl mq ?_; (with_reducible refine (decimal_Sub.calls (hT := HT.out.below bq) kj3 t358 t356 t362 t363 _ A21.out).mono ?_); rintro e w24 ⟨rfl, hb⟩; refine ⟨_, rfl, ?_⟩; replace HB := Aside0.mk (below_step bq hb); (try clear hb); (try clear hb2); (try clear hk); (try clear hi)) | ((with_reducible refine gate_callee (f := 22) rfl ?_); refine goesL_ (some 64) rfl rfl Tryd.func22 (by kernel_rfl) rfl #[.bool t357, .string t362] rfl mq ?_; (with_reducible refine (whole_join.calls t357 t362 t364 _ A22.out).mono ?_); rintro e w' ⟨rfl, ⟨nd, rfl⟩⟩; refine ⟨_, rfl, ?_⟩))
          go_ret
          exact ⟨eq_, bq⟩
        · rw [if_neg c20] at H
          have c20b0 : decide (t361 < 0) = false := decide_eq_false c20
          clear c20
          replace H := Option.bind_eq_some_iff.mp H
          obtain ⟨⟨t365, t366⟩, A250, H⟩ := H
          replace H : ((whole_join.f t355 t365).bind fun t367 => (some t367)) = some r := H
          have A25 := Aside0.mk A250
          clear A250
          replace H := Option.bind_eq_some_iff.mp H
          obtain ⟨t367, A260, H⟩ := H
          replace H : (some t367) = some r := H
          have A26 := Aside0.mk A260
          clear A260
          obtain rfl := Option.some.inj H
          go_wp2_with (first | ((with_reducible refine gate_callee (f := 25) rfl ?_); refine goesL_ (some 33) rfl rfl Tryd.func25 (by kernel_rfl) rfl #[.string a0] rfl mq ?_; (with_reducible refine (whole_split.calls a0 t355 t356 _ A13.out).mono ?_); rintro e w' ⟨rfl, ⟨nd, rfl⟩⟩; refine ⟨_, rfl, ?_⟩) | ((with_reducible refine gate_callee (f := 25) rfl ?_); refine goesL_ (some 38) rfl rfl Tryd.func25 (by kernel_rfl) rfl #[.string a1] rfl mq ?_; (with_reducible refine (whole_split.calls a1 t357 t358 _ A14.out).mono ?_); rintro e w' ⟨rfl, ⟨nd, rfl⟩⟩; refine ⟨_, rfl, ?_⟩) | ((with_reducible refine gate_callee (f := 27) rfl ?_); refine goesL_ (some 51) rfl rfl Tryd.func27 (by kernel_rfl) rfl #[.string t356, .string t358] rfl mq ?_; (with_reducible refine (decimal_Compare.calls t356 t358 t361 _ A19.out).mono ?_); rintro e w27 ⟨rfl, hb⟩; refine ⟨_, rfl, ?_⟩; replace HB := Aside0.mk (below_step bq hb); (try clear hb); (try clear hb2); (try clear hk); (try clear hi)) | ((with_reducible refine gate_callee (f := 28) rfl ?_); refine goesL_ (some 59) rfl rfl Tryd.func28 (by kernel_rfl) rfl #[.string t356, .string t358] rfl mq ?_; (with_reducible refine (decimal_Sub.calls (hT := HT.out.below bq) kj3 t356 t358 t365 t366 _ A25.out).mono ?_); rintro e w28 ⟨rfl, hb⟩; refine ⟨_, rfl, ?_⟩; replace HB := Aside0.mk (below_step bq hb); (try clear hb); (try clear hb2); (try clear hk); (try clear hi)) | ((with_reducible refine gate_callee (f := 22) rfl ?_); refine goesL_ (some 64) rfl rfl Tryd.func22 (by kernel_rfl) rfl #[.bool t355, .string t365] rfl mq ?_; (with_reducible refine (whole_join.calls t355 t365 t367 _ A26.out).mono ?_); rintro e w' ⟨rfl, ⟨nd, rfl⟩⟩; refine ⟨_, rfl, ?_⟩))
          go_ret
          exact ⟨eq_, bq⟩
def whole_Neg.f (a0 : ByteArray) : Option (ByteArray) := (whole_split.f a0).bind fun bt368 => ((whole_join.f (!bt368.1) bt368.2).bind fun t370 => (some t370))
set_option maxHeartbeats 8000000 in
set_option maxRecDepth 100000 in
theorem whole_Neg.calls (a0 : ByteArray) (r : ByteArray) (w : World) (h : whole_Neg.f a0 = some r) :
    Calls Tryd.prog 30 #[.string a0] w fun e w' => e = .returned (.string r) ∧ Drawn0 w w' := by
  have H : ((whole_split.f a0).bind fun bt368 => ((whole_join.f (!bt368.1) bt368.2).bind fun t370 => (some t370))) = some r := h
  clear h
  replace H := Option.bind_eq_some_iff.mp H
  obtain ⟨⟨t368, t369⟩, A20, H⟩ := H
  replace H : ((whole_join.f (!t368) t369).bind fun t370 => (some t370)) = some r := H
  have A2 := Aside0.mk A20
  clear A20
  replace H := Option.bind_eq_some_iff.mp H
  obtain ⟨t370, A30, H⟩ := H
  replace H : (some t370) = some r := H
  have A3 := Aside0.mk A30
  clear A30
  obtain rfl := Option.some.inj H
  go_enter Tryd.func30, Tryd.ntmps30
  go_wp2_with (first | ((with_reducible refine gate_callee (f := 25) rfl ?_); refine goesL_ (some 7) rfl rfl Tryd.func25 (by kernel_rfl) rfl #[.string a0] rfl mq ?_; (with_reducible refine (whole_split.calls a0 t368 t369 _ A2.out).mono ?_); rintro e w' ⟨rfl, ⟨nd, rfl⟩⟩; refine ⟨_, rfl, ?_⟩) | ((with_reducible refine gate_callee (f := 22) rfl ?_); refine goesL_ (some 13) rfl rfl Tryd.func22 (by kernel_rfl) rfl #[.bool (!t368), .string t369] rfl mq ?_; (with_reducible refine (whole_join.calls (!t368) t369 t370 _ A3.out).mono ?_); rintro e w' ⟨rfl, ⟨nd, rfl⟩⟩; refine ⟨_, rfl, ?_⟩))
  go_ret
  exact ⟨by first | rfl | (simp; done) | (simp [wrap64]; done) | (simp [*]; done), by repeat (first | exact Drawn0.refl _ | apply Drawn0.step)⟩
def whole_Sub.f (k : Nat) (a0 : ByteArray) (a1 : ByteArray) : Option (ByteArray) := (whole_Neg.f a1).bind fun t371 => ((whole_Add.f k a0 t371).bind fun t372 => (some t372))
theorem whole_Sub.mono : ∀ a0 a1 k, LeO (whole_Sub.f k a0 a1) (whole_Sub.f (k + 1) a0 a1) := by
  intro a0 a1 k
  unfold whole_Sub.f
  repeat' first
      | (with_reducible exact whole_Add.mono _ _ _)
      | (with_reducible exact LeO.refl _)
      | (with_reducible exact LeO.none _)
      | (with_reducible refine LeO.ite ?_ ?_)
      | (with_reducible refine LeO.bind ?_ (fun _ => ?_))
      | exact whole_Add.mono _ _ _
      | exact LeO.none _
      | refine LeO.ite ?_ ?_
      | refine LeO.bind ?_ (fun _ => ?_)
set_option maxHeartbeats 8000000 in
set_option maxRecDepth 100000 in
theorem whole_Sub.calls (k : Nat) (a0 : ByteArray) (a1 : ByteArray) (r : ByteArray) (w : World) (hT : Tab w) (h : whole_Sub.f k a0 a1 = some r) :
    Calls Tryd.prog 10 #[.string a0, .string a1] w fun e w' => e = .returned (.string r) ∧ Below w.heap.size w w' := by
  have HT := Aside0.mk hT
  clear hT
  have HB := Aside0.mk (Below.refl w.heap.size w)
  have H : ((whole_Neg.f a1).bind fun t371 => ((whole_Add.f k a0 t371).bind fun t372 => (some t372))) = some r := h
  clear h
  replace H := Option.bind_eq_some_iff.mp H
  obtain ⟨t371, A30, H⟩ := H
  replace H : ((whole_Add.f k a0 t371).bind fun t372 => (some t372)) = some r := H
  have A3 := Aside0.mk A30
  clear A30
  replace H := Option.bind_eq_some_iff.mp H
  obtain ⟨t372, A40, H⟩ := H
  replace H : (some t372) = some r := H
  have A4 := Aside0.mk A40
  clear A40
  obtain rfl := Option.some.inj H
  go_enter Tryd.func10, Tryd.ntmps10
  go_wp2_with (first | ((with_reducible refine gate_callee (f := 30) rfl ?_); refine goesL_ (some 7) rfl rfl Tryd.func30 (by kernel_rfl) rfl #[.string a1] rfl mq ?_; (with_reducible refine (whole_Neg.calls a1 t371 _ A3.out).mono ?_); rintro e w' ⟨rfl, ⟨nd, rfl⟩⟩; refine ⟨_, rfl, ?_⟩) | ((with_reducible refine gate_callee (f := 8) rfl ?_); refine goesL_ (some 8) rfl rfl Tryd.func8 (by kernel_rfl) rfl #[.string a0, .string t371] rfl mq ?_; (with_reducible refine (whole_Add.calls (hT := HT.out.below bq) k a0 t371 t372 _ A4.out).mono ?_); rintro e w5 ⟨rfl, hb⟩; refine ⟨_, rfl, ?_⟩; replace HB := Aside0.mk (below_step bq hb); (try clear hb); (try clear hb2); (try clear hk); (try clear hi)))
  go_ret
  exact ⟨eq_, bq⟩
mutual
def whole_DivMod.j1 : Nat → ByteArray → ByteArray → Option (ByteArray × ByteArray × Int)
  | 0, _, _ => none
  | k + 1, x0, x1 => (whole_split.f x0).bind fun bt381 => ((whole_split.f x1).bind fun bt383 => ((decimal_DivMod.f k bt381.2 bt383.2).bind fun bt385 => (if bt385.2.2 = 0 then (if (bt381.1 != bt383.1) = true then (whole_DivMod.j2 k bt381.1 bt383.1 bt383.2 bt385.1 bt385.2.1 (bt385.2.1.toList != ([48] : List UInt8))) else (whole_DivMod.j2 k bt381.1 bt383.1 bt383.2 bt385.1 bt385.2.1 false)) else (some ((⟨#[]⟩ : ByteArray), (⟨#[]⟩ : ByteArray), bt385.2.2)))))
def whole_DivMod.j2 : Nat → Bool → Bool → ByteArray → ByteArray → ByteArray → Bool → Option (ByteArray × ByteArray × Int)
  | 0, _, _, _, _, _, _ => none
  | k + 1, x13, x15, x16, x17, x18, x83 => if x83 = true then ((decimal_Add.f k x17 (⟨#[49]⟩ : ByteArray)).bind fun t388 => ((decimal_Sub.f k x16 x18).bind fun bt389 => ((whole_join.f (x13 != x15) t388).bind fun t391 => ((whole_join.f x15 bt389.1).bind fun t392 => (some (t391, t392, 0)))))) else ((whole_join.f (x13 != x15) x17).bind fun t393 => ((whole_join.f x15 x18).bind fun t394 => (some (t393, t394, 0))))
def whole_DivMod.j0 : Nat → Int → Int → Int → Bool → Option (ByteArray × ByteArray × Int)
  | 0, _, _, _, _ => none
  | k + 1, x9, x11, x12, x47 => if x47 = true then ((whole_Of.f (wrap64 (x11 - 1))).bind fun t377 => ((whole_Of.f (wrap64 (x12 + x9))).bind fun t378 => (some (t377, t378, 0)))) else ((whole_Of.f x11).bind fun t379 => ((whole_Of.f x12).bind fun t380 => (some (t379, t380, 0))))
end
def whole_DivMod.f (k : Nat) (a0 : ByteArray) (a1 : ByteArray) : Option (ByteArray × ByteArray × Int) := if a1.toList = ([48] : List UInt8) then (some ((⟨#[]⟩ : ByteArray), (⟨#[]⟩ : ByteArray), 17)) else ((whole_little.f a0 18).bind fun bt373 => (if bt373.2 = true then ((whole_little.f a1 18).bind fun bt375 => (if bt375.2 = true then (if bt375.1 = 0 then (none) else (if (Int.tmod bt373.1 bt375.1) = 0 then (whole_DivMod.j0 k bt375.1 (wrap64 (Int.tdiv bt373.1 bt375.1)) (Int.tmod bt373.1 bt375.1) false) else (whole_DivMod.j0 k bt375.1 (wrap64 (Int.tdiv bt373.1 bt375.1)) (Int.tmod bt373.1 bt375.1) ((decide ((Int.tmod bt373.1 bt375.1) < 0)) != (decide (bt375.1 < 0)))))) else (whole_DivMod.j1 k a0 a1))) else (whole_DivMod.j1 k a0 a1)))
theorem whole_DivMod.mono_l : ∀ k, (∀ y0 y1, LeO (whole_DivMod.j1 k y0 y1) (whole_DivMod.j1 (k + 1) y0 y1)) ∧ (∀ y0 y1 y2 y3 y4 y5, LeO (whole_DivMod.j2 k y0 y1 y2 y3 y4 y5) (whole_DivMod.j2 (k + 1) y0 y1 y2 y3 y4 y5)) ∧ (∀ y0 y1 y2 y3, LeO (whole_DivMod.j0 k y0 y1 y2 y3) (whole_DivMod.j0 (k + 1) y0 y1 y2 y3))
  | 0 => ⟨fun _ _ r h => by simp [whole_DivMod.j1] at h, fun _ _ _ _ _ _ r h => by simp [whole_DivMod.j2] at h, fun _ _ _ _ r h => by simp [whole_DivMod.j0] at h⟩
  | k + 1 => by
    obtain ⟨ih0, ih1, ih2⟩ := whole_DivMod.mono_l k
    refine ⟨?_, ?_, ?_⟩
    · intro y0 y1
      unfold whole_DivMod.j1
      repeat' first
      | (with_reducible exact ih0 _ _)
      | (with_reducible exact ih1 _ _ _ _ _ _)
      | (with_reducible exact ih2 _ _ _ _)
      | (with_reducible exact decimal_Add.mono _ _ _)
      | (with_reducible exact decimal_DivMod.mono _ _ _)
      | (with_reducible exact decimal_Sub.mono _ _ _)
      | (with_reducible exact LeO.refl _)
      | (with_reducible exact LeO.none _)
      | (with_reducible refine LeO.ite ?_ ?_)
      | (with_reducible refine LeO.bind ?_ (fun _ => ?_))
      | exact ih0 _ _
      | exact ih1 _ _ _ _ _ _
      | exact ih2 _ _ _ _
      | exact decimal_Add.mono _ _ _
      | exact decimal_DivMod.mono _ _ _
      | exact decimal_Sub.mono _ _ _
      | exact LeO.none _
      | refine LeO.ite ?_ ?_
      | refine LeO.bind ?_ (fun _ => ?_)
    · intro y0 y1 y2 y3 y4 y5
      unfold whole_DivMod.j2
      repeat' first
      | (with_reducible exact ih0 _ _)
      | (with_reducible exact ih1 _ _ _ _ _ _)
      | (with_reducible exact ih2 _ _ _ _)
      | (with_reducible exact decimal_Add.mono _ _ _)
      | (with_reducible exact decimal_DivMod.mono _ _ _)
      | (with_reducible exact decimal_Sub.mono _ _ _)
      | (with_reducible exact LeO.refl _)
      | (with_reducible exact LeO.none _)
      | (with_reducible refine LeO.ite ?_ ?_)
      | (with_reducible refine LeO.bind ?_ (fun _ => ?_))
      | exact ih0 _ _
      | exact ih1 _ _ _ _ _ _
      | exact ih2 _ _ _ _
      | exact decimal_Add.mono _ _ _
      | exact decimal_DivMod.mono _ _ _
      | exact decimal_Sub.mono _ _ _
      | exact LeO.none _
      | refine LeO.ite ?_ ?_
      | refine LeO.bind ?_ (fun _ => ?_)
    · intro y0 y1 y2 y3
      unfold whole_DivMod.j0
      repeat' first
      | (with_reducible exact ih0 _ _)
      | (with_reducible exact ih1 _ _ _ _ _ _)
      | (with_reducible exact ih2 _ _ _ _)
      | (with_reducible exact decimal_Add.mono _ _ _)
      | (with_reducible exact decimal_DivMod.mono _ _ _)
      | (with_reducible exact decimal_Sub.mono _ _ _)
      | (with_reducible exact LeO.refl _)
      | (with_reducible exact LeO.none _)
      | (with_reducible refine LeO.ite ?_ ?_)
      | (with_reducible refine LeO.bind ?_ (fun _ => ?_))
      | exact ih0 _ _
      | exact ih1 _ _ _ _ _ _
      | exact ih2 _ _ _ _
      | exact decimal_Add.mono _ _ _
      | exact decimal_DivMod.mono _ _ _
      | exact decimal_Sub.mono _ _ _
      | exact LeO.none _
      | refine LeO.ite ?_ ?_
      | refine LeO.bind ?_ (fun _ => ?_)
theorem whole_DivMod.mono : ∀ a0 a1 k, LeO (whole_DivMod.f k a0 a1) (whole_DivMod.f (k + 1) a0 a1) := by
  intro a0 a1 k
  obtain ⟨ih0, ih1, ih2⟩ := whole_DivMod.mono_l k
  unfold whole_DivMod.f
  repeat' first
      | (with_reducible exact ih0 _ _)
      | (with_reducible exact ih1 _ _ _ _ _ _)
      | (with_reducible exact ih2 _ _ _ _)
      | (with_reducible exact decimal_Add.mono _ _ _)
      | (with_reducible exact decimal_DivMod.mono _ _ _)
      | (with_reducible exact decimal_Sub.mono _ _ _)
      | (with_reducible exact LeO.refl _)
      | (with_reducible exact LeO.none _)
      | (with_reducible refine LeO.ite ?_ ?_)
      | (with_reducible refine LeO.bind ?_ (fun _ => ?_))
      | exact ih0 _ _
      | exact ih1 _ _ _ _ _ _
      | exact ih2 _ _ _ _
      | exact decimal_Add.mono _ _ _
      | exact decimal_DivMod.mono _ _ _
      | exact decimal_Sub.mono _ _ _
      | exact LeO.none _
      | refine LeO.ite ?_ ?_
      | refine LeO.bind ?_ (fun _ => ?_)
set_option maxHeartbeats 8000000 in
set_option maxRecDepth 100000 in
theorem whole_DivMod.calls (k : Nat) (a0 : ByteArray) (a1 : ByteArray) (r1 : ByteArray) (r2 : ByteArray) (r3 : Int) (w : World) (hT : Tab w) (h : whole_DivMod.f k a0 a1 = some (r1, r2, r3)) :
    Calls Tryd.prog 16 #[.string a0, .string a1] w fun e w' => e = .returned (.tuple #[.string r1, .string r2, .int .i64 r3]) ∧ Below w.heap.size w w' := by
  have HT := Aside0.mk hT
  clear hT
  have HB := Aside0.mk (Below.refl w.heap.size w)
  have H : (if a1.toList = ([48] : List UInt8) then (some ((⟨#[]⟩ : ByteArray), (⟨#[]⟩ : ByteArray), 17)) else ((whole_little.f a0 18).bind fun bt373 => (if bt373.2 = true then ((whole_little.f a1 18).bind fun bt375 => (if bt375.2 = true then (if bt375.1 = 0 then (none) else (if (Int.tmod bt373.1 bt375.1) = 0 then (whole_DivMod.j0 k bt375.1 (wrap64 (Int.tdiv bt373.1 bt375.1)) (Int.tmod bt373.1 bt375.1) false) else (whole_DivMod.j0 k bt375.1 (wrap64 (Int.tdiv bt373.1 bt375.1)) (Int.tmod bt373.1 bt375.1) ((decide ((Int.tmod bt373.1 bt375.1) < 0)) != (decide (bt375.1 < 0)))))) else (whole_DivMod.j1 k a0 a1))) else (whole_DivMod.j1 k a0 a1)))) = some (r1, r2, r3) := h
  clear h
  by_cases c3 : a1.toList = ([48] : List UInt8)
  · rw [if_pos c3] at H
    have c3b0 : (a1.toList == ([48] : List UInt8)) = true := beq_iff_eq.mpr c3
    have c3b1 : (a1.toList != ([48] : List UInt8)) = false := bne_eq_false_iff_eq.mpr c3
    clear c3
    simp only [Option.some.injEq, Prod.mk.injEq] at H
    obtain ⟨rfl, rfl, rfl⟩ := H
    go_enter Tryd.func16, Tryd.ntmps16
    go_wp2
    repeat (go_quiet (fail); try go_wp2)
    go_ret3
    exact ⟨eq_, bq⟩
  · rw [if_neg c3] at H
    have c3b0 : (a1.toList == ([48] : List UInt8)) = false := beq_eq_false_iff_ne.mpr c3
    have c3b1 : (a1.toList != ([48] : List UInt8)) = true := bne_iff_ne.mpr c3
    replace H := Option.bind_eq_some_iff.mp H
    obtain ⟨⟨t373, t374⟩, A40, H⟩ := H
    replace H : (if t374 = true then ((whole_little.f a1 18).bind fun bt375 => (if bt375.2 = true then (if bt375.1 = 0 then (none) else (if (Int.tmod t373 bt375.1) = 0 then (whole_DivMod.j0 k bt375.1 (wrap64 (Int.tdiv t373 bt375.1)) (Int.tmod t373 bt375.1) false) else (whole_DivMod.j0 k bt375.1 (wrap64 (Int.tdiv t373 bt375.1)) (Int.tmod t373 bt375.1) ((decide ((Int.tmod t373 bt375.1) < 0)) != (decide (bt375.1 < 0)))))) else (whole_DivMod.j1 k a0 a1))) else (whole_DivMod.j1 k a0 a1)) = some (r1, r2, r3) := H
    have A4 := Aside0.mk A40
    clear A40
    have HC5 := Aside0.mk H
    clear H
    go_enter Tryd.func16, Tryd.ntmps16
    go_upto_if 26 with (first | (go_at_call 23; (with_reducible refine (whole_little.calls a0 18 t373 t374 _ A4.out).mono ?_); rintro e w6 ⟨rfl, hb⟩; replace HB := Aside0.mk (below_step bq hb); (try clear hb); (try clear hb2); (try clear hk); (try clear hi)))
    repeat (go_quiet (first | (go_at_call 23; (with_reducible refine (whole_little.calls a0 18 t373 t374 _ A4.out).mono ?_); rintro e w6 ⟨rfl, hb⟩; replace HB := Aside0.mk (below_step bq hb); (try clear hb); (try clear hb2); (try clear hk); (try clear hi))); go_upto_if 26 with (first | (go_at_call 23; (with_reducible refine (whole_little.calls a0 18 t373 t374 _ A4.out).mono ?_); rintro e w6 ⟨rfl, hb⟩; replace HB := Aside0.mk (below_step bq hb); (try clear hb); (try clear hb2); (try clear hk); (try clear hi))))
    (try simp only [Act.put, List.setIfInBounds_toArray, List.set_cons_zero, List.set_cons_succ])
    go_cut [] (fun wc => ∃ (kq : Nat), Aside0 (whole_DivMod.j1 kq a0 a1 = some (r1, r2, r3)) ∧ Aside0 (kq ≤ k) ∧ Aside0 (Below w.heap.size w wc))
    case first =>
      have H := HC5.out
      clear HC5
      by_cases c7 : t374 = true
      · subst c7
        have H1 : ((whole_little.f a1 18).bind fun bt375 => (if bt375.2 = true then (if bt375.1 = 0 then (none) else (if (Int.tmod t373 bt375.1) = 0 then (whole_DivMod.j0 k bt375.1 (wrap64 (Int.tdiv t373 bt375.1)) (Int.tmod t373 bt375.1) false) else (whole_DivMod.j0 k bt375.1 (wrap64 (Int.tdiv t373 bt375.1)) (Int.tmod t373 bt375.1) ((decide ((Int.tmod t373 bt375.1) < 0)) != (decide (bt375.1 < 0)))))) else (whole_DivMod.j1 k a0 a1))) = some (r1, r2, r3) := by rw [if_pos rfl] at H; exact H
        clear H
        have H := H1
        clear H1
        replace H := Option.bind_eq_some_iff.mp H
        obtain ⟨⟨t375, t376⟩, A80, H⟩ := H
        replace H : (if t376 = true then (if t375 = 0 then (none) else (if (Int.tmod t373 t375) = 0 then (whole_DivMod.j0 k t375 (wrap64 (Int.tdiv t373 t375)) (Int.tmod t373 t375) false) else (whole_DivMod.j0 k t375 (wrap64 (Int.tdiv t373 t375)) (Int.tmod t373 t375) ((decide ((Int.tmod t373 t375) < 0)) != (decide (t375 < 0)))))) else (whole_DivMod.j1 k a0 a1)) = some (r1, r2, r3) := H
        have A8 := Aside0.mk A80
        clear A80
        by_cases c9 : t376 = true
        · subst c9
          have H1 : (if t375 = 0 then (none) else (if (Int.tmod t373 t375) = 0 then (whole_DivMod.j0 k t375 (wrap64 (Int.tdiv t373 t375)) (Int.tmod t373 t375) false) else (whole_DivMod.j0 k t375 (wrap64 (Int.tdiv t373 t375)) (Int.tmod t373 t375) ((decide ((Int.tmod t373 t375) < 0)) != (decide (t375 < 0)))))) = some (r1, r2, r3) := by rw [if_pos rfl] at H; exact H
          clear H
          have H := H1
          clear H1
          by_cases c10 : t375 = 0
          · rw [if_pos c10] at H
            exact absurd H (by simp)
          · rw [if_neg c10] at H
            have c10b0 : (t375 == 0) = false := beq_eq_false_iff_ne.mpr c10
            have c10b1 : (t375 != 0) = true := bne_iff_ne.mpr c10
            (first | rw [c10b0] | (simp only [i64_w, i32_w]; rw [c10b0]) | skip)
            have HC11 := Aside0.mk H
            clear H
            go_upto_region 8 with (first | (go_at_call 23; (with_reducible refine (whole_little.calls a1 18 t375 true _ A8.out).mono ?_); rintro e w12 ⟨rfl, hb⟩; replace HB := Aside0.mk (below_step bq hb); (try clear hb); (try clear hb2); (try clear hk); (try clear hi)))
            repeat (go_quiet (first | (go_at_call 23; (with_reducible refine (whole_little.calls a1 18 t375 true _ A8.out).mono ?_); rintro e w12 ⟨rfl, hb⟩; replace HB := Aside0.mk (below_step bq hb); (try clear hb); (try clear hb2); (try clear hk); (try clear hi))); go_upto_region 8 with (first | (go_at_call 23; (with_reducible refine (whole_little.calls a1 18 t375 true _ A8.out).mono ?_); rintro e w12 ⟨rfl, hb⟩; replace HB := Aside0.mk (below_step bq hb); (try clear hb); (try clear hb2); (try clear hk); (try clear hi))))
            (try simp only [Act.put, List.setIfInBounds_toArray, List.set_cons_zero, List.set_cons_succ])
            go_cut [47] (fun v47 wc => ∃ (kq : Nat) (x47_10 : Bool), v47 = .bool x47_10 ∧ Aside0 (whole_DivMod.j0 kq t375 (wrap64 (Int.tdiv t373 t375)) (Int.tmod t373 t375) x47_10 = some (r1, r2, r3)) ∧ Aside0 (kq ≤ k) ∧ Aside0 (Below w.heap.size w wc))
            case first =>
              have H := HC11.out
              clear HC11
              by_cases c13 : (Int.tmod t373 t375) = 0
              · rw [if_pos c13] at H
                have c13b0 : ((Int.tmod t373 t375) == 0) = true := beq_iff_eq.mpr c13
                have c13b1 : ((Int.tmod t373 t375) != 0) = false := bne_eq_false_iff_eq.mpr c13
                clear c13
                (first | rw [c13b0] | (simp only [i64_w, i32_w]; rw [c13b0]) | skip)
                have H' := Aside0.mk H
                clear H
                go_wp2
                repeat (go_quiet (fail); try go_wp2)
                go_meet
                case rel => exact ⟨_, (false), (by first | rfl | (simp; done) | (simp [*]; done)), H', ⟨by first | omega | exact Nat.le_refl _⟩, ⟨bq⟩⟩
              · rw [if_neg c13] at H
                have c13b0 : ((Int.tmod t373 t375) == 0) = false := beq_eq_false_iff_ne.mpr c13
                have c13b1 : ((Int.tmod t373 t375) != 0) = true := bne_iff_ne.mpr c13
                (first | rw [c13b0] | (simp only [i64_w, i32_w]; rw [c13b0]) | skip)
                have H' := Aside0.mk H
                clear H
                go_wp2
                repeat (go_quiet (fail); try go_wp2)
                go_meet
                case rel => exact ⟨_, (((decide ((Int.tmod t373 t375) < 0)) != (decide (t375 < 0)))), (by first | rfl | (simp; done) | (simp [*]; done)), H', ⟨by first | omega | exact Nat.le_refl _⟩, ⟨bq⟩⟩
            case rest =>
              clear HC11
              try clear c1
              try clear p2
              try clear c3
              try clear c3b0
              try clear c3b1
              try clear p6
              try clear c7
              try clear c9
              try clear c10
              try clear c10b0
              try clear c10b1
              try clear c13
              try clear c13b0
              try clear c13b1
              obtain ⟨kq, x47_10, rfl, HA, HJ10, HB⟩ := hcut
              cases kq with
              | zero => exact absurd HA.out (by simp [whole_DivMod.j0])
              | succ kj10 =>
                have H := HA.out
                clear HA
                simp only [whole_DivMod.j0] at H
                by_cases c14 : x47_10 = true
                · subst c14
                  have H1 : ((whole_Of.f (wrap64 ((wrap64 (Int.tdiv t373 t375)) - 1))).bind fun t377 => ((whole_Of.f (wrap64 ((Int.tmod t373 t375) + t375))).bind fun t378 => (some (t377, t378, 0)))) = some (r1, r2, r3) := by rw [if_pos rfl] at H; exact H
                  clear H
                  have H := H1
                  clear H1
                  replace H := Option.bind_eq_some_iff.mp H
                  obtain ⟨t377, A150, H⟩ := H
                  replace H : ((whole_Of.f (wrap64 ((Int.tmod t373 t375) + t375))).bind fun t378 => (some (t377, t378, 0))) = some (r1, r2, r3) := H
                  have A15 := Aside0.mk A150
                  clear A150
                  replace H := Option.bind_eq_some_iff.mp H
                  obtain ⟨t378, A160, H⟩ := H
                  replace H : (some (t377, t378, 0)) = some (r1, r2, r3) := H
                  have A16 := Aside0.mk A160
                  clear A160
                  simp only [Option.some.injEq, Prod.mk.injEq] at H
                  obtain ⟨rfl, rfl, rfl⟩ := H
                  go_wp2_with (first | (go_at_call 24; (with_reducible refine (whole_Of.calls (hT := HT.out.below bq) (wrap64 ((wrap64 (Int.tdiv t373 t375)) - 1)) t377 _ A15.out).mono ?_); rintro e w17 ⟨rfl, hb⟩; replace HB := Aside0.mk (below_step bq hb); (try clear hb); (try clear hb2); (try clear hk); (try clear hi)) | (go_at_call 24; (with_reducible refine (whole_Of.calls (hT := HT.out.below bq) (wrap64 ((Int.tmod t373 t375) + t375)) t378 _ A16.out).mono ?_); rintro e w18 ⟨rfl, hb⟩; replace HB := Aside0.mk (below_step bq hb); (try clear hb); (try clear hb2); (try clear hk); (try clear hi)))
                  repeat (go_quiet (first | (go_at_call 24; (with_reducible refine (whole_Of.calls (hT := HT.out.below bq) (wrap64 ((wrap64 (Int.tdiv t373 t375)) - 1)) t377 _ A15.out).mono ?_); rintro e w17 ⟨rfl, hb⟩; replace HB := Aside0.mk (below_step bq hb); (try clear hb); (try clear hb2); (try clear hk); (try clear hi)) | (go_at_call 24; (with_reducible refine (whole_Of.calls (hT := HT.out.below bq) (wrap64 ((Int.tmod t373 t375) + t375)) t378 _ A16.out).mono ?_); rintro e w18 ⟨rfl, hb⟩; replace HB := Aside0.mk (below_step bq hb); (try clear hb); (try clear hb2); (try clear hk); (try clear hi))); try go_wp2_with (first | (go_at_call 24; (with_reducible refine (whole_Of.calls (hT := HT.out.below bq) (wrap64 ((wrap64 (Int.tdiv t373 t375)) - 1)) t377 _ A15.out).mono ?_); rintro e w17 ⟨rfl, hb⟩; replace HB := Aside0.mk (below_step bq hb); (try clear hb); (try clear hb2); (try clear hk); (try clear hi)) | (go_at_call 24; (with_reducible refine (whole_Of.calls (hT := HT.out.below bq) (wrap64 ((Int.tmod t373 t375) + t375)) t378 _ A16.out).mono ?_); rintro e w18 ⟨rfl, hb⟩; replace HB := Aside0.mk (below_step bq hb); (try clear hb); (try clear hb2); (try clear hk); (try clear hi))))
                  go_ret3
                  exact ⟨eq_, bq⟩
                · replace c14 := Bool.eq_false_iff.mpr c14
                  subst c14
                  have H1 : ((whole_Of.f (wrap64 (Int.tdiv t373 t375))).bind fun t379 => ((whole_Of.f (Int.tmod t373 t375)).bind fun t380 => (some (t379, t380, 0)))) = some (r1, r2, r3) := by rw [if_neg (show ¬ (false = true) by decide)] at H; exact H
                  clear H
                  have H := H1
                  clear H1
                  replace H := Option.bind_eq_some_iff.mp H
                  obtain ⟨t379, A190, H⟩ := H
                  replace H : ((whole_Of.f (Int.tmod t373 t375)).bind fun t380 => (some (t379, t380, 0))) = some (r1, r2, r3) := H
                  have A19 := Aside0.mk A190
                  clear A190
                  replace H := Option.bind_eq_some_iff.mp H
                  obtain ⟨t380, A200, H⟩ := H
                  replace H : (some (t379, t380, 0)) = some (r1, r2, r3) := H
                  have A20 := Aside0.mk A200
                  clear A200
                  simp only [Option.some.injEq, Prod.mk.injEq] at H
                  obtain ⟨rfl, rfl, rfl⟩ := H
                  go_wp2_with (first | (go_at_call 24; (with_reducible refine (whole_Of.calls (hT := HT.out.below bq) (wrap64 (Int.tdiv t373 t375)) t379 _ A19.out).mono ?_); rintro e w21 ⟨rfl, hb⟩; replace HB := Aside0.mk (below_step bq hb); (try clear hb); (try clear hb2); (try clear hk); (try clear hi)) | (go_at_call 24; (with_reducible refine (whole_Of.calls (hT := HT.out.below bq) (Int.tmod t373 t375) t380 _ A20.out).mono ?_); rintro e w22 ⟨rfl, hb⟩; replace HB := Aside0.mk (below_step bq hb); (try clear hb); (try clear hb2); (try clear hk); (try clear hi)))
                  repeat (go_quiet (first | (go_at_call 24; (with_reducible refine (whole_Of.calls (hT := HT.out.below bq) (wrap64 (Int.tdiv t373 t375)) t379 _ A19.out).mono ?_); rintro e w21 ⟨rfl, hb⟩; replace HB := Aside0.mk (below_step bq hb); (try clear hb); (try clear hb2); (try clear hk); (try clear hi)) | (go_at_call 24; (with_reducible refine (whole_Of.calls (hT := HT.out.below bq) (Int.tmod t373 t375) t380 _ A20.out).mono ?_); rintro e w22 ⟨rfl, hb⟩; replace HB := Aside0.mk (below_step bq hb); (try clear hb); (try clear hb2); (try clear hk); (try clear hi))); try go_wp2_with (first | (go_at_call 24; (with_reducible refine (whole_Of.calls (hT := HT.out.below bq) (wrap64 (Int.tdiv t373 t375)) t379 _ A19.out).mono ?_); rintro e w21 ⟨rfl, hb⟩; replace HB := Aside0.mk (below_step bq hb); (try clear hb); (try clear hb2); (try clear hk); (try clear hi)) | (go_at_call 24; (with_reducible refine (whole_Of.calls (hT := HT.out.below bq) (Int.tmod t373 t375) t380 _ A20.out).mono ?_); rintro e w22 ⟨rfl, hb⟩; replace HB := Aside0.mk (below_step bq hb); (try clear hb); (try clear hb2); (try clear hk); (try clear hi))))
                  go_ret3
                  exact ⟨eq_, bq⟩
        · replace c9 := Bool.eq_false_iff.mpr c9
          subst c9
          have H1 : (whole_DivMod.j1 k a0 a1) = some (r1, r2, r3) := by rw [if_neg (show ¬ (false = true) by decide)] at H; exact H
          clear H
          have H := H1
          clear H1
          have H' := Aside0.mk H
          clear H
          go_wp2_with (first | (go_at_call 23; (with_reducible refine (whole_little.calls a1 18 t375 false _ A8.out).mono ?_); rintro e w23 ⟨rfl, hb⟩; replace HB := Aside0.mk (below_step bq hb); (try clear hb); (try clear hb2); (try clear hk); (try clear hi)))
          repeat (go_quiet (first | (go_at_call 23; (with_reducible refine (whole_little.calls a1 18 t375 false _ A8.out).mono ?_); rintro e w23 ⟨rfl, hb⟩; replace HB := Aside0.mk (below_step bq hb); (try clear hb); (try clear hb2); (try clear hk); (try clear hi))); try go_wp2_with (first | (go_at_call 23; (with_reducible refine (whole_little.calls a1 18 t375 false _ A8.out).mono ?_); rintro e w23 ⟨rfl, hb⟩; replace HB := Aside0.mk (below_step bq hb); (try clear hb); (try clear hb2); (try clear hk); (try clear hi))))
          go_meet
          case rel => exact ⟨_, H', ⟨by first | omega | exact Nat.le_refl _⟩, ⟨bq⟩⟩
      · replace c7 := Bool.eq_false_iff.mpr c7
        subst c7
        have H1 : (whole_DivMod.j1 k a0 a1) = some (r1, r2, r3) := by rw [if_neg (show ¬ (false = true) by decide)] at H; exact H
        clear H
        have H := H1
        clear H1
        have H' := Aside0.mk H
        clear H
        go_wp2
        repeat (go_quiet (fail); try go_wp2)
        go_meet
        case rel => exact ⟨_, H', ⟨by first | omega | exact Nat.le_refl _⟩, ⟨bq⟩⟩
    case rest =>
      clear HC5
      try clear c1
      try clear p2
      try clear c3
      try clear c3b0
      try clear c3b1
      try clear p6
      try clear c7
      try clear c9
      try clear c10
      try clear c10b0
      try clear c10b1
      try clear c13
      try clear c13b0
      try clear c13b1
      try clear c14
      try clear c16
      try clear p2
      try clear p6
      obtain ⟨kq, HA, HJ4, HB⟩ := hcut
      cases kq with
      | zero => exact absurd HA.out (by simp [whole_DivMod.j1])
      | succ kj4 =>
        have H := HA.out
        clear HA
        simp only [whole_DivMod.j1] at H
        replace H := Option.bind_eq_some_iff.mp H
        obtain ⟨⟨t381, t382⟩, A240, H⟩ := H
        replace H : ((whole_split.f a1).bind fun bt383 => ((decimal_DivMod.f kj4 t382 bt383.2).bind fun bt385 => (if bt385.2.2 = 0 then (if (t381 != bt383.1) = true then (whole_DivMod.j2 kj4 t381 bt383.1 bt383.2 bt385.1 bt385.2.1 (bt385.2.1.toList != ([48] : List UInt8))) else (whole_DivMod.j2 kj4 t381 bt383.1 bt383.2 bt385.1 bt385.2.1 false)) else (some ((⟨#[]⟩ : ByteArray), (⟨#[]⟩ : ByteArray), bt385.2.2))))) = some (r1, r2, r3) := H
        have A24 := Aside0.mk A240
        clear A240
        replace H := Option.bind_eq_some_iff.mp H
        obtain ⟨⟨t383, t384⟩, A250, H⟩ := H
        replace H : ((decimal_DivMod.f kj4 t382 t384).bind fun bt385 => (if bt385.2.2 = 0 then (if (t381 != t383) = true then (whole_DivMod.j2 kj4 t381 t383 t384 bt385.1 bt385.2.1 (bt385.2.1.toList != ([48] : List UInt8))) else (whole_DivMod.j2 kj4 t381 t383 t384 bt385.1 bt385.2.1 false)) else (some ((⟨#[]⟩ : ByteArray), (⟨#[]⟩ : ByteArray), bt385.2.2)))) = some (r1, r2, r3) := H
        have A25 := Aside0.mk A250
        clear A250
        replace H := Option.bind_eq_some_iff.mp H
        obtain ⟨⟨t385, t386, t387⟩, A260, H⟩ := H
        replace H : (if t387 = 0 then (if (t381 != t383) = true then (whole_DivMod.j2 kj4 t381 t383 t384 t385 t386 (t386.toList != ([48] : List UInt8))) else (whole_DivMod.j2 kj4 t381 t383 t384 t385 t386 false)) else (some ((⟨#[]⟩ : ByteArray), (⟨#[]⟩ : ByteArray), t387))) = some (r1, r2, r3) := H
        have A26 := Aside0.mk A260
        clear A260
        by_cases c27 : t387 = 0
        · rw [if_pos c27] at H
          have c27b0 : (t387 == 0) = true := beq_iff_eq.mpr c27
          have c27b1 : (t387 != 0) = false := bne_eq_false_iff_eq.mpr c27
          clear c27
          have HC28 := Aside0.mk H
          clear H
          go_upto_region 16 with (first | (go_at_call 25; (with_reducible refine (whole_split.calls a0 t381 t382 _ A24.out).mono ?_); rintro e w' ⟨rfl, ⟨nd, rfl⟩⟩; (try first | exact ⟨rfl, _, World.drewN_drewN _ _ _⟩ | exact ⟨rfl, _, Eq.trans (World.drewN_drewN _ _ _) (congrArg (World.drewN _) (Nat.add_assoc _ _ _))⟩)) | (go_at_call 25; (with_reducible refine (whole_split.calls a1 t383 t384 _ A25.out).mono ?_); rintro e w' ⟨rfl, ⟨nd, rfl⟩⟩; (try first | exact ⟨rfl, _, World.drewN_drewN _ _ _⟩ | exact ⟨rfl, _, Eq.trans (World.drewN_drewN _ _ _) (congrArg (World.drewN _) (Nat.add_assoc _ _ _))⟩)) | (go_at_call 34; (with_reducible refine (decimal_DivMod.calls (hT := HT.out.below bq) kj4 t382 t384 t385 t386 t387 _ A26.out).mono ?_); rintro e w29 ⟨rfl, hb⟩; replace HB := Aside0.mk (below_step bq hb); (try clear hb); (try clear hb2); (try clear hk); (try clear hi)))
          repeat (go_quiet (first | (go_at_call 25; (with_reducible refine (whole_split.calls a0 t381 t382 _ A24.out).mono ?_); rintro e w' ⟨rfl, ⟨nd, rfl⟩⟩; (try first | exact ⟨rfl, _, World.drewN_drewN _ _ _⟩ | exact ⟨rfl, _, Eq.trans (World.drewN_drewN _ _ _) (congrArg (World.drewN _) (Nat.add_assoc _ _ _))⟩)) | (go_at_call 25; (with_reducible refine (whole_split.calls a1 t383 t384 _ A25.out).mono ?_); rintro e w' ⟨rfl, ⟨nd, rfl⟩⟩; (try first | exact ⟨rfl, _, World.drewN_drewN _ _ _⟩ | exact ⟨rfl, _, Eq.trans (World.drewN_drewN _ _ _) (congrArg (World.drewN _) (Nat.add_assoc _ _ _))⟩)) | (go_at_call 34; (with_reducible refine (decimal_DivMod.calls (hT := HT.out.below bq) kj4 t382 t384 t385 t386 t387 _ A26.out).mono ?_); rintro e w29 ⟨rfl, hb⟩; replace HB := Aside0.mk (below_step bq hb); (try clear hb); (try clear hb2); (try clear hk); (try clear hi))); go_upto_region 16 with (first | (go_at_call 25; (with_reducible refine (whole_split.calls a0 t381 t382 _ A24.out).mono ?_); rintro e w' ⟨rfl, ⟨nd, rfl⟩⟩; (try first | exact ⟨rfl, _, World.drewN_drewN _ _ _⟩ | exact ⟨rfl, _, Eq.trans (World.drewN_drewN _ _ _) (congrArg (World.drewN _) (Nat.add_assoc _ _ _))⟩)) | (go_at_call 25; (with_reducible refine (whole_split.calls a1 t383 t384 _ A25.out).mono ?_); rintro e w' ⟨rfl, ⟨nd, rfl⟩⟩; (try first | exact ⟨rfl, _, World.drewN_drewN _ _ _⟩ | exact ⟨rfl, _, Eq.trans (World.drewN_drewN _ _ _) (congrArg (World.drewN _) (Nat.add_assoc _ _ _))⟩)) | (go_at_call 34; (with_reducible refine (decimal_DivMod.calls (hT := HT.out.below bq) kj4 t382 t384 t385 t386 t387 _ A26.out).mono ?_); rintro e w29 ⟨rfl, hb⟩; replace HB := Aside0.mk (below_step bq hb); (try clear hb); (try clear hb2); (try clear hk); (try clear hi))))
          (try simp only [Act.put, List.setIfInBounds_toArray, List.set_cons_zero, List.set_cons_succ])
          go_cut [83] (fun v83 wc => ∃ (kq : Nat) (x83_27 : Bool), v83 = .bool x83_27 ∧ Aside0 (whole_DivMod.j2 kq t381 t383 t384 t385 t386 x83_27 = some (r1, r2, r3)) ∧ Aside0 (kq ≤ kj4) ∧ Aside0 (Below w.heap.size w wc))
          case first =>
            have H := HC28.out
            clear HC28
            by_cases c30 : (t381 != t383) = true
            · rw [if_pos c30] at H
              have c30b0 : (t381 != t383) = true := c30
              (try (have c30b1 : decide (t381 = t383) = false := by simpa using c30))
              (try (have c30b2 : (t381 == t383) = false := by simpa using c30))
              (try (have c30b3 : ¬ (t381 = t383) := by simpa using c30))
              clear c30
              (first | rw [c30b0] | (simp only [i64_w, i32_w]; rw [c30b0]) | skip)
              have H' := Aside0.mk H
              clear H
              go_wp2
              repeat (go_quiet (fail); try go_wp2)
              go_meet
              case rel => exact ⟨_, ((t386.toList != ([48] : List UInt8))), (by first | rfl | (simp; done) | (simp [*]; done)), H', ⟨by have := HJ4.out; first | omega | exact Nat.le_refl _⟩, ⟨bq⟩⟩
            · rw [if_neg c30] at H
              have c30b0 : (t381 != t383) = false := by simpa using c30
              (try (have c30b1 : decide (t381 = t383) = true := by simpa using c30))
              (try (have c30b2 : (t381 == t383) = true := by simpa using c30))
              clear c30
              (first | rw [c30b0] | (simp only [i64_w, i32_w]; rw [c30b0]) | skip)
              have H' := Aside0.mk H
              clear H
              go_wp2
              repeat (go_quiet (fail); try go_wp2)
              go_meet
              case rel => exact ⟨_, (false), (by first | rfl | (simp; done) | (simp [*]; done)), H', ⟨by have := HJ4.out; first | omega | exact Nat.le_refl _⟩, ⟨bq⟩⟩
          case rest =>
            clear HC28
            try clear c1
            try clear c2
            try clear p2
            try clear c3
            try clear c3b0
            try clear c3b1
            try clear p6
            try clear c7
            try clear c9
            try clear c10
            try clear c10b0
            try clear c10b1
            try clear c13
            try clear c13b0
            try clear c13b1
            try clear c14
            try clear c16
            try clear c27
            try clear c27b0
            try clear c27b1
            try clear c30
            try clear c30b0
            try clear c30b1
            try clear c30b2
            try clear p2
            try clear p6
            obtain ⟨kq, x83_27, rfl, HA, HJ27, HB⟩ := hcut
            cases kq with
            | zero => exact absurd HA.out (by simp [whole_DivMod.j2])
            | succ kj27 =>
              have H := HA.out
              clear HA
              simp only [whole_DivMod.j2] at H
              by_cases c31 : x83_27 = true
              · subst c31
                have H1 : ((decimal_Add.f kj27 t385 (⟨#[49]⟩ : ByteArray)).bind fun t388 => ((decimal_Sub.f kj27 t384 t386).bind fun bt389 => ((whole_join.f (t381 != t383) t388).bind fun t391 => ((whole_join.f t383 bt389.1).bind fun t392 => (some (t391, t392, 0)))))) = some (r1, r2, r3) := by rw [if_pos rfl] at H; exact H
                clear H
                have H := H1
                clear H1
                replace H := Option.bind_eq_some_iff.mp H
                obtain ⟨t388, A320, H⟩ := H
                replace H : ((decimal_Sub.f kj27 t384 t386).bind fun bt389 => ((whole_join.f (t381 != t383) t388).bind fun t391 => ((whole_join.f t383 bt389.1).bind fun t392 => (some (t391, t392, 0))))) = some (r1, r2, r3) := H
                have A32 := Aside0.mk A320
                clear A320
                replace H := Option.bind_eq_some_iff.mp H
                obtain ⟨⟨t389, t390⟩, A330, H⟩ := H
                replace H : ((whole_join.f (t381 != t383) t388).bind fun t391 => ((whole_join.f t383 t389).bind fun t392 => (some (t391, t392, 0)))) = some (r1, r2, r3) := H
                have A33 := Aside0.mk A330
                clear A330
                replace H := Option.bind_eq_some_iff.mp H
                obtain ⟨t391, A340, H⟩ := H
                replace H : ((whole_join.f t383 t389).bind fun t392 => (some (t391, t392, 0))) = some (r1, r2, r3) := H
                have A34 := Aside0.mk A340
                clear A340
                replace H := Option.bind_eq_some_iff.mp H
                obtain ⟨t392, A350, H⟩ := H
                replace H : (some (t391, t392, 0)) = some (r1, r2, r3) := H
                have A35 := Aside0.mk A350
                clear A350
                simp only [Option.some.injEq, Prod.mk.injEq] at H
                obtain ⟨rfl, rfl, rfl⟩ := H
                have A34n := A34
                try rw [neq_bools] at A34n
                go_wp2_with (first | (go_at_call 26; (with_reducible refine (decimal_Add.calls (hT := HT.out.below bq) kj27 t385 (⟨#[49]⟩ : ByteArray) t388 _ A32.out).mono ?_); rintro e w36 ⟨rfl, hb⟩; replace HB := Aside0.mk (below_step bq hb); (try clear hb); (try clear hb2); (try clear hk); (try clear hi)) | (go_at_call 28; (with_reducible refine (decimal_Sub.calls (hT := HT.out.below bq) kj27 t384 t386 t389 t390 _ A33.out).mono ?_); rintro e w37 ⟨rfl, hb⟩; replace HB := Aside0.mk (below_step bq hb); (try clear hb); (try clear hb2); (try clear hk); (try clear hi)) | (go_at_call 22; (first | with_reducible refine (whole_join.calls (t381 != t383) t388 t391 _ A34.out).mono ?_ | with_reducible refine (whole_join.calls (!(t381 == t383)) t388 t391 _ A34n.out).mono ?_); rintro e w' ⟨rfl, ⟨nd, rfl⟩⟩; (try first | exact ⟨rfl, _, World.drewN_drewN _ _ _⟩ | exact ⟨rfl, _, Eq.trans (World.drewN_drewN _ _ _) (congrArg (World.drewN _) (Nat.add_assoc _ _ _))⟩)) | (go_at_call 22; (with_reducible refine (whole_join.calls t383 t389 t392 _ A35.out).mono ?_); rintro e w' ⟨rfl, ⟨nd, rfl⟩⟩; (try first | exact ⟨rfl, _, World.drewN_drewN _ _ _⟩ | exact ⟨rfl, _, Eq.trans (World.drewN_drewN _ _ _) (congrArg (World.drewN _) (Nat.add_assoc _ _ _))⟩)))
                have A34n := A34
                try rw [neq_bools] at A34n
                repeat (go_quiet (first | (go_at_call 26; (with_reducible refine (decimal_Add.calls (hT := HT.out.below bq) kj27 t385 (⟨#[49]⟩ : ByteArray) t388 _ A32.out).mono ?_); rintro e w36 ⟨rfl, hb⟩; replace HB := Aside0.mk (below_step bq hb); (try clear hb); (try clear hb2); (try clear hk); (try clear hi)) | (go_at_call 28; (with_reducible refine (decimal_Sub.calls (hT := HT.out.below bq) kj27 t384 t386 t389 t390 _ A33.out).mono ?_); rintro e w37 ⟨rfl, hb⟩; replace HB := Aside0.mk (below_step bq hb); (try clear hb); (try clear hb2); (try clear hk); (try clear hi)) | (go_at_call 22; (first | with_reducible refine (whole_join.calls (t381 != t383) t388 t391 _ A34.out).mono ?_ | with_reducible refine (whole_join.calls (!(t381 == t383)) t388 t391 _ A34n.out).mono ?_); rintro e w' ⟨rfl, ⟨nd, rfl⟩⟩; (try first | exact ⟨rfl, _, World.drewN_drewN _ _ _⟩ | exact ⟨rfl, _, Eq.trans (World.drewN_drewN _ _ _) (congrArg (World.drewN _) (Nat.add_assoc _ _ _))⟩)) | (go_at_call 22; (with_reducible refine (whole_join.calls t383 t389 t392 _ A35.out).mono ?_); rintro e w' ⟨rfl, ⟨nd, rfl⟩⟩; (try first | exact ⟨rfl, _, World.drewN_drewN _ _ _⟩ | exact ⟨rfl, _, Eq.trans (World.drewN_drewN _ _ _) (congrArg (World.drewN _) (Nat.add_assoc _ _ _))⟩))); try go_wp2_with (first | (go_at_call 26; (with_reducible refine (decimal_Add.calls (hT := HT.out.below bq) kj27 t385 (⟨#[49]⟩ : ByteArray) t388 _ A32.out).mono ?_); rintro e w36 ⟨rfl, hb⟩; replace HB := Aside0.mk (below_step bq hb); (try clear hb); (try clear hb2); (try clear hk); (try clear hi)) | (go_at_call 28; (with_reducible refine (decimal_Sub.calls (hT := HT.out.below bq) kj27 t384 t386 t389 t390 _ A33.out).mono ?_); rintro e w37 ⟨rfl, hb⟩; replace HB := Aside0.mk (below_step bq hb); (try clear hb); (try clear hb2); (try clear hk); (try clear hi)) | (go_at_call 22; (first | with_reducible refine (whole_join.calls (t381 != t383) t388 t391 _ A34.out).mono ?_ | with_reducible refine (whole_join.calls (!(t381 == t383)) t388 t391 _ A34n.out).mono ?_); rintro e w' ⟨rfl, ⟨nd, rfl⟩⟩; (try first | exact ⟨rfl, _, World.drewN_drewN _ _ _⟩ | exact ⟨rfl, _, Eq.trans (World.drewN_drewN _ _ _) (congrArg (World.drewN _) (Nat.add_assoc _ _ _))⟩)) | (go_at_call 22; (with_reducible refine (whole_join.calls t383 t389 t392 _ A35.out).mono ?_); rintro e w' ⟨rfl, ⟨nd, rfl⟩⟩; (try first | exact ⟨rfl, _, World.drewN_drewN _ _ _⟩ | exact ⟨rfl, _, Eq.trans (World.drewN_drewN _ _ _) (congrArg (World.drewN _) (Nat.add_assoc _ _ _))⟩))))
                go_ret3
                exact ⟨eq_, bq⟩
              · replace c31 := Bool.eq_false_iff.mpr c31
                subst c31
                have H1 : ((whole_join.f (t381 != t383) t385).bind fun t393 => ((whole_join.f t383 t386).bind fun t394 => (some (t393, t394, 0)))) = some (r1, r2, r3) := by rw [if_neg (show ¬ (false = true) by decide)] at H; exact H
                clear H
                have H := H1
                clear H1
                replace H := Option.bind_eq_some_iff.mp H
                obtain ⟨t393, A380, H⟩ := H
                replace H : ((whole_join.f t383 t386).bind fun t394 => (some (t393, t394, 0))) = some (r1, r2, r3) := H
                have A38 := Aside0.mk A380
                clear A380
                replace H := Option.bind_eq_some_iff.mp H
                obtain ⟨t394, A390, H⟩ := H
                replace H : (some (t393, t394, 0)) = some (r1, r2, r3) := H
                have A39 := Aside0.mk A390
                clear A390
                simp only [Option.some.injEq, Prod.mk.injEq] at H
                obtain ⟨rfl, rfl, rfl⟩ := H
                have A38n := A38
                try rw [neq_bools] at A38n
                go_wp2_with (first | (go_at_call 22; (first | with_reducible refine (whole_join.calls (t381 != t383) t385 t393 _ A38.out).mono ?_ | with_reducible refine (whole_join.calls (!(t381 == t383)) t385 t393 _ A38n.out).mono ?_); rintro e w' ⟨rfl, ⟨nd, rfl⟩⟩; (try first | exact ⟨rfl, _, World.drewN_drewN _ _ _⟩ | exact ⟨rfl, _, Eq.trans (World.drewN_drewN _ _ _) (congrArg (World.drewN _) (Nat.add_assoc _ _ _))⟩)) | (go_at_call 22; (with_reducible refine (whole_join.calls t383 t386 t394 _ A39.out).mono ?_); rintro e w' ⟨rfl, ⟨nd, rfl⟩⟩; (try first | exact ⟨rfl, _, World.drewN_drewN _ _ _⟩ | exact ⟨rfl, _, Eq.trans (World.drewN_drewN _ _ _) (congrArg (World.drewN _) (Nat.add_assoc _ _ _))⟩)))
                have A38n := A38
                try rw [neq_bools] at A38n
                repeat (go_quiet (first | (go_at_call 22; (first | with_reducible refine (whole_join.calls (t381 != t383) t385 t393 _ A38.out).mono ?_ | with_reducible refine (whole_join.calls (!(t381 == t383)) t385 t393 _ A38n.out).mono ?_); rintro e w' ⟨rfl, ⟨nd, rfl⟩⟩; (try first | exact ⟨rfl, _, World.drewN_drewN _ _ _⟩ | exact ⟨rfl, _, Eq.trans (World.drewN_drewN _ _ _) (congrArg (World.drewN _) (Nat.add_assoc _ _ _))⟩)) | (go_at_call 22; (with_reducible refine (whole_join.calls t383 t386 t394 _ A39.out).mono ?_); rintro e w' ⟨rfl, ⟨nd, rfl⟩⟩; (try first | exact ⟨rfl, _, World.drewN_drewN _ _ _⟩ | exact ⟨rfl, _, Eq.trans (World.drewN_drewN _ _ _) (congrArg (World.drewN _) (Nat.add_assoc _ _ _))⟩))); try go_wp2_with (first | (go_at_call 22; (first | with_reducible refine (whole_join.calls (t381 != t383) t385 t393 _ A38.out).mono ?_ | with_reducible refine (whole_join.calls (!(t381 == t383)) t385 t393 _ A38n.out).mono ?_); rintro e w' ⟨rfl, ⟨nd, rfl⟩⟩; (try first | exact ⟨rfl, _, World.drewN_drewN _ _ _⟩ | exact ⟨rfl, _, Eq.trans (World.drewN_drewN _ _ _) (congrArg (World.drewN _) (Nat.add_assoc _ _ _))⟩)) | (go_at_call 22; (with_reducible refine (whole_join.calls t383 t386 t394 _ A39.out).mono ?_); rintro e w' ⟨rfl, ⟨nd, rfl⟩⟩; (try first | exact ⟨rfl, _, World.drewN_drewN _ _ _⟩ | exact ⟨rfl, _, Eq.trans (World.drewN_drewN _ _ _) (congrArg (World.drewN _) (Nat.add_assoc _ _ _))⟩))))
                go_ret3
                exact ⟨eq_, bq⟩
        · rw [if_neg c27] at H
          have c27b0 : (t387 == 0) = false := beq_eq_false_iff_ne.mpr c27
          have c27b1 : (t387 != 0) = true := bne_iff_ne.mpr c27
          simp only [Option.some.injEq, Prod.mk.injEq] at H
          obtain ⟨rfl, rfl, rfl⟩ := H
          go_wp2_with (first | (go_at_call 25; (with_reducible refine (whole_split.calls a0 t381 t382 _ A24.out).mono ?_); rintro e w' ⟨rfl, ⟨nd, rfl⟩⟩; (try first | exact ⟨rfl, _, World.drewN_drewN _ _ _⟩ | exact ⟨rfl, _, Eq.trans (World.drewN_drewN _ _ _) (congrArg (World.drewN _) (Nat.add_assoc _ _ _))⟩)) | (go_at_call 25; (with_reducible refine (whole_split.calls a1 t383 t384 _ A25.out).mono ?_); rintro e w' ⟨rfl, ⟨nd, rfl⟩⟩; (try first | exact ⟨rfl, _, World.drewN_drewN _ _ _⟩ | exact ⟨rfl, _, Eq.trans (World.drewN_drewN _ _ _) (congrArg (World.drewN _) (Nat.add_assoc _ _ _))⟩)) | (go_at_call 34; (with_reducible refine (decimal_DivMod.calls (hT := HT.out.below bq) kj4 t382 t384 t385 t386 t387 _ A26.out).mono ?_); rintro e w40 ⟨rfl, hb⟩; replace HB := Aside0.mk (below_step bq hb); (try clear hb); (try clear hb2); (try clear hk); (try clear hi)))
          repeat (go_quiet (first | (go_at_call 25; (with_reducible refine (whole_split.calls a0 t381 t382 _ A24.out).mono ?_); rintro e w' ⟨rfl, ⟨nd, rfl⟩⟩; (try first | exact ⟨rfl, _, World.drewN_drewN _ _ _⟩ | exact ⟨rfl, _, Eq.trans (World.drewN_drewN _ _ _) (congrArg (World.drewN _) (Nat.add_assoc _ _ _))⟩)) | (go_at_call 25; (with_reducible refine (whole_split.calls a1 t383 t384 _ A25.out).mono ?_); rintro e w' ⟨rfl, ⟨nd, rfl⟩⟩; (try first | exact ⟨rfl, _, World.drewN_drewN _ _ _⟩ | exact ⟨rfl, _, Eq.trans (World.drewN_drewN _ _ _) (congrArg (World.drewN _) (Nat.add_assoc _ _ _))⟩)) | (go_at_call 34; (with_reducible refine (decimal_DivMod.calls (hT := HT.out.below bq) kj4 t382 t384 t385 t386 t387 _ A26.out).mono ?_); rintro e w40 ⟨rfl, hb⟩; replace HB := Aside0.mk (below_step bq hb); (try clear hb); (try clear hb2); (try clear hk); (try clear hi))); try go_wp2_with (first | (go_at_call 25; (with_reducible refine (whole_split.calls a0 t381 t382 _ A24.out).mono ?_); rintro e w' ⟨rfl, ⟨nd, rfl⟩⟩; (try first | exact ⟨rfl, _, World.drewN_drewN _ _ _⟩ | exact ⟨rfl, _, Eq.trans (World.drewN_drewN _ _ _) (congrArg (World.drewN _) (Nat.add_assoc _ _ _))⟩)) | (go_at_call 25; (with_reducible refine (whole_split.calls a1 t383 t384 _ A25.out).mono ?_); rintro e w' ⟨rfl, ⟨nd, rfl⟩⟩; (try first | exact ⟨rfl, _, World.drewN_drewN _ _ _⟩ | exact ⟨rfl, _, Eq.trans (World.drewN_drewN _ _ _) (congrArg (World.drewN _) (Nat.add_assoc _ _ _))⟩)) | (go_at_call 34; (with_reducible refine (decimal_DivMod.calls (hT := HT.out.below bq) kj4 t382 t384 t385 t386 t387 _ A26.out).mono ?_); rintro e w40 ⟨rfl, hb⟩; replace HB := Aside0.mk (below_step bq hb); (try clear hb); (try clear hb2); (try clear hk); (try clear hi))))
          go_ret3
          exact ⟨eq_, bq⟩
def whole_Sign.f (a0 : ByteArray) : Option (Int) := if a0.toList = ([48] : List UInt8) then (some 0) else (if 0 < (a0.size : Int) then (if (bt a0 0) = 45 then (some (-1)) else (some 1)) else (none))
set_option maxHeartbeats 8000000 in
set_option maxRecDepth 100000 in
theorem whole_Sign.calls (a0 : ByteArray) (r : Int) (w : World) (h : whole_Sign.f a0 = some r) :
    Calls Tryd.prog 17 #[.string a0] w fun e w' => e = .returned (.int .i64 r) ∧ Drawn0 w w' := by
  have H : (if a0.toList = ([48] : List UInt8) then (some 0) else (if 0 < (a0.size : Int) then (if (bt a0 0) = 45 then (some (-1)) else (some 1)) else (none))) = some r := h
  clear h
  by_cases c2 : a0.toList = ([48] : List UInt8)
  · rw [if_pos c2] at H
    have c2b0 : (a0.toList == ([48] : List UInt8)) = true := beq_iff_eq.mpr c2
    have c2b1 : (a0.toList != ([48] : List UInt8)) = false := bne_eq_false_iff_eq.mpr c2
    clear c2
    obtain rfl := Option.some.inj H
    go_enter Tryd.func17, Tryd.ntmps17
    go_wp2
    go_ret
    exact ⟨by first | rfl | (simp; done) | (simp [wrap64]; done) | (simp [*]; done), by repeat (first | exact Drawn0.refl _ | apply Drawn0.step)⟩
  · rw [if_neg c2] at H
    have c2b0 : (a0.toList == ([48] : List UInt8)) = false := beq_eq_false_iff_ne.mpr c2
    have c2b1 : (a0.toList != ([48] : List UInt8)) = true := bne_iff_ne.mpr c2
    by_cases c3 : 0 < (a0.size : Int)
    · rw [if_pos c3] at H
      have c3b0 : decide (0 < (a0.size : Int)) = true := decide_eq_true c3
      have c3b1 : decide (0 < a0.size) = true := decide_eq_true (by omega)
      clear c3
      by_cases c5 : (bt a0 0) = 45
      · rw [if_pos c5] at H
        have c5b0 : ((bt a0 0) == 45) = true := beq_iff_eq.mpr c5
        have c5b1 : ((bt a0 0) != 45) = false := bne_eq_false_iff_eq.mpr c5
        clear c5
        obtain rfl := Option.some.inj H
        have p4 : 0 ≤ (0 : Int) := (by omega)
        have q4 : 0 < a0.size := (by have : (0 : Int) < (a0.size : Int) := of_decide_eq_true (by first | (with_reducible assumption) | assumption); omega)
        have hx4 : ∀ h : 0 < a0.size, ((a0[0]'h).toNat : Int) = bt a0 0 := bt_at a0 0
        clear p4
        have qi4 : (0 < (a0.size : Int)) = True := eq_true (of_decide_eq_true (by first | (with_reducible assumption) | assumption))
        replace q4 := eq_true q4
        go_enter Tryd.func17, Tryd.ntmps17
        go_wp2
        go_ret
        exact ⟨by first | rfl | (simp; done) | (simp [wrap64]; done) | (simp [*]; done), by repeat (first | exact Drawn0.refl _ | apply Drawn0.step)⟩
      · rw [if_neg c5] at H
        have c5b0 : ((bt a0 0) == 45) = false := beq_eq_false_iff_ne.mpr c5
        have c5b1 : ((bt a0 0) != 45) = true := bne_iff_ne.mpr c5
        obtain rfl := Option.some.inj H
        have p4 : 0 ≤ (0 : Int) := (by omega)
        have q4 : 0 < a0.size := (by have : (0 : Int) < (a0.size : Int) := of_decide_eq_true (by first | (with_reducible assumption) | assumption); omega)
        have hx4 : ∀ h : 0 < a0.size, ((a0[0]'h).toNat : Int) = bt a0 0 := bt_at a0 0
        clear p4
        have qi4 : (0 < (a0.size : Int)) = True := eq_true (of_decide_eq_true (by first | (with_reducible assumption) | assumption))
        replace q4 := eq_true q4
        go_enter Tryd.func17, Tryd.ntmps17
        go_wp2
        go_ret
        exact ⟨by first | rfl | (simp; done) | (simp [wrap64]; done) | (simp [*]; done), by repeat (first | exact Drawn0.refl _ | apply Drawn0.step)⟩
    · rw [if_neg c3] at H
      exact absurd H (by simp)
mutual
def whole_Bezout.l0 : Nat → ByteArray → ByteArray → ByteArray → ByteArray → ByteArray → ByteArray → Option (ByteArray × ByteArray × ByteArray)
  | 0, _, _, _, _, _, _ => none
  | k + 1, x0, x1, x7, x8, x9, x10 => if x8.toList = ([48] : List UInt8) then ((whole_Sign.f x7).bind fun t403 => (if t403 < 0 then ((whole_Neg.f x7).bind fun t404 => ((whole_Neg.f x9).bind fun t405 => (whole_Bezout.j1 k x0 x1 t404 t405))) else (whole_Bezout.j1 k x0 x1 x7 x9))) else ((whole_DivMod.f k x7 x8).bind fun bt398 => ((whole_Mul.f k bt398.1 x10).bind fun t401 => ((whole_Sub.f k x9 t401).bind fun t402 => (whole_Bezout.l0 k x0 x1 x8 bt398.2.1 x10 t402))))
def whole_Bezout.j1 : Nat → ByteArray → ByteArray → ByteArray → ByteArray → Option (ByteArray × ByteArray × ByteArray)
  | 0, _, _, _, _ => none
  | k + 1, x0, x1, x7, x9 => (whole_Abs.f x1).bind fun t406 => ((whole_DivMod.f k t406 x7).bind fun bt407 => ((whole_DivMod.f k x9 bt407.1).bind fun bt410 => ((whole_Mul.f k x0 bt410.2.1).bind fun t413 => ((whole_Sub.f k x7 t413).bind fun t414 => ((whole_DivMod.f k t414 x1).bind fun bt415 => (some (x7, bt410.2.1, bt415.1)))))))
end
def whole_Bezout.f (k : Nat) (a0 : ByteArray) (a1 : ByteArray) : Option (ByteArray × ByteArray × ByteArray) := if a1.toList = ([48] : List UInt8) then ((whole_Abs.f a0).bind fun t395 => ((whole_Sign.f a0).bind fun t396 => ((whole_Of.f t396).bind fun t397 => (some (t395, t397, (⟨#[48]⟩ : ByteArray)))))) else (whole_Bezout.l0 k a0 a1 a0 a1 (⟨#[49]⟩ : ByteArray) (⟨#[48]⟩ : ByteArray))
theorem whole_Bezout.mono_l : ∀ k, (∀ y0 y1 y2 y3 y4 y5, LeO (whole_Bezout.l0 k y0 y1 y2 y3 y4 y5) (whole_Bezout.l0 (k + 1) y0 y1 y2 y3 y4 y5)) ∧ (∀ y0 y1 y2 y3, LeO (whole_Bezout.j1 k y0 y1 y2 y3) (whole_Bezout.j1 (k + 1) y0 y1 y2 y3))
  | 0 => ⟨fun _ _ _ _ _ _ r h => by simp [whole_Bezout.l0] at h, fun _ _ _ _ r h => by simp [whole_Bezout.j1] at h⟩
  | k + 1 => by
    obtain ⟨ih0, ih1⟩ := whole_Bezout.mono_l k
    refine ⟨?_, ?_⟩
    · intro y0 y1 y2 y3 y4 y5
      unfold whole_Bezout.l0
      repeat' first
      | (with_reducible exact ih0 _ _ _ _ _ _)
      | (with_reducible exact ih1 _ _ _ _)
      | (with_reducible exact whole_DivMod.mono _ _ _)
      | (with_reducible exact whole_Mul.mono _ _ _)
      | (with_reducible exact whole_Sub.mono _ _ _)
      | (with_reducible exact LeO.refl _)
      | (with_reducible exact LeO.none _)
      | (with_reducible refine LeO.ite ?_ ?_)
      | (with_reducible refine LeO.bind ?_ (fun _ => ?_))
      | exact ih0 _ _ _ _ _ _
      | exact ih1 _ _ _ _
      | exact whole_DivMod.mono _ _ _
      | exact whole_Mul.mono _ _ _
      | exact whole_Sub.mono _ _ _
      | exact LeO.none _
      | refine LeO.ite ?_ ?_
      | refine LeO.bind ?_ (fun _ => ?_)
    · intro y0 y1 y2 y3
      unfold whole_Bezout.j1
      repeat' first
      | (with_reducible exact ih0 _ _ _ _ _ _)
      | (with_reducible exact ih1 _ _ _ _)
      | (with_reducible exact whole_DivMod.mono _ _ _)
      | (with_reducible exact whole_Mul.mono _ _ _)
      | (with_reducible exact whole_Sub.mono _ _ _)
      | (with_reducible exact LeO.refl _)
      | (with_reducible exact LeO.none _)
      | (with_reducible refine LeO.ite ?_ ?_)
      | (with_reducible refine LeO.bind ?_ (fun _ => ?_))
      | exact ih0 _ _ _ _ _ _
      | exact ih1 _ _ _ _
      | exact whole_DivMod.mono _ _ _
      | exact whole_Mul.mono _ _ _
      | exact whole_Sub.mono _ _ _
      | exact LeO.none _
      | refine LeO.ite ?_ ?_
      | refine LeO.bind ?_ (fun _ => ?_)
theorem whole_Bezout.mono : ∀ a0 a1 k, LeO (whole_Bezout.f k a0 a1) (whole_Bezout.f (k + 1) a0 a1) := by
  intro a0 a1 k
  obtain ⟨ih0, ih1⟩ := whole_Bezout.mono_l k
  unfold whole_Bezout.f
  repeat' first
      | (with_reducible exact ih0 _ _ _ _ _ _)
      | (with_reducible exact ih1 _ _ _ _)
      | (with_reducible exact whole_DivMod.mono _ _ _)
      | (with_reducible exact whole_Mul.mono _ _ _)
      | (with_reducible exact whole_Sub.mono _ _ _)
      | (with_reducible exact LeO.refl _)
      | (with_reducible exact LeO.none _)
      | (with_reducible refine LeO.ite ?_ ?_)
      | (with_reducible refine LeO.bind ?_ (fun _ => ?_))
      | exact ih0 _ _ _ _ _ _
      | exact ih1 _ _ _ _
      | exact whole_DivMod.mono _ _ _
      | exact whole_Mul.mono _ _ _
      | exact whole_Sub.mono _ _ _
      | exact LeO.none _
      | refine LeO.ite ?_ ?_
      | refine LeO.bind ?_ (fun _ => ?_)
set_option maxHeartbeats 8000000 in
set_option maxRecDepth 100000 in
theorem whole_Bezout.calls (k : Nat) (a0 : ByteArray) (a1 : ByteArray) (r1 : ByteArray) (r2 : ByteArray) (r3 : ByteArray) (w : World) (hT : Tab w) (h : whole_Bezout.f k a0 a1 = some (r1, r2, r3)) :
    Calls Tryd.prog 15 #[.string a0, .string a1] w fun e w' => e = .returned (.tuple #[.string r1, .string r2, .string r3]) ∧ Below w.heap.size w w' := by
  have HT := Aside0.mk hT
  clear hT
  have HB := Aside0.mk (Below.refl w.heap.size w)
  have H : (if a1.toList = ([48] : List UInt8) then ((whole_Abs.f a0).bind fun t395 => ((whole_Sign.f a0).bind fun t396 => ((whole_Of.f t396).bind fun t397 => (some (t395, t397, (⟨#[48]⟩ : ByteArray)))))) else (whole_Bezout.l0 k a0 a1 a0 a1 (⟨#[49]⟩ : ByteArray) (⟨#[48]⟩ : ByteArray))) = some (r1, r2, r3) := h
  clear h
  by_cases c3 : a1.toList = ([48] : List UInt8)
  · rw [if_pos c3] at H
    have c3b0 : (a1.toList == ([48] : List UInt8)) = true := beq_iff_eq.mpr c3
    have c3b1 : (a1.toList != ([48] : List UInt8)) = false := bne_eq_false_iff_eq.mpr c3
    clear c3
    replace H := Option.bind_eq_some_iff.mp H
    obtain ⟨t395, A40, H⟩ := H
    replace H : ((whole_Sign.f a0).bind fun t396 => ((whole_Of.f t396).bind fun t397 => (some (t395, t397, (⟨#[48]⟩ : ByteArray))))) = some (r1, r2, r3) := H
    have A4 := Aside0.mk A40
    clear A40
    replace H := Option.bind_eq_some_iff.mp H
    obtain ⟨t396, A50, H⟩ := H
    replace H : ((whole_Of.f t396).bind fun t397 => (some (t395, t397, (⟨#[48]⟩ : ByteArray)))) = some (r1, r2, r3) := H
    have A5 := Aside0.mk A50
    clear A50
    replace H := Option.bind_eq_some_iff.mp H
    obtain ⟨t397, A60, H⟩ := H
    replace H : (some (t395, t397, (⟨#[48]⟩ : ByteArray))) = some (r1, r2, r3) := H
    have A6 := Aside0.mk A60
    clear A60
    simp only [Option.some.injEq, Prod.mk.injEq] at H
    obtain ⟨rfl, rfl, rfl⟩ := H
    go_enter Tryd.func15, Tryd.ntmps15
    go_wp2_with (first | ((with_reducible refine gate_callee (f := 14) rfl ?_); refine goesL_ (some 20) rfl rfl Tryd.func14 (by kernel_rfl) rfl #[.string a0] rfl mq ?_; (with_reducible refine (whole_Abs.calls a0 t395 _ A4.out).mono ?_); rintro e w' ⟨rfl, ⟨nd, rfl⟩⟩; refine ⟨_, rfl, ?_⟩) | ((with_reducible refine gate_callee (f := 17) rfl ?_); refine goesL_ (some 22) rfl rfl Tryd.func17 (by kernel_rfl) rfl #[.string a0] rfl mq ?_; (with_reducible refine (whole_Sign.calls a0 t396 _ A5.out).mono ?_); rintro e w' ⟨rfl, ⟨nd, rfl⟩⟩; refine ⟨_, rfl, ?_⟩) | ((with_reducible refine gate_callee (f := 24) rfl ?_); refine goesL_ (some 23) rfl rfl Tryd.func24 (by kernel_rfl) rfl #[.int .i64 t396] rfl mq ?_; (with_reducible refine (whole_Of.calls (hT := HT.out.below bq) t396 t397 _ A6.out).mono ?_); rintro e w7 ⟨rfl, hb⟩; refine ⟨_, rfl, ?_⟩; replace HB := Aside0.mk (below_step bq hb); (try clear hb); (try clear hb2); (try clear hk); (try clear hi)))
    go_ret3
    exact ⟨eq_, bq⟩
  · rw [if_neg c3] at H
    have c3b0 : (a1.toList == ([48] : List UInt8)) = false := beq_eq_false_iff_ne.mpr c3
    have c3b1 : (a1.toList != ([48] : List UInt8)) = true := bne_iff_ne.mpr c3
    have H' := Aside0.mk H
    clear H
    go_enter Tryd.func15, Tryd.ntmps15
    go_wp2
    go_loopg [7, 8, 9, 10] k (fun kq v7 v8 v9 v10 w' => ∃ (x7_1 : ByteArray) (x8_1 : ByteArray) (x9_1 : ByteArray) (x10_1 : ByteArray), v7 = .string x7_1 ∧ v8 = .string x8_1 ∧ v9 = .string x9_1 ∧ v10 = .string x10_1 ∧ Aside0 (whole_Bezout.l0 kq a0 a1 x7_1 x8_1 x9_1 x10_1 = some (r1, r2, r3)) ∧ Aside0 (kq ≤ k) ∧ Aside0 (Below w.heap.size w w'))
    case atStart => exact ⟨(a0), (a1), ((⟨#[49]⟩ : ByteArray)), ((⟨#[48]⟩ : ByteArray)), (by first | rfl | (simp; done) | (simp [*]; done)), (by first | rfl | (simp; done) | (simp [*]; done)), (by first | rfl | (simp; done) | (simp [*]; done)), (by first | rfl | (simp; done) | (simp [*]; done)), H', ⟨Nat.le_refl _⟩, ⟨bq⟩⟩
    case round =>
      clear H'
      try clear c1
      try clear c2
      try clear p2
      try clear c3
      try clear c3b0
      try clear c3b1
      obtain ⟨x7_1, x8_1, x9_1, x10_1, rfl, rfl, rfl, rfl, HA, HK1, HB⟩ := hrel
      cases gk with
      | zero => exact absurd HA.out (by simp [whole_Bezout.l0])
      | succ k1 =>
        have H := HA.out
        clear HA
        simp only [whole_Bezout.l0] at H
        by_cases c8 : x8_1.toList = ([48] : List UInt8)
        · rw [if_pos c8] at H
          have c8b0 : (x8_1.toList == ([48] : List UInt8)) = true := beq_iff_eq.mpr c8
          have c8b1 : (x8_1.toList != ([48] : List UInt8)) = false := bne_eq_false_iff_eq.mpr c8
          clear c8
          replace H := Option.bind_eq_some_iff.mp H
          obtain ⟨t403, A90, H⟩ := H
          replace H : (if t403 < 0 then ((whole_Neg.f x7_1).bind fun t404 => ((whole_Neg.f x9_1).bind fun t405 => (whole_Bezout.j1 k1 a0 a1 t404 t405))) else (whole_Bezout.j1 k1 a0 a1 x7_1 x9_1)) = some (r1, r2, r3) := H
          have A9 := Aside0.mk A90
          clear A90
          have HC10 := Aside0.mk H
          clear H
          go_upto_if 45 with (first | ((with_reducible refine gate_callee (f := 17) rfl ?_); refine goesL_ (some 44) rfl rfl Tryd.func17 (by kernel_rfl) rfl #[.string x7_1] rfl mq ?_; (with_reducible refine (whole_Sign.calls x7_1 t403 _ A9.out).mono ?_); rintro e w' ⟨rfl, ⟨nd, rfl⟩⟩; refine ⟨_, rfl, ?_⟩))
          (try simp only [Act.put, List.setIfInBounds_toArray, List.set_cons_zero, List.set_cons_succ])
          go_cut [7, 9] (fun v7 v9 wc => ∃ (kq : Nat) (x7_9 : ByteArray) (x9_9 : ByteArray), v7 = .string x7_9 ∧ v9 = .string x9_9 ∧ Aside0 (whole_Bezout.j1 kq a0 a1 x7_9 x9_9 = some (r1, r2, r3)) ∧ Aside0 (kq ≤ k1) ∧ Aside0 (Below w.heap.size w wc))
          case first =>
            have H := HC10.out
            clear HC10
            by_cases c11 : t403 < 0
            · rw [if_pos c11] at H
              have c11b0 : decide (t403 < 0) = true := decide_eq_true c11
              clear c11
              (first | rw [c11b0] | (simp only [i64_w, i32_w]; rw [c11b0]) | skip)
              replace H := Option.bind_eq_some_iff.mp H
              obtain ⟨t404, A120, H⟩ := H
              replace H : ((whole_Neg.f x9_1).bind fun t405 => (whole_Bezout.j1 k1 a0 a1 t404 t405)) = some (r1, r2, r3) := H
              have A12 := Aside0.mk A120
              clear A120
              replace H := Option.bind_eq_some_iff.mp H
              obtain ⟨t405, A130, H⟩ := H
              replace H : (whole_Bezout.j1 k1 a0 a1 t404 t405) = some (r1, r2, r3) := H
              have A13 := Aside0.mk A130
              clear A130
              have H' := Aside0.mk H
              clear H
              go_wp2_with (first | ((with_reducible refine gate_callee (f := 30) rfl ?_); refine goesL_ (some 47) rfl rfl Tryd.func30 (by kernel_rfl) rfl #[.string x7_1] rfl mq ?_; (with_reducible refine (whole_Neg.calls x7_1 t404 _ A12.out).mono ?_); rintro e w' ⟨rfl, ⟨nd, rfl⟩⟩; refine ⟨_, rfl, ?_⟩) | ((with_reducible refine gate_callee (f := 30) rfl ?_); refine goesL_ (some 49) rfl rfl Tryd.func30 (by kernel_rfl) rfl #[.string x9_1] rfl mq ?_; (with_reducible refine (whole_Neg.calls x9_1 t405 _ A13.out).mono ?_); rintro e w' ⟨rfl, ⟨nd, rfl⟩⟩; refine ⟨_, rfl, ?_⟩))
              go_meet
              case rel => exact ⟨_, (t404), (t405), (by first | rfl | (simp; done) | (simp [*]; done)), (by first | rfl | (simp; done) | (simp [*]; done)), H', ⟨by have := HK1.out; first | omega | exact Nat.le_refl _⟩, ⟨bq⟩⟩
            · rw [if_neg c11] at H
              have c11b0 : decide (t403 < 0) = false := decide_eq_false c11
              clear c11
              (first | rw [c11b0] | (simp only [i64_w, i32_w]; rw [c11b0]) | skip)
              have H' := Aside0.mk H
              clear H
              go_wp2
              go_meet
              case rel => exact ⟨_, (x7_1), (x9_1), (by first | rfl | (simp; done) | (simp [*]; done)), (by first | rfl | (simp; done) | (simp [*]; done)), H', ⟨by have := HK1.out; first | omega | exact Nat.le_refl _⟩, ⟨bq⟩⟩
          case rest =>
            clear HC10
            try clear c1
            try clear c2
            try clear p2
            try clear c3
            try clear c3b0
            try clear c3b1
            try clear c8
            try clear c8b0
            try clear c8b1
            try clear c11
            try clear c11b0
            try clear p2
            obtain ⟨kq, x7_9, x9_9, rfl, rfl, HA, HJ9, HB⟩ := hcut
            cases kq with
            | zero => exact absurd HA.out (by simp [whole_Bezout.j1])
            | succ kj9 =>
              have H := HA.out
              clear HA
              simp only [whole_Bezout.j1] at H
              replace H := Option.bind_eq_some_iff.mp H
              obtain ⟨t406, A140, H⟩ := H
              replace H : ((whole_DivMod.f kj9 t406 x7_9).bind fun bt407 => ((whole_DivMod.f kj9 x9_9 bt407.1).bind fun bt410 => ((whole_Mul.f kj9 a0 bt410.2.1).bind fun t413 => ((whole_Sub.f kj9 x7_9 t413).bind fun t414 => ((whole_DivMod.f kj9 t414 a1).bind fun bt415 => (some (x7_9, bt410.2.1, bt415.1))))))) = some (r1, r2, r3) := H
              have A14 := Aside0.mk A140
              clear A140
              replace H := Option.bind_eq_some_iff.mp H
              obtain ⟨⟨t407, t408, t409⟩, A150, H⟩ := H
              replace H : ((whole_DivMod.f kj9 x9_9 t407).bind fun bt410 => ((whole_Mul.f kj9 a0 bt410.2.1).bind fun t413 => ((whole_Sub.f kj9 x7_9 t413).bind fun t414 => ((whole_DivMod.f kj9 t414 a1).bind fun bt415 => (some (x7_9, bt410.2.1, bt415.1)))))) = some (r1, r2, r3) := H
              have A15 := Aside0.mk A150
              clear A150
              replace H := Option.bind_eq_some_iff.mp H
              obtain ⟨⟨t410, t411, t412⟩, A160, H⟩ := H
              replace H : ((whole_Mul.f kj9 a0 t411).bind fun t413 => ((whole_Sub.f kj9 x7_9 t413).bind fun t414 => ((whole_DivMod.f kj9 t414 a1).bind fun bt415 => (some (x7_9, t411, bt415.1))))) = some (r1, r2, r3) := H
              have A16 := Aside0.mk A160
              clear A160
              replace H := Option.bind_eq_some_iff.mp H
              obtain ⟨t413, A170, H⟩ := H
              replace H : ((whole_Sub.f kj9 x7_9 t413).bind fun t414 => ((whole_DivMod.f kj9 t414 a1).bind fun bt415 => (some (x7_9, t411, bt415.1)))) = some (r1, r2, r3) := H
              have A17 := Aside0.mk A170
              clear A170
              replace H := Option.bind_eq_some_iff.mp H
              obtain ⟨t414, A180, H⟩ := H
              replace H : ((whole_DivMod.f kj9 t414 a1).bind fun bt415 => (some (x7_9, t411, bt415.1))) = some (r1, r2, r3) := H
              have A18 := Aside0.mk A180
              clear A180
              replace H := Option.bind_eq_some_iff.mp H
              obtain ⟨⟨t415, t416, t417⟩, A190, H⟩ := H
              replace H : (some (x7_9, t411, t415)) = some (r1, r2, r3) := H
              have A19 := Aside0.mk A190
              clear A190
              simp only [Option.some.injEq, Prod.mk.injEq] at H
              obtain ⟨rfl, rfl, rfl⟩ := H
              go_wp2_with (first | ((with_reducible refine gate_callee (f := 14) rfl ?_); refine goesL_ (some 52) rfl rfl Tryd.func14 (by kernel_rfl) rfl #[.string a1] rfl mq ?_; (with_reducible refine (whole_Abs.calls a1 t406 _ A14.out).mono ?_); rintro e w' ⟨rfl, ⟨nd, rfl⟩⟩; refine ⟨_, rfl, ?_⟩) | ((with_reducible refine gate_callee (f := 16) rfl ?_); refine goesL_ (some 54) rfl rfl Tryd.func16 (by kernel_rfl) rfl #[.string t406, .string x7_9] rfl mq ?_; (with_reducible refine (whole_DivMod.calls (hT := HT.out.below bq) kj9 t406 x7_9 t407 t408 t409 _ A15.out).mono ?_); rintro e w20 ⟨rfl, hb⟩; refine ⟨_, rfl, ?_⟩; replace HB := Aside0.mk (below_step bq hb); (try clear hb); (try clear hb2); (try clear hk); (try clear hi)) | ((with_reducible refine gate_callee (f := 16) rfl ?_); refine goesL_ (some 61) rfl rfl Tryd.func16 (by kernel_rfl) rfl #[.string x9_9, .string t407] rfl mq ?_; (with_reducible refine (whole_DivMod.calls (hT := HT.out.below bq) kj9 x9_9 t407 t410 t411 t412 _ A16.out).mono ?_); rintro e w21 ⟨rfl, hb⟩; refine ⟨_, rfl, ?_⟩; replace HB := Aside0.mk (below_step bq hb); (try clear hb); (try clear hb2); (try clear hk); (try clear hi)) | ((with_reducible refine gate_callee (f := 9) rfl ?_); refine goesL_ (some 69) rfl rfl Tryd.func9 (by kernel_rfl) rfl #[.string a0, .string t411] rfl mq ?_; (with_reducible refine (whole_Mul.calls (hT := HT.out.below bq) kj9 a0 t411 t413 _ A17.out).mono ?_); rintro e w22 ⟨rfl, hb⟩; refine ⟨_, rfl, ?_⟩; replace HB := Aside0.mk (below_step bq hb); (try clear hb); (try clear hb2); (try clear hk); (try clear hi)) | ((with_reducible refine gate_callee (f := 10) rfl ?_); refine goesL_ (some 70) rfl rfl Tryd.func10 (by kernel_rfl) rfl #[.string x7_9, .string t413] rfl mq ?_; (with_reducible refine (whole_Sub.calls (hT := HT.out.below bq) kj9 x7_9 t413 t414 _ A18.out).mono ?_); rintro e w23 ⟨rfl, hb⟩; refine ⟨_, rfl, ?_⟩; replace HB := Aside0.mk (below_step bq hb); (try clear hb); (try clear hb2); (try clear hk); (try clear hi)) | ((with_reducible refine gate_callee (f := 16) rfl ?_); refine goesL_ (some 72) rfl rfl Tryd.func16 (by kernel_rfl) rfl #[.string t414, .string a1] rfl mq ?_; (with_reducible refine (whole_DivMod.calls (hT := HT.out.below bq) kj9 t414 a1 t415 t416 t417 _ A19.out).mono ?_); rintro e w24 ⟨rfl, hb⟩; refine ⟨_, rfl, ?_⟩; replace HB := Aside0.mk (below_step bq hb); (try clear hb); (try clear hb2); (try clear hk); (try clear hi)))
              go_ret3
              exact ⟨eq_, bq⟩
        · rw [if_neg c8] at H
          have c8b0 : (x8_1.toList == ([48] : List UInt8)) = false := beq_eq_false_iff_ne.mpr c8
          have c8b1 : (x8_1.toList != ([48] : List UInt8)) = true := bne_iff_ne.mpr c8
          replace H := Option.bind_eq_some_iff.mp H
          obtain ⟨⟨t398, t399, t400⟩, A250, H⟩ := H
          replace H : ((whole_Mul.f k1 t398 x10_1).bind fun t401 => ((whole_Sub.f k1 x9_1 t401).bind fun t402 => (whole_Bezout.l0 k1 a0 a1 x8_1 t399 x10_1 t402))) = some (r1, r2, r3) := H
          have A25 := Aside0.mk A250
          clear A250
          replace H := Option.bind_eq_some_iff.mp H
          obtain ⟨t401, A260, H⟩ := H
          replace H : ((whole_Sub.f k1 x9_1 t401).bind fun t402 => (whole_Bezout.l0 k1 a0 a1 x8_1 t399 x10_1 t402)) = some (r1, r2, r3) := H
          have A26 := Aside0.mk A260
          clear A260
          replace H := Option.bind_eq_some_iff.mp H
          obtain ⟨t402, A270, H⟩ := H
          replace H : (whole_Bezout.l0 k1 a0 a1 x8_1 t399 x10_1 t402) = some (r1, r2, r3) := H
          have A27 := Aside0.mk A270
          clear A270
          have H' := Aside0.mk H
          clear H
          go_wp2_with (first | ((with_reducible refine gate_callee (f := 16) rfl ?_); refine goesL_ (some 31) rfl rfl Tryd.func16 (by kernel_rfl) rfl #[.string x7_1, .string x8_1] rfl mq ?_; (with_reducible refine (whole_DivMod.calls (hT := HT.out.below bq) k1 x7_1 x8_1 t398 t399 t400 _ A25.out).mono ?_); rintro e w28 ⟨rfl, hb⟩; refine ⟨_, rfl, ?_⟩; replace HB := Aside0.mk (below_step bq hb); (try clear hb); (try clear hb2); (try clear hk); (try clear hi)) | ((with_reducible refine gate_callee (f := 9) rfl ?_); refine goesL_ (some 41) rfl rfl Tryd.func9 (by kernel_rfl) rfl #[.string t398, .string x10_1] rfl mq ?_; (with_reducible refine (whole_Mul.calls (hT := HT.out.below bq) k1 t398 x10_1 t401 _ A26.out).mono ?_); rintro e w29 ⟨rfl, hb⟩; refine ⟨_, rfl, ?_⟩; replace HB := Aside0.mk (below_step bq hb); (try clear hb); (try clear hb2); (try clear hk); (try clear hi)) | ((with_reducible refine gate_callee (f := 10) rfl ?_); refine goesL_ (some 42) rfl rfl Tryd.func10 (by kernel_rfl) rfl #[.string x9_1, .string t401] rfl mq ?_; (with_reducible refine (whole_Sub.calls (hT := HT.out.below bq) k1 x9_1 t401 t402 _ A27.out).mono ?_); rintro e w30 ⟨rfl, hb⟩; refine ⟨_, rfl, ?_⟩; replace HB := Aside0.mk (below_step bq hb); (try clear hb); (try clear hb2); (try clear hk); (try clear hi)))
          go_roundg k1
          case measure => have := HK1.out; omega
          case rel => exact ⟨(x8_1), (t399), (x10_1), (t402), (by first | rfl | (simp; done) | (simp [*]; done)), (by first | rfl | (simp; done) | (simp [*]; done)), (by first | rfl | (simp; done) | (simp [*]; done)), (by first | rfl | (simp; done) | (simp [*]; done)), H', ⟨by have := HK1.out; omega⟩, ⟨bq⟩⟩
end Go.Proofs.YtioimihminelaaaDoor.P
