/- Functions of the program, as functions of Lean, and the walks that show that the code answers as they do: written by a program. Conditions: those of each theorem. -/
import Derived.Test.YtgicckcahhlbjaaGreatDoorWholeSumsF1
namespace Go.Proofs.YtgicckcahhlbjaaGreatDoor.P
open Go.RowKit Go.Proofs.YtgicckcahhlbjaaGreatDoorW.PrintWords Go.Proofs.YtgicckcahhlbjaaGreatDoorW.PrintLast Go.Proofs.YtgicckcahhlbjaaGreatDoorW.PrintMore
attribute [local go_sem] gtr_text max2_int min2_int max_two min_two max_three min_three max_four min_four
set_option linter.unusedVariables false
set_option linter.unusedSimpArgs false
def decimal_Add.f (k : Nat) (a0 : ByteArray) (a1 : ByteArray) : Option (ByteArray) := (decimal_both.f k a0 a1).bind fun bt142 => (if bt142.2.2 = true then ((decimal_Of.f (IntKind.u64.wrap (bt142.1 + bt142.2.1))).bind fun t145 => (some t145)) else ((decimal_cut.f k a0).bind fun t146 => ((decimal_cut.f k a1).bind fun t149 => (if (t146.length : Int) < (t149.length : Int) then (if t149.length < 17592186044416 then ((some (t149 ++ [0] : List Int)).bind fun y152 => (if 0 ≤ (wrap64 ((wrap64 ((y152.length : Int) - 1)) - (t146.length : Int))) then (if t146.length + (wrap64 ((wrap64 ((y152.length : Int) - 1)) - (t146.length : Int)) : Int).toNat < 17592186044416 then ((decimal_pieces_back.f k y152 (t146 ++ List.replicate (wrap64 ((wrap64 ((y152.length : Int) - 1)) - (t146.length : Int)) : Int).toNat 0) 0).bind fun t158 => ((decimal_pieces_trim.f k t158).bind fun t159 => ((decimal_pieces_text.f k t159).bind fun t162 => (some t162)))) else (none)) else (none))) else (none)) else (if t146.length < 17592186044416 then ((some (t146 ++ [0] : List Int)).bind fun y163 => (if 0 ≤ (wrap64 ((wrap64 ((y163.length : Int) - 1)) - (t149.length : Int))) then (if t149.length + (wrap64 ((wrap64 ((y163.length : Int) - 1)) - (t149.length : Int)) : Int).toNat < 17592186044416 then ((decimal_pieces_back.f k y163 (t149 ++ List.replicate (wrap64 ((wrap64 ((y163.length : Int) - 1)) - (t149.length : Int)) : Int).toNat 0) 0).bind fun t169 => ((decimal_pieces_trim.f k t169).bind fun t170 => ((decimal_pieces_text.f k t170).bind fun t173 => (some t173)))) else (none)) else (none))) else (none))))))
theorem decimal_Add.mono : ∀ a0 a1 k, LeO (decimal_Add.f k a0 a1) (decimal_Add.f (k + 1) a0 a1) := by
  intro a0 a1 k
  unfold decimal_Add.f
  repeat' first
      | (with_reducible exact decimal_both.mono _ _ _)
      | (with_reducible exact decimal_cut.mono _ _)
      | (with_reducible exact decimal_pieces_back.mono _ _ _ _)
      | (with_reducible exact decimal_pieces_text.mono _ _)
      | (with_reducible exact decimal_pieces_trim.mono _ _)
      | (with_reducible exact LeO.refl _)
      | (with_reducible exact LeO.none _)
      | (with_reducible refine LeO.ite ?_ ?_)
      | (with_reducible refine LeO.bind ?_ (fun _ => ?_))
      | exact decimal_both.mono _ _ _
      | exact decimal_cut.mono _ _
      | exact decimal_pieces_back.mono _ _ _ _
      | exact decimal_pieces_text.mono _ _
      | exact decimal_pieces_trim.mono _ _
      | exact LeO.none _
      | refine LeO.ite ?_ ?_
      | refine LeO.bind ?_ (fun _ => ?_)
set_option maxHeartbeats 8000000 in
set_option maxRecDepth 100000 in
theorem decimal_Add.calls (k : Nat) (a0 : ByteArray) (a1 : ByteArray) (r : ByteArray) (w : World) (hT : Tab w) (h : decimal_Add.f k a0 a1 = some r) :
    Calls Tryz.prog 42 #[.string a0, .string a1] w fun e w' => e = .returned (.string r) ∧ Below w.heap.size w w' := by
  have HT := Aside0.mk hT
  clear hT
  have HB := Aside0.mk (Below.refl w.heap.size w)
  have H : ((decimal_both.f k a0 a1).bind fun bt142 => (if bt142.2.2 = true then ((decimal_Of.f (IntKind.u64.wrap (bt142.1 + bt142.2.1))).bind fun t145 => (some t145)) else ((decimal_cut.f k a0).bind fun t146 => ((decimal_cut.f k a1).bind fun t149 => (if (t146.length : Int) < (t149.length : Int) then (if t149.length < 17592186044416 then ((some (t149 ++ [0] : List Int)).bind fun y152 => (if 0 ≤ (wrap64 ((wrap64 ((y152.length : Int) - 1)) - (t146.length : Int))) then (if t146.length + (wrap64 ((wrap64 ((y152.length : Int) - 1)) - (t146.length : Int)) : Int).toNat < 17592186044416 then ((decimal_pieces_back.f k y152 (t146 ++ List.replicate (wrap64 ((wrap64 ((y152.length : Int) - 1)) - (t146.length : Int)) : Int).toNat 0) 0).bind fun t158 => ((decimal_pieces_trim.f k t158).bind fun t159 => ((decimal_pieces_text.f k t159).bind fun t162 => (some t162)))) else (none)) else (none))) else (none)) else (if t146.length < 17592186044416 then ((some (t146 ++ [0] : List Int)).bind fun y163 => (if 0 ≤ (wrap64 ((wrap64 ((y163.length : Int) - 1)) - (t149.length : Int))) then (if t149.length + (wrap64 ((wrap64 ((y163.length : Int) - 1)) - (t149.length : Int)) : Int).toNat < 17592186044416 then ((decimal_pieces_back.f k y163 (t149 ++ List.replicate (wrap64 ((wrap64 ((y163.length : Int) - 1)) - (t149.length : Int)) : Int).toNat 0) 0).bind fun t169 => ((decimal_pieces_trim.f k t169).bind fun t170 => ((decimal_pieces_text.f k t170).bind fun t173 => (some t173)))) else (none)) else (none))) else (none))))))) = some r := h
  clear h
  replace H := Option.bind_eq_some_iff.mp H
  obtain ⟨⟨t142, t143, t144⟩, A30, H⟩ := H
  replace H : (if t144 = true then ((decimal_Of.f (IntKind.u64.wrap (t142 + t143))).bind fun t145 => (some t145)) else ((decimal_cut.f k a0).bind fun t146 => ((decimal_cut.f k a1).bind fun t149 => (if (t146.length : Int) < (t149.length : Int) then (if t149.length < 17592186044416 then ((some (t149 ++ [0] : List Int)).bind fun y152 => (if 0 ≤ (wrap64 ((wrap64 ((y152.length : Int) - 1)) - (t146.length : Int))) then (if t146.length + (wrap64 ((wrap64 ((y152.length : Int) - 1)) - (t146.length : Int)) : Int).toNat < 17592186044416 then ((decimal_pieces_back.f k y152 (t146 ++ List.replicate (wrap64 ((wrap64 ((y152.length : Int) - 1)) - (t146.length : Int)) : Int).toNat 0) 0).bind fun t158 => ((decimal_pieces_trim.f k t158).bind fun t159 => ((decimal_pieces_text.f k t159).bind fun t162 => (some t162)))) else (none)) else (none))) else (none)) else (if t146.length < 17592186044416 then ((some (t146 ++ [0] : List Int)).bind fun y163 => (if 0 ≤ (wrap64 ((wrap64 ((y163.length : Int) - 1)) - (t149.length : Int))) then (if t149.length + (wrap64 ((wrap64 ((y163.length : Int) - 1)) - (t149.length : Int)) : Int).toNat < 17592186044416 then ((decimal_pieces_back.f k y163 (t149 ++ List.replicate (wrap64 ((wrap64 ((y163.length : Int) - 1)) - (t149.length : Int)) : Int).toNat 0) 0).bind fun t169 => ((decimal_pieces_trim.f k t169).bind fun t170 => ((decimal_pieces_text.f k t170).bind fun t173 => (some t173)))) else (none)) else (none))) else (none)))))) = some r := H
  have A3 := Aside0.mk A30
  clear A30
  by_cases c4 : t144 = true
  · subst c4
    have H1 : ((decimal_Of.f (IntKind.u64.wrap (t142 + t143))).bind fun t145 => (some t145)) = some r := by rw [if_pos rfl] at H; exact H
    clear H
    have H := H1
    clear H1
    replace H := Option.bind_eq_some_iff.mp H
    obtain ⟨t145, A50, H⟩ := H
    replace H : (some t145) = some r := H
    have A5 := Aside0.mk A50
    clear A50
    obtain rfl := Option.some.inj H
    go_enter Tryz.func42, Tryz.ntmps42
    go_wp2_with (first | ((with_reducible refine gate_callee (f := 68) rfl ?_); refine goesL_ (some 13) rfl rfl Tryz.func68 (by kernel_rfl) rfl #[.string a0, .string a1] rfl mq ?_; (with_reducible refine (decimal_both.calls (hT := HT.out.below bq) k a0 a1 t142 t143 true _ A3.out).mono ?_); rintro e w6 ⟨rfl, hb⟩; refine ⟨_, rfl, ?_⟩; replace HB := Aside0.mk (below_step bq hb); (try clear hb); (try clear hb2); (try clear hk); (try clear hi)) | ((with_reducible refine gate_callee (f := 69) rfl ?_); refine goesL_ (some 21) rfl rfl Tryz.func69 (by kernel_rfl) rfl #[.int .u64 (IntKind.u64.wrap (t142 + t143))] rfl mq ?_; (with_reducible refine (decimal_Of.calls (hT := HT.out.below bq) (IntKind.u64.wrap (t142 + t143)) t145 _ A5.out).mono ?_); rintro e w7 ⟨rfl, hb⟩; refine ⟨_, rfl, ?_⟩; replace HB := Aside0.mk (below_step bq hb); (try clear hb); (try clear hb2); (try clear hk); (try clear hi)))
    go_ret
    exact ⟨eq_, bq⟩
  · replace c4 := Bool.eq_false_iff.mpr c4
    subst c4
    have H1 : ((decimal_cut.f k a0).bind fun t146 => ((decimal_cut.f k a1).bind fun t149 => (if (t146.length : Int) < (t149.length : Int) then (if t149.length < 17592186044416 then ((some (t149 ++ [0] : List Int)).bind fun y152 => (if 0 ≤ (wrap64 ((wrap64 ((y152.length : Int) - 1)) - (t146.length : Int))) then (if t146.length + (wrap64 ((wrap64 ((y152.length : Int) - 1)) - (t146.length : Int)) : Int).toNat < 17592186044416 then ((decimal_pieces_back.f k y152 (t146 ++ List.replicate (wrap64 ((wrap64 ((y152.length : Int) - 1)) - (t146.length : Int)) : Int).toNat 0) 0).bind fun t158 => ((decimal_pieces_trim.f k t158).bind fun t159 => ((decimal_pieces_text.f k t159).bind fun t162 => (some t162)))) else (none)) else (none))) else (none)) else (if t146.length < 17592186044416 then ((some (t146 ++ [0] : List Int)).bind fun y163 => (if 0 ≤ (wrap64 ((wrap64 ((y163.length : Int) - 1)) - (t149.length : Int))) then (if t149.length + (wrap64 ((wrap64 ((y163.length : Int) - 1)) - (t149.length : Int)) : Int).toNat < 17592186044416 then ((decimal_pieces_back.f k y163 (t149 ++ List.replicate (wrap64 ((wrap64 ((y163.length : Int) - 1)) - (t149.length : Int)) : Int).toNat 0) 0).bind fun t169 => ((decimal_pieces_trim.f k t169).bind fun t170 => ((decimal_pieces_text.f k t170).bind fun t173 => (some t173)))) else (none)) else (none))) else (none))))) = some r := by rw [if_neg (show ¬ (false = true) by decide)] at H; exact H
    clear H
    have H := H1
    clear H1
    replace H := Option.bind_eq_some_iff.mp H
    obtain ⟨t146, A80, H⟩ := H
    replace H : ((decimal_cut.f k a1).bind fun t149 => (if (t146.length : Int) < (t149.length : Int) then (if t149.length < 17592186044416 then ((some (t149 ++ [0] : List Int)).bind fun y152 => (if 0 ≤ (wrap64 ((wrap64 ((y152.length : Int) - 1)) - (t146.length : Int))) then (if t146.length + (wrap64 ((wrap64 ((y152.length : Int) - 1)) - (t146.length : Int)) : Int).toNat < 17592186044416 then ((decimal_pieces_back.f k y152 (t146 ++ List.replicate (wrap64 ((wrap64 ((y152.length : Int) - 1)) - (t146.length : Int)) : Int).toNat 0) 0).bind fun t158 => ((decimal_pieces_trim.f k t158).bind fun t159 => ((decimal_pieces_text.f k t159).bind fun t162 => (some t162)))) else (none)) else (none))) else (none)) else (if t146.length < 17592186044416 then ((some (t146 ++ [0] : List Int)).bind fun y163 => (if 0 ≤ (wrap64 ((wrap64 ((y163.length : Int) - 1)) - (t149.length : Int))) then (if t149.length + (wrap64 ((wrap64 ((y163.length : Int) - 1)) - (t149.length : Int)) : Int).toNat < 17592186044416 then ((decimal_pieces_back.f k y163 (t149 ++ List.replicate (wrap64 ((wrap64 ((y163.length : Int) - 1)) - (t149.length : Int)) : Int).toNat 0) 0).bind fun t169 => ((decimal_pieces_trim.f k t169).bind fun t170 => ((decimal_pieces_text.f k t170).bind fun t173 => (some t173)))) else (none)) else (none))) else (none)))) = some r := H
    have A8 := Aside0.mk A80
    clear A80
    replace H := Option.bind_eq_some_iff.mp H
    obtain ⟨t149, A90, H⟩ := H
    replace H : (if (t146.length : Int) < (t149.length : Int) then (if t149.length < 17592186044416 then ((some (t149 ++ [0] : List Int)).bind fun y152 => (if 0 ≤ (wrap64 ((wrap64 ((y152.length : Int) - 1)) - (t146.length : Int))) then (if t146.length + (wrap64 ((wrap64 ((y152.length : Int) - 1)) - (t146.length : Int)) : Int).toNat < 17592186044416 then ((decimal_pieces_back.f k y152 (t146 ++ List.replicate (wrap64 ((wrap64 ((y152.length : Int) - 1)) - (t146.length : Int)) : Int).toNat 0) 0).bind fun t158 => ((decimal_pieces_trim.f k t158).bind fun t159 => ((decimal_pieces_text.f k t159).bind fun t162 => (some t162)))) else (none)) else (none))) else (none)) else (if t146.length < 17592186044416 then ((some (t146 ++ [0] : List Int)).bind fun y163 => (if 0 ≤ (wrap64 ((wrap64 ((y163.length : Int) - 1)) - (t149.length : Int))) then (if t149.length + (wrap64 ((wrap64 ((y163.length : Int) - 1)) - (t149.length : Int)) : Int).toNat < 17592186044416 then ((decimal_pieces_back.f k y163 (t149 ++ List.replicate (wrap64 ((wrap64 ((y163.length : Int) - 1)) - (t149.length : Int)) : Int).toNat 0) 0).bind fun t169 => ((decimal_pieces_trim.f k t169).bind fun t170 => ((decimal_pieces_text.f k t170).bind fun t173 => (some t173)))) else (none)) else (none))) else (none))) = some r := H
    have A9 := Aside0.mk A90
    clear A90
    by_cases c10 : (t146.length : Int) < (t149.length : Int)
    · rw [if_pos c10] at H
      have c10b0 : decide ((t146.length : Int) < (t149.length : Int)) = true := decide_eq_true c10
      have c10b1 : decide (t146.length < t149.length) = true := decide_eq_true (Int.ofNat_lt.mp c10)
      clear c10
      by_cases c11 : t149.length < 17592186044416
      · rw [if_pos c11] at H
        have LMc11 := Aside0.mk c11
        clear c11
        obtain ⟨y152, hy152⟩ : ∃ y_ : List Int, y_ = (t149 ++ [0]) := ⟨_, rfl⟩
        replace H : (if 0 ≤ (wrap64 ((wrap64 ((y152.length : Int) - 1)) - (t146.length : Int))) then (if t146.length + (wrap64 ((wrap64 ((y152.length : Int) - 1)) - (t146.length : Int)) : Int).toNat < 17592186044416 then ((decimal_pieces_back.f k y152 (t146 ++ List.replicate (wrap64 ((wrap64 ((y152.length : Int) - 1)) - (t146.length : Int)) : Int).toNat 0) 0).bind fun t158 => ((decimal_pieces_trim.f k t158).bind fun t159 => ((decimal_pieces_text.f k t159).bind fun t162 => (some t162)))) else (none)) else (none)) = some r := by first | (rw [hy152]; with_reducible exact H) | (have H2_ := (Option.bind_some _ _).symm.trans H; rw [hy152]; with_reducible exact H2_) | (have H2_ := (Option.bind_some _ _).symm.trans H; with_reducible exact H2_) | with_reducible exact H | (rw [hy152]; exact H) | exact H
        have Ny152 := Aside0.mk hy152
        clear hy152
        obtain ⟨ji12, hji12⟩ : ∃ j_ : Int, (wrap64 ((wrap64 ((y152.length : Int) - 1)) - (t146.length : Int))) = j_ := ⟨_, rfl⟩
        replace H : (if 0 ≤ (ji12) then (if t146.length + (ji12 : Int).toNat < 17592186044416 then ((decimal_pieces_back.f k y152 (t146 ++ List.replicate (ji12 : Int).toNat 0) 0).bind fun t158 => ((decimal_pieces_trim.f k t158).bind fun t159 => ((decimal_pieces_text.f k t159).bind fun t162 => (some t162)))) else (none)) else (none)) = some r := by first | (rw [hji12] at H; exact H) | (simp only [hji12] at H ⊢; exact H)
        (try rw [hji12] at A3)
        (try rw [hji12] at A8)
        (try rw [hji12] at A9)
        have hji12w : (IntKind.i64.wrap ((wrap64 ((y152.length : Int) - 1)) - (t146.length : Int))) = ji12 := (i64_w _).trans hji12
        by_cases c13 : 0 ≤ (ji12)
        · rw [if_pos c13] at H
          have c13b0 := eq_true c13
          have c13b1 : decide (0 ≤ (ji12)) = true := decide_eq_true c13
          clear c13
          by_cases c14 : t146.length + (ji12 : Int).toNat < 17592186044416
          · rw [if_pos c14] at H
            have LMc14 := Aside0.mk c14
            clear c14
            obtain ⟨y155, hy155⟩ : ∃ y_ : List Int, y_ = (t146 ++ List.replicate (ji12 : Int).toNat 0) := ⟨_, rfl⟩
            replace H : ((decimal_pieces_back.f k y152 y155 0).bind fun t158 => ((decimal_pieces_trim.f k t158).bind fun t159 => ((decimal_pieces_text.f k t159).bind fun t162 => (some t162)))) = some r := by first | (rw [hy155]; with_reducible exact H) | (have H2_ := (Option.bind_some _ _).symm.trans H; rw [hy155]; with_reducible exact H2_) | (have H2_ := (Option.bind_some _ _).symm.trans H; with_reducible exact H2_) | with_reducible exact H | (rw [hy155]; exact H) | exact H
            have Ny155 := Aside0.mk hy155
            clear hy155
            replace H := Option.bind_eq_some_iff.mp H
            obtain ⟨t158, A150, H⟩ := H
            replace H : ((decimal_pieces_trim.f k t158).bind fun t159 => ((decimal_pieces_text.f k t159).bind fun t162 => (some t162))) = some r := H
            have A15 := Aside0.mk A150
            clear A150
            replace H := Option.bind_eq_some_iff.mp H
            obtain ⟨t159, A160, H⟩ := H
            replace H : ((decimal_pieces_text.f k t159).bind fun t162 => (some t162)) = some r := H
            have A16 := Aside0.mk A160
            clear A160
            replace H := Option.bind_eq_some_iff.mp H
            obtain ⟨t162, A170, H⟩ := H
            replace H : (some t162) = some r := H
            have A17 := Aside0.mk A170
            clear A170
            obtain rfl := Option.some.inj H
            go_enter Tryz.func42, Tryz.ntmps42
            go_wp2_with (first | ((with_reducible refine gate_callee (f := 68) rfl ?_); refine goesL_ (some 13) rfl rfl Tryz.func68 (by kernel_rfl) rfl #[.string a0, .string a1] rfl mq ?_; (with_reducible refine (decimal_both.calls (hT := HT.out.below bq) k a0 a1 t142 t143 false _ A3.out).mono ?_); rintro e w18 ⟨rfl, hb⟩; refine ⟨_, rfl, ?_⟩; replace HB := Aside0.mk (below_step bq hb); (try clear hb); (try clear hb2); (try clear hk); (try clear hi)) | ((with_reducible refine gate_callee (f := 60) rfl ?_); refine goesL_ (some 23) rfl rfl Tryz.func60 (by kernel_rfl) rfl #[.string a0] rfl mq ?_; (with_reducible refine (decimal_cut.calls k a0 t146 _ A8.out).mono ?_); rintro e w19 ⟨v147, rfl, ho0, hb⟩; refine ⟨_, rfl, ?_⟩; have n0_ := Aside0.mk (Kd.R_lower ho0 (below_size bq)); have n1_ := Aside0.mk (below_step bq hb); clear HB; have HO148 := n0_; have HB := n1_; clear n0_ n1_; (try clear hb); (try clear hb2); (try clear hk); (try clear hi); (try clear ho0)) | ((with_reducible refine gate_callee (f := 60) rfl ?_); refine goesL_ (some 25) rfl rfl Tryz.func60 (by kernel_rfl) rfl #[.string a1] rfl mq ?_; (with_reducible refine (decimal_cut.calls k a1 t149 _ A9.out).mono ?_); rintro e w20 ⟨v150, rfl, ho0, hb⟩; refine ⟨_, rfl, ?_⟩; have n0_ := Aside0.mk (Kd.R_elder' (by (with_reducible repeat (first | apply Kd.R_alloc | apply Kd.R_drewN | apply Kd.R_drew)); exact HO148.out) (Kd.R_base ho0) hb); have n1_ := Aside0.mk (Kd.R_lower (Kd.R_new' ho0 (Kd.R_lt (by (with_reducible repeat (first | apply Kd.R_alloc | apply Kd.R_drewN | apply Kd.R_drew)); exact HO148.out))) (below_size bq)); have n2_ := Aside0.mk (below_step bq hb); clear HO148; clear HB; have HO148 := n0_; have HO151 := n1_; have HB := n2_; clear n0_ n1_ n2_; (try clear hb); (try clear hb2); (try clear hk); (try clear hi); (try clear ho0); obtain ⟨Ao21, co21, eo21⟩ := Kd.R_slice HO148.out; subst eo21; obtain ⟨Ao22, co22, eo22⟩ := Kd.R_slice HO151.out; subst eo22) | ((with_reducible refine gate_builtin (b := .append) (xs := #[.tmp 33, .tmp 34]) rfl ?_); at_builtin; refine Kd.R_append (Kd.int .u64) (w0 := w) w.heap.size rfl (.tmp 33) (.tmp 34) 72 70 (.int .u64 0) 8 rfl Tryz.underlying72 info70 rfl (by decide) (by omega) (.slice Ao22 t149.length co22) t149 0 [.int .u64 0] (fun k_ => some k_ ≠ (.slice Ao21 t146.length co21 : Value).ownBlock) (fun _ => False) rfl rfl ?aP (fun _ hk => hk.elim) ?aF ?aO ?aB ?aS ?aL ?_; (case aP => exact rfl); (case aB => exact bq); (case aF => exact (fun k_ hk => Kd.fresh' (Kd.R_lt (by (with_reducible repeat (first | apply Kd.R_alloc | apply Kd.R_drewN | apply Kd.R_drew)); exact HO148.out)) k_ hk)); (case aO => exact (by (with_reducible repeat (first | apply Kd.R_alloc | apply Kd.R_drewN | apply Kd.R_drew)); exact Kd.R_mono HO151.out (fun _ hk => hk.2))); (case aS => exact (below_size bq)); (case aL => have := LMc11.out; omega); intro v153 w23 ho hb hg hat; rw [← Ny152.out] at ho; have n0_ := Aside0.mk (Kd.R_after (ok := (fun _ => True)) (by (with_reducible repeat (first | apply Kd.R_alloc | apply Kd.R_drewN | apply Kd.R_drew)); exact HO148.out) hg hat); have n1_ := Aside0.mk (hb); have n2_ := Aside0.mk (ho); clear HO148; clear HB; clear HO151; have HO148 := n0_; have HB := n1_; have HO154 := n2_; clear n0_ n1_ n2_; clear ho hb hg hat; obtain ⟨Ao24, co24, eo24⟩ := Kd.R_slice HO154.out; subst eo24) | (at_builtin; refine Kd.R_append_zeros (Kd.int .u64) (w0 := w) w.heap.size rfl (.tmp 37) (.tmp 43) 72 3 70 (.int .u64 0) 8 rfl Tryz.underlying72 Tryz.underlying3 info70 rfl (by decide) (by omega) (.slice Ao21 t146.length co21) t146 0 (ji12 : Int) (fun k_ => some k_ ≠ (.slice Ao24 y152.length co24 : Value).ownBlock) rfl rfl rfl ?aF ?aO (of_decide_eq_true (by first | (with_reducible assumption) | assumption)) ?aB ?aS ?aL ?_; (case aB => exact bq); (case aF => exact (fun k_ hk => Kd.fresh' (Kd.R_lt (by (with_reducible repeat (first | apply Kd.R_alloc | apply Kd.R_drewN | apply Kd.R_drew)); exact HO154.out)) k_ hk)); (case aO => exact (by (with_reducible repeat (first | apply Kd.R_alloc | apply Kd.R_drewN | apply Kd.R_drew)); exact Kd.R_mono HO148.out (fun _ hk => hk.2))); (case aS => exact (below_size bq)); (case aL => have := LMc14.out; omega); intro v156 w25 ho hb hg hat; rw [← Ny155.out] at ho; have n0_ := Aside0.mk (Kd.R_after (ok := (fun _ => True)) (by (with_reducible repeat (first | apply Kd.R_alloc | apply Kd.R_drewN | apply Kd.R_drew)); exact Kd.R_mono HO154.out (fun _ hk => ⟨trivial, hk⟩)) hg hat); have n1_ := Aside0.mk (hb); have n2_ := Aside0.mk (ho); clear HO154; clear HB; clear HO148; have HO154 := n0_; have HB := n1_; have HO157 := n2_; clear n0_ n1_ n2_; clear ho hb hg hat; obtain ⟨Ao26, co26, eo26⟩ := Kd.R_slice HO157.out; subst eo26) | ((with_reducible refine gate_callee (f := 70) rfl ?_); refine goesL_ (some 45) rfl rfl Tryz.func70 (by kernel_rfl) rfl #[.slice Ao24 y152.length co24, .slice Ao26 y155.length co26, .int .i64 0] rfl mq ?_; (with_reducible refine (decimal_pieces_back.calls k (fun k_ => some k_ = (.slice Ao24 y152.length co24 : Value).ownBlock) (.slice Ao24 y152.length co24) y152 _ _ y155 0 t158 w _ ?side1 ?side2 ?side3 ?side4 A15.out).mono ?_); (case side1 => exact bq); (case side2 => exact Kd.R_tight rfl HO154.out); (case side3 => exact Kd.C_kept_own (HO157.out) (fun k_ hk_ hs_ => (hk_) hs_)); (case side4 => exact (Kd.R_reads' HO157.out).2.1); rintro e w27 ⟨rfl, hy0, hb, hkp⟩; refine ⟨_, rfl, ?_⟩; have n0_ := Aside0.mk (Kd.R_reok rfl hy0 (fun k_ e_ => HO154.out.1 k_ e_)); have n1_ := Aside0.mk (Kd.R_mono (ok' := fun k_ => some k_ ≠ (.slice Ao24 y152.length co24 : Value).ownBlock) (Kd.R_keptB (HO157.out) hkp (fun k_ hk_ hs_ => (hk_) hs_)) (fun k_ hk_ => hk_.1)); have n2_ := Aside0.mk (hb); clear HO154; clear HO157; clear HB; have HO154 := n0_; have HO157 := n1_; have HB := n2_; clear n0_ n1_ n2_; (try clear hb); (try clear hkp); (try clear hy0)) | ((with_reducible refine gate_callee (f := 71) rfl ?_); refine goesL_ (some 47) rfl rfl Tryz.func71 (by kernel_rfl) rfl #[.slice Ao24 y152.length co24] rfl mq ?_; (with_reducible refine (decimal_pieces_trim.calls k (fun k_ => some k_ = (.slice Ao24 y152.length co24 : Value).ownBlock) (.slice Ao24 y152.length co24) t158 t159 w _ ?side1 ?side2 A16.out).mono ?_); (case side1 => exact bq); (case side2 => exact Kd.R_tight rfl HO154.out); rintro e w28 ⟨v160, rfl, ho0, hb, hkp⟩; refine ⟨_, rfl, ?_⟩; have n0_ := Aside0.mk (Kd.R_mono (ok' := fun k_ => some k_ ≠ (v160 : Value).ownBlock) (Kd.R_keptB (HO157.out) hkp (fun k_ hk_ hs_ => (hk_) hs_)) (fun k_ hk_ => fun e_ => Or.elim (ho0.1 k_ e_.symm) (fun hs_ => hk_.2.1 hs_) (fun hn_ => Nat.not_le.2 hk_.2.2 hn_))); have n1_ := Aside0.mk (Kd.R_mono (ok' := fun k_ => some k_ ≠ (.slice Ao26 y155.length co26 : Value).ownBlock) ho0 (fun k_ hk_ => Or.elim hk_ (fun hs_ => fun e_ => (((HO157.out).1 k_ e_.symm)) hs_) (fun hn_ => (Kd.fresh' (Kd.R_lt (by (with_reducible repeat (first | apply Kd.R_alloc | apply Kd.R_drewN | apply Kd.R_drew)); exact HO157.out)) k_ hn_)))); have n2_ := Aside0.mk (hb); clear HO157; clear HB; clear HO154; have HO157 := n0_; have HO161 := n1_; have HB := n2_; clear n0_ n1_ n2_; (try clear hb); (try clear hkp); (try clear ho0); obtain ⟨Ao29, co29, eo29⟩ := Kd.R_slice HO161.out; subst eo29) | ((with_reducible refine gate_callee (f := 62) rfl ?_); refine goesL_ (some 48) rfl rfl Tryz.func62 (by kernel_rfl) rfl #[.slice Ao29 t159.length co29] rfl mq ?_; (with_reducible refine (decimal_pieces_text.calls k _ _ t159 t162 _ ?side1 ?side2 A17.out).mono ?_); (case side1 => repeat (first | exact (Kd.R_reads' HO161.out).2.2 | (with_reducible refine Kd.C_alloc ?_ _) | (with_reducible refine Kd.C_drewN ?_ _) | (with_reducible refine Kd.C_drew ?_))); (case side2 => exact (Kd.R_reads' HO161.out).2.1); rintro e w30 ⟨rfl, hb⟩; refine ⟨_, rfl, ?_⟩; have n0_ := Aside0.mk (Kd.R_below (by (with_reducible repeat (first | apply Kd.R_alloc | apply Kd.R_drewN | apply Kd.R_drew)); exact HO157.out) hb); have n1_ := Aside0.mk (Kd.R_below (by (with_reducible repeat (first | apply Kd.R_alloc | apply Kd.R_drewN | apply Kd.R_drew)); exact HO161.out) hb); have n2_ := Aside0.mk (below_step bq hb); clear HO157; clear HO161; clear HB; have HO157 := n0_; have HO161 := n1_; have HB := n2_; clear n0_ n1_ n2_; (try clear hb); (try clear hb2); (try clear hk); (try clear hi)))
            go_ret
            exact ⟨by first | rfl | (simp [errW_none, errW_some] <;> rfl) | (simp only [← hji12]; first | rfl | (simp [errW_none, errW_some] <;> rfl)) | (simp [*, errW_none, errW_some] <;> rfl), bq⟩
          · rw [if_neg c14] at H
            exact absurd H (by simp)
        · rw [if_neg c13] at H
          exact absurd H (by simp)
      · rw [if_neg c11] at H
        exact absurd H (by simp)
    · rw [if_neg c10] at H
      have c10b0 : decide ((t146.length : Int) < (t149.length : Int)) = false := decide_eq_false c10
      have c10b1 : decide (t146.length < t149.length) = false := decide_eq_false (fun h => c10 (Int.ofNat_lt.mpr h))
      clear c10
      by_cases c31 : t146.length < 17592186044416
      · rw [if_pos c31] at H
        have LMc31 := Aside0.mk c31
        clear c31
        obtain ⟨y163, hy163⟩ : ∃ y_ : List Int, y_ = (t146 ++ [0]) := ⟨_, rfl⟩
        replace H : (if 0 ≤ (wrap64 ((wrap64 ((y163.length : Int) - 1)) - (t149.length : Int))) then (if t149.length + (wrap64 ((wrap64 ((y163.length : Int) - 1)) - (t149.length : Int)) : Int).toNat < 17592186044416 then ((decimal_pieces_back.f k y163 (t149 ++ List.replicate (wrap64 ((wrap64 ((y163.length : Int) - 1)) - (t149.length : Int)) : Int).toNat 0) 0).bind fun t169 => ((decimal_pieces_trim.f k t169).bind fun t170 => ((decimal_pieces_text.f k t170).bind fun t173 => (some t173)))) else (none)) else (none)) = some r := by first | (rw [hy163]; with_reducible exact H) | (have H2_ := (Option.bind_some _ _).symm.trans H; rw [hy163]; with_reducible exact H2_) | (have H2_ := (Option.bind_some _ _).symm.trans H; with_reducible exact H2_) | with_reducible exact H | (rw [hy163]; exact H) | exact H
        have Ny163 := Aside0.mk hy163
        clear hy163
        obtain ⟨ji32, hji32⟩ : ∃ j_ : Int, (wrap64 ((wrap64 ((y163.length : Int) - 1)) - (t149.length : Int))) = j_ := ⟨_, rfl⟩
        replace H : (if 0 ≤ (ji32) then (if t149.length + (ji32 : Int).toNat < 17592186044416 then ((decimal_pieces_back.f k y163 (t149 ++ List.replicate (ji32 : Int).toNat 0) 0).bind fun t169 => ((decimal_pieces_trim.f k t169).bind fun t170 => ((decimal_pieces_text.f k t170).bind fun t173 => (some t173)))) else (none)) else (none)) = some r := by first | (rw [hji32] at H; exact H) | (simp only [hji32] at H ⊢; exact H)
        (try rw [hji32] at A3)
        (try rw [hji32] at A8)
        (try rw [hji32] at A9)
        have hji32w : (IntKind.i64.wrap ((wrap64 ((y163.length : Int) - 1)) - (t149.length : Int))) = ji32 := (i64_w _).trans hji32
        by_cases c33 : 0 ≤ (ji32)
        · rw [if_pos c33] at H
          have c33b0 := eq_true c33
          have c33b1 : decide (0 ≤ (ji32)) = true := decide_eq_true c33
          clear c33
          by_cases c34 : t149.length + (ji32 : Int).toNat < 17592186044416
          · rw [if_pos c34] at H
            have LMc34 := Aside0.mk c34
            clear c34
            obtain ⟨y166, hy166⟩ : ∃ y_ : List Int, y_ = (t149 ++ List.replicate (ji32 : Int).toNat 0) := ⟨_, rfl⟩
            replace H : ((decimal_pieces_back.f k y163 y166 0).bind fun t169 => ((decimal_pieces_trim.f k t169).bind fun t170 => ((decimal_pieces_text.f k t170).bind fun t173 => (some t173)))) = some r := by first | (rw [hy166]; with_reducible exact H) | (have H2_ := (Option.bind_some _ _).symm.trans H; rw [hy166]; with_reducible exact H2_) | (have H2_ := (Option.bind_some _ _).symm.trans H; with_reducible exact H2_) | with_reducible exact H | (rw [hy166]; exact H) | exact H
            have Ny166 := Aside0.mk hy166
            clear hy166
            replace H := Option.bind_eq_some_iff.mp H
            obtain ⟨t169, A350, H⟩ := H
            replace H : ((decimal_pieces_trim.f k t169).bind fun t170 => ((decimal_pieces_text.f k t170).bind fun t173 => (some t173))) = some r := H
            have A35 := Aside0.mk A350
            clear A350
            replace H := Option.bind_eq_some_iff.mp H
            obtain ⟨t170, A360, H⟩ := H
            replace H : ((decimal_pieces_text.f k t170).bind fun t173 => (some t173)) = some r := H
            have A36 := Aside0.mk A360
            clear A360
            replace H := Option.bind_eq_some_iff.mp H
            obtain ⟨t173, A370, H⟩ := H
            replace H : (some t173) = some r := H
            have A37 := Aside0.mk A370
            clear A370
            obtain rfl := Option.some.inj H
            go_enter Tryz.func42, Tryz.ntmps42
            go_wp2_with (first | ((with_reducible refine gate_callee (f := 68) rfl ?_); refine goesL_ (some 13) rfl rfl Tryz.func68 (by kernel_rfl) rfl #[.string a0, .string a1] rfl mq ?_; (with_reducible refine (decimal_both.calls (hT := HT.out.below bq) k a0 a1 t142 t143 false _ A3.out).mono ?_); rintro e w38 ⟨rfl, hb⟩; refine ⟨_, rfl, ?_⟩; replace HB := Aside0.mk (below_step bq hb); (try clear hb); (try clear hb2); (try clear hk); (try clear hi)) | ((with_reducible refine gate_callee (f := 60) rfl ?_); refine goesL_ (some 23) rfl rfl Tryz.func60 (by kernel_rfl) rfl #[.string a0] rfl mq ?_; (with_reducible refine (decimal_cut.calls k a0 t146 _ A8.out).mono ?_); rintro e w39 ⟨v147, rfl, ho0, hb⟩; refine ⟨_, rfl, ?_⟩; have n0_ := Aside0.mk (Kd.R_lower ho0 (below_size bq)); have n1_ := Aside0.mk (below_step bq hb); clear HB; have HO148 := n0_; have HB := n1_; clear n0_ n1_; (try clear hb); (try clear hb2); (try clear hk); (try clear hi); (try clear ho0)) | ((with_reducible refine gate_callee (f := 60) rfl ?_); refine goesL_ (some 25) rfl rfl Tryz.func60 (by kernel_rfl) rfl #[.string a1] rfl mq ?_; (with_reducible refine (decimal_cut.calls k a1 t149 _ A9.out).mono ?_); rintro e w40 ⟨v150, rfl, ho0, hb⟩; refine ⟨_, rfl, ?_⟩; have n0_ := Aside0.mk (Kd.R_elder' (by (with_reducible repeat (first | apply Kd.R_alloc | apply Kd.R_drewN | apply Kd.R_drew)); exact HO148.out) (Kd.R_base ho0) hb); have n1_ := Aside0.mk (Kd.R_lower (Kd.R_new' ho0 (Kd.R_lt (by (with_reducible repeat (first | apply Kd.R_alloc | apply Kd.R_drewN | apply Kd.R_drew)); exact HO148.out))) (below_size bq)); have n2_ := Aside0.mk (below_step bq hb); clear HO148; clear HB; have HO148 := n0_; have HO151 := n1_; have HB := n2_; clear n0_ n1_ n2_; (try clear hb); (try clear hb2); (try clear hk); (try clear hi); (try clear ho0); obtain ⟨Ao41, co41, eo41⟩ := Kd.R_slice HO148.out; subst eo41; obtain ⟨Ao42, co42, eo42⟩ := Kd.R_slice HO151.out; subst eo42) | ((with_reducible refine gate_builtin (b := .append) (xs := #[.tmp 33, .tmp 34]) rfl ?_); at_builtin; refine Kd.R_append (Kd.int .u64) (w0 := w) w.heap.size rfl (.tmp 33) (.tmp 34) 72 70 (.int .u64 0) 8 rfl Tryz.underlying72 info70 rfl (by decide) (by omega) (.slice Ao41 t146.length co41) t146 0 [.int .u64 0] (fun k_ => some k_ ≠ (.slice Ao42 t149.length co42 : Value).ownBlock) (fun _ => False) rfl rfl ?aP (fun _ hk => hk.elim) ?aF ?aO ?aB ?aS ?aL ?_; (case aP => exact rfl); (case aB => exact bq); (case aF => exact (fun k_ hk => Kd.fresh' (Kd.R_lt (by (with_reducible repeat (first | apply Kd.R_alloc | apply Kd.R_drewN | apply Kd.R_drew)); exact HO151.out)) k_ hk)); (case aO => exact (by (with_reducible repeat (first | apply Kd.R_alloc | apply Kd.R_drewN | apply Kd.R_drew)); exact Kd.R_mono HO148.out (fun _ hk => hk.2))); (case aS => exact (below_size bq)); (case aL => have := LMc31.out; omega); intro v164 w43 ho hb hg hat; rw [← Ny163.out] at ho; have n0_ := Aside0.mk (Kd.R_after (ok := (fun _ => True)) (by (with_reducible repeat (first | apply Kd.R_alloc | apply Kd.R_drewN | apply Kd.R_drew)); exact HO151.out) hg hat); have n1_ := Aside0.mk (hb); have n2_ := Aside0.mk (ho); clear HO151; clear HB; clear HO148; have HO151 := n0_; have HB := n1_; have HO165 := n2_; clear n0_ n1_ n2_; clear ho hb hg hat; obtain ⟨Ao44, co44, eo44⟩ := Kd.R_slice HO165.out; subst eo44) | (at_builtin; refine Kd.R_append_zeros (Kd.int .u64) (w0 := w) w.heap.size rfl (.tmp 37) (.tmp 43) 72 3 70 (.int .u64 0) 8 rfl Tryz.underlying72 Tryz.underlying3 info70 rfl (by decide) (by omega) (.slice Ao42 t149.length co42) t149 0 (ji32 : Int) (fun k_ => some k_ ≠ (.slice Ao44 y163.length co44 : Value).ownBlock) rfl rfl rfl ?aF ?aO (of_decide_eq_true (by first | (with_reducible assumption) | assumption)) ?aB ?aS ?aL ?_; (case aB => exact bq); (case aF => exact (fun k_ hk => Kd.fresh' (Kd.R_lt (by (with_reducible repeat (first | apply Kd.R_alloc | apply Kd.R_drewN | apply Kd.R_drew)); exact HO165.out)) k_ hk)); (case aO => exact (by (with_reducible repeat (first | apply Kd.R_alloc | apply Kd.R_drewN | apply Kd.R_drew)); exact Kd.R_mono HO151.out (fun _ hk => hk.2))); (case aS => exact (below_size bq)); (case aL => have := LMc34.out; omega); intro v167 w45 ho hb hg hat; rw [← Ny166.out] at ho; have n0_ := Aside0.mk (Kd.R_after (ok := (fun _ => True)) (by (with_reducible repeat (first | apply Kd.R_alloc | apply Kd.R_drewN | apply Kd.R_drew)); exact Kd.R_mono HO165.out (fun _ hk => ⟨trivial, hk⟩)) hg hat); have n1_ := Aside0.mk (hb); have n2_ := Aside0.mk (ho); clear HO165; clear HB; clear HO151; have HO165 := n0_; have HB := n1_; have HO168 := n2_; clear n0_ n1_ n2_; clear ho hb hg hat; obtain ⟨Ao46, co46, eo46⟩ := Kd.R_slice HO168.out; subst eo46) | ((with_reducible refine gate_callee (f := 70) rfl ?_); refine goesL_ (some 45) rfl rfl Tryz.func70 (by kernel_rfl) rfl #[.slice Ao44 y163.length co44, .slice Ao46 y166.length co46, .int .i64 0] rfl mq ?_; (with_reducible refine (decimal_pieces_back.calls k (fun k_ => some k_ = (.slice Ao44 y163.length co44 : Value).ownBlock) (.slice Ao44 y163.length co44) y163 _ _ y166 0 t169 w _ ?side1 ?side2 ?side3 ?side4 A35.out).mono ?_); (case side1 => exact bq); (case side2 => exact Kd.R_tight rfl HO165.out); (case side3 => exact Kd.C_kept_own (HO168.out) (fun k_ hk_ hs_ => (hk_) hs_)); (case side4 => exact (Kd.R_reads' HO168.out).2.1); rintro e w47 ⟨rfl, hy0, hb, hkp⟩; refine ⟨_, rfl, ?_⟩; have n0_ := Aside0.mk (Kd.R_reok rfl hy0 (fun k_ e_ => HO165.out.1 k_ e_)); have n1_ := Aside0.mk (Kd.R_mono (ok' := fun k_ => some k_ ≠ (.slice Ao44 y163.length co44 : Value).ownBlock) (Kd.R_keptB (HO168.out) hkp (fun k_ hk_ hs_ => (hk_) hs_)) (fun k_ hk_ => hk_.1)); have n2_ := Aside0.mk (hb); clear HO165; clear HO168; clear HB; have HO165 := n0_; have HO168 := n1_; have HB := n2_; clear n0_ n1_ n2_; (try clear hb); (try clear hkp); (try clear hy0)) | ((with_reducible refine gate_callee (f := 71) rfl ?_); refine goesL_ (some 47) rfl rfl Tryz.func71 (by kernel_rfl) rfl #[.slice Ao44 y163.length co44] rfl mq ?_; (with_reducible refine (decimal_pieces_trim.calls k (fun k_ => some k_ = (.slice Ao44 y163.length co44 : Value).ownBlock) (.slice Ao44 y163.length co44) t169 t170 w _ ?side1 ?side2 A36.out).mono ?_); (case side1 => exact bq); (case side2 => exact Kd.R_tight rfl HO165.out); rintro e w48 ⟨v171, rfl, ho0, hb, hkp⟩; refine ⟨_, rfl, ?_⟩; have n0_ := Aside0.mk (Kd.R_mono (ok' := fun k_ => some k_ ≠ (v171 : Value).ownBlock) (Kd.R_keptB (HO168.out) hkp (fun k_ hk_ hs_ => (hk_) hs_)) (fun k_ hk_ => fun e_ => Or.elim (ho0.1 k_ e_.symm) (fun hs_ => hk_.2.1 hs_) (fun hn_ => Nat.not_le.2 hk_.2.2 hn_))); have n1_ := Aside0.mk (Kd.R_mono (ok' := fun k_ => some k_ ≠ (.slice Ao46 y166.length co46 : Value).ownBlock) ho0 (fun k_ hk_ => Or.elim hk_ (fun hs_ => fun e_ => (((HO168.out).1 k_ e_.symm)) hs_) (fun hn_ => (Kd.fresh' (Kd.R_lt (by (with_reducible repeat (first | apply Kd.R_alloc | apply Kd.R_drewN | apply Kd.R_drew)); exact HO168.out)) k_ hn_)))); have n2_ := Aside0.mk (hb); clear HO168; clear HB; clear HO165; have HO168 := n0_; have HO172 := n1_; have HB := n2_; clear n0_ n1_ n2_; (try clear hb); (try clear hkp); (try clear ho0); obtain ⟨Ao49, co49, eo49⟩ := Kd.R_slice HO172.out; subst eo49) | ((with_reducible refine gate_callee (f := 62) rfl ?_); refine goesL_ (some 48) rfl rfl Tryz.func62 (by kernel_rfl) rfl #[.slice Ao49 t170.length co49] rfl mq ?_; (with_reducible refine (decimal_pieces_text.calls k _ _ t170 t173 _ ?side1 ?side2 A37.out).mono ?_); (case side1 => repeat (first | exact (Kd.R_reads' HO172.out).2.2 | (with_reducible refine Kd.C_alloc ?_ _) | (with_reducible refine Kd.C_drewN ?_ _) | (with_reducible refine Kd.C_drew ?_))); (case side2 => exact (Kd.R_reads' HO172.out).2.1); rintro e w50 ⟨rfl, hb⟩; refine ⟨_, rfl, ?_⟩; have n0_ := Aside0.mk (Kd.R_below (by (with_reducible repeat (first | apply Kd.R_alloc | apply Kd.R_drewN | apply Kd.R_drew)); exact HO168.out) hb); have n1_ := Aside0.mk (Kd.R_below (by (with_reducible repeat (first | apply Kd.R_alloc | apply Kd.R_drewN | apply Kd.R_drew)); exact HO172.out) hb); have n2_ := Aside0.mk (below_step bq hb); clear HO168; clear HO172; clear HB; have HO168 := n0_; have HO172 := n1_; have HB := n2_; clear n0_ n1_ n2_; (try clear hb); (try clear hb2); (try clear hk); (try clear hi)))
            go_ret
            exact ⟨by first | rfl | (simp [errW_none, errW_some] <;> rfl) | (simp only [← hji32]; first | rfl | (simp [errW_none, errW_some] <;> rfl)) | (simp [*, errW_none, errW_some] <;> rfl), bq⟩
          · rw [if_neg c34] at H
            exact absurd H (by simp)
        · rw [if_neg c33] at H
          exact absurd H (by simp)
      · rw [if_neg c31] at H
        exact absurd H (by simp)
def decimal_Compare.f (a0 : ByteArray) (a1 : ByteArray) : Option (Int) := if (a0.size : Int) = (a1.size : Int) then (if (Op.bytesLess a0.toList a1.toList) = true then (some (-1)) else (if (Op.bytesLess a1.toList a0.toList) = true then (some 1) else (some 0))) else (some (mn 1 (mx (-1) (wrap64 ((a0.size : Int) - (a1.size : Int))))))
set_option maxHeartbeats 8000000 in
set_option maxRecDepth 100000 in
theorem decimal_Compare.calls (a0 : ByteArray) (a1 : ByteArray) (r : Int) (w : World) (h : decimal_Compare.f a0 a1 = some r) :
    Calls Tryz.prog 43 #[.string a0, .string a1] w fun e w' => e = .returned (.int .i64 r) ∧ Below w.heap.size w w' := by
  have HB := Aside0.mk (Below.refl w.heap.size w)
  have H : (if (a0.size : Int) = (a1.size : Int) then (if (Op.bytesLess a0.toList a1.toList) = true then (some (-1)) else (if (Op.bytesLess a1.toList a0.toList) = true then (some 1) else (some 0))) else (some (mn 1 (mx (-1) (wrap64 ((a0.size : Int) - (a1.size : Int))))))) = some r := h
  clear h
  by_cases c3 : (a0.size : Int) = (a1.size : Int)
  · rw [if_pos c3] at H
    have c3b0 : ((a0.size : Int) == (a1.size : Int)) = true := beq_iff_eq.mpr c3
    have c3b1 : ((a0.size : Int) != (a1.size : Int)) = false := bne_eq_false_iff_eq.mpr c3
    have c3b2 : (a0.size == a1.size) = true := by first | simpa using c3 | (simp at c3 ⊢; omega)
    clear c3
    by_cases c4 : (Op.bytesLess a0.toList a1.toList) = true
    · rw [if_pos c4] at H
      have c4b0 : (Op.bytesLess a0.toList a1.toList) = true := c4
      clear c4
      obtain rfl := Option.some.inj H
      go_enter Tryz.func43, Tryz.ntmps43
      go_wp2
      go_ret
      exact ⟨eq_, bq⟩
    · rw [if_neg c4] at H
      have c4b0 : (Op.bytesLess a0.toList a1.toList) = false := by simpa using c4
      clear c4
      by_cases c5 : (Op.bytesLess a1.toList a0.toList) = true
      · rw [if_pos c5] at H
        have c5b0 : (Op.bytesLess a1.toList a0.toList) = true := c5
        clear c5
        obtain rfl := Option.some.inj H
        go_enter Tryz.func43, Tryz.ntmps43
        go_wp2
        go_ret
        exact ⟨eq_, bq⟩
      · rw [if_neg c5] at H
        have c5b0 : (Op.bytesLess a1.toList a0.toList) = false := by simpa using c5
        clear c5
        obtain rfl := Option.some.inj H
        go_enter Tryz.func43, Tryz.ntmps43
        go_wp2
        go_ret
        exact ⟨eq_, bq⟩
  · rw [if_neg c3] at H
    have c3b0 : ((a0.size : Int) == (a1.size : Int)) = false := beq_eq_false_iff_ne.mpr c3
    have c3b1 : ((a0.size : Int) != (a1.size : Int)) = true := bne_iff_ne.mpr c3
    have c3b2 : (a0.size == a1.size) = false := by first | simpa using c3 | (simp at c3 ⊢; omega)
    obtain ⟨ji6, hji6⟩ : ∃ j_ : Int, (mx (-1) (wrap64 ((a0.size : Int) - (a1.size : Int)))) = j_ := ⟨_, rfl⟩
    replace H : (some (mn 1 (ji6))) = some r := by first | (rw [hji6] at H; exact H) | (simp only [hji6] at H ⊢; exact H)
    have hji6_ : (if (-1) < (wrap64 ((a0.size : Int) - (a1.size : Int))) then (wrap64 ((a0.size : Int) - (a1.size : Int))) else (-1)) = ji6 := hji6
    obtain ⟨ji7, hji7⟩ : ∃ j_ : Int, (mn 1 (ji6)) = j_ := ⟨_, rfl⟩
    replace H : (some ji7) = some r := by first | (rw [hji7] at H; exact H) | (simp only [hji7] at H ⊢; exact H)
    have hji7_ : (if (ji6) < 1 then (ji6) else 1) = ji7 := hji7
    obtain rfl := Option.some.inj H
    go_enter Tryz.func43, Tryz.ntmps43
    go_wp2
    go_ret
    exact ⟨by first | rfl | (simp [errW_none, errW_some] <;> rfl) | (simp only [← hji6, ← hji7]; first | rfl | (simp [errW_none, errW_some] <;> rfl)) | (simp [*, errW_none, errW_some] <;> rfl), bq⟩
def decimal_pieces_take.l0 : Nat → List Int → List Int → Int → Int → Int → Int → Int → Option (Bool × List Int)
  | 0, _, _, _, _, _, _, _ => none
  | k + 1, x0, x1, x2, x3, x9, x10, x11 => if x11 ≤ (x1.length : Int) then (if x11 < (x1.length : Int) then (if 0 ≤ x11 then (if 0 ≤ (wrap64 (x3 + x11)) then (if (wrap64 (x3 + x11)) < (x0.length : Int) then (if (wrap64 ((wrap64 ((wrap64 (rd x0 (wrap64 (x3 + x11)))) - (wrap64 (Int.tmod (IntKind.u64.wrap (x10 + (IntKind.u64.wrap (x2 * (rd x1 x11))))) 1000000000)))) - x9)) < 0 then (decimal_pieces_take.l0 k (x0.set ((wrap64 (x3 + x11)) : Int).toNat (IntKind.u64.wrap (wrap64 ((wrap64 ((wrap64 ((wrap64 (rd x0 (wrap64 (x3 + x11)))) - (wrap64 (Int.tmod (IntKind.u64.wrap (x10 + (IntKind.u64.wrap (x2 * (rd x1 x11))))) 1000000000)))) - x9)) + 1000000000)))) x1 x2 x3 1 (IntKind.u64.wrap (Int.tdiv (IntKind.u64.wrap (x10 + (IntKind.u64.wrap (x2 * (rd x1 x11))))) 1000000000)) (wrap64 (x11 + 1))) else (decimal_pieces_take.l0 k (x0.set ((wrap64 (x3 + x11)) : Int).toNat (IntKind.u64.wrap (wrap64 ((wrap64 ((wrap64 (rd x0 (wrap64 (x3 + x11)))) - (wrap64 (Int.tmod (IntKind.u64.wrap (x10 + (IntKind.u64.wrap (x2 * (rd x1 x11))))) 1000000000)))) - x9)))) x1 x2 x3 0 (IntKind.u64.wrap (Int.tdiv (IntKind.u64.wrap (x10 + (IntKind.u64.wrap (x2 * (rd x1 x11))))) 1000000000)) (wrap64 (x11 + 1)))) else (none)) else (none)) else (none)) else (if 0 ≤ (wrap64 (x3 + x11)) then (if (wrap64 (x3 + x11)) < (x0.length : Int) then (if (wrap64 ((wrap64 ((wrap64 (rd x0 (wrap64 (x3 + x11)))) - (wrap64 (Int.tmod x10 1000000000)))) - x9)) < 0 then (decimal_pieces_take.l0 k (x0.set ((wrap64 (x3 + x11)) : Int).toNat (IntKind.u64.wrap (wrap64 ((wrap64 ((wrap64 ((wrap64 (rd x0 (wrap64 (x3 + x11)))) - (wrap64 (Int.tmod x10 1000000000)))) - x9)) + 1000000000)))) x1 x2 x3 1 (IntKind.u64.wrap (Int.tdiv x10 1000000000)) (wrap64 (x11 + 1))) else (decimal_pieces_take.l0 k (x0.set ((wrap64 (x3 + x11)) : Int).toNat (IntKind.u64.wrap (wrap64 ((wrap64 ((wrap64 (rd x0 (wrap64 (x3 + x11)))) - (wrap64 (Int.tmod x10 1000000000)))) - x9)))) x1 x2 x3 0 (IntKind.u64.wrap (Int.tdiv x10 1000000000)) (wrap64 (x11 + 1)))) else (none)) else (none))) else (some (decide (x9 > 0), x0))
def decimal_pieces_take.f (k : Nat) (l0 : List Int) (l1 : List Int) (a2 : Int) (a3 : Int) : Option (Bool × List Int) := decimal_pieces_take.l0 k l0 l1 a2 a3 0 0 0
theorem decimal_pieces_take.mono_l : ∀ k, (∀ y0 y1 y2 y3 y4 y5 y6, LeO (decimal_pieces_take.l0 k y0 y1 y2 y3 y4 y5 y6) (decimal_pieces_take.l0 (k + 1) y0 y1 y2 y3 y4 y5 y6))
  | 0 => fun _ _ _ _ _ _ _ r h => by simp [decimal_pieces_take.l0] at h
  | k + 1 => by
    have ih0 := decimal_pieces_take.mono_l k
    · intro y0 y1 y2 y3 y4 y5 y6
      unfold decimal_pieces_take.l0
      repeat' first
      | (with_reducible exact ih0 _ _ _ _ _ _ _)
      | (with_reducible exact LeO.refl _)
      | (with_reducible exact LeO.none _)
      | (with_reducible refine LeO.ite ?_ ?_)
      | (with_reducible refine LeO.bind ?_ (fun _ => ?_))
      | exact ih0 _ _ _ _ _ _ _
      | exact LeO.none _
      | refine LeO.ite ?_ ?_
      | refine LeO.bind ?_ (fun _ => ?_)
theorem decimal_pieces_take.mono : ∀ a0 a1 a2 a3 k, LeO (decimal_pieces_take.f k a0 a1 a2 a3) (decimal_pieces_take.f (k + 1) a0 a1 a2 a3) := by
  intro a0 a1 a2 a3 k
  have ih0 := decimal_pieces_take.mono_l k
  unfold decimal_pieces_take.f
  repeat' first
      | (with_reducible exact ih0 _ _ _ _ _ _ _)
      | (with_reducible exact LeO.refl _)
      | (with_reducible exact LeO.none _)
      | (with_reducible refine LeO.ite ?_ ?_)
      | (with_reducible refine LeO.bind ?_ (fun _ => ?_))
      | exact ih0 _ _ _ _ _ _ _
      | exact LeO.none _
      | refine LeO.ite ?_ ?_
      | refine LeO.bind ?_ (fun _ => ?_)
set_option maxHeartbeats 8000000 in
set_option maxRecDepth 100000 in
theorem decimal_pieces_take.calls (k : Nat) (P0_ : Nat → Prop) (u9000_ : Value) (l0 : List Int) (A1 : Option Addr) (c1 : Nat) (l1 : List Int) (a2 : Int) (a3 : Int) (r1 : Bool) (r2 : List Int) (w0 w : World) (hB : Below w0.heap.size w0 w) (ho0 : Kd.R (Kd.int .u64) 70 w w0.heap.size P0_ u9000_ l0) (hr1 : ∀ W_, Kept w W_ (fun k_ => P0_ k_) → Kd.C (Kd.int .u64) W_ A1 l1.length l1) (hc1 : l1.length ≤ c1) (h : decimal_pieces_take.f k l0 l1 a2 a3 = some (r1, r2)) :
    Calls Tryz.prog 72 #[u9000_, .slice A1 l1.length c1, .int .u64 a2, .int .i64 a3] w fun e w' => e = .returned (.bool r1) ∧ Kd.R (Kd.int .u64) 70 w' w0.heap.size (fun k_ => (P0_ k_ ∨ w.heap.size ≤ k_)) u9000_ r2 ∧ Below w0.heap.size w0 w' ∧ Kept w w' (fun k_ => P0_ k_) := by
  have HO0 := Aside0.mk (show Kd.R (Kd.int .u64) 70 w w0.heap.size (fun k_ => (P0_ k_ ∨ w.heap.size ≤ k_)) u9000_ l0 from Kd.R_mono ho0 (fun k_ hk => (.inl hk)))
  have HR1 := Aside0.mk hr1
  have HC1 := Aside0.mk hc1
  clear hr1 hc1
  have HK := Aside0.mk (Kept.refl w (fun k_ => P0_ k_))
  have HW0 := Aside0.mk hB.size
  have HB := Aside0.mk hB
  clear hB
  have H : (decimal_pieces_take.l0 k l0 l1 a2 a3 0 0 0) = some (r1, r2) := h
  clear h
  have H' := Aside0.mk H
  clear H
  go_enter Tryz.func72, Tryz.ntmps72
  go_wp2
  go_loopg [9, 10, 11] k (fun kq v9 v10 v11 w' => ∃ (x0_1 : List Int) (x9_1 : Int) (x10_1 : Int) (x11_1 : Int), v9 = .int .i64 x9_1 ∧ v10 = .int .u64 x10_1 ∧ v11 = .int .i64 x11_1 ∧ Aside0 (decimal_pieces_take.l0 kq x0_1 l1 a2 a3 x9_1 x10_1 x11_1 = some (r1, r2)) ∧ Aside0 (kq ≤ k) ∧ Aside0 (Kd.R (Kd.int .u64) 70 w' w0.heap.size (fun k_ => (P0_ k_ ∨ w.heap.size ≤ k_)) u9000_ x0_1) ∧ Aside0 (Kept w w' (fun k_ => P0_ k_)) ∧ Aside0 (Below w0.heap.size w0 w'))
  case atStart => exact ⟨(l0), (0), (0), (0), (by first | rfl | (simp; done) | (simp [*]; done)), (by first | rfl | (simp; done) | (simp [*]; done)), (by first | rfl | (simp; done) | (simp [*]; done)), H', ⟨Nat.le_refl _⟩, ⟨by (with_reducible repeat (first | apply Kd.R_alloc | apply Kd.R_drewN | apply Kd.R_drew)); exact HO0.out⟩, ⟨by repeat (first | (with_reducible first | exact HK.out | apply Kept.alloc | apply Kept.drewN | apply Kept.drew) | exact HK.out)⟩, ⟨bq⟩⟩
  case round =>
    clear H'
    try clear c1
    try clear p2
    obtain ⟨x0_1, x9_1, x10_1, x11_1, rfl, rfl, rfl, HA, HK1, HO_0, HK, HB⟩ := hrel
    cases gk with
    | zero => exact absurd HA.out (by simp [decimal_pieces_take.l0])
    | succ k1 =>
      have H := HA.out
      clear HA
      simp only [decimal_pieces_take.l0] at H
      by_cases c5 : x11_1 ≤ (l1.length : Int)
      · rw [if_pos c5] at H
        have c5b0 : decide (x11_1 ≤ (l1.length : Int)) = true := decide_eq_true c5
        clear c5
        by_cases c6 : x11_1 < (l1.length : Int)
        · rw [if_pos c6] at H
          have c6b0 : decide (x11_1 < (l1.length : Int)) = true := decide_eq_true c6
          clear c6
          by_cases c7 : 0 ≤ x11_1
          · rw [if_pos c7] at H
            have c7b0 : decide (0 ≤ x11_1) = true := decide_eq_true c7
            clear c7
            obtain ⟨ji8, hji8⟩ : ∃ j_ : Int, (wrap64 (a3 + x11_1)) = j_ := ⟨_, rfl⟩
            replace H : (if 0 ≤ (ji8) then (if (ji8) < (x0_1.length : Int) then (if (wrap64 ((wrap64 ((wrap64 (rd x0_1 (ji8))) - (wrap64 (Int.tmod (IntKind.u64.wrap (x10_1 + (IntKind.u64.wrap (a2 * (rd l1 x11_1))))) 1000000000)))) - x9_1)) < 0 then (decimal_pieces_take.l0 k1 (x0_1.set ((ji8) : Int).toNat (IntKind.u64.wrap (wrap64 ((wrap64 ((wrap64 ((wrap64 (rd x0_1 (ji8))) - (wrap64 (Int.tmod (IntKind.u64.wrap (x10_1 + (IntKind.u64.wrap (a2 * (rd l1 x11_1))))) 1000000000)))) - x9_1)) + 1000000000)))) l1 a2 a3 1 (IntKind.u64.wrap (Int.tdiv (IntKind.u64.wrap (x10_1 + (IntKind.u64.wrap (a2 * (rd l1 x11_1))))) 1000000000)) (wrap64 (x11_1 + 1))) else (decimal_pieces_take.l0 k1 (x0_1.set ((ji8) : Int).toNat (IntKind.u64.wrap (wrap64 ((wrap64 ((wrap64 (rd x0_1 (ji8))) - (wrap64 (Int.tmod (IntKind.u64.wrap (x10_1 + (IntKind.u64.wrap (a2 * (rd l1 x11_1))))) 1000000000)))) - x9_1)))) l1 a2 a3 0 (IntKind.u64.wrap (Int.tdiv (IntKind.u64.wrap (x10_1 + (IntKind.u64.wrap (a2 * (rd l1 x11_1))))) 1000000000)) (wrap64 (x11_1 + 1)))) else (none)) else (none)) = some (r1, r2) := by first | (rw [hji8] at H; exact H) | (simp only [hji8] at H ⊢; exact H)
            have hji8w : (IntKind.i64.wrap (a3 + x11_1)) = ji8 := (i64_w _).trans hji8
            by_cases c9 : 0 ≤ (ji8)
            · rw [if_pos c9] at H
              have c9b0 : decide (0 ≤ (ji8)) = true := decide_eq_true c9
              clear c9
              by_cases c10 : (ji8) < (x0_1.length : Int)
              · rw [if_pos c10] at H
                have c10b0 : decide ((ji8) < (x0_1.length : Int)) = true := decide_eq_true c10
                clear c10
                by_cases c11 : (wrap64 ((wrap64 ((wrap64 (rd x0_1 (ji8))) - (wrap64 (Int.tmod (IntKind.u64.wrap (x10_1 + (IntKind.u64.wrap (a2 * (rd l1 x11_1))))) 1000000000)))) - x9_1)) < 0
                · rw [if_pos c11] at H
                  have c11b0 : decide ((wrap64 ((wrap64 ((wrap64 (rd x0_1 (ji8))) - (wrap64 (Int.tmod (IntKind.u64.wrap (x10_1 + (IntKind.u64.wrap (a2 * (rd l1 x11_1))))) 1000000000)))) - x9_1)) < 0) = true := decide_eq_true c11
                  clear c11
                  obtain ⟨y176, hy176⟩ : ∃ y_ : List Int, y_ = (x0_1.set ((ji8) : Int).toNat (IntKind.u64.wrap (wrap64 ((wrap64 ((wrap64 ((wrap64 (rd x0_1 (ji8))) - (wrap64 (Int.tmod (IntKind.u64.wrap (x10_1 + (IntKind.u64.wrap (a2 * (rd l1 x11_1))))) 1000000000)))) - x9_1)) + 1000000000)))) := ⟨_, rfl⟩
                  replace H : (decimal_pieces_take.l0 k1 y176 l1 a2 a3 1 (IntKind.u64.wrap (Int.tdiv (IntKind.u64.wrap (x10_1 + (IntKind.u64.wrap (a2 * (rd l1 x11_1))))) 1000000000)) (wrap64 (x11_1 + 1))) = some (r1, r2) := by first | (rw [hy176]; with_reducible exact H) | (have H2_ := (Option.bind_some _ _).symm.trans H; rw [hy176]; with_reducible exact H2_) | (have H2_ := (Option.bind_some _ _).symm.trans H; with_reducible exact H2_) | with_reducible exact H | (rw [hy176]; exact H) | exact H
                  have Ny176 := Aside0.mk hy176
                  clear hy176
                  have H' := Aside0.mk H
                  clear H
                  have p174 : 0 ≤ (x11_1 : Int) := of_decide_eq_true (by first | (with_reducible assumption) | assumption)
                  have q174 : x11_1 < (l1.length : Int) := of_decide_eq_true (by first | (with_reducible assumption) | assumption)
                  obtain ⟨ad174, e174, hx174_0⟩ := Kd.at_int (Kd.C_kept_now HR1.out HK.out) x11_1 p174 q174
                  cases e174
                  replace p174 := eq_true p174
                  replace q174 := eq_true q174
                  obtain ⟨Ao13, co13, eo13⟩ := Kd.R_slice HO_0.out
                  subst eo13
                  have p175 : 0 ≤ ((ji8) : Int) := of_decide_eq_true (by first | (with_reducible assumption) | assumption)
                  have q175 : (ji8) < (x0_1.length : Int) := of_decide_eq_true (by first | (with_reducible assumption) | assumption)
                  obtain ⟨ad175, e175, hx175_0⟩ := Kd.at_int (Kd.R_reads' HO_0.out).2.2 (ji8) p175 q175
                  cases e175
                  replace p175 := eq_true p175
                  replace q175 := eq_true q175
                  have p12 : 0 ≤ ((ji8) : Int) := of_decide_eq_true (by first | (with_reducible assumption) | assumption)
                  have q12 : ((ji8) : Int) < ((x0_1.length : Int) : Int) := of_decide_eq_true (by first | (with_reducible assumption) | assumption)
                  obtain ⟨go12, co12, eo12, gb12, gl12, cl12, HG12⟩ := Kd.R_form HO_0.out (by omega)
                  (first | cases eo12 | (injection eo12 with ea_ en_ ec_; (first | subst ea_ | (injection ea_ with ea_; subst ea_)); subst ec_; clear en_))
                  have GB12 := Aside0.mk gb12
                  have GG12 := Aside0.mk HG12
                  clear gb12 gl12 HG12
                  have HMgo12 := Aside0.mk (show (P0_ go12 ∨ w.heap.size ≤ go12) from (HO_0.out.1 _ rfl))
                  (first | simp only [add_plain] at hx175_0 | skip)
                  obtain ⟨hx12_0, hf12_0⟩ := Kd.R_celln 0 HO_0.out ((ji8) : Int) p12 q12
                  replace p12 := eq_true p12
                  replace q12 := eq_true q12
                  have HP14 := Kd.R_putg HO_0.out ((ji8) : Int) (IntKind.u64.wrap (wrap64 ((wrap64 ((wrap64 ((wrap64 (rd x0_1 (ji8))) - (wrap64 (Int.tmod (IntKind.u64.wrap (x10_1 + (IntKind.u64.wrap (a2 * (rd l1 x11_1))))) 1000000000)))) - x9_1)) + 1000000000)))
                  go_wp2_with (first | ((with_reducible refine gate_store (t := 70) (p := 56) rfl ?_); refine store_event (t := 70) (p := 56) (v := ?vo_w15) (w1 := (wr.setCell ⟨go12, ((ji8) : Int).toNat, none⟩ (.int .u64 (IntKind.u64.wrap (wrap64 ((wrap64 ((wrap64 ((wrap64 (rd x0_1 (ji8))) - (wrap64 (Int.tmod (IntKind.u64.wrap (x10_1 + (IntKind.u64.wrap (a2 * (rd l1 x11_1))))) 1000000000)))) - x9_1)) + 1000000000)))))) ?hg ?ho ?hn ?hr ?_; (case ho => rfl); (case hg => rfl); (case hn => rfl); (case hr => first | (go_simp; done) | (go_simp; rfl)); intro w15 hw; have hg : wr.grownBy w15 (some go12) := (by rw [hw]; exact HP14.2); have hp_ : Kd.R (Kd.int .u64) 70 w15 w0.heap.size (fun k_ => (P0_ k_ ∨ w.heap.size ≤ k_)) (.slice (some ⟨go12, 0, none⟩) x0_1.length co13) y176 := (by rw [hw, Ny176.out]; exact HP14.1); clear HP14; have n0_ := Aside0.mk (hp_); have n1_ := Aside0.mk ((by rw [hw]; exact below_set (HB.out) GB12.out : Below w0.heap.size w0 w15)); have n2_ := Aside0.mk (Kept.of_grown (S := (fun k_ => P0_ k_)) hg (by repeat (first | (with_reducible first | exact HK.out | apply Kept.alloc | apply Kept.drewN | apply Kept.drew) | exact HK.out)) (fun k_ e_ => (HO_0.out.1 k_ e_))); clear HO_0; clear HB; clear HK; have HO_0 := n0_; have HB := n1_; have HK := n2_; clear n0_ n1_ n2_; clear hg hw hp_))
                  go_roundg k1
                  case measure => have := HK1.out; omega
                  case rel => exact ⟨(y176), (1), (IntKind.u64.wrap (Int.tdiv (IntKind.u64.wrap (x10_1 + (IntKind.u64.wrap (a2 * (rd l1 x11_1))))) 1000000000)), (wrap64 (x11_1 + 1)), (by first | rfl | (simp; done) | (simp [*]; done)), (by first | rfl | (simp; done) | (simp [*]; done)), (by first | rfl | (simp; done) | (simp [*]; done)), H', ⟨by have := HK1.out; omega⟩, ⟨by (with_reducible repeat (first | apply Kd.R_alloc | apply Kd.R_drewN | apply Kd.R_drew)); exact HO_0.out⟩, ⟨by repeat (first | (with_reducible first | exact HK.out | apply Kept.alloc | apply Kept.drewN | apply Kept.drew) | exact HK.out)⟩, ⟨bq⟩⟩
                · rw [if_neg c11] at H
                  have c11b0 : decide ((wrap64 ((wrap64 ((wrap64 (rd x0_1 (ji8))) - (wrap64 (Int.tmod (IntKind.u64.wrap (x10_1 + (IntKind.u64.wrap (a2 * (rd l1 x11_1))))) 1000000000)))) - x9_1)) < 0) = false := decide_eq_false c11
                  clear c11
                  obtain ⟨y177, hy177⟩ : ∃ y_ : List Int, y_ = (x0_1.set ((ji8) : Int).toNat (IntKind.u64.wrap (wrap64 ((wrap64 ((wrap64 (rd x0_1 (ji8))) - (wrap64 (Int.tmod (IntKind.u64.wrap (x10_1 + (IntKind.u64.wrap (a2 * (rd l1 x11_1))))) 1000000000)))) - x9_1)))) := ⟨_, rfl⟩
                  replace H : (decimal_pieces_take.l0 k1 y177 l1 a2 a3 0 (IntKind.u64.wrap (Int.tdiv (IntKind.u64.wrap (x10_1 + (IntKind.u64.wrap (a2 * (rd l1 x11_1))))) 1000000000)) (wrap64 (x11_1 + 1))) = some (r1, r2) := by first | (rw [hy177]; with_reducible exact H) | (have H2_ := (Option.bind_some _ _).symm.trans H; rw [hy177]; with_reducible exact H2_) | (have H2_ := (Option.bind_some _ _).symm.trans H; with_reducible exact H2_) | with_reducible exact H | (rw [hy177]; exact H) | exact H
                  have Ny177 := Aside0.mk hy177
                  clear hy177
                  have H' := Aside0.mk H
                  clear H
                  have p174 : 0 ≤ (x11_1 : Int) := of_decide_eq_true (by first | (with_reducible assumption) | assumption)
                  have q174 : x11_1 < (l1.length : Int) := of_decide_eq_true (by first | (with_reducible assumption) | assumption)
                  obtain ⟨ad174, e174, hx174_0⟩ := Kd.at_int (Kd.C_kept_now HR1.out HK.out) x11_1 p174 q174
                  cases e174
                  replace p174 := eq_true p174
                  replace q174 := eq_true q174
                  obtain ⟨Ao17, co17, eo17⟩ := Kd.R_slice HO_0.out
                  subst eo17
                  have p175 : 0 ≤ ((ji8) : Int) := of_decide_eq_true (by first | (with_reducible assumption) | assumption)
                  have q175 : (ji8) < (x0_1.length : Int) := of_decide_eq_true (by first | (with_reducible assumption) | assumption)
                  obtain ⟨ad175, e175, hx175_0⟩ := Kd.at_int (Kd.R_reads' HO_0.out).2.2 (ji8) p175 q175
                  cases e175
                  replace p175 := eq_true p175
                  replace q175 := eq_true q175
                  have p16 : 0 ≤ ((ji8) : Int) := of_decide_eq_true (by first | (with_reducible assumption) | assumption)
                  have q16 : ((ji8) : Int) < ((x0_1.length : Int) : Int) := of_decide_eq_true (by first | (with_reducible assumption) | assumption)
                  obtain ⟨go16, co16, eo16, gb16, gl16, cl16, HG16⟩ := Kd.R_form HO_0.out (by omega)
                  (first | cases eo16 | (injection eo16 with ea_ en_ ec_; (first | subst ea_ | (injection ea_ with ea_; subst ea_)); subst ec_; clear en_))
                  have GB16 := Aside0.mk gb16
                  have GG16 := Aside0.mk HG16
                  clear gb16 gl16 HG16
                  have HMgo16 := Aside0.mk (show (P0_ go16 ∨ w.heap.size ≤ go16) from (HO_0.out.1 _ rfl))
                  (first | simp only [add_plain] at hx175_0 | skip)
                  obtain ⟨hx16_0, hf16_0⟩ := Kd.R_celln 0 HO_0.out ((ji8) : Int) p16 q16
                  replace p16 := eq_true p16
                  replace q16 := eq_true q16
                  have HP18 := Kd.R_putg HO_0.out ((ji8) : Int) (IntKind.u64.wrap (wrap64 ((wrap64 ((wrap64 (rd x0_1 (ji8))) - (wrap64 (Int.tmod (IntKind.u64.wrap (x10_1 + (IntKind.u64.wrap (a2 * (rd l1 x11_1))))) 1000000000)))) - x9_1)))
                  go_wp2_with (first | ((with_reducible refine gate_store (t := 70) (p := 56) rfl ?_); refine store_event (t := 70) (p := 56) (v := ?vo_w19) (w1 := (wr.setCell ⟨go16, ((ji8) : Int).toNat, none⟩ (.int .u64 (IntKind.u64.wrap (wrap64 ((wrap64 ((wrap64 (rd x0_1 (ji8))) - (wrap64 (Int.tmod (IntKind.u64.wrap (x10_1 + (IntKind.u64.wrap (a2 * (rd l1 x11_1))))) 1000000000)))) - x9_1)))))) ?hg ?ho ?hn ?hr ?_; (case ho => rfl); (case hg => rfl); (case hn => rfl); (case hr => first | (go_simp; done) | (go_simp; rfl)); intro w19 hw; have hg : wr.grownBy w19 (some go16) := (by rw [hw]; exact HP18.2); have hp_ : Kd.R (Kd.int .u64) 70 w19 w0.heap.size (fun k_ => (P0_ k_ ∨ w.heap.size ≤ k_)) (.slice (some ⟨go16, 0, none⟩) x0_1.length co17) y177 := (by rw [hw, Ny177.out]; exact HP18.1); clear HP18; have n0_ := Aside0.mk (hp_); have n1_ := Aside0.mk ((by rw [hw]; exact below_set (HB.out) GB16.out : Below w0.heap.size w0 w19)); have n2_ := Aside0.mk (Kept.of_grown (S := (fun k_ => P0_ k_)) hg (by repeat (first | (with_reducible first | exact HK.out | apply Kept.alloc | apply Kept.drewN | apply Kept.drew) | exact HK.out)) (fun k_ e_ => (HO_0.out.1 k_ e_))); clear HO_0; clear HB; clear HK; have HO_0 := n0_; have HB := n1_; have HK := n2_; clear n0_ n1_ n2_; clear hg hw hp_))
                  go_roundg k1
                  case measure => have := HK1.out; omega
                  case rel => exact ⟨(y177), (0), (IntKind.u64.wrap (Int.tdiv (IntKind.u64.wrap (x10_1 + (IntKind.u64.wrap (a2 * (rd l1 x11_1))))) 1000000000)), (wrap64 (x11_1 + 1)), (by first | rfl | (simp; done) | (simp [*]; done)), (by first | rfl | (simp; done) | (simp [*]; done)), (by first | rfl | (simp; done) | (simp [*]; done)), H', ⟨by have := HK1.out; omega⟩, ⟨by (with_reducible repeat (first | apply Kd.R_alloc | apply Kd.R_drewN | apply Kd.R_drew)); exact HO_0.out⟩, ⟨by repeat (first | (with_reducible first | exact HK.out | apply Kept.alloc | apply Kept.drewN | apply Kept.drew) | exact HK.out)⟩, ⟨bq⟩⟩
              · rw [if_neg c10] at H
                exact absurd H (by simp)
            · rw [if_neg c9] at H
              exact absurd H (by simp)
          · rw [if_neg c7] at H
            exact absurd H (by simp)
        · rw [if_neg c6] at H
          have c6b0 : decide (x11_1 < (l1.length : Int)) = false := decide_eq_false c6
          clear c6
          obtain ⟨ji20, hji20⟩ : ∃ j_ : Int, (wrap64 (a3 + x11_1)) = j_ := ⟨_, rfl⟩
          replace H : (if 0 ≤ (ji20) then (if (ji20) < (x0_1.length : Int) then (if (wrap64 ((wrap64 ((wrap64 (rd x0_1 (ji20))) - (wrap64 (Int.tmod x10_1 1000000000)))) - x9_1)) < 0 then (decimal_pieces_take.l0 k1 (x0_1.set ((ji20) : Int).toNat (IntKind.u64.wrap (wrap64 ((wrap64 ((wrap64 ((wrap64 (rd x0_1 (ji20))) - (wrap64 (Int.tmod x10_1 1000000000)))) - x9_1)) + 1000000000)))) l1 a2 a3 1 (IntKind.u64.wrap (Int.tdiv x10_1 1000000000)) (wrap64 (x11_1 + 1))) else (decimal_pieces_take.l0 k1 (x0_1.set ((ji20) : Int).toNat (IntKind.u64.wrap (wrap64 ((wrap64 ((wrap64 (rd x0_1 (ji20))) - (wrap64 (Int.tmod x10_1 1000000000)))) - x9_1)))) l1 a2 a3 0 (IntKind.u64.wrap (Int.tdiv x10_1 1000000000)) (wrap64 (x11_1 + 1)))) else (none)) else (none)) = some (r1, r2) := by first | (rw [hji20] at H; exact H) | (simp only [hji20] at H ⊢; exact H)
          have hji20w : (IntKind.i64.wrap (a3 + x11_1)) = ji20 := (i64_w _).trans hji20
          by_cases c21 : 0 ≤ (ji20)
          · rw [if_pos c21] at H
            have c21b0 : decide (0 ≤ (ji20)) = true := decide_eq_true c21
            clear c21
            by_cases c22 : (ji20) < (x0_1.length : Int)
            · rw [if_pos c22] at H
              have c22b0 : decide ((ji20) < (x0_1.length : Int)) = true := decide_eq_true c22
              clear c22
              by_cases c23 : (wrap64 ((wrap64 ((wrap64 (rd x0_1 (ji20))) - (wrap64 (Int.tmod x10_1 1000000000)))) - x9_1)) < 0
              · rw [if_pos c23] at H
                have c23b0 : decide ((wrap64 ((wrap64 ((wrap64 (rd x0_1 (ji20))) - (wrap64 (Int.tmod x10_1 1000000000)))) - x9_1)) < 0) = true := decide_eq_true c23
                clear c23
                obtain ⟨y179, hy179⟩ : ∃ y_ : List Int, y_ = (x0_1.set ((ji20) : Int).toNat (IntKind.u64.wrap (wrap64 ((wrap64 ((wrap64 ((wrap64 (rd x0_1 (ji20))) - (wrap64 (Int.tmod x10_1 1000000000)))) - x9_1)) + 1000000000)))) := ⟨_, rfl⟩
                replace H : (decimal_pieces_take.l0 k1 y179 l1 a2 a3 1 (IntKind.u64.wrap (Int.tdiv x10_1 1000000000)) (wrap64 (x11_1 + 1))) = some (r1, r2) := by first | (rw [hy179]; with_reducible exact H) | (have H2_ := (Option.bind_some _ _).symm.trans H; rw [hy179]; with_reducible exact H2_) | (have H2_ := (Option.bind_some _ _).symm.trans H; with_reducible exact H2_) | with_reducible exact H | (rw [hy179]; exact H) | exact H
                have Ny179 := Aside0.mk hy179
                clear hy179
                have H' := Aside0.mk H
                clear H
                obtain ⟨Ao25, co25, eo25⟩ := Kd.R_slice HO_0.out
                subst eo25
                have p178 : 0 ≤ ((ji20) : Int) := of_decide_eq_true (by first | (with_reducible assumption) | assumption)
                have q178 : (ji20) < (x0_1.length : Int) := of_decide_eq_true (by first | (with_reducible assumption) | assumption)
                obtain ⟨ad178, e178, hx178_0⟩ := Kd.at_int (Kd.R_reads' HO_0.out).2.2 (ji20) p178 q178
                cases e178
                replace p178 := eq_true p178
                replace q178 := eq_true q178
                have p24 : 0 ≤ ((ji20) : Int) := of_decide_eq_true (by first | (with_reducible assumption) | assumption)
                have q24 : ((ji20) : Int) < ((x0_1.length : Int) : Int) := of_decide_eq_true (by first | (with_reducible assumption) | assumption)
                obtain ⟨go24, co24, eo24, gb24, gl24, cl24, HG24⟩ := Kd.R_form HO_0.out (by omega)
                (first | cases eo24 | (injection eo24 with ea_ en_ ec_; (first | subst ea_ | (injection ea_ with ea_; subst ea_)); subst ec_; clear en_))
                have GB24 := Aside0.mk gb24
                have GG24 := Aside0.mk HG24
                clear gb24 gl24 HG24
                have HMgo24 := Aside0.mk (show (P0_ go24 ∨ w.heap.size ≤ go24) from (HO_0.out.1 _ rfl))
                (first | simp only [add_plain] at hx178_0 | skip)
                obtain ⟨hx24_0, hf24_0⟩ := Kd.R_celln 0 HO_0.out ((ji20) : Int) p24 q24
                replace p24 := eq_true p24
                replace q24 := eq_true q24
                have HP26 := Kd.R_putg HO_0.out ((ji20) : Int) (IntKind.u64.wrap (wrap64 ((wrap64 ((wrap64 ((wrap64 (rd x0_1 (ji20))) - (wrap64 (Int.tmod x10_1 1000000000)))) - x9_1)) + 1000000000)))
                go_wp2_with (first | ((with_reducible refine gate_store (t := 70) (p := 56) rfl ?_); refine store_event (t := 70) (p := 56) (v := ?vo_w27) (w1 := (wr.setCell ⟨go24, ((ji20) : Int).toNat, none⟩ (.int .u64 (IntKind.u64.wrap (wrap64 ((wrap64 ((wrap64 ((wrap64 (rd x0_1 (ji20))) - (wrap64 (Int.tmod x10_1 1000000000)))) - x9_1)) + 1000000000)))))) ?hg ?ho ?hn ?hr ?_; (case ho => rfl); (case hg => rfl); (case hn => rfl); (case hr => first | (go_simp; done) | (go_simp; rfl)); intro w27 hw; have hg : wr.grownBy w27 (some go24) := (by rw [hw]; exact HP26.2); have hp_ : Kd.R (Kd.int .u64) 70 w27 w0.heap.size (fun k_ => (P0_ k_ ∨ w.heap.size ≤ k_)) (.slice (some ⟨go24, 0, none⟩) x0_1.length co25) y179 := (by rw [hw, Ny179.out]; exact HP26.1); clear HP26; have n0_ := Aside0.mk (hp_); have n1_ := Aside0.mk ((by rw [hw]; exact below_set (HB.out) GB24.out : Below w0.heap.size w0 w27)); have n2_ := Aside0.mk (Kept.of_grown (S := (fun k_ => P0_ k_)) hg (by repeat (first | (with_reducible first | exact HK.out | apply Kept.alloc | apply Kept.drewN | apply Kept.drew) | exact HK.out)) (fun k_ e_ => (HO_0.out.1 k_ e_))); clear HO_0; clear HB; clear HK; have HO_0 := n0_; have HB := n1_; have HK := n2_; clear n0_ n1_ n2_; clear hg hw hp_))
                go_roundg k1
                case measure => have := HK1.out; omega
                case rel => exact ⟨(y179), (1), (IntKind.u64.wrap (Int.tdiv x10_1 1000000000)), (wrap64 (x11_1 + 1)), (by first | rfl | (simp; done) | (simp [*]; done)), (by first | rfl | (simp; done) | (simp [*]; done)), (by first | rfl | (simp; done) | (simp [*]; done)), H', ⟨by have := HK1.out; omega⟩, ⟨by (with_reducible repeat (first | apply Kd.R_alloc | apply Kd.R_drewN | apply Kd.R_drew)); exact HO_0.out⟩, ⟨by repeat (first | (with_reducible first | exact HK.out | apply Kept.alloc | apply Kept.drewN | apply Kept.drew) | exact HK.out)⟩, ⟨bq⟩⟩
              · rw [if_neg c23] at H
                have c23b0 : decide ((wrap64 ((wrap64 ((wrap64 (rd x0_1 (ji20))) - (wrap64 (Int.tmod x10_1 1000000000)))) - x9_1)) < 0) = false := decide_eq_false c23
                clear c23
                obtain ⟨y180, hy180⟩ : ∃ y_ : List Int, y_ = (x0_1.set ((ji20) : Int).toNat (IntKind.u64.wrap (wrap64 ((wrap64 ((wrap64 (rd x0_1 (ji20))) - (wrap64 (Int.tmod x10_1 1000000000)))) - x9_1)))) := ⟨_, rfl⟩
                replace H : (decimal_pieces_take.l0 k1 y180 l1 a2 a3 0 (IntKind.u64.wrap (Int.tdiv x10_1 1000000000)) (wrap64 (x11_1 + 1))) = some (r1, r2) := by first | (rw [hy180]; with_reducible exact H) | (have H2_ := (Option.bind_some _ _).symm.trans H; rw [hy180]; with_reducible exact H2_) | (have H2_ := (Option.bind_some _ _).symm.trans H; with_reducible exact H2_) | with_reducible exact H | (rw [hy180]; exact H) | exact H
                have Ny180 := Aside0.mk hy180
                clear hy180
                have H' := Aside0.mk H
                clear H
                obtain ⟨Ao29, co29, eo29⟩ := Kd.R_slice HO_0.out
                subst eo29
                have p178 : 0 ≤ ((ji20) : Int) := of_decide_eq_true (by first | (with_reducible assumption) | assumption)
                have q178 : (ji20) < (x0_1.length : Int) := of_decide_eq_true (by first | (with_reducible assumption) | assumption)
                obtain ⟨ad178, e178, hx178_0⟩ := Kd.at_int (Kd.R_reads' HO_0.out).2.2 (ji20) p178 q178
                cases e178
                replace p178 := eq_true p178
                replace q178 := eq_true q178
                have p28 : 0 ≤ ((ji20) : Int) := of_decide_eq_true (by first | (with_reducible assumption) | assumption)
                have q28 : ((ji20) : Int) < ((x0_1.length : Int) : Int) := of_decide_eq_true (by first | (with_reducible assumption) | assumption)
                obtain ⟨go28, co28, eo28, gb28, gl28, cl28, HG28⟩ := Kd.R_form HO_0.out (by omega)
                (first | cases eo28 | (injection eo28 with ea_ en_ ec_; (first | subst ea_ | (injection ea_ with ea_; subst ea_)); subst ec_; clear en_))
                have GB28 := Aside0.mk gb28
                have GG28 := Aside0.mk HG28
                clear gb28 gl28 HG28
                have HMgo28 := Aside0.mk (show (P0_ go28 ∨ w.heap.size ≤ go28) from (HO_0.out.1 _ rfl))
                (first | simp only [add_plain] at hx178_0 | skip)
                obtain ⟨hx28_0, hf28_0⟩ := Kd.R_celln 0 HO_0.out ((ji20) : Int) p28 q28
                replace p28 := eq_true p28
                replace q28 := eq_true q28
                have HP30 := Kd.R_putg HO_0.out ((ji20) : Int) (IntKind.u64.wrap (wrap64 ((wrap64 ((wrap64 (rd x0_1 (ji20))) - (wrap64 (Int.tmod x10_1 1000000000)))) - x9_1)))
                go_wp2_with (first | ((with_reducible refine gate_store (t := 70) (p := 56) rfl ?_); refine store_event (t := 70) (p := 56) (v := ?vo_w31) (w1 := (wr.setCell ⟨go28, ((ji20) : Int).toNat, none⟩ (.int .u64 (IntKind.u64.wrap (wrap64 ((wrap64 ((wrap64 (rd x0_1 (ji20))) - (wrap64 (Int.tmod x10_1 1000000000)))) - x9_1)))))) ?hg ?ho ?hn ?hr ?_; (case ho => rfl); (case hg => rfl); (case hn => rfl); (case hr => first | (go_simp; done) | (go_simp; rfl)); intro w31 hw; have hg : wr.grownBy w31 (some go28) := (by rw [hw]; exact HP30.2); have hp_ : Kd.R (Kd.int .u64) 70 w31 w0.heap.size (fun k_ => (P0_ k_ ∨ w.heap.size ≤ k_)) (.slice (some ⟨go28, 0, none⟩) x0_1.length co29) y180 := (by rw [hw, Ny180.out]; exact HP30.1); clear HP30; have n0_ := Aside0.mk (hp_); have n1_ := Aside0.mk ((by rw [hw]; exact below_set (HB.out) GB28.out : Below w0.heap.size w0 w31)); have n2_ := Aside0.mk (Kept.of_grown (S := (fun k_ => P0_ k_)) hg (by repeat (first | (with_reducible first | exact HK.out | apply Kept.alloc | apply Kept.drewN | apply Kept.drew) | exact HK.out)) (fun k_ e_ => (HO_0.out.1 k_ e_))); clear HO_0; clear HB; clear HK; have HO_0 := n0_; have HB := n1_; have HK := n2_; clear n0_ n1_ n2_; clear hg hw hp_))
                go_roundg k1
                case measure => have := HK1.out; omega
                case rel => exact ⟨(y180), (0), (IntKind.u64.wrap (Int.tdiv x10_1 1000000000)), (wrap64 (x11_1 + 1)), (by first | rfl | (simp; done) | (simp [*]; done)), (by first | rfl | (simp; done) | (simp [*]; done)), (by first | rfl | (simp; done) | (simp [*]; done)), H', ⟨by have := HK1.out; omega⟩, ⟨by (with_reducible repeat (first | apply Kd.R_alloc | apply Kd.R_drewN | apply Kd.R_drew)); exact HO_0.out⟩, ⟨by repeat (first | (with_reducible first | exact HK.out | apply Kept.alloc | apply Kept.drewN | apply Kept.drew) | exact HK.out)⟩, ⟨bq⟩⟩
            · rw [if_neg c22] at H
              exact absurd H (by simp)
          · rw [if_neg c21] at H
            exact absurd H (by simp)
      · rw [if_neg c5] at H
        have c5b0 : decide (x11_1 ≤ (l1.length : Int)) = false := decide_eq_false c5
        clear c5
        simp only [Option.some.injEq, Prod.mk.injEq] at H
        obtain ⟨rfl, rfl⟩ := H
        go_wp2
        go_ret
        exact ⟨eq_, by (with_reducible repeat (first | apply Kd.R_alloc | apply Kd.R_drewN | apply Kd.R_drew)); exact HO_0.out, bq, by repeat (first | (with_reducible first | exact HK.out | apply Kept.alloc | apply Kept.drewN | apply Kept.drew) | exact HK.out)⟩
def decimal_Sub.f (k : Nat) (a0 : ByteArray) (a1 : ByteArray) : Option (ByteArray × Int) := (decimal_Compare.f a0 a1).bind fun t181 => (if t181 < 0 then (some ((⟨#[]⟩ : ByteArray), 3)) else ((decimal_both.f k a0 a1).bind fun bt182 => (if bt182.2.2 = true then ((decimal_Of.f (IntKind.u64.wrap (bt182.1 - bt182.2.1))).bind fun t185 => (some (t185, 0))) else ((decimal_cut.f k a0).bind fun t186 => (if t186.length < 17592186044416 then ((some (t186 ++ [0] : List Int)).bind fun y189 => ((decimal_cut.f k a1).bind fun t192 => ((decimal_cut.f k a1).bind fun t195 => (if 0 ≤ (wrap64 ((wrap64 ((y189.length : Int) - 1)) - (t195.length : Int))) then (if t192.length + (wrap64 ((wrap64 ((y189.length : Int) - 1)) - (t195.length : Int)) : Int).toNat < 17592186044416 then ((decimal_pieces_take.f k y189 (t192 ++ List.replicate (wrap64 ((wrap64 ((y189.length : Int) - 1)) - (t195.length : Int)) : Int).toNat 0) 1 0).bind fun bt201 => ((decimal_pieces_trim.f k bt201.2).bind fun t203 => ((decimal_pieces_text.f k t203).bind fun t206 => (some (t206, 0))))) else (none)) else (none))))) else (none))))))
theorem decimal_Sub.mono : ∀ a0 a1 k, LeO (decimal_Sub.f k a0 a1) (decimal_Sub.f (k + 1) a0 a1) := by
  intro a0 a1 k
  unfold decimal_Sub.f
  repeat' first
      | (with_reducible exact decimal_both.mono _ _ _)
      | (with_reducible exact decimal_cut.mono _ _)
      | (with_reducible exact decimal_pieces_take.mono _ _ _ _ _)
      | (with_reducible exact decimal_pieces_text.mono _ _)
      | (with_reducible exact decimal_pieces_trim.mono _ _)
      | (with_reducible exact LeO.refl _)
      | (with_reducible exact LeO.none _)
      | (with_reducible refine LeO.ite ?_ ?_)
      | (with_reducible refine LeO.bind ?_ (fun _ => ?_))
      | exact decimal_both.mono _ _ _
      | exact decimal_cut.mono _ _
      | exact decimal_pieces_take.mono _ _ _ _ _
      | exact decimal_pieces_text.mono _ _
      | exact decimal_pieces_trim.mono _ _
      | exact LeO.none _
      | refine LeO.ite ?_ ?_
      | refine LeO.bind ?_ (fun _ => ?_)
set_option maxHeartbeats 8000000 in
set_option maxRecDepth 100000 in
theorem decimal_Sub.calls (k : Nat) (a0 : ByteArray) (a1 : ByteArray) (r1 : ByteArray) (r2 : Int) (w : World) (hT : Tab w) (h : decimal_Sub.f k a0 a1 = some (r1, r2)) :
    Calls Tryz.prog 44 #[.string a0, .string a1] w fun e w' => e = .returned (.tuple #[.string r1, .int .i64 r2]) ∧ Below w.heap.size w w' := by
  have HT := Aside0.mk hT
  clear hT
  have HB := Aside0.mk (Below.refl w.heap.size w)
  have H : ((decimal_Compare.f a0 a1).bind fun t181 => (if t181 < 0 then (some ((⟨#[]⟩ : ByteArray), 3)) else ((decimal_both.f k a0 a1).bind fun bt182 => (if bt182.2.2 = true then ((decimal_Of.f (IntKind.u64.wrap (bt182.1 - bt182.2.1))).bind fun t185 => (some (t185, 0))) else ((decimal_cut.f k a0).bind fun t186 => (if t186.length < 17592186044416 then ((some (t186 ++ [0] : List Int)).bind fun y189 => ((decimal_cut.f k a1).bind fun t192 => ((decimal_cut.f k a1).bind fun t195 => (if 0 ≤ (wrap64 ((wrap64 ((y189.length : Int) - 1)) - (t195.length : Int))) then (if t192.length + (wrap64 ((wrap64 ((y189.length : Int) - 1)) - (t195.length : Int)) : Int).toNat < 17592186044416 then ((decimal_pieces_take.f k y189 (t192 ++ List.replicate (wrap64 ((wrap64 ((y189.length : Int) - 1)) - (t195.length : Int)) : Int).toNat 0) 1 0).bind fun bt201 => ((decimal_pieces_trim.f k bt201.2).bind fun t203 => ((decimal_pieces_text.f k t203).bind fun t206 => (some (t206, 0))))) else (none)) else (none))))) else (none))))))) = some (r1, r2) := h
  clear h
  replace H := Option.bind_eq_some_iff.mp H
  obtain ⟨t181, A30, H⟩ := H
  replace H : (if t181 < 0 then (some ((⟨#[]⟩ : ByteArray), 3)) else ((decimal_both.f k a0 a1).bind fun bt182 => (if bt182.2.2 = true then ((decimal_Of.f (IntKind.u64.wrap (bt182.1 - bt182.2.1))).bind fun t185 => (some (t185, 0))) else ((decimal_cut.f k a0).bind fun t186 => (if t186.length < 17592186044416 then ((some (t186 ++ [0] : List Int)).bind fun y189 => ((decimal_cut.f k a1).bind fun t192 => ((decimal_cut.f k a1).bind fun t195 => (if 0 ≤ (wrap64 ((wrap64 ((y189.length : Int) - 1)) - (t195.length : Int))) then (if t192.length + (wrap64 ((wrap64 ((y189.length : Int) - 1)) - (t195.length : Int)) : Int).toNat < 17592186044416 then ((decimal_pieces_take.f k y189 (t192 ++ List.replicate (wrap64 ((wrap64 ((y189.length : Int) - 1)) - (t195.length : Int)) : Int).toNat 0) 1 0).bind fun bt201 => ((decimal_pieces_trim.f k bt201.2).bind fun t203 => ((decimal_pieces_text.f k t203).bind fun t206 => (some (t206, 0))))) else (none)) else (none))))) else (none)))))) = some (r1, r2) := H
  have A3 := Aside0.mk A30
  clear A30
  by_cases c4 : t181 < 0
  · rw [if_pos c4] at H
    have c4b0 : decide (t181 < 0) = true := decide_eq_true c4
    clear c4
    simp only [Option.some.injEq, Prod.mk.injEq] at H
    obtain ⟨rfl, rfl⟩ := H
    go_enter Tryz.func44, Tryz.ntmps44
    go_wp2_with (first | ((with_reducible refine gate_callee (f := 43) rfl ?_); refine goesL_ (some 12) rfl rfl Tryz.func43 (by kernel_rfl) rfl #[.string a0, .string a1] rfl mq ?_; (with_reducible refine (decimal_Compare.calls a0 a1 t181 _ A3.out).mono ?_); rintro e w5 ⟨rfl, hb⟩; refine ⟨_, rfl, ?_⟩; replace HB := Aside0.mk (below_step bq hb); (try clear hb); (try clear hb2); (try clear hk); (try clear hi)))
    go_ret2
    exact ⟨eq_, bq⟩
  · rw [if_neg c4] at H
    have c4b0 : decide (t181 < 0) = false := decide_eq_false c4
    clear c4
    replace H := Option.bind_eq_some_iff.mp H
    obtain ⟨⟨t182, t183, t184⟩, A60, H⟩ := H
    replace H : (if t184 = true then ((decimal_Of.f (IntKind.u64.wrap (t182 - t183))).bind fun t185 => (some (t185, 0))) else ((decimal_cut.f k a0).bind fun t186 => (if t186.length < 17592186044416 then ((some (t186 ++ [0] : List Int)).bind fun y189 => ((decimal_cut.f k a1).bind fun t192 => ((decimal_cut.f k a1).bind fun t195 => (if 0 ≤ (wrap64 ((wrap64 ((y189.length : Int) - 1)) - (t195.length : Int))) then (if t192.length + (wrap64 ((wrap64 ((y189.length : Int) - 1)) - (t195.length : Int)) : Int).toNat < 17592186044416 then ((decimal_pieces_take.f k y189 (t192 ++ List.replicate (wrap64 ((wrap64 ((y189.length : Int) - 1)) - (t195.length : Int)) : Int).toNat 0) 1 0).bind fun bt201 => ((decimal_pieces_trim.f k bt201.2).bind fun t203 => ((decimal_pieces_text.f k t203).bind fun t206 => (some (t206, 0))))) else (none)) else (none))))) else (none)))) = some (r1, r2) := H
    have A6 := Aside0.mk A60
    clear A60
    by_cases c7 : t184 = true
    · subst c7
      have H1 : ((decimal_Of.f (IntKind.u64.wrap (t182 - t183))).bind fun t185 => (some (t185, 0))) = some (r1, r2) := by rw [if_pos rfl] at H; exact H
      clear H
      have H := H1
      clear H1
      replace H := Option.bind_eq_some_iff.mp H
      obtain ⟨t185, A80, H⟩ := H
      replace H : (some (t185, 0)) = some (r1, r2) := H
      have A8 := Aside0.mk A80
      clear A80
      simp only [Option.some.injEq, Prod.mk.injEq] at H
      obtain ⟨rfl, rfl⟩ := H
      go_enter Tryz.func44, Tryz.ntmps44
      go_wp2_with (first | ((with_reducible refine gate_callee (f := 43) rfl ?_); refine goesL_ (some 12) rfl rfl Tryz.func43 (by kernel_rfl) rfl #[.string a0, .string a1] rfl mq ?_; (with_reducible refine (decimal_Compare.calls a0 a1 t181 _ A3.out).mono ?_); rintro e w9 ⟨rfl, hb⟩; refine ⟨_, rfl, ?_⟩; replace HB := Aside0.mk (below_step bq hb); (try clear hb); (try clear hb2); (try clear hk); (try clear hi)) | ((with_reducible refine gate_callee (f := 68) rfl ?_); refine goesL_ (some 17) rfl rfl Tryz.func68 (by kernel_rfl) rfl #[.string a0, .string a1] rfl mq ?_; (with_reducible refine (decimal_both.calls (hT := HT.out.below bq) k a0 a1 t182 t183 true _ A6.out).mono ?_); rintro e w10 ⟨rfl, hb⟩; refine ⟨_, rfl, ?_⟩; replace HB := Aside0.mk (below_step bq hb); (try clear hb); (try clear hb2); (try clear hk); (try clear hi)) | ((with_reducible refine gate_callee (f := 69) rfl ?_); refine goesL_ (some 25) rfl rfl Tryz.func69 (by kernel_rfl) rfl #[.int .u64 (IntKind.u64.wrap (t182 - t183))] rfl mq ?_; (with_reducible refine (decimal_Of.calls (hT := HT.out.below bq) (IntKind.u64.wrap (t182 - t183)) t185 _ A8.out).mono ?_); rintro e w11 ⟨rfl, hb⟩; refine ⟨_, rfl, ?_⟩; replace HB := Aside0.mk (below_step bq hb); (try clear hb); (try clear hb2); (try clear hk); (try clear hi)))
      go_ret2
      exact ⟨eq_, bq⟩
    · replace c7 := Bool.eq_false_iff.mpr c7
      subst c7
      have H1 : ((decimal_cut.f k a0).bind fun t186 => (if t186.length < 17592186044416 then ((some (t186 ++ [0] : List Int)).bind fun y189 => ((decimal_cut.f k a1).bind fun t192 => ((decimal_cut.f k a1).bind fun t195 => (if 0 ≤ (wrap64 ((wrap64 ((y189.length : Int) - 1)) - (t195.length : Int))) then (if t192.length + (wrap64 ((wrap64 ((y189.length : Int) - 1)) - (t195.length : Int)) : Int).toNat < 17592186044416 then ((decimal_pieces_take.f k y189 (t192 ++ List.replicate (wrap64 ((wrap64 ((y189.length : Int) - 1)) - (t195.length : Int)) : Int).toNat 0) 1 0).bind fun bt201 => ((decimal_pieces_trim.f k bt201.2).bind fun t203 => ((decimal_pieces_text.f k t203).bind fun t206 => (some (t206, 0))))) else (none)) else (none))))) else (none))) = some (r1, r2) := by rw [if_neg (show ¬ (false = true) by decide)] at H; exact H
      clear H
      have H := H1
      clear H1
      replace H := Option.bind_eq_some_iff.mp H
      obtain ⟨t186, A120, H⟩ := H
      replace H : (if t186.length < 17592186044416 then ((some (t186 ++ [0] : List Int)).bind fun y189 => ((decimal_cut.f k a1).bind fun t192 => ((decimal_cut.f k a1).bind fun t195 => (if 0 ≤ (wrap64 ((wrap64 ((y189.length : Int) - 1)) - (t195.length : Int))) then (if t192.length + (wrap64 ((wrap64 ((y189.length : Int) - 1)) - (t195.length : Int)) : Int).toNat < 17592186044416 then ((decimal_pieces_take.f k y189 (t192 ++ List.replicate (wrap64 ((wrap64 ((y189.length : Int) - 1)) - (t195.length : Int)) : Int).toNat 0) 1 0).bind fun bt201 => ((decimal_pieces_trim.f k bt201.2).bind fun t203 => ((decimal_pieces_text.f k t203).bind fun t206 => (some (t206, 0))))) else (none)) else (none))))) else (none)) = some (r1, r2) := H
      have A12 := Aside0.mk A120
      clear A120
      by_cases c13 : t186.length < 17592186044416
      · rw [if_pos c13] at H
        have LMc13 := Aside0.mk c13
        clear c13
        obtain ⟨y189, hy189⟩ : ∃ y_ : List Int, y_ = (t186 ++ [0]) := ⟨_, rfl⟩
        replace H : ((decimal_cut.f k a1).bind fun t192 => ((decimal_cut.f k a1).bind fun t195 => (if 0 ≤ (wrap64 ((wrap64 ((y189.length : Int) - 1)) - (t195.length : Int))) then (if t192.length + (wrap64 ((wrap64 ((y189.length : Int) - 1)) - (t195.length : Int)) : Int).toNat < 17592186044416 then ((decimal_pieces_take.f k y189 (t192 ++ List.replicate (wrap64 ((wrap64 ((y189.length : Int) - 1)) - (t195.length : Int)) : Int).toNat 0) 1 0).bind fun bt201 => ((decimal_pieces_trim.f k bt201.2).bind fun t203 => ((decimal_pieces_text.f k t203).bind fun t206 => (some (t206, 0))))) else (none)) else (none)))) = some (r1, r2) := by first | (rw [hy189]; with_reducible exact H) | (have H2_ := (Option.bind_some _ _).symm.trans H; rw [hy189]; with_reducible exact H2_) | (have H2_ := (Option.bind_some _ _).symm.trans H; with_reducible exact H2_) | with_reducible exact H | (rw [hy189]; exact H) | exact H
        have Ny189 := Aside0.mk hy189
        clear hy189
        replace H := Option.bind_eq_some_iff.mp H
        obtain ⟨t192, A140, H⟩ := H
        replace H : ((decimal_cut.f k a1).bind fun t195 => (if 0 ≤ (wrap64 ((wrap64 ((y189.length : Int) - 1)) - (t195.length : Int))) then (if t192.length + (wrap64 ((wrap64 ((y189.length : Int) - 1)) - (t195.length : Int)) : Int).toNat < 17592186044416 then ((decimal_pieces_take.f k y189 (t192 ++ List.replicate (wrap64 ((wrap64 ((y189.length : Int) - 1)) - (t195.length : Int)) : Int).toNat 0) 1 0).bind fun bt201 => ((decimal_pieces_trim.f k bt201.2).bind fun t203 => ((decimal_pieces_text.f k t203).bind fun t206 => (some (t206, 0))))) else (none)) else (none))) = some (r1, r2) := H
        have A14 := Aside0.mk A140
        clear A140
        replace H := Option.bind_eq_some_iff.mp H
        obtain ⟨t195, A150, H⟩ := H
        replace H : (if 0 ≤ (wrap64 ((wrap64 ((y189.length : Int) - 1)) - (t195.length : Int))) then (if t192.length + (wrap64 ((wrap64 ((y189.length : Int) - 1)) - (t195.length : Int)) : Int).toNat < 17592186044416 then ((decimal_pieces_take.f k y189 (t192 ++ List.replicate (wrap64 ((wrap64 ((y189.length : Int) - 1)) - (t195.length : Int)) : Int).toNat 0) 1 0).bind fun bt201 => ((decimal_pieces_trim.f k bt201.2).bind fun t203 => ((decimal_pieces_text.f k t203).bind fun t206 => (some (t206, 0))))) else (none)) else (none)) = some (r1, r2) := H
        have A15 := Aside0.mk A150
        clear A150
        have hq2_ : t192 = t195 := Option.some.inj (A14.out.symm.trans A15.out)
        obtain rfl := hq2_
        obtain ⟨ji16, hji16⟩ : ∃ j_ : Int, (wrap64 ((wrap64 ((y189.length : Int) - 1)) - (t192.length : Int))) = j_ := ⟨_, rfl⟩
        replace H : (if 0 ≤ (ji16) then (if t192.length + (ji16 : Int).toNat < 17592186044416 then ((decimal_pieces_take.f k y189 (t192 ++ List.replicate (ji16 : Int).toNat 0) 1 0).bind fun bt201 => ((decimal_pieces_trim.f k bt201.2).bind fun t203 => ((decimal_pieces_text.f k t203).bind fun t206 => (some (t206, 0))))) else (none)) else (none)) = some (r1, r2) := by first | (rw [hji16] at H; exact H) | (simp only [hji16] at H ⊢; exact H)
        (try rw [hji16] at A3)
        (try rw [hji16] at A6)
        (try rw [hji16] at A12)
        (try rw [hji16] at A14)
        (try rw [hji16] at A15)
        have hji16w : (IntKind.i64.wrap ((wrap64 ((y189.length : Int) - 1)) - (t192.length : Int))) = ji16 := (i64_w _).trans hji16
        by_cases c17 : 0 ≤ (ji16)
        · rw [if_pos c17] at H
          have c17b0 := eq_true c17
          have c17b1 : decide (0 ≤ (ji16)) = true := decide_eq_true c17
          clear c17
          by_cases c18 : t192.length + (ji16 : Int).toNat < 17592186044416
          · rw [if_pos c18] at H
            have LMc18 := Aside0.mk c18
            clear c18
            obtain ⟨y198, hy198⟩ : ∃ y_ : List Int, y_ = (t192 ++ List.replicate (ji16 : Int).toNat 0) := ⟨_, rfl⟩
            replace H : ((decimal_pieces_take.f k y189 y198 1 0).bind fun bt201 => ((decimal_pieces_trim.f k bt201.2).bind fun t203 => ((decimal_pieces_text.f k t203).bind fun t206 => (some (t206, 0))))) = some (r1, r2) := by first | (rw [hy198]; with_reducible exact H) | (have H2_ := (Option.bind_some _ _).symm.trans H; rw [hy198]; with_reducible exact H2_) | (have H2_ := (Option.bind_some _ _).symm.trans H; with_reducible exact H2_) | with_reducible exact H | (rw [hy198]; exact H) | exact H
            have Ny198 := Aside0.mk hy198
            clear hy198
            replace H := Option.bind_eq_some_iff.mp H
            obtain ⟨⟨t201, t202⟩, A190, H⟩ := H
            replace H : ((decimal_pieces_trim.f k t202).bind fun t203 => ((decimal_pieces_text.f k t203).bind fun t206 => (some (t206, 0)))) = some (r1, r2) := H
            have A19 := Aside0.mk A190
            clear A190
            replace H := Option.bind_eq_some_iff.mp H
            obtain ⟨t203, A200, H⟩ := H
            replace H : ((decimal_pieces_text.f k t203).bind fun t206 => (some (t206, 0))) = some (r1, r2) := H
            have A20 := Aside0.mk A200
            clear A200
            replace H := Option.bind_eq_some_iff.mp H
            obtain ⟨t206, A210, H⟩ := H
            replace H : (some (t206, 0)) = some (r1, r2) := H
            have A21 := Aside0.mk A210
            clear A210
            simp only [Option.some.injEq, Prod.mk.injEq] at H
            obtain ⟨rfl, rfl⟩ := H
            go_enter Tryz.func44, Tryz.ntmps44
            go_wp2_with (first | ((with_reducible refine gate_callee (f := 43) rfl ?_); refine goesL_ (some 12) rfl rfl Tryz.func43 (by kernel_rfl) rfl #[.string a0, .string a1] rfl mq ?_; (with_reducible refine (decimal_Compare.calls a0 a1 t181 _ A3.out).mono ?_); rintro e w22 ⟨rfl, hb⟩; refine ⟨_, rfl, ?_⟩; replace HB := Aside0.mk (below_step bq hb); (try clear hb); (try clear hb2); (try clear hk); (try clear hi)) | ((with_reducible refine gate_callee (f := 68) rfl ?_); refine goesL_ (some 17) rfl rfl Tryz.func68 (by kernel_rfl) rfl #[.string a0, .string a1] rfl mq ?_; (with_reducible refine (decimal_both.calls (hT := HT.out.below bq) k a0 a1 t182 t183 false _ A6.out).mono ?_); rintro e w23 ⟨rfl, hb⟩; refine ⟨_, rfl, ?_⟩; replace HB := Aside0.mk (below_step bq hb); (try clear hb); (try clear hb2); (try clear hk); (try clear hi)) | ((with_reducible refine gate_callee (f := 60) rfl ?_); refine goesL_ (some 27) rfl rfl Tryz.func60 (by kernel_rfl) rfl #[.string a0] rfl mq ?_; (with_reducible refine (decimal_cut.calls k a0 t186 _ A12.out).mono ?_); rintro e w24 ⟨v187, rfl, ho0, hb⟩; refine ⟨_, rfl, ?_⟩; have n0_ := Aside0.mk (Kd.R_lower ho0 (below_size bq)); have n1_ := Aside0.mk (below_step bq hb); clear HB; have HO188 := n0_; have HB := n1_; clear n0_ n1_; (try clear hb); (try clear hb2); (try clear hk); (try clear hi); (try clear ho0)) | ((with_reducible refine gate_builtin (b := .append) (xs := #[.tmp 27, .tmp 28]) rfl ?_); at_builtin; refine Kd.R_append (Kd.int .u64) (w0 := w) w.heap.size rfl (.tmp 27) (.tmp 28) 72 70 (.int .u64 0) 8 rfl Tryz.underlying72 info70 rfl (by decide) (by omega) v187 t186 0 [.int .u64 0] (fun _ => True) (fun _ => False) rfl rfl ?aP (fun _ hk => hk.elim) ?aF ?aO ?aB ?aS ?aL ?_; (case aP => exact rfl); (case aB => exact bq); (case aF => exact (fun _ _ => trivial)); (case aO => exact (by (with_reducible repeat (first | apply Kd.R_alloc | apply Kd.R_drewN | apply Kd.R_drew)); exact HO188.out)); (case aS => exact (below_size bq)); (case aL => have := LMc13.out; omega); intro v190 w25 ho hb hg hat; rw [← Ny189.out] at ho; have n0_ := Aside0.mk (hb); have n1_ := Aside0.mk (ho); clear HB; clear HO188; have HB := n0_; have HO191 := n1_; clear n0_ n1_; clear ho hb hg hat) | ((with_reducible refine gate_callee (f := 60) rfl ?_); refine goesL_ (some 32) rfl rfl Tryz.func60 (by kernel_rfl) rfl #[.string a1] rfl mq ?_; (with_reducible refine (decimal_cut.calls k a1 t192 _ A14.out).mono ?_); rintro e w26 ⟨v193, rfl, ho0, hb⟩; refine ⟨_, rfl, ?_⟩; have n0_ := Aside0.mk (Kd.R_elder' (by (with_reducible repeat (first | apply Kd.R_alloc | apply Kd.R_drewN | apply Kd.R_drew)); exact HO191.out) (Kd.R_base ho0) hb); have n1_ := Aside0.mk (Kd.R_lower (Kd.R_new' ho0 (Kd.R_lt (by (with_reducible repeat (first | apply Kd.R_alloc | apply Kd.R_drewN | apply Kd.R_drew)); exact HO191.out))) (below_size bq)); have n2_ := Aside0.mk (below_step bq hb); clear HO191; clear HB; have HO191 := n0_; have HO194 := n1_; have HB := n2_; clear n0_ n1_ n2_; (try clear hb); (try clear hb2); (try clear hk); (try clear hi); (try clear ho0); obtain ⟨Ao27, co27, eo27⟩ := Kd.R_slice HO191.out; subst eo27) | ((with_reducible refine gate_callee (f := 60) rfl ?_); refine goesL_ (some 37) rfl rfl Tryz.func60 (by kernel_rfl) rfl #[.string a1] rfl mq ?_; (with_reducible refine (decimal_cut.calls k a1 t192 _ A15.out).mono ?_); rintro e w28 ⟨v196, rfl, ho0, hb⟩; refine ⟨_, rfl, ?_⟩; have n0_ := Aside0.mk (Kd.R_elder' (by (with_reducible repeat (first | apply Kd.R_alloc | apply Kd.R_drewN | apply Kd.R_drew)); exact HO191.out) (Kd.R_base ho0) hb); have n1_ := Aside0.mk (Kd.R_elder' (by (with_reducible repeat (first | apply Kd.R_alloc | apply Kd.R_drewN | apply Kd.R_drew)); exact HO194.out) (Kd.R_base ho0) hb); have n2_ := Aside0.mk (Kd.R_lower (Kd.R_new' (Kd.R_new' ho0 (Kd.R_lt (by (with_reducible repeat (first | apply Kd.R_alloc | apply Kd.R_drewN | apply Kd.R_drew)); exact HO191.out))) (Kd.R_lt (by (with_reducible repeat (first | apply Kd.R_alloc | apply Kd.R_drewN | apply Kd.R_drew)); exact HO194.out))) (below_size bq)); have n3_ := Aside0.mk (below_step bq hb); clear HO191; clear HO194; clear HB; have HO191 := n0_; have HO194 := n1_; have HO197 := n2_; have HB := n3_; clear n0_ n1_ n2_ n3_; (try clear hb); (try clear hb2); (try clear hk); (try clear hi); (try clear ho0); obtain ⟨Ao29, co29, eo29⟩ := Kd.R_slice HO197.out; subst eo29) | (at_builtin; refine Kd.R_append_zeros (Kd.int .u64) (w0 := w) w.heap.size rfl (.tmp 32) (.tmp 39) 72 3 70 (.int .u64 0) 8 rfl Tryz.underlying72 Tryz.underlying3 info70 rfl (by decide) (by omega) v193 t192 0 (ji16 : Int) (fun k_ => some k_ ≠ (.slice Ao27 y189.length co27 : Value).ownBlock ∧ some k_ ≠ (.slice Ao29 t192.length co29 : Value).ownBlock) rfl rfl rfl ?aF ?aO (of_decide_eq_true (by first | (with_reducible assumption) | assumption)) ?aB ?aS ?aL ?_; (case aB => exact bq); (case aF => exact (fun k_ hk => ⟨Kd.fresh' (Kd.R_lt (by (with_reducible repeat (first | apply Kd.R_alloc | apply Kd.R_drewN | apply Kd.R_drew)); exact HO191.out)) k_ hk, Kd.fresh' (Kd.R_lt (by (with_reducible repeat (first | apply Kd.R_alloc | apply Kd.R_drewN | apply Kd.R_drew)); exact HO197.out)) k_ hk⟩)); (case aO => exact (by (with_reducible repeat (first | apply Kd.R_alloc | apply Kd.R_drewN | apply Kd.R_drew)); exact Kd.R_mono HO194.out (fun _ hk => ⟨hk.1.2, hk.2⟩))); (case aS => exact (below_size bq)); (case aL => have := LMc18.out; omega); intro v199 w30 ho hb hg hat; rw [← Ny198.out] at ho; have n0_ := Aside0.mk (Kd.R_after (ok := (fun k_ => some k_ ≠ (.slice Ao29 t192.length co29 : Value).ownBlock)) (by (with_reducible repeat (first | apply Kd.R_alloc | apply Kd.R_drewN | apply Kd.R_drew)); exact Kd.R_mono HO191.out (fun _ hk => ⟨hk.2, hk.1.2⟩)) hg hat); have n1_ := Aside0.mk (Kd.R_after (ok := (fun k_ => some k_ ≠ (.slice Ao27 y189.length co27 : Value).ownBlock)) (by (with_reducible repeat (first | apply Kd.R_alloc | apply Kd.R_drewN | apply Kd.R_drew)); exact Kd.R_mono HO197.out (fun _ hk => ⟨hk.1.2, hk.2⟩)) hg hat); have n2_ := Aside0.mk (hb); have n3_ := Aside0.mk (ho); clear HO191; clear HO197; clear HB; clear HO194; have HO191 := n0_; have HO197 := n1_; have HB := n2_; have HO200 := n3_; clear n0_ n1_ n2_ n3_; clear ho hb hg hat; obtain ⟨Ao31, co31, eo31⟩ := Kd.R_slice HO200.out; subst eo31) | ((with_reducible refine gate_callee (f := 72) rfl ?_); refine goesL_ (some 41) rfl rfl Tryz.func72 (by kernel_rfl) rfl #[.slice Ao27 y189.length co27, .slice Ao31 y198.length co31, .int .u64 1, .int .i64 0] rfl mq ?_; (with_reducible refine (decimal_pieces_take.calls k (fun k_ => some k_ = (.slice Ao27 y189.length co27 : Value).ownBlock) (.slice Ao27 y189.length co27) y189 _ _ y198 1 0 t201 t202 w _ ?side1 ?side2 ?side3 ?side4 A19.out).mono ?_); (case side1 => exact bq); (case side2 => exact Kd.R_tight rfl HO191.out); (case side3 => exact Kd.C_kept_own (HO200.out) (fun k_ hk_ hs_ => (hk_.1) hs_)); (case side4 => exact (Kd.R_reads' HO200.out).2.1); rintro e w32 ⟨rfl, hy0, hb, hkp⟩; refine ⟨_, rfl, ?_⟩; have n0_ := Aside0.mk (Kd.R_reok rfl hy0 (fun k_ e_ => HO191.out.1 k_ e_)); have n1_ := Aside0.mk (Kd.R_mono (ok' := fun k_ => some k_ ≠ (.slice Ao27 y189.length co27 : Value).ownBlock ∧ some k_ ≠ (.slice Ao31 y198.length co31 : Value).ownBlock) (Kd.R_keptB (HO197.out) hkp (fun k_ hk_ hs_ => (hk_.1) hs_)) (fun k_ hk_ => ⟨hk_.1.1, hk_.1.2⟩)); have n2_ := Aside0.mk (Kd.R_mono (ok' := fun k_ => some k_ ≠ (.slice Ao27 y189.length co27 : Value).ownBlock ∧ some k_ ≠ (.slice Ao29 t192.length co29 : Value).ownBlock) (Kd.R_keptB (HO200.out) hkp (fun k_ hk_ hs_ => (hk_.1) hs_)) (fun k_ hk_ => ⟨hk_.1.1, hk_.1.2⟩)); have n3_ := Aside0.mk (hb); clear HO191; clear HO197; clear HO200; clear HB; have HO191 := n0_; have HO197 := n1_; have HO200 := n2_; have HB := n3_; clear n0_ n1_ n2_ n3_; (try clear hb); (try clear hkp); (try clear hy0)) | ((with_reducible refine gate_callee (f := 71) rfl ?_); refine goesL_ (some 43) rfl rfl Tryz.func71 (by kernel_rfl) rfl #[.slice Ao27 y189.length co27] rfl mq ?_; (with_reducible refine (decimal_pieces_trim.calls k (fun k_ => some k_ = (.slice Ao27 y189.length co27 : Value).ownBlock) (.slice Ao27 y189.length co27) t202 t203 w _ ?side1 ?side2 A20.out).mono ?_); (case side1 => exact bq); (case side2 => exact Kd.R_tight rfl HO191.out); rintro e w33 ⟨v204, rfl, ho0, hb, hkp⟩; refine ⟨_, rfl, ?_⟩; have n0_ := Aside0.mk (Kd.R_mono (ok' := fun k_ => some k_ ≠ (.slice Ao31 y198.length co31 : Value).ownBlock ∧ some k_ ≠ (v204 : Value).ownBlock) (Kd.R_keptB (HO197.out) hkp (fun k_ hk_ hs_ => (hk_.1) hs_)) (fun k_ hk_ => ⟨hk_.1.2, fun e_ => Or.elim (ho0.1 k_ e_.symm) (fun hs_ => hk_.2.1 hs_) (fun hn_ => Nat.not_le.2 hk_.2.2 hn_)⟩)); have n1_ := Aside0.mk (Kd.R_mono (ok' := fun k_ => some k_ ≠ (.slice Ao29 t192.length co29 : Value).ownBlock ∧ some k_ ≠ (v204 : Value).ownBlock) (Kd.R_keptB (HO200.out) hkp (fun k_ hk_ hs_ => (hk_.1) hs_)) (fun k_ hk_ => ⟨hk_.1.2, fun e_ => Or.elim (ho0.1 k_ e_.symm) (fun hs_ => hk_.2.1 hs_) (fun hn_ => Nat.not_le.2 hk_.2.2 hn_)⟩)); have n2_ := Aside0.mk (Kd.R_mono (ok' := fun k_ => some k_ ≠ (.slice Ao29 t192.length co29 : Value).ownBlock ∧ some k_ ≠ (.slice Ao31 y198.length co31 : Value).ownBlock) ho0 (fun k_ hk_ => ⟨Or.elim hk_ (fun hs_ => fun e_ => (((HO197.out).1 k_ e_.symm).1) hs_) (fun hn_ => (Kd.fresh' (Kd.R_lt (by (with_reducible repeat (first | apply Kd.R_alloc | apply Kd.R_drewN | apply Kd.R_drew)); exact HO197.out)) k_ hn_)), Or.elim hk_ (fun hs_ => fun e_ => (((HO200.out).1 k_ e_.symm).1) hs_) (fun hn_ => (Kd.fresh' (Kd.R_lt (by (with_reducible repeat (first | apply Kd.R_alloc | apply Kd.R_drewN | apply Kd.R_drew)); exact HO200.out)) k_ hn_))⟩)); have n3_ := Aside0.mk (hb); clear HO197; clear HO200; clear HB; clear HO191; have HO197 := n0_; have HO200 := n1_; have HO205 := n2_; have HB := n3_; clear n0_ n1_ n2_ n3_; (try clear hb); (try clear hkp); (try clear ho0); obtain ⟨Ao34, co34, eo34⟩ := Kd.R_slice HO205.out; subst eo34) | ((with_reducible refine gate_callee (f := 62) rfl ?_); refine goesL_ (some 44) rfl rfl Tryz.func62 (by kernel_rfl) rfl #[.slice Ao34 t203.length co34] rfl mq ?_; (with_reducible refine (decimal_pieces_text.calls k _ _ t203 t206 _ ?side1 ?side2 A21.out).mono ?_); (case side1 => repeat (first | exact (Kd.R_reads' HO205.out).2.2 | (with_reducible refine Kd.C_alloc ?_ _) | (with_reducible refine Kd.C_drewN ?_ _) | (with_reducible refine Kd.C_drew ?_))); (case side2 => exact (Kd.R_reads' HO205.out).2.1); rintro e w35 ⟨rfl, hb⟩; refine ⟨_, rfl, ?_⟩; have n0_ := Aside0.mk (Kd.R_below (by (with_reducible repeat (first | apply Kd.R_alloc | apply Kd.R_drewN | apply Kd.R_drew)); exact HO197.out) hb); have n1_ := Aside0.mk (Kd.R_below (by (with_reducible repeat (first | apply Kd.R_alloc | apply Kd.R_drewN | apply Kd.R_drew)); exact HO200.out) hb); have n2_ := Aside0.mk (Kd.R_below (by (with_reducible repeat (first | apply Kd.R_alloc | apply Kd.R_drewN | apply Kd.R_drew)); exact HO205.out) hb); have n3_ := Aside0.mk (below_step bq hb); clear HO197; clear HO200; clear HO205; clear HB; have HO197 := n0_; have HO200 := n1_; have HO205 := n2_; have HB := n3_; clear n0_ n1_ n2_ n3_; (try clear hb); (try clear hb2); (try clear hk); (try clear hi)))
            go_ret2
            exact ⟨by first | rfl | (simp [errW_none, errW_some] <;> rfl) | (simp only [← hji16]; first | rfl | (simp [errW_none, errW_some] <;> rfl)) | (simp [*, errW_none, errW_some] <;> rfl), bq⟩
          · rw [if_neg c18] at H
            exact absurd H (by simp)
        · rw [if_neg c17] at H
          exact absurd H (by simp)
      · rw [if_neg c13] at H
        exact absurd H (by simp)
def whole_Add.j0 : Nat → ByteArray → ByteArray → Option (ByteArray)
  | 0, _, _ => none
  | k + 1, x0, x1 => (whole_split.f x0).bind fun bt212 => ((whole_split.f x1).bind fun bt214 => (if (bt212.1 == bt214.1) = true then ((decimal_Add.f k bt212.2 bt214.2).bind fun t216 => ((whole_join.f bt212.1 t216).bind fun t217 => (some t217))) else ((decimal_Compare.f bt212.2 bt214.2).bind fun t218 => (if t218 < 0 then ((decimal_Sub.f k bt214.2 bt212.2).bind fun bt219 => ((whole_join.f bt214.1 bt219.1).bind fun t221 => (some t221))) else ((decimal_Sub.f k bt212.2 bt214.2).bind fun bt222 => ((whole_join.f bt212.1 bt222.1).bind fun t224 => (some t224)))))))
def whole_Add.f (k : Nat) (a0 : ByteArray) (a1 : ByteArray) : Option (ByteArray) := (whole_little.f a0 18).bind fun bt207 => (if bt207.2 = true then ((whole_little.f a1 18).bind fun bt209 => (if bt209.2 = true then ((whole_Of.f (wrap64 (bt207.1 + bt209.1))).bind fun t211 => (some t211)) else (whole_Add.j0 k a0 a1))) else (whole_Add.j0 k a0 a1))
theorem whole_Add.mono_l : ∀ k, (∀ y0 y1, LeO (whole_Add.j0 k y0 y1) (whole_Add.j0 (k + 1) y0 y1))
  | 0 => fun _ _ r h => by simp [whole_Add.j0] at h
  | k + 1 => by
    have ih0 := whole_Add.mono_l k
    · intro y0 y1
      unfold whole_Add.j0
      repeat' first
      | (with_reducible exact ih0 _ _)
      | (with_reducible exact decimal_Add.mono _ _ _)
      | (with_reducible exact decimal_Sub.mono _ _ _)
      | (with_reducible exact LeO.refl _)
      | (with_reducible exact LeO.none _)
      | (with_reducible refine LeO.ite ?_ ?_)
      | (with_reducible refine LeO.bind ?_ (fun _ => ?_))
      | exact ih0 _ _
      | exact decimal_Add.mono _ _ _
      | exact decimal_Sub.mono _ _ _
      | exact LeO.none _
      | refine LeO.ite ?_ ?_
      | refine LeO.bind ?_ (fun _ => ?_)
theorem whole_Add.mono : ∀ a0 a1 k, LeO (whole_Add.f k a0 a1) (whole_Add.f (k + 1) a0 a1) := by
  intro a0 a1 k
  have ih0 := whole_Add.mono_l k
  unfold whole_Add.f
  repeat' first
      | (with_reducible exact ih0 _ _)
      | (with_reducible exact decimal_Add.mono _ _ _)
      | (with_reducible exact decimal_Sub.mono _ _ _)
      | (with_reducible exact LeO.refl _)
      | (with_reducible exact LeO.none _)
      | (with_reducible refine LeO.ite ?_ ?_)
      | (with_reducible refine LeO.bind ?_ (fun _ => ?_))
      | exact ih0 _ _
      | exact decimal_Add.mono _ _ _
      | exact decimal_Sub.mono _ _ _
      | exact LeO.none _
      | refine LeO.ite ?_ ?_
      | refine LeO.bind ?_ (fun _ => ?_)
set_option maxHeartbeats 8000000 in
set_option maxRecDepth 100000 in
theorem whole_Add.calls (k : Nat) (a0 : ByteArray) (a1 : ByteArray) (r : ByteArray) (w : World) (hT : Tab w) (h : whole_Add.f k a0 a1 = some r) :
    Calls Tryz.prog 13 #[.string a0, .string a1] w fun e w' => e = .returned (.string r) ∧ Below w.heap.size w w' := by
  have HT := Aside0.mk hT
  clear hT
  have HB := Aside0.mk (Below.refl w.heap.size w)
  have H : ((whole_little.f a0 18).bind fun bt207 => (if bt207.2 = true then ((whole_little.f a1 18).bind fun bt209 => (if bt209.2 = true then ((whole_Of.f (wrap64 (bt207.1 + bt209.1))).bind fun t211 => (some t211)) else (whole_Add.j0 k a0 a1))) else (whole_Add.j0 k a0 a1))) = some r := h
  clear h
  replace H := Option.bind_eq_some_iff.mp H
  obtain ⟨⟨t207, t208⟩, A30, H⟩ := H
  replace H : (if t208 = true then ((whole_little.f a1 18).bind fun bt209 => (if bt209.2 = true then ((whole_Of.f (wrap64 (t207 + bt209.1))).bind fun t211 => (some t211)) else (whole_Add.j0 k a0 a1))) else (whole_Add.j0 k a0 a1)) = some r := H
  have A3 := Aside0.mk A30
  clear A30
  have HC4 := Aside0.mk H
  clear H
  go_enter Tryz.func13, Tryz.ntmps13
  go_upto_if 20 with (first | ((with_reducible refine gate_callee (f := 40) rfl ?_); refine goesL_ (some 17) rfl rfl Tryz.func40 (by kernel_rfl) rfl #[.string a0, .int .i64 18] rfl mq ?_; (with_reducible refine (whole_little.calls a0 18 t207 t208 _ A3.out).mono ?_); rintro e w5 ⟨rfl, hb⟩; refine ⟨_, rfl, ?_⟩; replace HB := Aside0.mk (below_step bq hb); (try clear hb); (try clear hb2); (try clear hk); (try clear hi)))
  (try simp only [Act.put, List.setIfInBounds_toArray, List.set_cons_zero, List.set_cons_succ])
  go_cut [] (fun wc => ∃ (kq : Nat), Aside0 (whole_Add.j0 kq a0 a1 = some r) ∧ Aside0 (kq ≤ k) ∧ Aside0 (Below w.heap.size w wc))
  case first =>
    have H := HC4.out
    clear HC4
    by_cases c6 : t208 = true
    · subst c6
      have H1 : ((whole_little.f a1 18).bind fun bt209 => (if bt209.2 = true then ((whole_Of.f (wrap64 (t207 + bt209.1))).bind fun t211 => (some t211)) else (whole_Add.j0 k a0 a1))) = some r := by rw [if_pos rfl] at H; exact H
      clear H
      have H := H1
      clear H1
      replace H := Option.bind_eq_some_iff.mp H
      obtain ⟨⟨t209, t210⟩, A70, H⟩ := H
      replace H : (if t210 = true then ((whole_Of.f (wrap64 (t207 + t209))).bind fun t211 => (some t211)) else (whole_Add.j0 k a0 a1)) = some r := H
      have A7 := Aside0.mk A70
      clear A70
      by_cases c8 : t210 = true
      · subst c8
        have H1 : ((whole_Of.f (wrap64 (t207 + t209))).bind fun t211 => (some t211)) = some r := by rw [if_pos rfl] at H; exact H
        clear H
        have H := H1
        clear H1
        replace H := Option.bind_eq_some_iff.mp H
        obtain ⟨t211, A90, H⟩ := H
        replace H : (some t211) = some r := H
        have A9 := Aside0.mk A90
        clear A90
        obtain rfl := Option.some.inj H
        go_wp2_with (first | ((with_reducible refine gate_callee (f := 40) rfl ?_); refine goesL_ (some 23) rfl rfl Tryz.func40 (by kernel_rfl) rfl #[.string a1, .int .i64 18] rfl mq ?_; (with_reducible refine (whole_little.calls a1 18 t209 true _ A7.out).mono ?_); rintro e w10 ⟨rfl, hb⟩; refine ⟨_, rfl, ?_⟩; replace HB := Aside0.mk (below_step bq hb); (try clear hb); (try clear hb2); (try clear hk); (try clear hi)) | ((with_reducible refine gate_callee (f := 41) rfl ?_); refine goesL_ (some 30) rfl rfl Tryz.func41 (by kernel_rfl) rfl #[.int .i64 (wrap64 (t207 + t209))] rfl mq ?_; (with_reducible refine (whole_Of.calls (hT := HT.out.below bq) (wrap64 (t207 + t209)) t211 _ A9.out).mono ?_); rintro e w11 ⟨rfl, hb⟩; refine ⟨_, rfl, ?_⟩; replace HB := Aside0.mk (below_step bq hb); (try clear hb); (try clear hb2); (try clear hk); (try clear hi)))
        go_ret
        exact ⟨eq_, bq⟩
      · replace c8 := Bool.eq_false_iff.mpr c8
        subst c8
        have H1 : (whole_Add.j0 k a0 a1) = some r := by rw [if_neg (show ¬ (false = true) by decide)] at H; exact H
        clear H
        have H := H1
        clear H1
        have H' := Aside0.mk H
        clear H
        go_wp2_with (first | ((with_reducible refine gate_callee (f := 40) rfl ?_); refine goesL_ (some 23) rfl rfl Tryz.func40 (by kernel_rfl) rfl #[.string a1, .int .i64 18] rfl mq ?_; (with_reducible refine (whole_little.calls a1 18 t209 false _ A7.out).mono ?_); rintro e w12 ⟨rfl, hb⟩; refine ⟨_, rfl, ?_⟩; replace HB := Aside0.mk (below_step bq hb); (try clear hb); (try clear hb2); (try clear hk); (try clear hi)))
        go_meet
        case rel => exact ⟨_, H', ⟨by first | omega | exact Nat.le_refl _⟩, ⟨bq⟩⟩
    · replace c6 := Bool.eq_false_iff.mpr c6
      subst c6
      have H1 : (whole_Add.j0 k a0 a1) = some r := by rw [if_neg (show ¬ (false = true) by decide)] at H; exact H
      clear H
      have H := H1
      clear H1
      have H' := Aside0.mk H
      clear H
      go_wp2
      go_meet
      case rel => exact ⟨_, H', ⟨by first | omega | exact Nat.le_refl _⟩, ⟨bq⟩⟩
  case rest =>
    clear HC4
    try clear c1
    try clear p2
    try clear c4
    try clear c6
    try clear p6
    try clear c8
    obtain ⟨kq, HA, HJ3, HB⟩ := hcut
    cases kq with
    | zero => exact absurd HA.out (by simp [whole_Add.j0])
    | succ kj3 =>
      have H := HA.out
      clear HA
      simp only [whole_Add.j0] at H
      replace H := Option.bind_eq_some_iff.mp H
      obtain ⟨⟨t212, t213⟩, A130, H⟩ := H
      replace H : ((whole_split.f a1).bind fun bt214 => (if (t212 == bt214.1) = true then ((decimal_Add.f kj3 t213 bt214.2).bind fun t216 => ((whole_join.f t212 t216).bind fun t217 => (some t217))) else ((decimal_Compare.f t213 bt214.2).bind fun t218 => (if t218 < 0 then ((decimal_Sub.f kj3 bt214.2 t213).bind fun bt219 => ((whole_join.f bt214.1 bt219.1).bind fun t221 => (some t221))) else ((decimal_Sub.f kj3 t213 bt214.2).bind fun bt222 => ((whole_join.f t212 bt222.1).bind fun t224 => (some t224))))))) = some r := H
      have A13 := Aside0.mk A130
      clear A130
      replace H := Option.bind_eq_some_iff.mp H
      obtain ⟨⟨t214, t215⟩, A140, H⟩ := H
      replace H : (if (t212 == t214) = true then ((decimal_Add.f kj3 t213 t215).bind fun t216 => ((whole_join.f t212 t216).bind fun t217 => (some t217))) else ((decimal_Compare.f t213 t215).bind fun t218 => (if t218 < 0 then ((decimal_Sub.f kj3 t215 t213).bind fun bt219 => ((whole_join.f t214 bt219.1).bind fun t221 => (some t221))) else ((decimal_Sub.f kj3 t213 t215).bind fun bt222 => ((whole_join.f t212 bt222.1).bind fun t224 => (some t224)))))) = some r := H
      have A14 := Aside0.mk A140
      clear A140
      by_cases c15 : (t212 == t214) = true
      · rw [if_pos c15] at H
        have c15b0 : (t212 == t214) = true := c15
        (try (have c15b1 : decide (t212 = t214) = true := by simpa using c15))
        (try (have c15b2 : (t212 == t214) = true := by simpa using c15))
        clear c15
        replace H := Option.bind_eq_some_iff.mp H
        obtain ⟨t216, A160, H⟩ := H
        replace H : ((whole_join.f t212 t216).bind fun t217 => (some t217)) = some r := H
        have A16 := Aside0.mk A160
        clear A160
        replace H := Option.bind_eq_some_iff.mp H
        obtain ⟨t217, A170, H⟩ := H
        replace H : (some t217) = some r := H
        have A17 := Aside0.mk A170
        clear A170
        obtain rfl := Option.some.inj H
        go_wp2_with (first | ((with_reducible refine gate_callee (f := 28) rfl ?_); refine goesL_ (some 33) rfl rfl Tryz.func28 (by kernel_rfl) rfl #[.string a0] rfl mq ?_; (with_reducible refine (whole_split.calls a0 t212 t213 _ A13.out).mono ?_); rintro e w' ⟨rfl, ⟨nd, rfl⟩⟩; refine ⟨_, rfl, ?_⟩) | ((with_reducible refine gate_callee (f := 28) rfl ?_); refine goesL_ (some 38) rfl rfl Tryz.func28 (by kernel_rfl) rfl #[.string a1] rfl mq ?_; (with_reducible refine (whole_split.calls a1 t214 t215 _ A14.out).mono ?_); rintro e w' ⟨rfl, ⟨nd, rfl⟩⟩; refine ⟨_, rfl, ?_⟩) | ((with_reducible refine gate_callee (f := 42) rfl ?_); refine goesL_ (some 47) rfl rfl Tryz.func42 (by kernel_rfl) rfl #[.string t213, .string t215] rfl mq ?_; (with_reducible refine (decimal_Add.calls (hT := HT.out.below bq) kj3 t213 t215 t216 _ A16.out).mono ?_); rintro e w18 ⟨rfl, hb⟩; refine ⟨_, rfl, ?_⟩; replace HB := Aside0.mk (below_step bq hb); (try clear hb); (try clear hb2); (try clear hk); (try clear hi)) | ((with_reducible refine gate_callee (f := 30) rfl ?_); refine goesL_ (some 48) rfl rfl Tryz.func30 (by kernel_rfl) rfl #[.bool t212, .string t216] rfl mq ?_; (with_reducible refine (whole_join.calls t212 t216 t217 _ A17.out).mono ?_); rintro e w' ⟨rfl, ⟨nd, rfl⟩⟩; refine ⟨_, rfl, ?_⟩))
        go_ret
        exact ⟨eq_, bq⟩
      · rw [if_neg c15] at H
        have c15b0 : (t212 == t214) = false := by simpa using c15
        (try (have c15b1 : decide (t212 = t214) = false := by simpa using c15))
        (try (have c15b2 : (t212 == t214) = false := by simpa using c15))
        (try (have c15b3 : ¬ (t212 = t214) := by simpa using c15))
        clear c15
        replace H := Option.bind_eq_some_iff.mp H
        obtain ⟨t218, A190, H⟩ := H
        replace H : (if t218 < 0 then ((decimal_Sub.f kj3 t215 t213).bind fun bt219 => ((whole_join.f t214 bt219.1).bind fun t221 => (some t221))) else ((decimal_Sub.f kj3 t213 t215).bind fun bt222 => ((whole_join.f t212 bt222.1).bind fun t224 => (some t224)))) = some r := H
        have A19 := Aside0.mk A190
        clear A190
        by_cases c20 : t218 < 0
        · rw [if_pos c20] at H
          have c20b0 : decide (t218 < 0) = true := decide_eq_true c20
          clear c20
          replace H := Option.bind_eq_some_iff.mp H
          obtain ⟨⟨t219, t220⟩, A210, H⟩ := H
          replace H : ((whole_join.f t214 t219).bind fun t221 => (some t221)) = some r := H
          have A21 := Aside0.mk A210
          clear A210
          replace H := Option.bind_eq_some_iff.mp H
          obtain ⟨t221, A220, H⟩ := H
          replace H : (some t221) = some r := H
          have A22 := Aside0.mk A220
          clear A220
          obtain rfl := Option.some.inj H
          go_wp2_with (first | ((with_reducible refine gate_callee (f := 28) rfl ?_); refine goesL_ (some 33) rfl rfl Tryz.func28 (by kernel_rfl) rfl #[.string a0] rfl mq ?_; (with_reducible refine (whole_split.calls a0 t212 t213 _ A13.out).mono ?_); rintro e w' ⟨rfl, ⟨nd, rfl⟩⟩; refine ⟨_, rfl, ?_⟩) | ((with_reducible refine gate_callee (f := 28) rfl ?_); refine goesL_ (some 38) rfl rfl Tryz.func28 (by kernel_rfl) rfl #[.string a1] rfl mq ?_; (with_reducible refine (whole_split.calls a1 t214 t215 _ A14.out).mono ?_); rintro e w' ⟨rfl, ⟨nd, rfl⟩⟩; refine ⟨_, rfl, ?_⟩) | ((with_reducible refine gate_callee (f := 43) rfl ?_); refine goesL_ (some 51) rfl rfl Tryz.func43 (by kernel_rfl) rfl #[.string t213, .string t215] rfl mq ?_; (with_reducible refine (decimal_Compare.calls t213 t215 t218 _ A19.out).mono ?_); rintro e w23 ⟨rfl, hb⟩; refine ⟨_, rfl, ?_⟩; replace HB := Aside0.mk (below_step bq hb); (try clear hb); (try clear hb2); (try clear hk); (try clear hi)) | ((with_reducible refine gate_callee (f := 44) rfl ?_); refine goesL_ (some 59) rfl rfl Tryz.func44 (by kernel_rfl) rfl #[.string t215, .string t213] rfl mq ?_; (with_reducible refine (decimal_Sub.calls (hT := HT.out.below bq) kj3 t215 t213 t219 t220 _ A21.out).mono ?_); rintro e w24 ⟨rfl, hb⟩; refine ⟨_, rfl, ?_⟩; replace HB := Aside0.mk (below_step bq hb); (try clear hb); (try clear hb2); (try clear hk); (try clear hi)) | ((with_reducible refine gate_callee (f := 30) rfl ?_); refine goesL_ (some 64) rfl rfl Tryz.func30 (by kernel_rfl) rfl #[.bool t214, .string t219] rfl mq ?_; (with_reducible refine (whole_join.calls t214 t219 t221 _ A22.out).mono ?_); rintro e w' ⟨rfl, ⟨nd, rfl⟩⟩; refine ⟨_, rfl, ?_⟩))
          go_ret
          exact ⟨eq_, bq⟩
        · rw [if_neg c20] at H
          have c20b0 : decide (t218 < 0) = false := decide_eq_false c20
          clear c20
          replace H := Option.bind_eq_some_iff.mp H
          obtain ⟨⟨t222, t223⟩, A250, H⟩ := H
          replace H : ((whole_join.f t212 t222).bind fun t224 => (some t224)) = some r := H
          have A25 := Aside0.mk A250
          clear A250
          replace H := Option.bind_eq_some_iff.mp H
          obtain ⟨t224, A260, H⟩ := H
          replace H : (some t224) = some r := H
          have A26 := Aside0.mk A260
          clear A260
          obtain rfl := Option.some.inj H
          go_wp2_with (first | ((with_reducible refine gate_callee (f := 28) rfl ?_); refine goesL_ (some 33) rfl rfl Tryz.func28 (by kernel_rfl) rfl #[.string a0] rfl mq ?_; (with_reducible refine (whole_split.calls a0 t212 t213 _ A13.out).mono ?_); rintro e w' ⟨rfl, ⟨nd, rfl⟩⟩; refine ⟨_, rfl, ?_⟩) | ((with_reducible refine gate_callee (f := 28) rfl ?_); refine goesL_ (some 38) rfl rfl Tryz.func28 (by kernel_rfl) rfl #[.string a1] rfl mq ?_; (with_reducible refine (whole_split.calls a1 t214 t215 _ A14.out).mono ?_); rintro e w' ⟨rfl, ⟨nd, rfl⟩⟩; refine ⟨_, rfl, ?_⟩) | ((with_reducible refine gate_callee (f := 43) rfl ?_); refine goesL_ (some 51) rfl rfl Tryz.func43 (by kernel_rfl) rfl #[.string t213, .string t215] rfl mq ?_; (with_reducible refine (decimal_Compare.calls t213 t215 t218 _ A19.out).mono ?_); rintro e w27 ⟨rfl, hb⟩; refine ⟨_, rfl, ?_⟩; replace HB := Aside0.mk (below_step bq hb); (try clear hb); (try clear hb2); (try clear hk); (try clear hi)) | ((with_reducible refine gate_callee (f := 44) rfl ?_); refine goesL_ (some 59) rfl rfl Tryz.func44 (by kernel_rfl) rfl #[.string t213, .string t215] rfl mq ?_; (with_reducible refine (decimal_Sub.calls (hT := HT.out.below bq) kj3 t213 t215 t222 t223 _ A25.out).mono ?_); rintro e w28 ⟨rfl, hb⟩; refine ⟨_, rfl, ?_⟩; replace HB := Aside0.mk (below_step bq hb); (try clear hb); (try clear hb2); (try clear hk); (try clear hi)) | ((with_reducible refine gate_callee (f := 30) rfl ?_); refine goesL_ (some 64) rfl rfl Tryz.func30 (by kernel_rfl) rfl #[.bool t212, .string t222] rfl mq ?_; (with_reducible refine (whole_join.calls t212 t222 t224 _ A26.out).mono ?_); rintro e w' ⟨rfl, ⟨nd, rfl⟩⟩; refine ⟨_, rfl, ?_⟩))
          go_ret
          exact ⟨eq_, bq⟩
end Go.Proofs.YtgicckcahhlbjaaGreatDoor.P
