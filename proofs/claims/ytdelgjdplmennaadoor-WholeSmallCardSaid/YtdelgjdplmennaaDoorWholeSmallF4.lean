/- Functions of the program, as functions of Lean, and the walks that show that the code answers as they do: written by a program. Conditions: those of each theorem. -/
import Derived.Test.YtdelgjdplmennaaDoorWholeSmallF3
namespace Go.Proofs.YtdelgjdplmennaaDoor.P
open Go.RowKit Go.Proofs.YtdelgjdplmennaaDoorW.PrintWords Go.Proofs.YtdelgjdplmennaaDoorW.PrintLast Go.Proofs.YtdelgjdplmennaaDoorW.PrintMore
attribute [local go_sem] gtr_text max2_int min2_int max_two min_two max_three min_three max_four min_four
set_option linter.unusedVariables false
set_option linter.unusedSimpArgs false
def decimal_DivMod.f (k : Nat) (a0 : ByteArray) (a1 : ByteArray) : Option (ByteArray × ByteArray × Int) := if a1.toList = ([48] : List UInt8) then (some ((⟨#[]⟩ : ByteArray), (⟨#[]⟩ : ByteArray), 17)) else ((decimal_both.f k a0 a1).bind fun bt227 => (if bt227.2.2 = true then (if bt227.2.1 = 0 then (none) else ((decimal_Of.f (IntKind.u64.wrap (Int.tdiv bt227.1 bt227.2.1))).bind fun t230 => ((decimal_Of.f (Int.tmod bt227.1 bt227.2.1)).bind fun t231 => (some (t230, t231, 0))))) else ((decimal_cut.f k a0).bind fun t232 => ((decimal_cut.f k a1).bind fun t235 => ((decimal_pieces_compare.f k t232 t235).bind fun t238 => (if t238 < 0 then (some ((⟨#[48]⟩ : ByteArray), a0, 0)) else (if (t235.length : Int) = 1 then (if 0 < (t235.length : Int) then ((decimal_pieces_small.f k t232 (rd t235 0)).bind fun bt240 => ((decimal_pieces_text.f k bt240.1).bind fun t244 => ((decimal_Of.f bt240.2).bind fun t245 => (some (t244, t245, 0))))) else (none)) else ((decimal_pieces_divide.f k t232 t235).bind fun bt246 => ((decimal_pieces_text.f k bt246.1).bind fun t252 => ((decimal_pieces_text.f k bt246.2).bind fun t253 => (some (t252, t253, 0))))))))))))
theorem decimal_DivMod.mono : ∀ a0 a1 k, LeO (decimal_DivMod.f k a0 a1) (decimal_DivMod.f (k + 1) a0 a1) := by
  intro a0 a1 k
  unfold decimal_DivMod.f
  repeat' first
      | (with_reducible exact decimal_both.mono _ _ _)
      | (with_reducible exact decimal_cut.mono _ _)
      | (with_reducible exact decimal_pieces_compare.mono _ _ _)
      | (with_reducible exact decimal_pieces_divide.mono _ _ _)
      | (with_reducible exact decimal_pieces_small.mono _ _ _)
      | (with_reducible exact decimal_pieces_text.mono _ _)
      | (with_reducible exact LeO.refl _)
      | (with_reducible exact LeO.none _)
      | (with_reducible refine LeO.ite ?_ ?_)
      | (with_reducible refine LeO.bind ?_ (fun _ => ?_))
      | exact decimal_both.mono _ _ _
      | exact decimal_cut.mono _ _
      | exact decimal_pieces_compare.mono _ _ _
      | exact decimal_pieces_divide.mono _ _ _
      | exact decimal_pieces_small.mono _ _ _
      | exact decimal_pieces_text.mono _ _
      | exact LeO.none _
      | refine LeO.ite ?_ ?_
      | refine LeO.bind ?_ (fun _ => ?_)
def decimal_DivMod.T5 : Bool × List (List Nat × List Nat) := (true, [([], []), ([], []), ([0, 1], [0, 1]), ([2], [2]), ([], []), ([], []), ([4, 5], [4, 5]), ([6, 3], [6]), ([3, 7, 0, 1, 2, 3], [3]), ([7, 8, 0, 1, 2, 3, 4, 5, 6, 7, 8], [7]), ([9, 0, 1, 2, 3, 4, 5, 6, 7, 8, 9], [])])
def decimal_DivMod.B5 : List Nat := [0, 0, 3, 7, 0, 0, 48, 127, 255, 511, 1023]
theorem decimal_DivMod.tab5 : rtab .any (opsOf Tryd.f41 5) = decimal_DivMod.T5 := by kernel_rfl
theorem decimal_DivMod.bits5 : waitsOk decimal_DivMod.T5.2 decimal_DivMod.B5 = true := by kernel_rfl
set_option maxHeartbeats 8000000 in
set_option maxRecDepth 100000 in
theorem decimal_DivMod.calls (k : Nat) (a0 : ByteArray) (a1 : ByteArray) (r1 : ByteArray) (r2 : ByteArray) (r3 : Int) (w : World) (hT : Tab w) (h : decimal_DivMod.f k a0 a1 = some (r1, r2, r3)) :
    Calls Tryd.prog 41 #[.string a0, .string a1] w fun e w' => e = .returned (.tuple #[.string r1, .string r2, .int .i64 r3]) ∧ Below w.heap.size w w' := by
  have HT := Aside0.mk hT
  clear hT
  have HB := Aside0.mk (Below.refl w.heap.size w)
  have H : (if a1.toList = ([48] : List UInt8) then (some ((⟨#[]⟩ : ByteArray), (⟨#[]⟩ : ByteArray), 17)) else ((decimal_both.f k a0 a1).bind fun bt227 => (if bt227.2.2 = true then (if bt227.2.1 = 0 then (none) else ((decimal_Of.f (IntKind.u64.wrap (Int.tdiv bt227.1 bt227.2.1))).bind fun t230 => ((decimal_Of.f (Int.tmod bt227.1 bt227.2.1)).bind fun t231 => (some (t230, t231, 0))))) else ((decimal_cut.f k a0).bind fun t232 => ((decimal_cut.f k a1).bind fun t235 => ((decimal_pieces_compare.f k t232 t235).bind fun t238 => (if t238 < 0 then (some ((⟨#[48]⟩ : ByteArray), a0, 0)) else (if (t235.length : Int) = 1 then (if 0 < (t235.length : Int) then ((decimal_pieces_small.f k t232 (rd t235 0)).bind fun bt240 => ((decimal_pieces_text.f k bt240.1).bind fun t244 => ((decimal_Of.f bt240.2).bind fun t245 => (some (t244, t245, 0))))) else (none)) else ((decimal_pieces_divide.f k t232 t235).bind fun bt246 => ((decimal_pieces_text.f k bt246.1).bind fun t252 => ((decimal_pieces_text.f k bt246.2).bind fun t253 => (some (t252, t253, 0))))))))))))) = some (r1, r2, r3) := h
  clear h
  by_cases c3 : a1.toList = ([48] : List UInt8)
  · rw [if_pos c3] at H
    have c3b0 : (a1.toList == ([48] : List UInt8)) = true := beq_iff_eq.mpr c3
    have c3b1 : (a1.toList != ([48] : List UInt8)) = false := bne_eq_false_iff_eq.mpr c3
    clear c3
    simp only [Option.some.injEq, Prod.mk.injEq] at H
    obtain ⟨rfl, rfl, rfl⟩ := H
    go_enter Tryd.func41, Tryd.ntmps41
    go_wp2
    go_ret3
    exact ⟨eq_, bq⟩
  · rw [if_neg c3] at H
    have c3b0 : (a1.toList == ([48] : List UInt8)) = false := beq_eq_false_iff_ne.mpr c3
    have c3b1 : (a1.toList != ([48] : List UInt8)) = true := bne_iff_ne.mpr c3
    replace H := Option.bind_eq_some_iff.mp H
    obtain ⟨⟨t227, t228, t229⟩, A40, H⟩ := H
    replace H : (if t229 = true then (if t228 = 0 then (none) else ((decimal_Of.f (IntKind.u64.wrap (Int.tdiv t227 t228))).bind fun t230 => ((decimal_Of.f (Int.tmod t227 t228)).bind fun t231 => (some (t230, t231, 0))))) else ((decimal_cut.f k a0).bind fun t232 => ((decimal_cut.f k a1).bind fun t235 => ((decimal_pieces_compare.f k t232 t235).bind fun t238 => (if t238 < 0 then (some ((⟨#[48]⟩ : ByteArray), a0, 0)) else (if (t235.length : Int) = 1 then (if 0 < (t235.length : Int) then ((decimal_pieces_small.f k t232 (rd t235 0)).bind fun bt240 => ((decimal_pieces_text.f k bt240.1).bind fun t244 => ((decimal_Of.f bt240.2).bind fun t245 => (some (t244, t245, 0))))) else (none)) else ((decimal_pieces_divide.f k t232 t235).bind fun bt246 => ((decimal_pieces_text.f k bt246.1).bind fun t252 => ((decimal_pieces_text.f k bt246.2).bind fun t253 => (some (t252, t253, 0))))))))))) = some (r1, r2, r3) := H
    have A4 := Aside0.mk A40
    clear A40
    by_cases c5 : t229 = true
    · subst c5
      have H1 : (if t228 = 0 then (none) else ((decimal_Of.f (IntKind.u64.wrap (Int.tdiv t227 t228))).bind fun t230 => ((decimal_Of.f (Int.tmod t227 t228)).bind fun t231 => (some (t230, t231, 0))))) = some (r1, r2, r3) := by rw [if_pos rfl] at H; exact H
      clear H
      have H := H1
      clear H1
      by_cases c6 : t228 = 0
      · rw [if_pos c6] at H
        exact absurd H (by simp)
      · rw [if_neg c6] at H
        have c6b0 : (t228 == 0) = false := beq_eq_false_iff_ne.mpr c6
        have c6b1 : (t228 != 0) = true := bne_iff_ne.mpr c6
        replace H := Option.bind_eq_some_iff.mp H
        obtain ⟨t230, A70, H⟩ := H
        replace H : ((decimal_Of.f (Int.tmod t227 t228)).bind fun t231 => (some (t230, t231, 0))) = some (r1, r2, r3) := H
        have A7 := Aside0.mk A70
        clear A70
        replace H := Option.bind_eq_some_iff.mp H
        obtain ⟨t231, A80, H⟩ := H
        replace H : (some (t230, t231, 0)) = some (r1, r2, r3) := H
        have A8 := Aside0.mk A80
        clear A80
        simp only [Option.some.injEq, Prod.mk.injEq] at H
        obtain ⟨rfl, rfl, rfl⟩ := H
        go_enter Tryd.func41, Tryd.ntmps41
        try go_wp2_with (first | ((with_reducible refine gate_callee (f := 58) rfl ?_); refine goesL_ (some 21) rfl rfl Tryd.func58 (by kernel_rfl) rfl #[.string a0, .string a1] rfl mq ?_; (with_reducible refine (decimal_both.calls (hT := HT.out.below bq) k a0 a1 t227 t228 true _ A4.out).mono ?_); rintro e w9 ⟨rfl, hb⟩; refine ⟨_, rfl, ?_⟩; replace HB := Aside0.mk (below_step bq hb); (try clear hb); (try clear hb2); (try clear hk); (try clear hi)))
        have n0_ := Aside0.mk (below_drew1 HB.out)
        clear HB
        have HB := n0_
        clear n0_
        refine start_ (n := 11) (S := fun w' => True) (ds := []) #[false, false, false, false, false, false, false, false, false, false, false] (by kernel_rfl) rfl rfl trivial (fun hHeld => ?_); refine with_tabW decimal_DivMod.tab5 decimal_DivMod.bits5 (fun HT_ HW_ => ?_)
        generalize w9.drew = w10 at HB hHeld ⊢
        refine pure_ (i := 0) (N := some 26) (v := ?_) (a' := ?_) #[true, false, false, false, false, false, false, false, false, false, false] rfl rfl (any_of HT_.out (by kernel_rfl)) (fun _ _ _ h => h) (Or.inl ⟨by rfl, ?_⟩) ?_ ?_
        rotate_left
        · intro w'
          go_simp
          with_reducible rfl
        rotate_left
        · simp only [Act.put, List.setIfInBounds_toArray, List.set_cons_zero, List.set_cons_succ, i64_w, i32_w]
          rfl
        refine pure_ (i := 1) (N := some 27) (v := ?_) (a' := ?_) #[true, true, false, false, false, false, false, false, false, false, false] rfl rfl (any_of HT_.out (by kernel_rfl)) (fun _ _ _ h => h) (Or.inl ⟨by rfl, ?_⟩) ?_ ?_
        rotate_left
        · intro w'
          go_simp
          with_reducible rfl
        rotate_left
        · simp only [Act.put, List.setIfInBounds_toArray, List.set_cons_zero, List.set_cons_succ, i64_w, i32_w]
          rfl
        refine pure_ (i := 2) (N := some 28) (v := ?_) (a' := ?_) #[true, true, true, false, false, false, false, false, false, false, false] rfl rfl (any_of HT_.out (by kernel_rfl)) (fun _ _ _ h => h) (Or.inl ⟨by rfl, ?_⟩) ?_ ?_
        rotate_left
        · intro w'
          go_simp
          with_reducible rfl
        rotate_left
        · simp only [Act.put, List.setIfInBounds_toArray, List.set_cons_zero, List.set_cons_succ, i64_w, i32_w]
          rfl
        refine pure_ (i := 4) (N := some 30) (v := ?_) (a' := ?_) #[true, true, true, false, true, false, false, false, false, false, false] rfl rfl (any_of HT_.out (by kernel_rfl)) (fun _ _ _ h => h) (Or.inl ⟨by rfl, ?_⟩) ?_ ?_
        rotate_left
        · intro w'
          go_simp
          with_reducible rfl
        rotate_left
        · simp only [Act.put, List.setIfInBounds_toArray, List.set_cons_zero, List.set_cons_succ, i64_w, i32_w]
          rfl
        refine pure_ (i := 5) (N := some 31) (v := ?_) (a' := ?_) #[true, true, true, false, true, true, false, false, false, false, false] rfl rfl (any_of HT_.out (by kernel_rfl)) (fun _ _ _ h => h) (Or.inl ⟨by rfl, ?_⟩) ?_ ?_
        rotate_left
        · intro w'
          go_simp
          with_reducible rfl
        rotate_left
        · simp only [Act.put, List.setIfInBounds_toArray, List.set_cons_zero, List.set_cons_succ, i64_w, i32_w]
          rfl
        refine pure_ (i := 6) (N := some 32) (v := ?_) (a' := ?_) #[true, true, true, false, true, true, true, false, false, false, false] rfl rfl (any_of HT_.out (by kernel_rfl)) (fun _ _ _ h => h) (Or.inl ⟨by rfl, ?_⟩) ?_ ?_
        rotate_left
        · intro w'
          go_simp
          with_reducible rfl
        rotate_left
        · simp only [Act.put, List.setIfInBounds_toArray, List.set_cons_zero, List.set_cons_succ, i64_w, i32_w]
          rfl
        refine one_ (i := 3) (N := some 29) #[true, true, true, true, true, true, true, false, false, false, false] rfl rfl (one_of HT_.out (by kernel_rfl)) (by decide) (fun K hK => ?_)
        refine goes_ Tryd.func59 (by kernel_rfl) rfl #[.int .u64 (IntKind.u64.wrap (Int.tdiv t227 t228))] (by rfl) rfl rfl mq ?_
        with_reducible refine (decimal_Of.calls (hT := HT.out.below bq) (IntKind.u64.wrap (Int.tdiv t227 t228)) t230 _ A7.out).mono ?_
        rintro e w11 ⟨rfl, hb⟩
        refine ⟨_, rfl, ?_⟩
        have n0_ := Aside0.mk (below_step bq hb)
        clear HB
        have HB := n0_
        clear n0_
        (try clear hb)
        (try clear hb2)
        (try clear hk)
        (try clear hi)
        refine hK.out _ _ trivial (fun hHeld => ?_)
        clear hK K
        refine norm_ (a' := ?_) ?_ ?_
        rotate_left
        · show Act.put _ (some 29) _ = _
          simp only [Act.put, List.setIfInBounds_toArray, List.set_cons_zero, List.set_cons_succ, i64_w, i32_w]
          rfl
        refine one_ (i := 7) (N := some 33) #[true, true, true, true, true, true, true, true, false, false, false] rfl rfl (one_of HT_.out (by kernel_rfl)) (by decide) (fun K hK => ?_)
        refine goes_ Tryd.func59 (by kernel_rfl) rfl #[.int .u64 (Int.tmod t227 t228)] (by rfl) rfl rfl mq ?_
        with_reducible refine (decimal_Of.calls (hT := HT.out.below bq) (Int.tmod t227 t228) t231 _ A8.out).mono ?_
        rintro e w12 ⟨rfl, hb⟩
        refine ⟨_, rfl, ?_⟩
        have n0_ := Aside0.mk (below_step bq hb)
        clear HB
        have HB := n0_
        clear n0_
        (try clear hb)
        (try clear hb2)
        (try clear hk)
        (try clear hi)
        refine hK.out _ _ trivial (fun hHeld => ?_)
        clear hK K
        refine norm_ (a' := ?_) ?_ ?_
        rotate_left
        · show Act.put _ (some 33) _ = _
          simp only [Act.put, List.setIfInBounds_toArray, List.set_cons_zero, List.set_cons_succ, i64_w, i32_w]
          rfl
        refine pure_ (i := 8) (N := some 4) (v := ?_) (a' := ?_) #[true, true, true, true, true, true, true, true, true, false, false] rfl rfl (any_of HT_.out (by kernel_rfl)) (fun _ _ _ h => h) (Or.inl ⟨by rfl, ?_⟩) ?_ ?_
        rotate_left
        · intro w'
          go_simp
          with_reducible rfl
        rotate_left
        · simp only [Act.put, List.setIfInBounds_toArray, List.set_cons_zero, List.set_cons_succ, i64_w, i32_w]
          rfl
        refine pure_ (i := 9) (N := some 5) (v := ?_) (a' := ?_) #[true, true, true, true, true, true, true, true, true, true, false] rfl rfl (any_of HT_.out (by kernel_rfl)) (fun _ _ _ h => h) (Or.inl ⟨by rfl, ?_⟩) ?_ ?_
        rotate_left
        · intro w'
          go_simp
          with_reducible rfl
        rotate_left
        · simp only [Act.put, List.setIfInBounds_toArray, List.set_cons_zero, List.set_cons_succ, i64_w, i32_w]
          rfl
        refine pure_ (i := 10) (N := some 6) (v := ?_) (a' := ?_) #[true, true, true, true, true, true, true, true, true, true, true] rfl rfl (any_of HT_.out (by kernel_rfl)) (fun _ _ _ h => h) (Or.inl ⟨by rfl, ?_⟩) ?_ ?_
        rotate_left
        · intro w'
          go_simp
          with_reducible rfl
        rotate_left
        · simp only [Act.put, List.setIfInBounds_toArray, List.set_cons_zero, List.set_cons_succ, i64_w, i32_w]
          rfl
        refine done_ (done_of HT_.out (by kernel_rfl)) ?_
        try go_wp2
        go_ret3
        exact ⟨eq_, bq⟩
    · replace c5 := Bool.eq_false_iff.mpr c5
      subst c5
      have H1 : ((decimal_cut.f k a0).bind fun t232 => ((decimal_cut.f k a1).bind fun t235 => ((decimal_pieces_compare.f k t232 t235).bind fun t238 => (if t238 < 0 then (some ((⟨#[48]⟩ : ByteArray), a0, 0)) else (if (t235.length : Int) = 1 then (if 0 < (t235.length : Int) then ((decimal_pieces_small.f k t232 (rd t235 0)).bind fun bt240 => ((decimal_pieces_text.f k bt240.1).bind fun t244 => ((decimal_Of.f bt240.2).bind fun t245 => (some (t244, t245, 0))))) else (none)) else ((decimal_pieces_divide.f k t232 t235).bind fun bt246 => ((decimal_pieces_text.f k bt246.1).bind fun t252 => ((decimal_pieces_text.f k bt246.2).bind fun t253 => (some (t252, t253, 0)))))))))) = some (r1, r2, r3) := by rw [if_neg (show ¬ (false = true) by decide)] at H; exact H
      clear H
      have H := H1
      clear H1
      replace H := Option.bind_eq_some_iff.mp H
      obtain ⟨t232, A130, H⟩ := H
      replace H : ((decimal_cut.f k a1).bind fun t235 => ((decimal_pieces_compare.f k t232 t235).bind fun t238 => (if t238 < 0 then (some ((⟨#[48]⟩ : ByteArray), a0, 0)) else (if (t235.length : Int) = 1 then (if 0 < (t235.length : Int) then ((decimal_pieces_small.f k t232 (rd t235 0)).bind fun bt240 => ((decimal_pieces_text.f k bt240.1).bind fun t244 => ((decimal_Of.f bt240.2).bind fun t245 => (some (t244, t245, 0))))) else (none)) else ((decimal_pieces_divide.f k t232 t235).bind fun bt246 => ((decimal_pieces_text.f k bt246.1).bind fun t252 => ((decimal_pieces_text.f k bt246.2).bind fun t253 => (some (t252, t253, 0))))))))) = some (r1, r2, r3) := H
      have A13 := Aside0.mk A130
      clear A130
      replace H := Option.bind_eq_some_iff.mp H
      obtain ⟨t235, A140, H⟩ := H
      replace H : ((decimal_pieces_compare.f k t232 t235).bind fun t238 => (if t238 < 0 then (some ((⟨#[48]⟩ : ByteArray), a0, 0)) else (if (t235.length : Int) = 1 then (if 0 < (t235.length : Int) then ((decimal_pieces_small.f k t232 (rd t235 0)).bind fun bt240 => ((decimal_pieces_text.f k bt240.1).bind fun t244 => ((decimal_Of.f bt240.2).bind fun t245 => (some (t244, t245, 0))))) else (none)) else ((decimal_pieces_divide.f k t232 t235).bind fun bt246 => ((decimal_pieces_text.f k bt246.1).bind fun t252 => ((decimal_pieces_text.f k bt246.2).bind fun t253 => (some (t252, t253, 0)))))))) = some (r1, r2, r3) := H
      have A14 := Aside0.mk A140
      clear A140
      replace H := Option.bind_eq_some_iff.mp H
      obtain ⟨t238, A150, H⟩ := H
      replace H : (if t238 < 0 then (some ((⟨#[48]⟩ : ByteArray), a0, 0)) else (if (t235.length : Int) = 1 then (if 0 < (t235.length : Int) then ((decimal_pieces_small.f k t232 (rd t235 0)).bind fun bt240 => ((decimal_pieces_text.f k bt240.1).bind fun t244 => ((decimal_Of.f bt240.2).bind fun t245 => (some (t244, t245, 0))))) else (none)) else ((decimal_pieces_divide.f k t232 t235).bind fun bt246 => ((decimal_pieces_text.f k bt246.1).bind fun t252 => ((decimal_pieces_text.f k bt246.2).bind fun t253 => (some (t252, t253, 0))))))) = some (r1, r2, r3) := H
      have A15 := Aside0.mk A150
      clear A150
      by_cases c16 : t238 < 0
      · rw [if_pos c16] at H
        have c16b0 : decide (t238 < 0) = true := decide_eq_true c16
        clear c16
        simp only [Option.some.injEq, Prod.mk.injEq] at H
        obtain ⟨rfl, rfl, rfl⟩ := H
        go_enter Tryd.func41, Tryd.ntmps41
        go_wp2_with (first | ((with_reducible refine gate_callee (f := 58) rfl ?_); refine goesL_ (some 21) rfl rfl Tryd.func58 (by kernel_rfl) rfl #[.string a0, .string a1] rfl mq ?_; (with_reducible refine (decimal_both.calls (hT := HT.out.below bq) k a0 a1 t227 t228 false _ A4.out).mono ?_); rintro e w17 ⟨rfl, hb⟩; refine ⟨_, rfl, ?_⟩; replace HB := Aside0.mk (below_step bq hb); (try clear hb); (try clear hb2); (try clear hk); (try clear hi)) | ((with_reducible refine gate_callee (f := 60) rfl ?_); refine goesL_ (some 35) rfl rfl Tryd.func60 (by kernel_rfl) rfl #[.string a0] rfl mq ?_; (with_reducible refine (decimal_cut.calls k a0 t232 _ A13.out).mono ?_); rintro e w18 ⟨v233, rfl, ho0, hb⟩; refine ⟨_, rfl, ?_⟩; have n0_ := Aside0.mk (Kd.R_lower ho0 (below_size bq)); have n1_ := Aside0.mk (below_step bq hb); clear HB; have HO234 := n0_; have HB := n1_; clear n0_ n1_; (try clear hb); (try clear hb2); (try clear hk); (try clear hi); (try clear ho0)) | ((with_reducible refine gate_callee (f := 60) rfl ?_); refine goesL_ (some 37) rfl rfl Tryd.func60 (by kernel_rfl) rfl #[.string a1] rfl mq ?_; (with_reducible refine (decimal_cut.calls k a1 t235 _ A14.out).mono ?_); rintro e w19 ⟨v236, rfl, ho0, hb⟩; refine ⟨_, rfl, ?_⟩; have n0_ := Aside0.mk (Kd.R_elder' (by (with_reducible repeat (first | apply Kd.R_alloc | apply Kd.R_drewN | apply Kd.R_drew)); exact HO234.out) (Kd.R_base ho0) hb); have n1_ := Aside0.mk (Kd.R_lower (Kd.R_new' ho0 (Kd.R_lt (by (with_reducible repeat (first | apply Kd.R_alloc | apply Kd.R_drewN | apply Kd.R_drew)); exact HO234.out))) (below_size bq)); have n2_ := Aside0.mk (below_step bq hb); clear HO234; clear HB; have HO234 := n0_; have HO237 := n1_; have HB := n2_; clear n0_ n1_ n2_; (try clear hb); (try clear hb2); (try clear hk); (try clear hi); (try clear ho0); obtain ⟨Ao20, co20, eo20⟩ := Kd.R_slice HO234.out; subst eo20; obtain ⟨Ao21, co21, eo21⟩ := Kd.R_slice HO237.out; subst eo21) | ((with_reducible refine gate_callee (f := 61) rfl ?_); refine goesL_ (some 40) rfl rfl Tryd.func61 (by kernel_rfl) rfl #[.slice Ao20 t232.length co20, .slice Ao21 t235.length co21] rfl mq ?_; (with_reducible refine (decimal_pieces_compare.calls k _ _ t232 _ _ t235 t238 _ ?side1 ?side2 ?side3 ?side4 A15.out).mono ?_); (case side1 => repeat (first | exact (Kd.R_reads' HO234.out).2.2 | (with_reducible refine Kd.C_alloc ?_ _) | (with_reducible refine Kd.C_drewN ?_ _) | (with_reducible refine Kd.C_drew ?_))); (case side2 => exact (Kd.R_reads' HO234.out).2.1); (case side3 => repeat (first | exact (Kd.R_reads' HO237.out).2.2 | (with_reducible refine Kd.C_alloc ?_ _) | (with_reducible refine Kd.C_drewN ?_ _) | (with_reducible refine Kd.C_drew ?_))); (case side4 => exact (Kd.R_reads' HO237.out).2.1); rintro e w22 ⟨rfl, hb⟩; refine ⟨_, rfl, ?_⟩; have n0_ := Aside0.mk (Kd.R_below (by (with_reducible repeat (first | apply Kd.R_alloc | apply Kd.R_drewN | apply Kd.R_drew)); exact HO234.out) hb); have n1_ := Aside0.mk (Kd.R_below (by (with_reducible repeat (first | apply Kd.R_alloc | apply Kd.R_drewN | apply Kd.R_drew)); exact HO237.out) hb); have n2_ := Aside0.mk (below_step bq hb); clear HO234; clear HO237; clear HB; have HO234 := n0_; have HO237 := n1_; have HB := n2_; clear n0_ n1_ n2_; (try clear hb); (try clear hb2); (try clear hk); (try clear hi)))
        go_ret3
        exact ⟨eq_, bq⟩
      · rw [if_neg c16] at H
        have c16b0 : decide (t238 < 0) = false := decide_eq_false c16
        clear c16
        by_cases c23 : (t235.length : Int) = 1
        · rw [if_pos c23] at H
          have c23b0 : ((t235.length : Int) == 1) = true := beq_iff_eq.mpr c23
          have c23b1 : ((t235.length : Int) != 1) = false := bne_eq_false_iff_eq.mpr c23
          clear c23
          by_cases c24 : 0 < (t235.length : Int)
          · rw [if_pos c24] at H
            have c24b0 : decide (0 < (t235.length : Int)) = true := decide_eq_true c24
            have c24b1 : decide (0 < t235.length) = true := decide_eq_true (by omega)
            clear c24
            replace H := Option.bind_eq_some_iff.mp H
            obtain ⟨⟨t240, t241⟩, A250, H⟩ := H
            replace H : ((decimal_pieces_text.f k t240).bind fun t244 => ((decimal_Of.f t241).bind fun t245 => (some (t244, t245, 0)))) = some (r1, r2, r3) := H
            have A25 := Aside0.mk A250
            clear A250
            replace H := Option.bind_eq_some_iff.mp H
            obtain ⟨t244, A260, H⟩ := H
            replace H : ((decimal_Of.f t241).bind fun t245 => (some (t244, t245, 0))) = some (r1, r2, r3) := H
            have A26 := Aside0.mk A260
            clear A260
            replace H := Option.bind_eq_some_iff.mp H
            obtain ⟨t245, A270, H⟩ := H
            replace H : (some (t244, t245, 0)) = some (r1, r2, r3) := H
            have A27 := Aside0.mk A270
            clear A270
            simp only [Option.some.injEq, Prod.mk.injEq] at H
            obtain ⟨rfl, rfl, rfl⟩ := H
            go_enter Tryd.func41, Tryd.ntmps41
            go_wp2_with (first | ((with_reducible refine gate_callee (f := 58) rfl ?_); refine goesL_ (some 21) rfl rfl Tryd.func58 (by kernel_rfl) rfl #[.string a0, .string a1] rfl mq ?_; (with_reducible refine (decimal_both.calls (hT := HT.out.below bq) k a0 a1 t227 t228 false _ A4.out).mono ?_); rintro e w28 ⟨rfl, hb⟩; refine ⟨_, rfl, ?_⟩; replace HB := Aside0.mk (below_step bq hb); (try clear hb); (try clear hb2); (try clear hk); (try clear hi)) | ((with_reducible refine gate_callee (f := 60) rfl ?_); refine goesL_ (some 35) rfl rfl Tryd.func60 (by kernel_rfl) rfl #[.string a0] rfl mq ?_; (with_reducible refine (decimal_cut.calls k a0 t232 _ A13.out).mono ?_); rintro e w29 ⟨v233, rfl, ho0, hb⟩; refine ⟨_, rfl, ?_⟩; have n0_ := Aside0.mk (Kd.R_lower ho0 (below_size bq)); have n1_ := Aside0.mk (below_step bq hb); clear HB; have HO234 := n0_; have HB := n1_; clear n0_ n1_; (try clear hb); (try clear hb2); (try clear hk); (try clear hi); (try clear ho0)) | ((with_reducible refine gate_callee (f := 60) rfl ?_); refine goesL_ (some 37) rfl rfl Tryd.func60 (by kernel_rfl) rfl #[.string a1] rfl mq ?_; (with_reducible refine (decimal_cut.calls k a1 t235 _ A14.out).mono ?_); rintro e w30 ⟨v236, rfl, ho0, hb⟩; refine ⟨_, rfl, ?_⟩; have n0_ := Aside0.mk (Kd.R_elder' (by (with_reducible repeat (first | apply Kd.R_alloc | apply Kd.R_drewN | apply Kd.R_drew)); exact HO234.out) (Kd.R_base ho0) hb); have n1_ := Aside0.mk (Kd.R_lower (Kd.R_new' ho0 (Kd.R_lt (by (with_reducible repeat (first | apply Kd.R_alloc | apply Kd.R_drewN | apply Kd.R_drew)); exact HO234.out))) (below_size bq)); have n2_ := Aside0.mk (below_step bq hb); clear HO234; clear HB; have HO234 := n0_; have HO237 := n1_; have HB := n2_; clear n0_ n1_ n2_; (try clear hb); (try clear hb2); (try clear hk); (try clear hi); (try clear ho0); obtain ⟨Ao31, co31, eo31⟩ := Kd.R_slice HO234.out; subst eo31; obtain ⟨Ao32, co32, eo32⟩ := Kd.R_slice HO237.out; subst eo32) | ((with_reducible refine gate_callee (f := 61) rfl ?_); refine goesL_ (some 40) rfl rfl Tryd.func61 (by kernel_rfl) rfl #[.slice Ao31 t232.length co31, .slice Ao32 t235.length co32] rfl mq ?_; (with_reducible refine (decimal_pieces_compare.calls k _ _ t232 _ _ t235 t238 _ ?side1 ?side2 ?side3 ?side4 A15.out).mono ?_); (case side1 => repeat (first | exact (Kd.R_reads' HO234.out).2.2 | (with_reducible refine Kd.C_alloc ?_ _) | (with_reducible refine Kd.C_drewN ?_ _) | (with_reducible refine Kd.C_drew ?_))); (case side2 => exact (Kd.R_reads' HO234.out).2.1); (case side3 => repeat (first | exact (Kd.R_reads' HO237.out).2.2 | (with_reducible refine Kd.C_alloc ?_ _) | (with_reducible refine Kd.C_drewN ?_ _) | (with_reducible refine Kd.C_drew ?_))); (case side4 => exact (Kd.R_reads' HO237.out).2.1); rintro e w33 ⟨rfl, hb⟩; refine ⟨_, rfl, ?_⟩; have n0_ := Aside0.mk (Kd.R_below (by (with_reducible repeat (first | apply Kd.R_alloc | apply Kd.R_drewN | apply Kd.R_drew)); exact HO234.out) hb); have n1_ := Aside0.mk (Kd.R_below (by (with_reducible repeat (first | apply Kd.R_alloc | apply Kd.R_drewN | apply Kd.R_drew)); exact HO237.out) hb); have n2_ := Aside0.mk (below_step bq hb); clear HO234; clear HO237; clear HB; have HO234 := n0_; have HO237 := n1_; have HB := n2_; clear n0_ n1_ n2_; (try clear hb); (try clear hb2); (try clear hk); (try clear hi); have p239 : 0 ≤ (0 : Int) := (by omega); have q239 : 0 < (t235.length : Int) := of_decide_eq_true (by first | (with_reducible assumption) | assumption); obtain ⟨ad239, e239, hx239_0⟩ := Kd.at_int (Kd.R_reads' HO237.out).2.2 0 p239 q239; cases e239; have qi239 : (0 < t235.length) = True := eq_true (by omega); (try rw [show ((0 : Int)).toNat = 0 from rfl] at hx239_0); (try rw [Addr.add_zero'] at hx239_0); replace p239 := eq_true p239; replace q239 := eq_true q239) | ((with_reducible refine gate_callee (f := 62) rfl ?_); refine goesL_ (some 51) rfl rfl Tryd.func62 (by kernel_rfl) rfl #[.slice Ao31 t232.length co31, .int .u64 (rd t235 0)] rfl mq ?_; (with_reducible refine (decimal_pieces_small.calls k _ _ t232 (rd t235 0) t240 t241 _ ?side1 ?side2 A25.out).mono ?_); (case side1 => repeat (first | exact (Kd.R_reads' HO234.out).2.2 | (with_reducible refine Kd.C_alloc ?_ _) | (with_reducible refine Kd.C_drewN ?_ _) | (with_reducible refine Kd.C_drew ?_))); (case side2 => exact (Kd.R_reads' HO234.out).2.1); rintro e w34 ⟨v242, rfl, ho0, hb⟩; refine ⟨_, rfl, ?_⟩; have n0_ := Aside0.mk (Kd.R_elder' (by (with_reducible repeat (first | apply Kd.R_alloc | apply Kd.R_drewN | apply Kd.R_drew)); exact HO234.out) (Kd.R_base ho0) hb); have n1_ := Aside0.mk (Kd.R_elder' (by (with_reducible repeat (first | apply Kd.R_alloc | apply Kd.R_drewN | apply Kd.R_drew)); exact HO237.out) (Kd.R_base ho0) hb); have n2_ := Aside0.mk (Kd.R_lower (Kd.R_new' (Kd.R_new' ho0 (Kd.R_lt (by (with_reducible repeat (first | apply Kd.R_alloc | apply Kd.R_drewN | apply Kd.R_drew)); exact HO234.out))) (Kd.R_lt (by (with_reducible repeat (first | apply Kd.R_alloc | apply Kd.R_drewN | apply Kd.R_drew)); exact HO237.out))) (below_size bq)); have n3_ := Aside0.mk (below_step bq hb); clear HO234; clear HO237; clear HB; have HO234 := n0_; have HO237 := n1_; have HO243 := n2_; have HB := n3_; clear n0_ n1_ n2_ n3_; (try clear hb); (try clear hb2); (try clear hk); (try clear hi); (try clear ho0); obtain ⟨Ao35, co35, eo35⟩ := Kd.R_slice HO243.out; subst eo35) | ((with_reducible refine gate_callee (f := 63) rfl ?_); refine goesL_ (some 55) rfl rfl Tryd.func63 (by kernel_rfl) rfl #[.slice Ao35 t240.length co35] rfl mq ?_; (with_reducible refine (decimal_pieces_text.calls k _ _ t240 t244 _ ?side1 ?side2 A26.out).mono ?_); (case side1 => repeat (first | exact (Kd.R_reads' HO243.out).2.2 | (with_reducible refine Kd.C_alloc ?_ _) | (with_reducible refine Kd.C_drewN ?_ _) | (with_reducible refine Kd.C_drew ?_))); (case side2 => exact (Kd.R_reads' HO243.out).2.1); rintro e w36 ⟨rfl, hb⟩; refine ⟨_, rfl, ?_⟩; have n0_ := Aside0.mk (Kd.R_below (by (with_reducible repeat (first | apply Kd.R_alloc | apply Kd.R_drewN | apply Kd.R_drew)); exact HO234.out) hb); have n1_ := Aside0.mk (Kd.R_below (by (with_reducible repeat (first | apply Kd.R_alloc | apply Kd.R_drewN | apply Kd.R_drew)); exact HO237.out) hb); have n2_ := Aside0.mk (Kd.R_below (by (with_reducible repeat (first | apply Kd.R_alloc | apply Kd.R_drewN | apply Kd.R_drew)); exact HO243.out) hb); have n3_ := Aside0.mk (below_step bq hb); clear HO234; clear HO237; clear HO243; clear HB; have HO234 := n0_; have HO237 := n1_; have HO243 := n2_; have HB := n3_; clear n0_ n1_ n2_ n3_; (try clear hb); (try clear hb2); (try clear hk); (try clear hi)) | ((with_reducible refine gate_callee (f := 59) rfl ?_); refine goesL_ (some 57) rfl rfl Tryd.func59 (by kernel_rfl) rfl #[.int .u64 t241] rfl mq ?_; (with_reducible refine (decimal_Of.calls (hT := HT.out.below bq) t241 t245 _ A27.out).mono ?_); rintro e w37 ⟨rfl, hb⟩; refine ⟨_, rfl, ?_⟩; have n0_ := Aside0.mk (Kd.R_below (by (with_reducible repeat (first | apply Kd.R_alloc | apply Kd.R_drewN | apply Kd.R_drew)); exact HO234.out) hb); have n1_ := Aside0.mk (Kd.R_below (by (with_reducible repeat (first | apply Kd.R_alloc | apply Kd.R_drewN | apply Kd.R_drew)); exact HO237.out) hb); have n2_ := Aside0.mk (Kd.R_below (by (with_reducible repeat (first | apply Kd.R_alloc | apply Kd.R_drewN | apply Kd.R_drew)); exact HO243.out) hb); have n3_ := Aside0.mk (below_step bq hb); clear HO234; clear HO237; clear HO243; clear HB; have HO234 := n0_; have HO237 := n1_; have HO243 := n2_; have HB := n3_; clear n0_ n1_ n2_ n3_; (try clear hb); (try clear hb2); (try clear hk); (try clear hi)))
            go_ret3
            exact ⟨eq_, bq⟩
          · rw [if_neg c24] at H
            exact absurd H (by simp)
        · rw [if_neg c23] at H
          have c23b0 : ((t235.length : Int) == 1) = false := beq_eq_false_iff_ne.mpr c23
          have c23b1 : ((t235.length : Int) != 1) = true := bne_iff_ne.mpr c23
          replace H := Option.bind_eq_some_iff.mp H
          obtain ⟨⟨t246, t247⟩, A380, H⟩ := H
          replace H : ((decimal_pieces_text.f k t246).bind fun t252 => ((decimal_pieces_text.f k t247).bind fun t253 => (some (t252, t253, 0)))) = some (r1, r2, r3) := H
          have A38 := Aside0.mk A380
          clear A380
          replace H := Option.bind_eq_some_iff.mp H
          obtain ⟨t252, A390, H⟩ := H
          replace H : ((decimal_pieces_text.f k t247).bind fun t253 => (some (t252, t253, 0))) = some (r1, r2, r3) := H
          have A39 := Aside0.mk A390
          clear A390
          replace H := Option.bind_eq_some_iff.mp H
          obtain ⟨t253, A400, H⟩ := H
          replace H : (some (t252, t253, 0)) = some (r1, r2, r3) := H
          have A40 := Aside0.mk A400
          clear A400
          simp only [Option.some.injEq, Prod.mk.injEq] at H
          obtain ⟨rfl, rfl, rfl⟩ := H
          go_enter Tryd.func41, Tryd.ntmps41
          go_wp2_with (first | ((with_reducible refine gate_callee (f := 58) rfl ?_); refine goesL_ (some 21) rfl rfl Tryd.func58 (by kernel_rfl) rfl #[.string a0, .string a1] rfl mq ?_; (with_reducible refine (decimal_both.calls (hT := HT.out.below bq) k a0 a1 t227 t228 false _ A4.out).mono ?_); rintro e w41 ⟨rfl, hb⟩; refine ⟨_, rfl, ?_⟩; replace HB := Aside0.mk (below_step bq hb); (try clear hb); (try clear hb2); (try clear hk); (try clear hi)) | ((with_reducible refine gate_callee (f := 60) rfl ?_); refine goesL_ (some 35) rfl rfl Tryd.func60 (by kernel_rfl) rfl #[.string a0] rfl mq ?_; (with_reducible refine (decimal_cut.calls k a0 t232 _ A13.out).mono ?_); rintro e w42 ⟨v233, rfl, ho0, hb⟩; refine ⟨_, rfl, ?_⟩; have n0_ := Aside0.mk (Kd.R_lower ho0 (below_size bq)); have n1_ := Aside0.mk (below_step bq hb); clear HB; have HO234 := n0_; have HB := n1_; clear n0_ n1_; (try clear hb); (try clear hb2); (try clear hk); (try clear hi); (try clear ho0)) | ((with_reducible refine gate_callee (f := 60) rfl ?_); refine goesL_ (some 37) rfl rfl Tryd.func60 (by kernel_rfl) rfl #[.string a1] rfl mq ?_; (with_reducible refine (decimal_cut.calls k a1 t235 _ A14.out).mono ?_); rintro e w43 ⟨v236, rfl, ho0, hb⟩; refine ⟨_, rfl, ?_⟩; have n0_ := Aside0.mk (Kd.R_elder' (by (with_reducible repeat (first | apply Kd.R_alloc | apply Kd.R_drewN | apply Kd.R_drew)); exact HO234.out) (Kd.R_base ho0) hb); have n1_ := Aside0.mk (Kd.R_lower (Kd.R_new' ho0 (Kd.R_lt (by (with_reducible repeat (first | apply Kd.R_alloc | apply Kd.R_drewN | apply Kd.R_drew)); exact HO234.out))) (below_size bq)); have n2_ := Aside0.mk (below_step bq hb); clear HO234; clear HB; have HO234 := n0_; have HO237 := n1_; have HB := n2_; clear n0_ n1_ n2_; (try clear hb); (try clear hb2); (try clear hk); (try clear hi); (try clear ho0); obtain ⟨Ao44, co44, eo44⟩ := Kd.R_slice HO234.out; subst eo44; obtain ⟨Ao45, co45, eo45⟩ := Kd.R_slice HO237.out; subst eo45) | ((with_reducible refine gate_callee (f := 61) rfl ?_); refine goesL_ (some 40) rfl rfl Tryd.func61 (by kernel_rfl) rfl #[.slice Ao44 t232.length co44, .slice Ao45 t235.length co45] rfl mq ?_; (with_reducible refine (decimal_pieces_compare.calls k _ _ t232 _ _ t235 t238 _ ?side1 ?side2 ?side3 ?side4 A15.out).mono ?_); (case side1 => repeat (first | exact (Kd.R_reads' HO234.out).2.2 | (with_reducible refine Kd.C_alloc ?_ _) | (with_reducible refine Kd.C_drewN ?_ _) | (with_reducible refine Kd.C_drew ?_))); (case side2 => exact (Kd.R_reads' HO234.out).2.1); (case side3 => repeat (first | exact (Kd.R_reads' HO237.out).2.2 | (with_reducible refine Kd.C_alloc ?_ _) | (with_reducible refine Kd.C_drewN ?_ _) | (with_reducible refine Kd.C_drew ?_))); (case side4 => exact (Kd.R_reads' HO237.out).2.1); rintro e w46 ⟨rfl, hb⟩; refine ⟨_, rfl, ?_⟩; have n0_ := Aside0.mk (Kd.R_below (by (with_reducible repeat (first | apply Kd.R_alloc | apply Kd.R_drewN | apply Kd.R_drew)); exact HO234.out) hb); have n1_ := Aside0.mk (Kd.R_below (by (with_reducible repeat (first | apply Kd.R_alloc | apply Kd.R_drewN | apply Kd.R_drew)); exact HO237.out) hb); have n2_ := Aside0.mk (below_step bq hb); clear HO234; clear HO237; clear HB; have HO234 := n0_; have HO237 := n1_; have HB := n2_; clear n0_ n1_ n2_; (try clear hb); (try clear hb2); (try clear hk); (try clear hi)) | ((with_reducible refine gate_callee (f := 64) rfl ?_); refine goesL_ (some 61) rfl rfl Tryd.func64 (by kernel_rfl) rfl #[.slice Ao44 t232.length co44, .slice Ao45 t235.length co45] rfl mq ?_; (with_reducible refine (decimal_pieces_divide.calls k _ _ t232 _ _ t235 t246 t247 _ ?side1 ?side2 ?side3 ?side4 A38.out).mono ?_); (case side1 => repeat (first | exact (Kd.R_reads' HO234.out).2.2 | (with_reducible refine Kd.C_alloc ?_ _) | (with_reducible refine Kd.C_drewN ?_ _) | (with_reducible refine Kd.C_drew ?_))); (case side2 => exact (Kd.R_reads' HO234.out).2.1); (case side3 => repeat (first | exact (Kd.R_reads' HO237.out).2.2 | (with_reducible refine Kd.C_alloc ?_ _) | (with_reducible refine Kd.C_drewN ?_ _) | (with_reducible refine Kd.C_drew ?_))); (case side4 => exact (Kd.R_reads' HO237.out).2.1); rintro e w47 ⟨v248, v250, rfl, ho0, ho1, hb⟩; refine ⟨_, rfl, ?_⟩; have n0_ := Aside0.mk (Kd.R_mono (Kd.R_told (Kd.R_told (Kd.R_old (by (with_reducible repeat (first | apply Kd.R_alloc | apply Kd.R_drewN | apply Kd.R_drew)); exact HO234.out) hb) (Kd.R_base ho0)) (Kd.R_base ho1)) (fun _ h_ => h_.1)); have n1_ := Aside0.mk (Kd.R_mono (Kd.R_told (Kd.R_told (Kd.R_old (by (with_reducible repeat (first | apply Kd.R_alloc | apply Kd.R_drewN | apply Kd.R_drew)); exact HO237.out) hb) (Kd.R_base ho0)) (Kd.R_base ho1)) (fun _ h_ => h_.1)); have n2_ := Aside0.mk (Kd.R_lower (Kd.R_new' (Kd.R_new' ho0 (Kd.R_lt (by (with_reducible repeat (first | apply Kd.R_alloc | apply Kd.R_drewN | apply Kd.R_drew)); exact HO234.out))) (Kd.R_lt (by (with_reducible repeat (first | apply Kd.R_alloc | apply Kd.R_drewN | apply Kd.R_drew)); exact HO237.out))) (below_size bq)); have n3_ := Aside0.mk (Kd.R_lower (Kd.R_new' (Kd.R_new' ho1 (Kd.R_lt (by (with_reducible repeat (first | apply Kd.R_alloc | apply Kd.R_drewN | apply Kd.R_drew)); exact HO234.out))) (Kd.R_lt (by (with_reducible repeat (first | apply Kd.R_alloc | apply Kd.R_drewN | apply Kd.R_drew)); exact HO237.out))) (below_size bq)); have n4_ := Aside0.mk (below_step bq hb); clear HO234; clear HO237; clear HB; have HO234 := n0_; have HO237 := n1_; have HO249 := n2_; have HO251 := n3_; have HB := n4_; clear n0_ n1_ n2_ n3_ n4_; (try clear hb); (try clear hb2); (try clear hk); (try clear hi); (try clear ho0); (try clear ho1); obtain ⟨Ao48, co48, eo48⟩ := Kd.R_slice HO249.out; subst eo48) | ((with_reducible refine gate_callee (f := 63) rfl ?_); refine goesL_ (some 65) rfl rfl Tryd.func63 (by kernel_rfl) rfl #[.slice Ao48 t246.length co48] rfl mq ?_; (with_reducible refine (decimal_pieces_text.calls k _ _ t246 t252 _ ?side1 ?side2 A39.out).mono ?_); (case side1 => repeat (first | exact (Kd.R_reads' HO249.out).2.2 | (with_reducible refine Kd.C_alloc ?_ _) | (with_reducible refine Kd.C_drewN ?_ _) | (with_reducible refine Kd.C_drew ?_))); (case side2 => exact (Kd.R_reads' HO249.out).2.1); rintro e w49 ⟨rfl, hb⟩; refine ⟨_, rfl, ?_⟩; have n0_ := Aside0.mk (Kd.R_below (by (with_reducible repeat (first | apply Kd.R_alloc | apply Kd.R_drewN | apply Kd.R_drew)); exact HO234.out) hb); have n1_ := Aside0.mk (Kd.R_below (by (with_reducible repeat (first | apply Kd.R_alloc | apply Kd.R_drewN | apply Kd.R_drew)); exact HO237.out) hb); have n2_ := Aside0.mk (Kd.R_below (by (with_reducible repeat (first | apply Kd.R_alloc | apply Kd.R_drewN | apply Kd.R_drew)); exact HO249.out) hb); have n3_ := Aside0.mk (Kd.R_below (by (with_reducible repeat (first | apply Kd.R_alloc | apply Kd.R_drewN | apply Kd.R_drew)); exact HO251.out) hb); have n4_ := Aside0.mk (below_step bq hb); clear HO234; clear HO237; clear HO249; clear HO251; clear HB; have HO234 := n0_; have HO237 := n1_; have HO249 := n2_; have HO251 := n3_; have HB := n4_; clear n0_ n1_ n2_ n3_ n4_; (try clear hb); (try clear hb2); (try clear hk); (try clear hi); obtain ⟨Ao50, co50, eo50⟩ := Kd.R_slice HO251.out; subst eo50) | ((with_reducible refine gate_callee (f := 63) rfl ?_); refine goesL_ (some 67) rfl rfl Tryd.func63 (by kernel_rfl) rfl #[.slice Ao50 t247.length co50] rfl mq ?_; (with_reducible refine (decimal_pieces_text.calls k _ _ t247 t253 _ ?side1 ?side2 A40.out).mono ?_); (case side1 => repeat (first | exact (Kd.R_reads' HO251.out).2.2 | (with_reducible refine Kd.C_alloc ?_ _) | (with_reducible refine Kd.C_drewN ?_ _) | (with_reducible refine Kd.C_drew ?_))); (case side2 => exact (Kd.R_reads' HO251.out).2.1); rintro e w51 ⟨rfl, hb⟩; refine ⟨_, rfl, ?_⟩; have n0_ := Aside0.mk (Kd.R_below (by (with_reducible repeat (first | apply Kd.R_alloc | apply Kd.R_drewN | apply Kd.R_drew)); exact HO234.out) hb); have n1_ := Aside0.mk (Kd.R_below (by (with_reducible repeat (first | apply Kd.R_alloc | apply Kd.R_drewN | apply Kd.R_drew)); exact HO237.out) hb); have n2_ := Aside0.mk (Kd.R_below (by (with_reducible repeat (first | apply Kd.R_alloc | apply Kd.R_drewN | apply Kd.R_drew)); exact HO249.out) hb); have n3_ := Aside0.mk (Kd.R_below (by (with_reducible repeat (first | apply Kd.R_alloc | apply Kd.R_drewN | apply Kd.R_drew)); exact HO251.out) hb); have n4_ := Aside0.mk (below_step bq hb); clear HO234; clear HO237; clear HO249; clear HO251; clear HB; have HO234 := n0_; have HO237 := n1_; have HO249 := n2_; have HO251 := n3_; have HB := n4_; clear n0_ n1_ n2_ n3_ n4_; (try clear hb); (try clear hb2); (try clear hk); (try clear hi)))
          go_ret3
          exact ⟨eq_, bq⟩
def decimal_Add.f (k : Nat) (a0 : ByteArray) (a1 : ByteArray) : Option (ByteArray) := (decimal_both.f k a0 a1).bind fun bt254 => (if bt254.2.2 = true then ((decimal_Of.f (IntKind.u64.wrap (bt254.1 + bt254.2.1))).bind fun t257 => (some t257)) else ((decimal_cut.f k a0).bind fun t258 => ((decimal_cut.f k a1).bind fun t261 => (if (t258.length : Int) < (t261.length : Int) then (if t261.length < 17592186044416 then ((some (t261 ++ [0] : List Int)).bind fun y264 => (if 0 ≤ (wrap64 ((wrap64 ((y264.length : Int) - 1)) - (t258.length : Int))) then (if t258.length + (wrap64 ((wrap64 ((y264.length : Int) - 1)) - (t258.length : Int)) : Int).toNat < 17592186044416 then ((decimal_pieces_back.f k y264 (t258 ++ List.replicate (wrap64 ((wrap64 ((y264.length : Int) - 1)) - (t258.length : Int)) : Int).toNat 0) 0).bind fun t270 => ((decimal_pieces_trim.f k t270).bind fun t271 => ((decimal_pieces_text.f k t271).bind fun t274 => (some t274)))) else (none)) else (none))) else (none)) else (if t258.length < 17592186044416 then ((some (t258 ++ [0] : List Int)).bind fun y275 => (if 0 ≤ (wrap64 ((wrap64 ((y275.length : Int) - 1)) - (t261.length : Int))) then (if t261.length + (wrap64 ((wrap64 ((y275.length : Int) - 1)) - (t261.length : Int)) : Int).toNat < 17592186044416 then ((decimal_pieces_back.f k y275 (t261 ++ List.replicate (wrap64 ((wrap64 ((y275.length : Int) - 1)) - (t261.length : Int)) : Int).toNat 0) 0).bind fun t281 => ((decimal_pieces_trim.f k t281).bind fun t282 => ((decimal_pieces_text.f k t282).bind fun t285 => (some t285)))) else (none)) else (none))) else (none))))))
theorem decimal_Add.mono : ∀ a0 a1 k, LeO (decimal_Add.f k a0 a1) (decimal_Add.f (k + 1) a0 a1) := by
  intro a0 a1 k
  unfold decimal_Add.f
  repeat' first
      | (with_reducible exact decimal_both.mono _ _ _)
      | (with_reducible exact decimal_cut.mono _ _)
      | (with_reducible exact decimal_pieces_back.mono _ _ _ _)
      | (with_reducible exact decimal_pieces_text.mono _ _)
      | (with_reducible exact decimal_pieces_trim.mono _ _)
      | (with_reducible exact LeO.refl _)
      | (with_reducible exact LeO.none _)
      | (with_reducible refine LeO.ite ?_ ?_)
      | (with_reducible refine LeO.bind ?_ (fun _ => ?_))
      | exact decimal_both.mono _ _ _
      | exact decimal_cut.mono _ _
      | exact decimal_pieces_back.mono _ _ _ _
      | exact decimal_pieces_text.mono _ _
      | exact decimal_pieces_trim.mono _ _
      | exact LeO.none _
      | refine LeO.ite ?_ ?_
      | refine LeO.bind ?_ (fun _ => ?_)
set_option maxHeartbeats 8000000 in
set_option maxRecDepth 100000 in
theorem decimal_Add.calls (k : Nat) (a0 : ByteArray) (a1 : ByteArray) (r : ByteArray) (w : World) (hT : Tab w) (h : decimal_Add.f k a0 a1 = some r) :
    Calls Tryd.prog 42 #[.string a0, .string a1] w fun e w' => e = .returned (.string r) ∧ Below w.heap.size w w' := by
  have HT := Aside0.mk hT
  clear hT
  have HB := Aside0.mk (Below.refl w.heap.size w)
  have H : ((decimal_both.f k a0 a1).bind fun bt254 => (if bt254.2.2 = true then ((decimal_Of.f (IntKind.u64.wrap (bt254.1 + bt254.2.1))).bind fun t257 => (some t257)) else ((decimal_cut.f k a0).bind fun t258 => ((decimal_cut.f k a1).bind fun t261 => (if (t258.length : Int) < (t261.length : Int) then (if t261.length < 17592186044416 then ((some (t261 ++ [0] : List Int)).bind fun y264 => (if 0 ≤ (wrap64 ((wrap64 ((y264.length : Int) - 1)) - (t258.length : Int))) then (if t258.length + (wrap64 ((wrap64 ((y264.length : Int) - 1)) - (t258.length : Int)) : Int).toNat < 17592186044416 then ((decimal_pieces_back.f k y264 (t258 ++ List.replicate (wrap64 ((wrap64 ((y264.length : Int) - 1)) - (t258.length : Int)) : Int).toNat 0) 0).bind fun t270 => ((decimal_pieces_trim.f k t270).bind fun t271 => ((decimal_pieces_text.f k t271).bind fun t274 => (some t274)))) else (none)) else (none))) else (none)) else (if t258.length < 17592186044416 then ((some (t258 ++ [0] : List Int)).bind fun y275 => (if 0 ≤ (wrap64 ((wrap64 ((y275.length : Int) - 1)) - (t261.length : Int))) then (if t261.length + (wrap64 ((wrap64 ((y275.length : Int) - 1)) - (t261.length : Int)) : Int).toNat < 17592186044416 then ((decimal_pieces_back.f k y275 (t261 ++ List.replicate (wrap64 ((wrap64 ((y275.length : Int) - 1)) - (t261.length : Int)) : Int).toNat 0) 0).bind fun t281 => ((decimal_pieces_trim.f k t281).bind fun t282 => ((decimal_pieces_text.f k t282).bind fun t285 => (some t285)))) else (none)) else (none))) else (none))))))) = some r := h
  clear h
  replace H := Option.bind_eq_some_iff.mp H
  obtain ⟨⟨t254, t255, t256⟩, A30, H⟩ := H
  replace H : (if t256 = true then ((decimal_Of.f (IntKind.u64.wrap (t254 + t255))).bind fun t257 => (some t257)) else ((decimal_cut.f k a0).bind fun t258 => ((decimal_cut.f k a1).bind fun t261 => (if (t258.length : Int) < (t261.length : Int) then (if t261.length < 17592186044416 then ((some (t261 ++ [0] : List Int)).bind fun y264 => (if 0 ≤ (wrap64 ((wrap64 ((y264.length : Int) - 1)) - (t258.length : Int))) then (if t258.length + (wrap64 ((wrap64 ((y264.length : Int) - 1)) - (t258.length : Int)) : Int).toNat < 17592186044416 then ((decimal_pieces_back.f k y264 (t258 ++ List.replicate (wrap64 ((wrap64 ((y264.length : Int) - 1)) - (t258.length : Int)) : Int).toNat 0) 0).bind fun t270 => ((decimal_pieces_trim.f k t270).bind fun t271 => ((decimal_pieces_text.f k t271).bind fun t274 => (some t274)))) else (none)) else (none))) else (none)) else (if t258.length < 17592186044416 then ((some (t258 ++ [0] : List Int)).bind fun y275 => (if 0 ≤ (wrap64 ((wrap64 ((y275.length : Int) - 1)) - (t261.length : Int))) then (if t261.length + (wrap64 ((wrap64 ((y275.length : Int) - 1)) - (t261.length : Int)) : Int).toNat < 17592186044416 then ((decimal_pieces_back.f k y275 (t261 ++ List.replicate (wrap64 ((wrap64 ((y275.length : Int) - 1)) - (t261.length : Int)) : Int).toNat 0) 0).bind fun t281 => ((decimal_pieces_trim.f k t281).bind fun t282 => ((decimal_pieces_text.f k t282).bind fun t285 => (some t285)))) else (none)) else (none))) else (none)))))) = some r := H
  have A3 := Aside0.mk A30
  clear A30
  by_cases c4 : t256 = true
  · subst c4
    have H1 : ((decimal_Of.f (IntKind.u64.wrap (t254 + t255))).bind fun t257 => (some t257)) = some r := by rw [if_pos rfl] at H; exact H
    clear H
    have H := H1
    clear H1
    replace H := Option.bind_eq_some_iff.mp H
    obtain ⟨t257, A50, H⟩ := H
    replace H : (some t257) = some r := H
    have A5 := Aside0.mk A50
    clear A50
    obtain rfl := Option.some.inj H
    go_enter Tryd.func42, Tryd.ntmps42
    go_wp2_with (first | ((with_reducible refine gate_callee (f := 58) rfl ?_); refine goesL_ (some 13) rfl rfl Tryd.func58 (by kernel_rfl) rfl #[.string a0, .string a1] rfl mq ?_; (with_reducible refine (decimal_both.calls (hT := HT.out.below bq) k a0 a1 t254 t255 true _ A3.out).mono ?_); rintro e w6 ⟨rfl, hb⟩; refine ⟨_, rfl, ?_⟩; replace HB := Aside0.mk (below_step bq hb); (try clear hb); (try clear hb2); (try clear hk); (try clear hi)) | ((with_reducible refine gate_callee (f := 59) rfl ?_); refine goesL_ (some 21) rfl rfl Tryd.func59 (by kernel_rfl) rfl #[.int .u64 (IntKind.u64.wrap (t254 + t255))] rfl mq ?_; (with_reducible refine (decimal_Of.calls (hT := HT.out.below bq) (IntKind.u64.wrap (t254 + t255)) t257 _ A5.out).mono ?_); rintro e w7 ⟨rfl, hb⟩; refine ⟨_, rfl, ?_⟩; replace HB := Aside0.mk (below_step bq hb); (try clear hb); (try clear hb2); (try clear hk); (try clear hi)))
    go_ret
    exact ⟨eq_, bq⟩
  · replace c4 := Bool.eq_false_iff.mpr c4
    subst c4
    have H1 : ((decimal_cut.f k a0).bind fun t258 => ((decimal_cut.f k a1).bind fun t261 => (if (t258.length : Int) < (t261.length : Int) then (if t261.length < 17592186044416 then ((some (t261 ++ [0] : List Int)).bind fun y264 => (if 0 ≤ (wrap64 ((wrap64 ((y264.length : Int) - 1)) - (t258.length : Int))) then (if t258.length + (wrap64 ((wrap64 ((y264.length : Int) - 1)) - (t258.length : Int)) : Int).toNat < 17592186044416 then ((decimal_pieces_back.f k y264 (t258 ++ List.replicate (wrap64 ((wrap64 ((y264.length : Int) - 1)) - (t258.length : Int)) : Int).toNat 0) 0).bind fun t270 => ((decimal_pieces_trim.f k t270).bind fun t271 => ((decimal_pieces_text.f k t271).bind fun t274 => (some t274)))) else (none)) else (none))) else (none)) else (if t258.length < 17592186044416 then ((some (t258 ++ [0] : List Int)).bind fun y275 => (if 0 ≤ (wrap64 ((wrap64 ((y275.length : Int) - 1)) - (t261.length : Int))) then (if t261.length + (wrap64 ((wrap64 ((y275.length : Int) - 1)) - (t261.length : Int)) : Int).toNat < 17592186044416 then ((decimal_pieces_back.f k y275 (t261 ++ List.replicate (wrap64 ((wrap64 ((y275.length : Int) - 1)) - (t261.length : Int)) : Int).toNat 0) 0).bind fun t281 => ((decimal_pieces_trim.f k t281).bind fun t282 => ((decimal_pieces_text.f k t282).bind fun t285 => (some t285)))) else (none)) else (none))) else (none))))) = some r := by rw [if_neg (show ¬ (false = true) by decide)] at H; exact H
    clear H
    have H := H1
    clear H1
    replace H := Option.bind_eq_some_iff.mp H
    obtain ⟨t258, A80, H⟩ := H
    replace H : ((decimal_cut.f k a1).bind fun t261 => (if (t258.length : Int) < (t261.length : Int) then (if t261.length < 17592186044416 then ((some (t261 ++ [0] : List Int)).bind fun y264 => (if 0 ≤ (wrap64 ((wrap64 ((y264.length : Int) - 1)) - (t258.length : Int))) then (if t258.length + (wrap64 ((wrap64 ((y264.length : Int) - 1)) - (t258.length : Int)) : Int).toNat < 17592186044416 then ((decimal_pieces_back.f k y264 (t258 ++ List.replicate (wrap64 ((wrap64 ((y264.length : Int) - 1)) - (t258.length : Int)) : Int).toNat 0) 0).bind fun t270 => ((decimal_pieces_trim.f k t270).bind fun t271 => ((decimal_pieces_text.f k t271).bind fun t274 => (some t274)))) else (none)) else (none))) else (none)) else (if t258.length < 17592186044416 then ((some (t258 ++ [0] : List Int)).bind fun y275 => (if 0 ≤ (wrap64 ((wrap64 ((y275.length : Int) - 1)) - (t261.length : Int))) then (if t261.length + (wrap64 ((wrap64 ((y275.length : Int) - 1)) - (t261.length : Int)) : Int).toNat < 17592186044416 then ((decimal_pieces_back.f k y275 (t261 ++ List.replicate (wrap64 ((wrap64 ((y275.length : Int) - 1)) - (t261.length : Int)) : Int).toNat 0) 0).bind fun t281 => ((decimal_pieces_trim.f k t281).bind fun t282 => ((decimal_pieces_text.f k t282).bind fun t285 => (some t285)))) else (none)) else (none))) else (none)))) = some r := H
    have A8 := Aside0.mk A80
    clear A80
    replace H := Option.bind_eq_some_iff.mp H
    obtain ⟨t261, A90, H⟩ := H
    replace H : (if (t258.length : Int) < (t261.length : Int) then (if t261.length < 17592186044416 then ((some (t261 ++ [0] : List Int)).bind fun y264 => (if 0 ≤ (wrap64 ((wrap64 ((y264.length : Int) - 1)) - (t258.length : Int))) then (if t258.length + (wrap64 ((wrap64 ((y264.length : Int) - 1)) - (t258.length : Int)) : Int).toNat < 17592186044416 then ((decimal_pieces_back.f k y264 (t258 ++ List.replicate (wrap64 ((wrap64 ((y264.length : Int) - 1)) - (t258.length : Int)) : Int).toNat 0) 0).bind fun t270 => ((decimal_pieces_trim.f k t270).bind fun t271 => ((decimal_pieces_text.f k t271).bind fun t274 => (some t274)))) else (none)) else (none))) else (none)) else (if t258.length < 17592186044416 then ((some (t258 ++ [0] : List Int)).bind fun y275 => (if 0 ≤ (wrap64 ((wrap64 ((y275.length : Int) - 1)) - (t261.length : Int))) then (if t261.length + (wrap64 ((wrap64 ((y275.length : Int) - 1)) - (t261.length : Int)) : Int).toNat < 17592186044416 then ((decimal_pieces_back.f k y275 (t261 ++ List.replicate (wrap64 ((wrap64 ((y275.length : Int) - 1)) - (t261.length : Int)) : Int).toNat 0) 0).bind fun t281 => ((decimal_pieces_trim.f k t281).bind fun t282 => ((decimal_pieces_text.f k t282).bind fun t285 => (some t285)))) else (none)) else (none))) else (none))) = some r := H
    have A9 := Aside0.mk A90
    clear A90
    by_cases c10 : (t258.length : Int) < (t261.length : Int)
    · rw [if_pos c10] at H
      have c10b0 : decide ((t258.length : Int) < (t261.length : Int)) = true := decide_eq_true c10
      have c10b1 : decide (t258.length < t261.length) = true := decide_eq_true (Int.ofNat_lt.mp c10)
      clear c10
      by_cases c11 : t261.length < 17592186044416
      · rw [if_pos c11] at H
        have LMc11 := Aside0.mk c11
        clear c11
        obtain ⟨y264, hy264⟩ : ∃ y_ : List Int, y_ = (t261 ++ [0]) := ⟨_, rfl⟩
        replace H : (if 0 ≤ (wrap64 ((wrap64 ((y264.length : Int) - 1)) - (t258.length : Int))) then (if t258.length + (wrap64 ((wrap64 ((y264.length : Int) - 1)) - (t258.length : Int)) : Int).toNat < 17592186044416 then ((decimal_pieces_back.f k y264 (t258 ++ List.replicate (wrap64 ((wrap64 ((y264.length : Int) - 1)) - (t258.length : Int)) : Int).toNat 0) 0).bind fun t270 => ((decimal_pieces_trim.f k t270).bind fun t271 => ((decimal_pieces_text.f k t271).bind fun t274 => (some t274)))) else (none)) else (none)) = some r := by first | (rw [hy264]; with_reducible exact H) | (have H2_ := (Option.bind_some _ _).symm.trans H; rw [hy264]; with_reducible exact H2_) | (have H2_ := (Option.bind_some _ _).symm.trans H; with_reducible exact H2_) | with_reducible exact H | (rw [hy264]; exact H) | exact H
        have Ny264 := Aside0.mk hy264
        clear hy264
        obtain ⟨ji12, hji12⟩ : ∃ j_ : Int, (wrap64 ((wrap64 ((y264.length : Int) - 1)) - (t258.length : Int))) = j_ := ⟨_, rfl⟩
        replace H : (if 0 ≤ (ji12) then (if t258.length + (ji12 : Int).toNat < 17592186044416 then ((decimal_pieces_back.f k y264 (t258 ++ List.replicate (ji12 : Int).toNat 0) 0).bind fun t270 => ((decimal_pieces_trim.f k t270).bind fun t271 => ((decimal_pieces_text.f k t271).bind fun t274 => (some t274)))) else (none)) else (none)) = some r := by first | (rw [hji12] at H; exact H) | (simp only [hji12] at H ⊢; exact H)
        (try rw [hji12] at A3)
        (try rw [hji12] at A8)
        (try rw [hji12] at A9)
        have hji12w : (IntKind.i64.wrap ((wrap64 ((y264.length : Int) - 1)) - (t258.length : Int))) = ji12 := (i64_w _).trans hji12
        by_cases c13 : 0 ≤ (ji12)
        · rw [if_pos c13] at H
          have c13b0 := eq_true c13
          have c13b1 : decide (0 ≤ (ji12)) = true := decide_eq_true c13
          clear c13
          by_cases c14 : t258.length + (ji12 : Int).toNat < 17592186044416
          · rw [if_pos c14] at H
            have LMc14 := Aside0.mk c14
            clear c14
            obtain ⟨y267, hy267⟩ : ∃ y_ : List Int, y_ = (t258 ++ List.replicate (ji12 : Int).toNat 0) := ⟨_, rfl⟩
            replace H : ((decimal_pieces_back.f k y264 y267 0).bind fun t270 => ((decimal_pieces_trim.f k t270).bind fun t271 => ((decimal_pieces_text.f k t271).bind fun t274 => (some t274)))) = some r := by first | (rw [hy267]; with_reducible exact H) | (have H2_ := (Option.bind_some _ _).symm.trans H; rw [hy267]; with_reducible exact H2_) | (have H2_ := (Option.bind_some _ _).symm.trans H; with_reducible exact H2_) | with_reducible exact H | (rw [hy267]; exact H) | exact H
            have Ny267 := Aside0.mk hy267
            clear hy267
            replace H := Option.bind_eq_some_iff.mp H
            obtain ⟨t270, A150, H⟩ := H
            replace H : ((decimal_pieces_trim.f k t270).bind fun t271 => ((decimal_pieces_text.f k t271).bind fun t274 => (some t274))) = some r := H
            have A15 := Aside0.mk A150
            clear A150
            replace H := Option.bind_eq_some_iff.mp H
            obtain ⟨t271, A160, H⟩ := H
            replace H : ((decimal_pieces_text.f k t271).bind fun t274 => (some t274)) = some r := H
            have A16 := Aside0.mk A160
            clear A160
            replace H := Option.bind_eq_some_iff.mp H
            obtain ⟨t274, A170, H⟩ := H
            replace H : (some t274) = some r := H
            have A17 := Aside0.mk A170
            clear A170
            obtain rfl := Option.some.inj H
            go_enter Tryd.func42, Tryd.ntmps42
            go_wp2_with (first | ((with_reducible refine gate_callee (f := 58) rfl ?_); refine goesL_ (some 13) rfl rfl Tryd.func58 (by kernel_rfl) rfl #[.string a0, .string a1] rfl mq ?_; (with_reducible refine (decimal_both.calls (hT := HT.out.below bq) k a0 a1 t254 t255 false _ A3.out).mono ?_); rintro e w18 ⟨rfl, hb⟩; refine ⟨_, rfl, ?_⟩; replace HB := Aside0.mk (below_step bq hb); (try clear hb); (try clear hb2); (try clear hk); (try clear hi)) | ((with_reducible refine gate_callee (f := 60) rfl ?_); refine goesL_ (some 23) rfl rfl Tryd.func60 (by kernel_rfl) rfl #[.string a0] rfl mq ?_; (with_reducible refine (decimal_cut.calls k a0 t258 _ A8.out).mono ?_); rintro e w19 ⟨v259, rfl, ho0, hb⟩; refine ⟨_, rfl, ?_⟩; have n0_ := Aside0.mk (Kd.R_lower ho0 (below_size bq)); have n1_ := Aside0.mk (below_step bq hb); clear HB; have HO260 := n0_; have HB := n1_; clear n0_ n1_; (try clear hb); (try clear hb2); (try clear hk); (try clear hi); (try clear ho0)) | ((with_reducible refine gate_callee (f := 60) rfl ?_); refine goesL_ (some 25) rfl rfl Tryd.func60 (by kernel_rfl) rfl #[.string a1] rfl mq ?_; (with_reducible refine (decimal_cut.calls k a1 t261 _ A9.out).mono ?_); rintro e w20 ⟨v262, rfl, ho0, hb⟩; refine ⟨_, rfl, ?_⟩; have n0_ := Aside0.mk (Kd.R_elder' (by (with_reducible repeat (first | apply Kd.R_alloc | apply Kd.R_drewN | apply Kd.R_drew)); exact HO260.out) (Kd.R_base ho0) hb); have n1_ := Aside0.mk (Kd.R_lower (Kd.R_new' ho0 (Kd.R_lt (by (with_reducible repeat (first | apply Kd.R_alloc | apply Kd.R_drewN | apply Kd.R_drew)); exact HO260.out))) (below_size bq)); have n2_ := Aside0.mk (below_step bq hb); clear HO260; clear HB; have HO260 := n0_; have HO263 := n1_; have HB := n2_; clear n0_ n1_ n2_; (try clear hb); (try clear hb2); (try clear hk); (try clear hi); (try clear ho0); obtain ⟨Ao21, co21, eo21⟩ := Kd.R_slice HO260.out; subst eo21; obtain ⟨Ao22, co22, eo22⟩ := Kd.R_slice HO263.out; subst eo22) | ((with_reducible refine gate_builtin (b := .append) (xs := #[.tmp 33, .tmp 34]) rfl ?_); at_builtin; refine Kd.R_append (Kd.int .u64) (w0 := w) w.heap.size rfl (.tmp 33) (.tmp 34) 79 74 (.int .u64 0) 8 rfl Tryd.underlying79 info74 rfl (by decide) (by omega) (.slice Ao22 t261.length co22) t261 0 [.int .u64 0] (fun k_ => some k_ ≠ (.slice Ao21 t258.length co21 : Value).ownBlock) (fun _ => False) rfl rfl ?aP (fun _ hk => hk.elim) ?aF ?aO ?aB ?aS ?aL ?_; (case aP => exact rfl); (case aB => exact bq); (case aF => exact (fun k_ hk => Kd.fresh' (Kd.R_lt (by (with_reducible repeat (first | apply Kd.R_alloc | apply Kd.R_drewN | apply Kd.R_drew)); exact HO260.out)) k_ hk)); (case aO => exact (by (with_reducible repeat (first | apply Kd.R_alloc | apply Kd.R_drewN | apply Kd.R_drew)); exact Kd.R_mono HO263.out (fun _ hk => hk.2))); (case aS => exact (below_size bq)); (case aL => have := LMc11.out; omega); intro v265 w23 ho hb hg hat; rw [← Ny264.out] at ho; have n0_ := Aside0.mk (Kd.R_after (ok := (fun _ => True)) (by (with_reducible repeat (first | apply Kd.R_alloc | apply Kd.R_drewN | apply Kd.R_drew)); exact HO260.out) hg hat); have n1_ := Aside0.mk (hb); have n2_ := Aside0.mk (ho); clear HO260; clear HB; clear HO263; have HO260 := n0_; have HB := n1_; have HO266 := n2_; clear n0_ n1_ n2_; clear ho hb hg hat; obtain ⟨Ao24, co24, eo24⟩ := Kd.R_slice HO266.out; subst eo24) | (at_builtin; refine Kd.R_append_zeros (Kd.int .u64) (w0 := w) w.heap.size rfl (.tmp 37) (.tmp 43) 79 3 74 (.int .u64 0) 8 rfl Tryd.underlying79 Tryd.underlying3 info74 rfl (by decide) (by omega) (.slice Ao21 t258.length co21) t258 0 (ji12 : Int) (fun k_ => some k_ ≠ (.slice Ao24 y264.length co24 : Value).ownBlock) rfl rfl rfl ?aF ?aO (of_decide_eq_true (by first | (with_reducible assumption) | assumption)) ?aB ?aS ?aL ?_; (case aB => exact bq); (case aF => exact (fun k_ hk => Kd.fresh' (Kd.R_lt (by (with_reducible repeat (first | apply Kd.R_alloc | apply Kd.R_drewN | apply Kd.R_drew)); exact HO266.out)) k_ hk)); (case aO => exact (by (with_reducible repeat (first | apply Kd.R_alloc | apply Kd.R_drewN | apply Kd.R_drew)); exact Kd.R_mono HO260.out (fun _ hk => hk.2))); (case aS => exact (below_size bq)); (case aL => have := LMc14.out; omega); intro v268 w25 ho hb hg hat; rw [← Ny267.out] at ho; have n0_ := Aside0.mk (Kd.R_after (ok := (fun _ => True)) (by (with_reducible repeat (first | apply Kd.R_alloc | apply Kd.R_drewN | apply Kd.R_drew)); exact Kd.R_mono HO266.out (fun _ hk => ⟨trivial, hk⟩)) hg hat); have n1_ := Aside0.mk (hb); have n2_ := Aside0.mk (ho); clear HO266; clear HB; clear HO260; have HO266 := n0_; have HB := n1_; have HO269 := n2_; clear n0_ n1_ n2_; clear ho hb hg hat; obtain ⟨Ao26, co26, eo26⟩ := Kd.R_slice HO269.out; subst eo26) | ((with_reducible refine gate_callee (f := 65) rfl ?_); refine goesL_ (some 45) rfl rfl Tryd.func65 (by kernel_rfl) rfl #[.slice Ao24 y264.length co24, .slice Ao26 y267.length co26, .int .i64 0] rfl mq ?_; (with_reducible refine (decimal_pieces_back.calls k (fun k_ => some k_ = (.slice Ao24 y264.length co24 : Value).ownBlock) (.slice Ao24 y264.length co24) y264 _ _ y267 0 t270 w _ ?side1 ?side2 ?side3 ?side4 A15.out).mono ?_); (case side1 => exact bq); (case side2 => exact Kd.R_tight rfl HO266.out); (case side3 => exact Kd.C_kept_own (HO269.out) (fun k_ hk_ hs_ => (hk_) hs_)); (case side4 => exact (Kd.R_reads' HO269.out).2.1); rintro e w27 ⟨rfl, hy0, hb, hkp⟩; refine ⟨_, rfl, ?_⟩; have n0_ := Aside0.mk (Kd.R_reok rfl hy0 (fun k_ e_ => HO266.out.1 k_ e_)); have n1_ := Aside0.mk (Kd.R_mono (ok' := fun k_ => some k_ ≠ (.slice Ao24 y264.length co24 : Value).ownBlock) (Kd.R_keptB (HO269.out) hkp (fun k_ hk_ hs_ => (hk_) hs_)) (fun k_ hk_ => hk_.1)); have n2_ := Aside0.mk (hb); clear HO266; clear HO269; clear HB; have HO266 := n0_; have HO269 := n1_; have HB := n2_; clear n0_ n1_ n2_; (try clear hb); (try clear hkp); (try clear hy0)) | ((with_reducible refine gate_callee (f := 66) rfl ?_); refine goesL_ (some 47) rfl rfl Tryd.func66 (by kernel_rfl) rfl #[.slice Ao24 y264.length co24] rfl mq ?_; (with_reducible refine (decimal_pieces_trim.calls k (fun k_ => some k_ = (.slice Ao24 y264.length co24 : Value).ownBlock) (.slice Ao24 y264.length co24) t270 t271 w _ ?side1 ?side2 A16.out).mono ?_); (case side1 => exact bq); (case side2 => exact Kd.R_tight rfl HO266.out); rintro e w28 ⟨v272, rfl, ho0, hb, hkp⟩; refine ⟨_, rfl, ?_⟩; have n0_ := Aside0.mk (Kd.R_mono (ok' := fun k_ => some k_ ≠ (v272 : Value).ownBlock) (Kd.R_keptB (HO269.out) hkp (fun k_ hk_ hs_ => (hk_) hs_)) (fun k_ hk_ => fun e_ => Or.elim (ho0.1 k_ e_.symm) (fun hs_ => hk_.2.1 hs_) (fun hn_ => Nat.not_le.2 hk_.2.2 hn_))); have n1_ := Aside0.mk (Kd.R_mono (ok' := fun k_ => some k_ ≠ (.slice Ao26 y267.length co26 : Value).ownBlock) ho0 (fun k_ hk_ => Or.elim hk_ (fun hs_ => fun e_ => (((HO269.out).1 k_ e_.symm)) hs_) (fun hn_ => (Kd.fresh' (Kd.R_lt (by (with_reducible repeat (first | apply Kd.R_alloc | apply Kd.R_drewN | apply Kd.R_drew)); exact HO269.out)) k_ hn_)))); have n2_ := Aside0.mk (hb); clear HO269; clear HB; clear HO266; have HO269 := n0_; have HO273 := n1_; have HB := n2_; clear n0_ n1_ n2_; (try clear hb); (try clear hkp); (try clear ho0); obtain ⟨Ao29, co29, eo29⟩ := Kd.R_slice HO273.out; subst eo29) | ((with_reducible refine gate_callee (f := 63) rfl ?_); refine goesL_ (some 48) rfl rfl Tryd.func63 (by kernel_rfl) rfl #[.slice Ao29 t271.length co29] rfl mq ?_; (with_reducible refine (decimal_pieces_text.calls k _ _ t271 t274 _ ?side1 ?side2 A17.out).mono ?_); (case side1 => repeat (first | exact (Kd.R_reads' HO273.out).2.2 | (with_reducible refine Kd.C_alloc ?_ _) | (with_reducible refine Kd.C_drewN ?_ _) | (with_reducible refine Kd.C_drew ?_))); (case side2 => exact (Kd.R_reads' HO273.out).2.1); rintro e w30 ⟨rfl, hb⟩; refine ⟨_, rfl, ?_⟩; have n0_ := Aside0.mk (Kd.R_below (by (with_reducible repeat (first | apply Kd.R_alloc | apply Kd.R_drewN | apply Kd.R_drew)); exact HO269.out) hb); have n1_ := Aside0.mk (Kd.R_below (by (with_reducible repeat (first | apply Kd.R_alloc | apply Kd.R_drewN | apply Kd.R_drew)); exact HO273.out) hb); have n2_ := Aside0.mk (below_step bq hb); clear HO269; clear HO273; clear HB; have HO269 := n0_; have HO273 := n1_; have HB := n2_; clear n0_ n1_ n2_; (try clear hb); (try clear hb2); (try clear hk); (try clear hi)))
            go_ret
            exact ⟨by first | rfl | (simp [errW_none, errW_some] <;> rfl) | (simp only [← hji12]; first | rfl | (simp [errW_none, errW_some] <;> rfl)) | (simp [*, errW_none, errW_some] <;> rfl), bq⟩
          · rw [if_neg c14] at H
            exact absurd H (by simp)
        · rw [if_neg c13] at H
          exact absurd H (by simp)
      · rw [if_neg c11] at H
        exact absurd H (by simp)
    · rw [if_neg c10] at H
      have c10b0 : decide ((t258.length : Int) < (t261.length : Int)) = false := decide_eq_false c10
      have c10b1 : decide (t258.length < t261.length) = false := decide_eq_false (fun h => c10 (Int.ofNat_lt.mpr h))
      clear c10
      by_cases c31 : t258.length < 17592186044416
      · rw [if_pos c31] at H
        have LMc31 := Aside0.mk c31
        clear c31
        obtain ⟨y275, hy275⟩ : ∃ y_ : List Int, y_ = (t258 ++ [0]) := ⟨_, rfl⟩
        replace H : (if 0 ≤ (wrap64 ((wrap64 ((y275.length : Int) - 1)) - (t261.length : Int))) then (if t261.length + (wrap64 ((wrap64 ((y275.length : Int) - 1)) - (t261.length : Int)) : Int).toNat < 17592186044416 then ((decimal_pieces_back.f k y275 (t261 ++ List.replicate (wrap64 ((wrap64 ((y275.length : Int) - 1)) - (t261.length : Int)) : Int).toNat 0) 0).bind fun t281 => ((decimal_pieces_trim.f k t281).bind fun t282 => ((decimal_pieces_text.f k t282).bind fun t285 => (some t285)))) else (none)) else (none)) = some r := by first | (rw [hy275]; with_reducible exact H) | (have H2_ := (Option.bind_some _ _).symm.trans H; rw [hy275]; with_reducible exact H2_) | (have H2_ := (Option.bind_some _ _).symm.trans H; with_reducible exact H2_) | with_reducible exact H | (rw [hy275]; exact H) | exact H
        have Ny275 := Aside0.mk hy275
        clear hy275
        obtain ⟨ji32, hji32⟩ : ∃ j_ : Int, (wrap64 ((wrap64 ((y275.length : Int) - 1)) - (t261.length : Int))) = j_ := ⟨_, rfl⟩
        replace H : (if 0 ≤ (ji32) then (if t261.length + (ji32 : Int).toNat < 17592186044416 then ((decimal_pieces_back.f k y275 (t261 ++ List.replicate (ji32 : Int).toNat 0) 0).bind fun t281 => ((decimal_pieces_trim.f k t281).bind fun t282 => ((decimal_pieces_text.f k t282).bind fun t285 => (some t285)))) else (none)) else (none)) = some r := by first | (rw [hji32] at H; exact H) | (simp only [hji32] at H ⊢; exact H)
        (try rw [hji32] at A3)
        (try rw [hji32] at A8)
        (try rw [hji32] at A9)
        have hji32w : (IntKind.i64.wrap ((wrap64 ((y275.length : Int) - 1)) - (t261.length : Int))) = ji32 := (i64_w _).trans hji32
        by_cases c33 : 0 ≤ (ji32)
        · rw [if_pos c33] at H
          have c33b0 := eq_true c33
          have c33b1 : decide (0 ≤ (ji32)) = true := decide_eq_true c33
          clear c33
          by_cases c34 : t261.length + (ji32 : Int).toNat < 17592186044416
          · rw [if_pos c34] at H
            have LMc34 := Aside0.mk c34
            clear c34
            obtain ⟨y278, hy278⟩ : ∃ y_ : List Int, y_ = (t261 ++ List.replicate (ji32 : Int).toNat 0) := ⟨_, rfl⟩
            replace H : ((decimal_pieces_back.f k y275 y278 0).bind fun t281 => ((decimal_pieces_trim.f k t281).bind fun t282 => ((decimal_pieces_text.f k t282).bind fun t285 => (some t285)))) = some r := by first | (rw [hy278]; with_reducible exact H) | (have H2_ := (Option.bind_some _ _).symm.trans H; rw [hy278]; with_reducible exact H2_) | (have H2_ := (Option.bind_some _ _).symm.trans H; with_reducible exact H2_) | with_reducible exact H | (rw [hy278]; exact H) | exact H
            have Ny278 := Aside0.mk hy278
            clear hy278
            replace H := Option.bind_eq_some_iff.mp H
            obtain ⟨t281, A350, H⟩ := H
            replace H : ((decimal_pieces_trim.f k t281).bind fun t282 => ((decimal_pieces_text.f k t282).bind fun t285 => (some t285))) = some r := H
            have A35 := Aside0.mk A350
            clear A350
            replace H := Option.bind_eq_some_iff.mp H
            obtain ⟨t282, A360, H⟩ := H
            replace H : ((decimal_pieces_text.f k t282).bind fun t285 => (some t285)) = some r := H
            have A36 := Aside0.mk A360
            clear A360
            replace H := Option.bind_eq_some_iff.mp H
            obtain ⟨t285, A370, H⟩ := H
            replace H : (some t285) = some r := H
            have A37 := Aside0.mk A370
            clear A370
            obtain rfl := Option.some.inj H
            go_enter Tryd.func42, Tryd.ntmps42
            go_wp2_with (first | ((with_reducible refine gate_callee (f := 58) rfl ?_); refine goesL_ (some 13) rfl rfl Tryd.func58 (by kernel_rfl) rfl #[.string a0, .string a1] rfl mq ?_; (with_reducible refine (decimal_both.calls (hT := HT.out.below bq) k a0 a1 t254 t255 false _ A3.out).mono ?_); rintro e w38 ⟨rfl, hb⟩; refine ⟨_, rfl, ?_⟩; replace HB := Aside0.mk (below_step bq hb); (try clear hb); (try clear hb2); (try clear hk); (try clear hi)) | ((with_reducible refine gate_callee (f := 60) rfl ?_); refine goesL_ (some 23) rfl rfl Tryd.func60 (by kernel_rfl) rfl #[.string a0] rfl mq ?_; (with_reducible refine (decimal_cut.calls k a0 t258 _ A8.out).mono ?_); rintro e w39 ⟨v259, rfl, ho0, hb⟩; refine ⟨_, rfl, ?_⟩; have n0_ := Aside0.mk (Kd.R_lower ho0 (below_size bq)); have n1_ := Aside0.mk (below_step bq hb); clear HB; have HO260 := n0_; have HB := n1_; clear n0_ n1_; (try clear hb); (try clear hb2); (try clear hk); (try clear hi); (try clear ho0)) | ((with_reducible refine gate_callee (f := 60) rfl ?_); refine goesL_ (some 25) rfl rfl Tryd.func60 (by kernel_rfl) rfl #[.string a1] rfl mq ?_; (with_reducible refine (decimal_cut.calls k a1 t261 _ A9.out).mono ?_); rintro e w40 ⟨v262, rfl, ho0, hb⟩; refine ⟨_, rfl, ?_⟩; have n0_ := Aside0.mk (Kd.R_elder' (by (with_reducible repeat (first | apply Kd.R_alloc | apply Kd.R_drewN | apply Kd.R_drew)); exact HO260.out) (Kd.R_base ho0) hb); have n1_ := Aside0.mk (Kd.R_lower (Kd.R_new' ho0 (Kd.R_lt (by (with_reducible repeat (first | apply Kd.R_alloc | apply Kd.R_drewN | apply Kd.R_drew)); exact HO260.out))) (below_size bq)); have n2_ := Aside0.mk (below_step bq hb); clear HO260; clear HB; have HO260 := n0_; have HO263 := n1_; have HB := n2_; clear n0_ n1_ n2_; (try clear hb); (try clear hb2); (try clear hk); (try clear hi); (try clear ho0); obtain ⟨Ao41, co41, eo41⟩ := Kd.R_slice HO260.out; subst eo41; obtain ⟨Ao42, co42, eo42⟩ := Kd.R_slice HO263.out; subst eo42) | ((with_reducible refine gate_builtin (b := .append) (xs := #[.tmp 33, .tmp 34]) rfl ?_); at_builtin; refine Kd.R_append (Kd.int .u64) (w0 := w) w.heap.size rfl (.tmp 33) (.tmp 34) 79 74 (.int .u64 0) 8 rfl Tryd.underlying79 info74 rfl (by decide) (by omega) (.slice Ao41 t258.length co41) t258 0 [.int .u64 0] (fun k_ => some k_ ≠ (.slice Ao42 t261.length co42 : Value).ownBlock) (fun _ => False) rfl rfl ?aP (fun _ hk => hk.elim) ?aF ?aO ?aB ?aS ?aL ?_; (case aP => exact rfl); (case aB => exact bq); (case aF => exact (fun k_ hk => Kd.fresh' (Kd.R_lt (by (with_reducible repeat (first | apply Kd.R_alloc | apply Kd.R_drewN | apply Kd.R_drew)); exact HO263.out)) k_ hk)); (case aO => exact (by (with_reducible repeat (first | apply Kd.R_alloc | apply Kd.R_drewN | apply Kd.R_drew)); exact Kd.R_mono HO260.out (fun _ hk => hk.2))); (case aS => exact (below_size bq)); (case aL => have := LMc31.out; omega); intro v276 w43 ho hb hg hat; rw [← Ny275.out] at ho; have n0_ := Aside0.mk (Kd.R_after (ok := (fun _ => True)) (by (with_reducible repeat (first | apply Kd.R_alloc | apply Kd.R_drewN | apply Kd.R_drew)); exact HO263.out) hg hat); have n1_ := Aside0.mk (hb); have n2_ := Aside0.mk (ho); clear HO263; clear HB; clear HO260; have HO263 := n0_; have HB := n1_; have HO277 := n2_; clear n0_ n1_ n2_; clear ho hb hg hat; obtain ⟨Ao44, co44, eo44⟩ := Kd.R_slice HO277.out; subst eo44) | (at_builtin; refine Kd.R_append_zeros (Kd.int .u64) (w0 := w) w.heap.size rfl (.tmp 37) (.tmp 43) 79 3 74 (.int .u64 0) 8 rfl Tryd.underlying79 Tryd.underlying3 info74 rfl (by decide) (by omega) (.slice Ao42 t261.length co42) t261 0 (ji32 : Int) (fun k_ => some k_ ≠ (.slice Ao44 y275.length co44 : Value).ownBlock) rfl rfl rfl ?aF ?aO (of_decide_eq_true (by first | (with_reducible assumption) | assumption)) ?aB ?aS ?aL ?_; (case aB => exact bq); (case aF => exact (fun k_ hk => Kd.fresh' (Kd.R_lt (by (with_reducible repeat (first | apply Kd.R_alloc | apply Kd.R_drewN | apply Kd.R_drew)); exact HO277.out)) k_ hk)); (case aO => exact (by (with_reducible repeat (first | apply Kd.R_alloc | apply Kd.R_drewN | apply Kd.R_drew)); exact Kd.R_mono HO263.out (fun _ hk => hk.2))); (case aS => exact (below_size bq)); (case aL => have := LMc34.out; omega); intro v279 w45 ho hb hg hat; rw [← Ny278.out] at ho; have n0_ := Aside0.mk (Kd.R_after (ok := (fun _ => True)) (by (with_reducible repeat (first | apply Kd.R_alloc | apply Kd.R_drewN | apply Kd.R_drew)); exact Kd.R_mono HO277.out (fun _ hk => ⟨trivial, hk⟩)) hg hat); have n1_ := Aside0.mk (hb); have n2_ := Aside0.mk (ho); clear HO277; clear HB; clear HO263; have HO277 := n0_; have HB := n1_; have HO280 := n2_; clear n0_ n1_ n2_; clear ho hb hg hat; obtain ⟨Ao46, co46, eo46⟩ := Kd.R_slice HO280.out; subst eo46) | ((with_reducible refine gate_callee (f := 65) rfl ?_); refine goesL_ (some 45) rfl rfl Tryd.func65 (by kernel_rfl) rfl #[.slice Ao44 y275.length co44, .slice Ao46 y278.length co46, .int .i64 0] rfl mq ?_; (with_reducible refine (decimal_pieces_back.calls k (fun k_ => some k_ = (.slice Ao44 y275.length co44 : Value).ownBlock) (.slice Ao44 y275.length co44) y275 _ _ y278 0 t281 w _ ?side1 ?side2 ?side3 ?side4 A35.out).mono ?_); (case side1 => exact bq); (case side2 => exact Kd.R_tight rfl HO277.out); (case side3 => exact Kd.C_kept_own (HO280.out) (fun k_ hk_ hs_ => (hk_) hs_)); (case side4 => exact (Kd.R_reads' HO280.out).2.1); rintro e w47 ⟨rfl, hy0, hb, hkp⟩; refine ⟨_, rfl, ?_⟩; have n0_ := Aside0.mk (Kd.R_reok rfl hy0 (fun k_ e_ => HO277.out.1 k_ e_)); have n1_ := Aside0.mk (Kd.R_mono (ok' := fun k_ => some k_ ≠ (.slice Ao44 y275.length co44 : Value).ownBlock) (Kd.R_keptB (HO280.out) hkp (fun k_ hk_ hs_ => (hk_) hs_)) (fun k_ hk_ => hk_.1)); have n2_ := Aside0.mk (hb); clear HO277; clear HO280; clear HB; have HO277 := n0_; have HO280 := n1_; have HB := n2_; clear n0_ n1_ n2_; (try clear hb); (try clear hkp); (try clear hy0)) | ((with_reducible refine gate_callee (f := 66) rfl ?_); refine goesL_ (some 47) rfl rfl Tryd.func66 (by kernel_rfl) rfl #[.slice Ao44 y275.length co44] rfl mq ?_; (with_reducible refine (decimal_pieces_trim.calls k (fun k_ => some k_ = (.slice Ao44 y275.length co44 : Value).ownBlock) (.slice Ao44 y275.length co44) t281 t282 w _ ?side1 ?side2 A36.out).mono ?_); (case side1 => exact bq); (case side2 => exact Kd.R_tight rfl HO277.out); rintro e w48 ⟨v283, rfl, ho0, hb, hkp⟩; refine ⟨_, rfl, ?_⟩; have n0_ := Aside0.mk (Kd.R_mono (ok' := fun k_ => some k_ ≠ (v283 : Value).ownBlock) (Kd.R_keptB (HO280.out) hkp (fun k_ hk_ hs_ => (hk_) hs_)) (fun k_ hk_ => fun e_ => Or.elim (ho0.1 k_ e_.symm) (fun hs_ => hk_.2.1 hs_) (fun hn_ => Nat.not_le.2 hk_.2.2 hn_))); have n1_ := Aside0.mk (Kd.R_mono (ok' := fun k_ => some k_ ≠ (.slice Ao46 y278.length co46 : Value).ownBlock) ho0 (fun k_ hk_ => Or.elim hk_ (fun hs_ => fun e_ => (((HO280.out).1 k_ e_.symm)) hs_) (fun hn_ => (Kd.fresh' (Kd.R_lt (by (with_reducible repeat (first | apply Kd.R_alloc | apply Kd.R_drewN | apply Kd.R_drew)); exact HO280.out)) k_ hn_)))); have n2_ := Aside0.mk (hb); clear HO280; clear HB; clear HO277; have HO280 := n0_; have HO284 := n1_; have HB := n2_; clear n0_ n1_ n2_; (try clear hb); (try clear hkp); (try clear ho0); obtain ⟨Ao49, co49, eo49⟩ := Kd.R_slice HO284.out; subst eo49) | ((with_reducible refine gate_callee (f := 63) rfl ?_); refine goesL_ (some 48) rfl rfl Tryd.func63 (by kernel_rfl) rfl #[.slice Ao49 t282.length co49] rfl mq ?_; (with_reducible refine (decimal_pieces_text.calls k _ _ t282 t285 _ ?side1 ?side2 A37.out).mono ?_); (case side1 => repeat (first | exact (Kd.R_reads' HO284.out).2.2 | (with_reducible refine Kd.C_alloc ?_ _) | (with_reducible refine Kd.C_drewN ?_ _) | (with_reducible refine Kd.C_drew ?_))); (case side2 => exact (Kd.R_reads' HO284.out).2.1); rintro e w50 ⟨rfl, hb⟩; refine ⟨_, rfl, ?_⟩; have n0_ := Aside0.mk (Kd.R_below (by (with_reducible repeat (first | apply Kd.R_alloc | apply Kd.R_drewN | apply Kd.R_drew)); exact HO280.out) hb); have n1_ := Aside0.mk (Kd.R_below (by (with_reducible repeat (first | apply Kd.R_alloc | apply Kd.R_drewN | apply Kd.R_drew)); exact HO284.out) hb); have n2_ := Aside0.mk (below_step bq hb); clear HO280; clear HO284; clear HB; have HO280 := n0_; have HO284 := n1_; have HB := n2_; clear n0_ n1_ n2_; (try clear hb); (try clear hb2); (try clear hk); (try clear hi)))
            go_ret
            exact ⟨by first | rfl | (simp [errW_none, errW_some] <;> rfl) | (simp only [← hji32]; first | rfl | (simp [errW_none, errW_some] <;> rfl)) | (simp [*, errW_none, errW_some] <;> rfl), bq⟩
          · rw [if_neg c34] at H
            exact absurd H (by simp)
        · rw [if_neg c33] at H
          exact absurd H (by simp)
      · rw [if_neg c31] at H
        exact absurd H (by simp)
def decimal_Compare.f (a0 : ByteArray) (a1 : ByteArray) : Option (Int) := if (a0.size : Int) = (a1.size : Int) then (if (Op.bytesLess a0.toList a1.toList) = true then (some (-1)) else (if (Op.bytesLess a1.toList a0.toList) = true then (some 1) else (some 0))) else (some (mn 1 (mx (-1) (wrap64 ((a0.size : Int) - (a1.size : Int))))))
set_option maxHeartbeats 8000000 in
set_option maxRecDepth 100000 in
theorem decimal_Compare.calls (a0 : ByteArray) (a1 : ByteArray) (r : Int) (w : World) (h : decimal_Compare.f a0 a1 = some r) :
    Calls Tryd.prog 38 #[.string a0, .string a1] w fun e w' => e = .returned (.int .i64 r) ∧ Below w.heap.size w w' := by
  have HB := Aside0.mk (Below.refl w.heap.size w)
  have H : (if (a0.size : Int) = (a1.size : Int) then (if (Op.bytesLess a0.toList a1.toList) = true then (some (-1)) else (if (Op.bytesLess a1.toList a0.toList) = true then (some 1) else (some 0))) else (some (mn 1 (mx (-1) (wrap64 ((a0.size : Int) - (a1.size : Int))))))) = some r := h
  clear h
  by_cases c3 : (a0.size : Int) = (a1.size : Int)
  · rw [if_pos c3] at H
    have c3b0 : ((a0.size : Int) == (a1.size : Int)) = true := beq_iff_eq.mpr c3
    have c3b1 : ((a0.size : Int) != (a1.size : Int)) = false := bne_eq_false_iff_eq.mpr c3
    have c3b2 : (a0.size == a1.size) = true := by first | simpa using c3 | (simp at c3 ⊢; omega)
    clear c3
    by_cases c4 : (Op.bytesLess a0.toList a1.toList) = true
    · rw [if_pos c4] at H
      have c4b0 : (Op.bytesLess a0.toList a1.toList) = true := c4
      clear c4
      obtain rfl := Option.some.inj H
      go_enter Tryd.func38, Tryd.ntmps38
      go_wp2
      go_ret
      exact ⟨eq_, bq⟩
    · rw [if_neg c4] at H
      have c4b0 : (Op.bytesLess a0.toList a1.toList) = false := by simpa using c4
      clear c4
      by_cases c5 : (Op.bytesLess a1.toList a0.toList) = true
      · rw [if_pos c5] at H
        have c5b0 : (Op.bytesLess a1.toList a0.toList) = true := c5
        clear c5
        obtain rfl := Option.some.inj H
        go_enter Tryd.func38, Tryd.ntmps38
        go_wp2
        go_ret
        exact ⟨eq_, bq⟩
      · rw [if_neg c5] at H
        have c5b0 : (Op.bytesLess a1.toList a0.toList) = false := by simpa using c5
        clear c5
        obtain rfl := Option.some.inj H
        go_enter Tryd.func38, Tryd.ntmps38
        go_wp2
        go_ret
        exact ⟨eq_, bq⟩
  · rw [if_neg c3] at H
    have c3b0 : ((a0.size : Int) == (a1.size : Int)) = false := beq_eq_false_iff_ne.mpr c3
    have c3b1 : ((a0.size : Int) != (a1.size : Int)) = true := bne_iff_ne.mpr c3
    have c3b2 : (a0.size == a1.size) = false := by first | simpa using c3 | (simp at c3 ⊢; omega)
    obtain ⟨ji6, hji6⟩ : ∃ j_ : Int, (mx (-1) (wrap64 ((a0.size : Int) - (a1.size : Int)))) = j_ := ⟨_, rfl⟩
    replace H : (some (mn 1 (ji6))) = some r := by first | (rw [hji6] at H; exact H) | (simp only [hji6] at H ⊢; exact H)
    have hji6_ : (if (-1) < (wrap64 ((a0.size : Int) - (a1.size : Int))) then (wrap64 ((a0.size : Int) - (a1.size : Int))) else (-1)) = ji6 := hji6
    obtain ⟨ji7, hji7⟩ : ∃ j_ : Int, (mn 1 (ji6)) = j_ := ⟨_, rfl⟩
    replace H : (some ji7) = some r := by first | (rw [hji7] at H; exact H) | (simp only [hji7] at H ⊢; exact H)
    have hji7_ : (if (ji6) < 1 then (ji6) else 1) = ji7 := hji7
    obtain rfl := Option.some.inj H
    go_enter Tryd.func38, Tryd.ntmps38
    go_wp2
    go_ret
    exact ⟨by first | rfl | (simp [errW_none, errW_some] <;> rfl) | (simp only [← hji6, ← hji7]; first | rfl | (simp [errW_none, errW_some] <;> rfl)) | (simp [*, errW_none, errW_some] <;> rfl), bq⟩
def decimal_Sub.f (k : Nat) (a0 : ByteArray) (a1 : ByteArray) : Option (ByteArray × Int) := (decimal_Compare.f a0 a1).bind fun t286 => (if t286 < 0 then (some ((⟨#[]⟩ : ByteArray), 3)) else ((decimal_both.f k a0 a1).bind fun bt287 => (if bt287.2.2 = true then ((decimal_Of.f (IntKind.u64.wrap (bt287.1 - bt287.2.1))).bind fun t290 => (some (t290, 0))) else ((decimal_cut.f k a0).bind fun t291 => (if t291.length < 17592186044416 then ((some (t291 ++ [0] : List Int)).bind fun y294 => ((decimal_cut.f k a1).bind fun t297 => ((decimal_cut.f k a1).bind fun t300 => (if 0 ≤ (wrap64 ((wrap64 ((y294.length : Int) - 1)) - (t300.length : Int))) then (if t297.length + (wrap64 ((wrap64 ((y294.length : Int) - 1)) - (t300.length : Int)) : Int).toNat < 17592186044416 then ((decimal_pieces_take.f k y294 (t297 ++ List.replicate (wrap64 ((wrap64 ((y294.length : Int) - 1)) - (t300.length : Int)) : Int).toNat 0) 1 0).bind fun bt306 => ((decimal_pieces_trim.f k bt306.2).bind fun t308 => ((decimal_pieces_text.f k t308).bind fun t311 => (some (t311, 0))))) else (none)) else (none))))) else (none))))))
theorem decimal_Sub.mono : ∀ a0 a1 k, LeO (decimal_Sub.f k a0 a1) (decimal_Sub.f (k + 1) a0 a1) := by
  intro a0 a1 k
  unfold decimal_Sub.f
  repeat' first
      | (with_reducible exact decimal_both.mono _ _ _)
      | (with_reducible exact decimal_cut.mono _ _)
      | (with_reducible exact decimal_pieces_take.mono _ _ _ _ _)
      | (with_reducible exact decimal_pieces_text.mono _ _)
      | (with_reducible exact decimal_pieces_trim.mono _ _)
      | (with_reducible exact LeO.refl _)
      | (with_reducible exact LeO.none _)
      | (with_reducible refine LeO.ite ?_ ?_)
      | (with_reducible refine LeO.bind ?_ (fun _ => ?_))
      | exact decimal_both.mono _ _ _
      | exact decimal_cut.mono _ _
      | exact decimal_pieces_take.mono _ _ _ _ _
      | exact decimal_pieces_text.mono _ _
      | exact decimal_pieces_trim.mono _ _
      | exact LeO.none _
      | refine LeO.ite ?_ ?_
      | refine LeO.bind ?_ (fun _ => ?_)
set_option maxHeartbeats 8000000 in
set_option maxRecDepth 100000 in
theorem decimal_Sub.calls (k : Nat) (a0 : ByteArray) (a1 : ByteArray) (r1 : ByteArray) (r2 : Int) (w : World) (hT : Tab w) (h : decimal_Sub.f k a0 a1 = some (r1, r2)) :
    Calls Tryd.prog 43 #[.string a0, .string a1] w fun e w' => e = .returned (.tuple #[.string r1, .int .i64 r2]) ∧ Below w.heap.size w w' := by
  have HT := Aside0.mk hT
  clear hT
  have HB := Aside0.mk (Below.refl w.heap.size w)
  have H : ((decimal_Compare.f a0 a1).bind fun t286 => (if t286 < 0 then (some ((⟨#[]⟩ : ByteArray), 3)) else ((decimal_both.f k a0 a1).bind fun bt287 => (if bt287.2.2 = true then ((decimal_Of.f (IntKind.u64.wrap (bt287.1 - bt287.2.1))).bind fun t290 => (some (t290, 0))) else ((decimal_cut.f k a0).bind fun t291 => (if t291.length < 17592186044416 then ((some (t291 ++ [0] : List Int)).bind fun y294 => ((decimal_cut.f k a1).bind fun t297 => ((decimal_cut.f k a1).bind fun t300 => (if 0 ≤ (wrap64 ((wrap64 ((y294.length : Int) - 1)) - (t300.length : Int))) then (if t297.length + (wrap64 ((wrap64 ((y294.length : Int) - 1)) - (t300.length : Int)) : Int).toNat < 17592186044416 then ((decimal_pieces_take.f k y294 (t297 ++ List.replicate (wrap64 ((wrap64 ((y294.length : Int) - 1)) - (t300.length : Int)) : Int).toNat 0) 1 0).bind fun bt306 => ((decimal_pieces_trim.f k bt306.2).bind fun t308 => ((decimal_pieces_text.f k t308).bind fun t311 => (some (t311, 0))))) else (none)) else (none))))) else (none))))))) = some (r1, r2) := h
  clear h
  replace H := Option.bind_eq_some_iff.mp H
  obtain ⟨t286, A30, H⟩ := H
  replace H : (if t286 < 0 then (some ((⟨#[]⟩ : ByteArray), 3)) else ((decimal_both.f k a0 a1).bind fun bt287 => (if bt287.2.2 = true then ((decimal_Of.f (IntKind.u64.wrap (bt287.1 - bt287.2.1))).bind fun t290 => (some (t290, 0))) else ((decimal_cut.f k a0).bind fun t291 => (if t291.length < 17592186044416 then ((some (t291 ++ [0] : List Int)).bind fun y294 => ((decimal_cut.f k a1).bind fun t297 => ((decimal_cut.f k a1).bind fun t300 => (if 0 ≤ (wrap64 ((wrap64 ((y294.length : Int) - 1)) - (t300.length : Int))) then (if t297.length + (wrap64 ((wrap64 ((y294.length : Int) - 1)) - (t300.length : Int)) : Int).toNat < 17592186044416 then ((decimal_pieces_take.f k y294 (t297 ++ List.replicate (wrap64 ((wrap64 ((y294.length : Int) - 1)) - (t300.length : Int)) : Int).toNat 0) 1 0).bind fun bt306 => ((decimal_pieces_trim.f k bt306.2).bind fun t308 => ((decimal_pieces_text.f k t308).bind fun t311 => (some (t311, 0))))) else (none)) else (none))))) else (none)))))) = some (r1, r2) := H
  have A3 := Aside0.mk A30
  clear A30
  by_cases c4 : t286 < 0
  · rw [if_pos c4] at H
    have c4b0 : decide (t286 < 0) = true := decide_eq_true c4
    clear c4
    simp only [Option.some.injEq, Prod.mk.injEq] at H
    obtain ⟨rfl, rfl⟩ := H
    go_enter Tryd.func43, Tryd.ntmps43
    go_wp2_with (first | ((with_reducible refine gate_callee (f := 38) rfl ?_); refine goesL_ (some 12) rfl rfl Tryd.func38 (by kernel_rfl) rfl #[.string a0, .string a1] rfl mq ?_; (with_reducible refine (decimal_Compare.calls a0 a1 t286 _ A3.out).mono ?_); rintro e w5 ⟨rfl, hb⟩; refine ⟨_, rfl, ?_⟩; replace HB := Aside0.mk (below_step bq hb); (try clear hb); (try clear hb2); (try clear hk); (try clear hi)))
    go_ret2
    exact ⟨eq_, bq⟩
  · rw [if_neg c4] at H
    have c4b0 : decide (t286 < 0) = false := decide_eq_false c4
    clear c4
    replace H := Option.bind_eq_some_iff.mp H
    obtain ⟨⟨t287, t288, t289⟩, A60, H⟩ := H
    replace H : (if t289 = true then ((decimal_Of.f (IntKind.u64.wrap (t287 - t288))).bind fun t290 => (some (t290, 0))) else ((decimal_cut.f k a0).bind fun t291 => (if t291.length < 17592186044416 then ((some (t291 ++ [0] : List Int)).bind fun y294 => ((decimal_cut.f k a1).bind fun t297 => ((decimal_cut.f k a1).bind fun t300 => (if 0 ≤ (wrap64 ((wrap64 ((y294.length : Int) - 1)) - (t300.length : Int))) then (if t297.length + (wrap64 ((wrap64 ((y294.length : Int) - 1)) - (t300.length : Int)) : Int).toNat < 17592186044416 then ((decimal_pieces_take.f k y294 (t297 ++ List.replicate (wrap64 ((wrap64 ((y294.length : Int) - 1)) - (t300.length : Int)) : Int).toNat 0) 1 0).bind fun bt306 => ((decimal_pieces_trim.f k bt306.2).bind fun t308 => ((decimal_pieces_text.f k t308).bind fun t311 => (some (t311, 0))))) else (none)) else (none))))) else (none)))) = some (r1, r2) := H
    have A6 := Aside0.mk A60
    clear A60
    by_cases c7 : t289 = true
    · subst c7
      have H1 : ((decimal_Of.f (IntKind.u64.wrap (t287 - t288))).bind fun t290 => (some (t290, 0))) = some (r1, r2) := by rw [if_pos rfl] at H; exact H
      clear H
      have H := H1
      clear H1
      replace H := Option.bind_eq_some_iff.mp H
      obtain ⟨t290, A80, H⟩ := H
      replace H : (some (t290, 0)) = some (r1, r2) := H
      have A8 := Aside0.mk A80
      clear A80
      simp only [Option.some.injEq, Prod.mk.injEq] at H
      obtain ⟨rfl, rfl⟩ := H
      go_enter Tryd.func43, Tryd.ntmps43
      go_wp2_with (first | ((with_reducible refine gate_callee (f := 38) rfl ?_); refine goesL_ (some 12) rfl rfl Tryd.func38 (by kernel_rfl) rfl #[.string a0, .string a1] rfl mq ?_; (with_reducible refine (decimal_Compare.calls a0 a1 t286 _ A3.out).mono ?_); rintro e w9 ⟨rfl, hb⟩; refine ⟨_, rfl, ?_⟩; replace HB := Aside0.mk (below_step bq hb); (try clear hb); (try clear hb2); (try clear hk); (try clear hi)) | ((with_reducible refine gate_callee (f := 58) rfl ?_); refine goesL_ (some 17) rfl rfl Tryd.func58 (by kernel_rfl) rfl #[.string a0, .string a1] rfl mq ?_; (with_reducible refine (decimal_both.calls (hT := HT.out.below bq) k a0 a1 t287 t288 true _ A6.out).mono ?_); rintro e w10 ⟨rfl, hb⟩; refine ⟨_, rfl, ?_⟩; replace HB := Aside0.mk (below_step bq hb); (try clear hb); (try clear hb2); (try clear hk); (try clear hi)) | ((with_reducible refine gate_callee (f := 59) rfl ?_); refine goesL_ (some 25) rfl rfl Tryd.func59 (by kernel_rfl) rfl #[.int .u64 (IntKind.u64.wrap (t287 - t288))] rfl mq ?_; (with_reducible refine (decimal_Of.calls (hT := HT.out.below bq) (IntKind.u64.wrap (t287 - t288)) t290 _ A8.out).mono ?_); rintro e w11 ⟨rfl, hb⟩; refine ⟨_, rfl, ?_⟩; replace HB := Aside0.mk (below_step bq hb); (try clear hb); (try clear hb2); (try clear hk); (try clear hi)))
      go_ret2
      exact ⟨eq_, bq⟩
    · replace c7 := Bool.eq_false_iff.mpr c7
      subst c7
      have H1 : ((decimal_cut.f k a0).bind fun t291 => (if t291.length < 17592186044416 then ((some (t291 ++ [0] : List Int)).bind fun y294 => ((decimal_cut.f k a1).bind fun t297 => ((decimal_cut.f k a1).bind fun t300 => (if 0 ≤ (wrap64 ((wrap64 ((y294.length : Int) - 1)) - (t300.length : Int))) then (if t297.length + (wrap64 ((wrap64 ((y294.length : Int) - 1)) - (t300.length : Int)) : Int).toNat < 17592186044416 then ((decimal_pieces_take.f k y294 (t297 ++ List.replicate (wrap64 ((wrap64 ((y294.length : Int) - 1)) - (t300.length : Int)) : Int).toNat 0) 1 0).bind fun bt306 => ((decimal_pieces_trim.f k bt306.2).bind fun t308 => ((decimal_pieces_text.f k t308).bind fun t311 => (some (t311, 0))))) else (none)) else (none))))) else (none))) = some (r1, r2) := by rw [if_neg (show ¬ (false = true) by decide)] at H; exact H
      clear H
      have H := H1
      clear H1
      replace H := Option.bind_eq_some_iff.mp H
      obtain ⟨t291, A120, H⟩ := H
      replace H : (if t291.length < 17592186044416 then ((some (t291 ++ [0] : List Int)).bind fun y294 => ((decimal_cut.f k a1).bind fun t297 => ((decimal_cut.f k a1).bind fun t300 => (if 0 ≤ (wrap64 ((wrap64 ((y294.length : Int) - 1)) - (t300.length : Int))) then (if t297.length + (wrap64 ((wrap64 ((y294.length : Int) - 1)) - (t300.length : Int)) : Int).toNat < 17592186044416 then ((decimal_pieces_take.f k y294 (t297 ++ List.replicate (wrap64 ((wrap64 ((y294.length : Int) - 1)) - (t300.length : Int)) : Int).toNat 0) 1 0).bind fun bt306 => ((decimal_pieces_trim.f k bt306.2).bind fun t308 => ((decimal_pieces_text.f k t308).bind fun t311 => (some (t311, 0))))) else (none)) else (none))))) else (none)) = some (r1, r2) := H
      have A12 := Aside0.mk A120
      clear A120
      by_cases c13 : t291.length < 17592186044416
      · rw [if_pos c13] at H
        have LMc13 := Aside0.mk c13
        clear c13
        obtain ⟨y294, hy294⟩ : ∃ y_ : List Int, y_ = (t291 ++ [0]) := ⟨_, rfl⟩
        replace H : ((decimal_cut.f k a1).bind fun t297 => ((decimal_cut.f k a1).bind fun t300 => (if 0 ≤ (wrap64 ((wrap64 ((y294.length : Int) - 1)) - (t300.length : Int))) then (if t297.length + (wrap64 ((wrap64 ((y294.length : Int) - 1)) - (t300.length : Int)) : Int).toNat < 17592186044416 then ((decimal_pieces_take.f k y294 (t297 ++ List.replicate (wrap64 ((wrap64 ((y294.length : Int) - 1)) - (t300.length : Int)) : Int).toNat 0) 1 0).bind fun bt306 => ((decimal_pieces_trim.f k bt306.2).bind fun t308 => ((decimal_pieces_text.f k t308).bind fun t311 => (some (t311, 0))))) else (none)) else (none)))) = some (r1, r2) := by first | (rw [hy294]; with_reducible exact H) | (have H2_ := (Option.bind_some _ _).symm.trans H; rw [hy294]; with_reducible exact H2_) | (have H2_ := (Option.bind_some _ _).symm.trans H; with_reducible exact H2_) | with_reducible exact H | (rw [hy294]; exact H) | exact H
        have Ny294 := Aside0.mk hy294
        clear hy294
        replace H := Option.bind_eq_some_iff.mp H
        obtain ⟨t297, A140, H⟩ := H
        replace H : ((decimal_cut.f k a1).bind fun t300 => (if 0 ≤ (wrap64 ((wrap64 ((y294.length : Int) - 1)) - (t300.length : Int))) then (if t297.length + (wrap64 ((wrap64 ((y294.length : Int) - 1)) - (t300.length : Int)) : Int).toNat < 17592186044416 then ((decimal_pieces_take.f k y294 (t297 ++ List.replicate (wrap64 ((wrap64 ((y294.length : Int) - 1)) - (t300.length : Int)) : Int).toNat 0) 1 0).bind fun bt306 => ((decimal_pieces_trim.f k bt306.2).bind fun t308 => ((decimal_pieces_text.f k t308).bind fun t311 => (some (t311, 0))))) else (none)) else (none))) = some (r1, r2) := H
        have A14 := Aside0.mk A140
        clear A140
        replace H := Option.bind_eq_some_iff.mp H
        obtain ⟨t300, A150, H⟩ := H
        replace H : (if 0 ≤ (wrap64 ((wrap64 ((y294.length : Int) - 1)) - (t300.length : Int))) then (if t297.length + (wrap64 ((wrap64 ((y294.length : Int) - 1)) - (t300.length : Int)) : Int).toNat < 17592186044416 then ((decimal_pieces_take.f k y294 (t297 ++ List.replicate (wrap64 ((wrap64 ((y294.length : Int) - 1)) - (t300.length : Int)) : Int).toNat 0) 1 0).bind fun bt306 => ((decimal_pieces_trim.f k bt306.2).bind fun t308 => ((decimal_pieces_text.f k t308).bind fun t311 => (some (t311, 0))))) else (none)) else (none)) = some (r1, r2) := H
        have A15 := Aside0.mk A150
        clear A150
        have hq2_ : t297 = t300 := Option.some.inj (A14.out.symm.trans A15.out)
        obtain rfl := hq2_
        obtain ⟨ji16, hji16⟩ : ∃ j_ : Int, (wrap64 ((wrap64 ((y294.length : Int) - 1)) - (t297.length : Int))) = j_ := ⟨_, rfl⟩
        replace H : (if 0 ≤ (ji16) then (if t297.length + (ji16 : Int).toNat < 17592186044416 then ((decimal_pieces_take.f k y294 (t297 ++ List.replicate (ji16 : Int).toNat 0) 1 0).bind fun bt306 => ((decimal_pieces_trim.f k bt306.2).bind fun t308 => ((decimal_pieces_text.f k t308).bind fun t311 => (some (t311, 0))))) else (none)) else (none)) = some (r1, r2) := by first | (rw [hji16] at H; exact H) | (simp only [hji16] at H ⊢; exact H)
        (try rw [hji16] at A3)
        (try rw [hji16] at A6)
        (try rw [hji16] at A12)
        (try rw [hji16] at A14)
        (try rw [hji16] at A15)
        have hji16w : (IntKind.i64.wrap ((wrap64 ((y294.length : Int) - 1)) - (t297.length : Int))) = ji16 := (i64_w _).trans hji16
        by_cases c17 : 0 ≤ (ji16)
        · rw [if_pos c17] at H
          have c17b0 := eq_true c17
          have c17b1 : decide (0 ≤ (ji16)) = true := decide_eq_true c17
          clear c17
          by_cases c18 : t297.length + (ji16 : Int).toNat < 17592186044416
          · rw [if_pos c18] at H
            have LMc18 := Aside0.mk c18
            clear c18
            obtain ⟨y303, hy303⟩ : ∃ y_ : List Int, y_ = (t297 ++ List.replicate (ji16 : Int).toNat 0) := ⟨_, rfl⟩
            replace H : ((decimal_pieces_take.f k y294 y303 1 0).bind fun bt306 => ((decimal_pieces_trim.f k bt306.2).bind fun t308 => ((decimal_pieces_text.f k t308).bind fun t311 => (some (t311, 0))))) = some (r1, r2) := by first | (rw [hy303]; with_reducible exact H) | (have H2_ := (Option.bind_some _ _).symm.trans H; rw [hy303]; with_reducible exact H2_) | (have H2_ := (Option.bind_some _ _).symm.trans H; with_reducible exact H2_) | with_reducible exact H | (rw [hy303]; exact H) | exact H
            have Ny303 := Aside0.mk hy303
            clear hy303
            replace H := Option.bind_eq_some_iff.mp H
            obtain ⟨⟨t306, t307⟩, A190, H⟩ := H
            replace H : ((decimal_pieces_trim.f k t307).bind fun t308 => ((decimal_pieces_text.f k t308).bind fun t311 => (some (t311, 0)))) = some (r1, r2) := H
            have A19 := Aside0.mk A190
            clear A190
            replace H := Option.bind_eq_some_iff.mp H
            obtain ⟨t308, A200, H⟩ := H
            replace H : ((decimal_pieces_text.f k t308).bind fun t311 => (some (t311, 0))) = some (r1, r2) := H
            have A20 := Aside0.mk A200
            clear A200
            replace H := Option.bind_eq_some_iff.mp H
            obtain ⟨t311, A210, H⟩ := H
            replace H : (some (t311, 0)) = some (r1, r2) := H
            have A21 := Aside0.mk A210
            clear A210
            simp only [Option.some.injEq, Prod.mk.injEq] at H
            obtain ⟨rfl, rfl⟩ := H
            go_enter Tryd.func43, Tryd.ntmps43
            go_wp2_with (first | ((with_reducible refine gate_callee (f := 38) rfl ?_); refine goesL_ (some 12) rfl rfl Tryd.func38 (by kernel_rfl) rfl #[.string a0, .string a1] rfl mq ?_; (with_reducible refine (decimal_Compare.calls a0 a1 t286 _ A3.out).mono ?_); rintro e w22 ⟨rfl, hb⟩; refine ⟨_, rfl, ?_⟩; replace HB := Aside0.mk (below_step bq hb); (try clear hb); (try clear hb2); (try clear hk); (try clear hi)) | ((with_reducible refine gate_callee (f := 58) rfl ?_); refine goesL_ (some 17) rfl rfl Tryd.func58 (by kernel_rfl) rfl #[.string a0, .string a1] rfl mq ?_; (with_reducible refine (decimal_both.calls (hT := HT.out.below bq) k a0 a1 t287 t288 false _ A6.out).mono ?_); rintro e w23 ⟨rfl, hb⟩; refine ⟨_, rfl, ?_⟩; replace HB := Aside0.mk (below_step bq hb); (try clear hb); (try clear hb2); (try clear hk); (try clear hi)) | ((with_reducible refine gate_callee (f := 60) rfl ?_); refine goesL_ (some 27) rfl rfl Tryd.func60 (by kernel_rfl) rfl #[.string a0] rfl mq ?_; (with_reducible refine (decimal_cut.calls k a0 t291 _ A12.out).mono ?_); rintro e w24 ⟨v292, rfl, ho0, hb⟩; refine ⟨_, rfl, ?_⟩; have n0_ := Aside0.mk (Kd.R_lower ho0 (below_size bq)); have n1_ := Aside0.mk (below_step bq hb); clear HB; have HO293 := n0_; have HB := n1_; clear n0_ n1_; (try clear hb); (try clear hb2); (try clear hk); (try clear hi); (try clear ho0)) | ((with_reducible refine gate_builtin (b := .append) (xs := #[.tmp 27, .tmp 28]) rfl ?_); at_builtin; refine Kd.R_append (Kd.int .u64) (w0 := w) w.heap.size rfl (.tmp 27) (.tmp 28) 79 74 (.int .u64 0) 8 rfl Tryd.underlying79 info74 rfl (by decide) (by omega) v292 t291 0 [.int .u64 0] (fun _ => True) (fun _ => False) rfl rfl ?aP (fun _ hk => hk.elim) ?aF ?aO ?aB ?aS ?aL ?_; (case aP => exact rfl); (case aB => exact bq); (case aF => exact (fun _ _ => trivial)); (case aO => exact (by (with_reducible repeat (first | apply Kd.R_alloc | apply Kd.R_drewN | apply Kd.R_drew)); exact HO293.out)); (case aS => exact (below_size bq)); (case aL => have := LMc13.out; omega); intro v295 w25 ho hb hg hat; rw [← Ny294.out] at ho; have n0_ := Aside0.mk (hb); have n1_ := Aside0.mk (ho); clear HB; clear HO293; have HB := n0_; have HO296 := n1_; clear n0_ n1_; clear ho hb hg hat) | ((with_reducible refine gate_callee (f := 60) rfl ?_); refine goesL_ (some 32) rfl rfl Tryd.func60 (by kernel_rfl) rfl #[.string a1] rfl mq ?_; (with_reducible refine (decimal_cut.calls k a1 t297 _ A14.out).mono ?_); rintro e w26 ⟨v298, rfl, ho0, hb⟩; refine ⟨_, rfl, ?_⟩; have n0_ := Aside0.mk (Kd.R_elder' (by (with_reducible repeat (first | apply Kd.R_alloc | apply Kd.R_drewN | apply Kd.R_drew)); exact HO296.out) (Kd.R_base ho0) hb); have n1_ := Aside0.mk (Kd.R_lower (Kd.R_new' ho0 (Kd.R_lt (by (with_reducible repeat (first | apply Kd.R_alloc | apply Kd.R_drewN | apply Kd.R_drew)); exact HO296.out))) (below_size bq)); have n2_ := Aside0.mk (below_step bq hb); clear HO296; clear HB; have HO296 := n0_; have HO299 := n1_; have HB := n2_; clear n0_ n1_ n2_; (try clear hb); (try clear hb2); (try clear hk); (try clear hi); (try clear ho0); obtain ⟨Ao27, co27, eo27⟩ := Kd.R_slice HO296.out; subst eo27) | ((with_reducible refine gate_callee (f := 60) rfl ?_); refine goesL_ (some 37) rfl rfl Tryd.func60 (by kernel_rfl) rfl #[.string a1] rfl mq ?_; (with_reducible refine (decimal_cut.calls k a1 t297 _ A15.out).mono ?_); rintro e w28 ⟨v301, rfl, ho0, hb⟩; refine ⟨_, rfl, ?_⟩; have n0_ := Aside0.mk (Kd.R_elder' (by (with_reducible repeat (first | apply Kd.R_alloc | apply Kd.R_drewN | apply Kd.R_drew)); exact HO296.out) (Kd.R_base ho0) hb); have n1_ := Aside0.mk (Kd.R_elder' (by (with_reducible repeat (first | apply Kd.R_alloc | apply Kd.R_drewN | apply Kd.R_drew)); exact HO299.out) (Kd.R_base ho0) hb); have n2_ := Aside0.mk (Kd.R_lower (Kd.R_new' (Kd.R_new' ho0 (Kd.R_lt (by (with_reducible repeat (first | apply Kd.R_alloc | apply Kd.R_drewN | apply Kd.R_drew)); exact HO296.out))) (Kd.R_lt (by (with_reducible repeat (first | apply Kd.R_alloc | apply Kd.R_drewN | apply Kd.R_drew)); exact HO299.out))) (below_size bq)); have n3_ := Aside0.mk (below_step bq hb); clear HO296; clear HO299; clear HB; have HO296 := n0_; have HO299 := n1_; have HO302 := n2_; have HB := n3_; clear n0_ n1_ n2_ n3_; (try clear hb); (try clear hb2); (try clear hk); (try clear hi); (try clear ho0); obtain ⟨Ao29, co29, eo29⟩ := Kd.R_slice HO302.out; subst eo29) | (at_builtin; refine Kd.R_append_zeros (Kd.int .u64) (w0 := w) w.heap.size rfl (.tmp 32) (.tmp 39) 79 3 74 (.int .u64 0) 8 rfl Tryd.underlying79 Tryd.underlying3 info74 rfl (by decide) (by omega) v298 t297 0 (ji16 : Int) (fun k_ => some k_ ≠ (.slice Ao27 y294.length co27 : Value).ownBlock ∧ some k_ ≠ (.slice Ao29 t297.length co29 : Value).ownBlock) rfl rfl rfl ?aF ?aO (of_decide_eq_true (by first | (with_reducible assumption) | assumption)) ?aB ?aS ?aL ?_; (case aB => exact bq); (case aF => exact (fun k_ hk => ⟨Kd.fresh' (Kd.R_lt (by (with_reducible repeat (first | apply Kd.R_alloc | apply Kd.R_drewN | apply Kd.R_drew)); exact HO296.out)) k_ hk, Kd.fresh' (Kd.R_lt (by (with_reducible repeat (first | apply Kd.R_alloc | apply Kd.R_drewN | apply Kd.R_drew)); exact HO302.out)) k_ hk⟩)); (case aO => exact (by (with_reducible repeat (first | apply Kd.R_alloc | apply Kd.R_drewN | apply Kd.R_drew)); exact Kd.R_mono HO299.out (fun _ hk => ⟨hk.1.2, hk.2⟩))); (case aS => exact (below_size bq)); (case aL => have := LMc18.out; omega); intro v304 w30 ho hb hg hat; rw [← Ny303.out] at ho; have n0_ := Aside0.mk (Kd.R_after (ok := (fun k_ => some k_ ≠ (.slice Ao29 t297.length co29 : Value).ownBlock)) (by (with_reducible repeat (first | apply Kd.R_alloc | apply Kd.R_drewN | apply Kd.R_drew)); exact Kd.R_mono HO296.out (fun _ hk => ⟨hk.2, hk.1.2⟩)) hg hat); have n1_ := Aside0.mk (Kd.R_after (ok := (fun k_ => some k_ ≠ (.slice Ao27 y294.length co27 : Value).ownBlock)) (by (with_reducible repeat (first | apply Kd.R_alloc | apply Kd.R_drewN | apply Kd.R_drew)); exact Kd.R_mono HO302.out (fun _ hk => ⟨hk.1.2, hk.2⟩)) hg hat); have n2_ := Aside0.mk (hb); have n3_ := Aside0.mk (ho); clear HO296; clear HO302; clear HB; clear HO299; have HO296 := n0_; have HO302 := n1_; have HB := n2_; have HO305 := n3_; clear n0_ n1_ n2_ n3_; clear ho hb hg hat; obtain ⟨Ao31, co31, eo31⟩ := Kd.R_slice HO305.out; subst eo31) | ((with_reducible refine gate_callee (f := 67) rfl ?_); refine goesL_ (some 41) rfl rfl Tryd.func67 (by kernel_rfl) rfl #[.slice Ao27 y294.length co27, .slice Ao31 y303.length co31, .int .u64 1, .int .i64 0] rfl mq ?_; (with_reducible refine (decimal_pieces_take.calls k (fun k_ => some k_ = (.slice Ao27 y294.length co27 : Value).ownBlock) (.slice Ao27 y294.length co27) y294 _ _ y303 1 0 t306 t307 w _ ?side1 ?side2 ?side3 ?side4 A19.out).mono ?_); (case side1 => exact bq); (case side2 => exact Kd.R_tight rfl HO296.out); (case side3 => exact Kd.C_kept_own (HO305.out) (fun k_ hk_ hs_ => (hk_.1) hs_)); (case side4 => exact (Kd.R_reads' HO305.out).2.1); rintro e w32 ⟨rfl, hy0, hb, hkp⟩; refine ⟨_, rfl, ?_⟩; have n0_ := Aside0.mk (Kd.R_reok rfl hy0 (fun k_ e_ => HO296.out.1 k_ e_)); have n1_ := Aside0.mk (Kd.R_mono (ok' := fun k_ => some k_ ≠ (.slice Ao27 y294.length co27 : Value).ownBlock ∧ some k_ ≠ (.slice Ao31 y303.length co31 : Value).ownBlock) (Kd.R_keptB (HO302.out) hkp (fun k_ hk_ hs_ => (hk_.1) hs_)) (fun k_ hk_ => ⟨hk_.1.1, hk_.1.2⟩)); have n2_ := Aside0.mk (Kd.R_mono (ok' := fun k_ => some k_ ≠ (.slice Ao27 y294.length co27 : Value).ownBlock ∧ some k_ ≠ (.slice Ao29 t297.length co29 : Value).ownBlock) (Kd.R_keptB (HO305.out) hkp (fun k_ hk_ hs_ => (hk_.1) hs_)) (fun k_ hk_ => ⟨hk_.1.1, hk_.1.2⟩)); have n3_ := Aside0.mk (hb); clear HO296; clear HO302; clear HO305; clear HB; have HO296 := n0_; have HO302 := n1_; have HO305 := n2_; have HB := n3_; clear n0_ n1_ n2_ n3_; (try clear hb); (try clear hkp); (try clear hy0)) | ((with_reducible refine gate_callee (f := 66) rfl ?_); refine goesL_ (some 43) rfl rfl Tryd.func66 (by kernel_rfl) rfl #[.slice Ao27 y294.length co27] rfl mq ?_; (with_reducible refine (decimal_pieces_trim.calls k (fun k_ => some k_ = (.slice Ao27 y294.length co27 : Value).ownBlock) (.slice Ao27 y294.length co27) t307 t308 w _ ?side1 ?side2 A20.out).mono ?_); (case side1 => exact bq); (case side2 => exact Kd.R_tight rfl HO296.out); rintro e w33 ⟨v309, rfl, ho0, hb, hkp⟩; refine ⟨_, rfl, ?_⟩; have n0_ := Aside0.mk (Kd.R_mono (ok' := fun k_ => some k_ ≠ (.slice Ao31 y303.length co31 : Value).ownBlock ∧ some k_ ≠ (v309 : Value).ownBlock) (Kd.R_keptB (HO302.out) hkp (fun k_ hk_ hs_ => (hk_.1) hs_)) (fun k_ hk_ => ⟨hk_.1.2, fun e_ => Or.elim (ho0.1 k_ e_.symm) (fun hs_ => hk_.2.1 hs_) (fun hn_ => Nat.not_le.2 hk_.2.2 hn_)⟩)); have n1_ := Aside0.mk (Kd.R_mono (ok' := fun k_ => some k_ ≠ (.slice Ao29 t297.length co29 : Value).ownBlock ∧ some k_ ≠ (v309 : Value).ownBlock) (Kd.R_keptB (HO305.out) hkp (fun k_ hk_ hs_ => (hk_.1) hs_)) (fun k_ hk_ => ⟨hk_.1.2, fun e_ => Or.elim (ho0.1 k_ e_.symm) (fun hs_ => hk_.2.1 hs_) (fun hn_ => Nat.not_le.2 hk_.2.2 hn_)⟩)); have n2_ := Aside0.mk (Kd.R_mono (ok' := fun k_ => some k_ ≠ (.slice Ao29 t297.length co29 : Value).ownBlock ∧ some k_ ≠ (.slice Ao31 y303.length co31 : Value).ownBlock) ho0 (fun k_ hk_ => ⟨Or.elim hk_ (fun hs_ => fun e_ => (((HO302.out).1 k_ e_.symm).1) hs_) (fun hn_ => (Kd.fresh' (Kd.R_lt (by (with_reducible repeat (first | apply Kd.R_alloc | apply Kd.R_drewN | apply Kd.R_drew)); exact HO302.out)) k_ hn_)), Or.elim hk_ (fun hs_ => fun e_ => (((HO305.out).1 k_ e_.symm).1) hs_) (fun hn_ => (Kd.fresh' (Kd.R_lt (by (with_reducible repeat (first | apply Kd.R_alloc | apply Kd.R_drewN | apply Kd.R_drew)); exact HO305.out)) k_ hn_))⟩)); have n3_ := Aside0.mk (hb); clear HO302; clear HO305; clear HB; clear HO296; have HO302 := n0_; have HO305 := n1_; have HO310 := n2_; have HB := n3_; clear n0_ n1_ n2_ n3_; (try clear hb); (try clear hkp); (try clear ho0); obtain ⟨Ao34, co34, eo34⟩ := Kd.R_slice HO310.out; subst eo34) | ((with_reducible refine gate_callee (f := 63) rfl ?_); refine goesL_ (some 44) rfl rfl Tryd.func63 (by kernel_rfl) rfl #[.slice Ao34 t308.length co34] rfl mq ?_; (with_reducible refine (decimal_pieces_text.calls k _ _ t308 t311 _ ?side1 ?side2 A21.out).mono ?_); (case side1 => repeat (first | exact (Kd.R_reads' HO310.out).2.2 | (with_reducible refine Kd.C_alloc ?_ _) | (with_reducible refine Kd.C_drewN ?_ _) | (with_reducible refine Kd.C_drew ?_))); (case side2 => exact (Kd.R_reads' HO310.out).2.1); rintro e w35 ⟨rfl, hb⟩; refine ⟨_, rfl, ?_⟩; have n0_ := Aside0.mk (Kd.R_below (by (with_reducible repeat (first | apply Kd.R_alloc | apply Kd.R_drewN | apply Kd.R_drew)); exact HO302.out) hb); have n1_ := Aside0.mk (Kd.R_below (by (with_reducible repeat (first | apply Kd.R_alloc | apply Kd.R_drewN | apply Kd.R_drew)); exact HO305.out) hb); have n2_ := Aside0.mk (Kd.R_below (by (with_reducible repeat (first | apply Kd.R_alloc | apply Kd.R_drewN | apply Kd.R_drew)); exact HO310.out) hb); have n3_ := Aside0.mk (below_step bq hb); clear HO302; clear HO305; clear HO310; clear HB; have HO302 := n0_; have HO305 := n1_; have HO310 := n2_; have HB := n3_; clear n0_ n1_ n2_ n3_; (try clear hb); (try clear hb2); (try clear hk); (try clear hi)))
            go_ret2
            exact ⟨by first | rfl | (simp [errW_none, errW_some] <;> rfl) | (simp only [← hji16]; first | rfl | (simp [errW_none, errW_some] <;> rfl)) | (simp [*, errW_none, errW_some] <;> rfl), bq⟩
          · rw [if_neg c18] at H
            exact absurd H (by simp)
        · rw [if_neg c17] at H
          exact absurd H (by simp)
      · rw [if_neg c13] at H
        exact absurd H (by simp)
end Go.Proofs.YtdelgjdplmennaaDoor.P
