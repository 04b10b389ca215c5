/- Functions of the program, as functions of Lean, and the walks that show that the code answers as they do: written by a program. Conditions: those of each theorem. -/
import Derived.Test.YtgicckcahhlbjaaGreatDoorWholeSumsF4
namespace Go.Proofs.YtgicckcahhlbjaaGreatDoor.P
open Go.RowKit Go.Proofs.YtgicckcahhlbjaaGreatDoorW.PrintWords Go.Proofs.YtgicckcahhlbjaaGreatDoorW.PrintLast Go.Proofs.YtgicckcahhlbjaaGreatDoorW.PrintMore
attribute [local go_sem] gtr_text max2_int min2_int max_two min_two max_three min_three max_four min_four
set_option linter.unusedVariables false
set_option linter.unusedSimpArgs false
def decimal_DivMod.f (k : Nat) (a0 : ByteArray) (a1 : ByteArray) : Option (ByteArray × ByteArray × Int) := if a1.toList = ([48] : List UInt8) then (some ((⟨#[]⟩ : ByteArray), (⟨#[]⟩ : ByteArray), 17)) else ((decimal_both.f k a0 a1).bind fun bt298 => (if bt298.2.2 = true then (if bt298.2.1 = 0 then (none) else ((decimal_Of.f (IntKind.u64.wrap (Int.tdiv bt298.1 bt298.2.1))).bind fun t301 => ((decimal_Of.f (Int.tmod bt298.1 bt298.2.1)).bind fun t302 => (some (t301, t302, 0))))) else ((decimal_cut.f k a0).bind fun t303 => ((decimal_cut.f k a1).bind fun t306 => ((decimal_pieces_compare.f k t303 t306).bind fun t309 => (if t309 < 0 then (some ((⟨#[48]⟩ : ByteArray), a0, 0)) else (if (t306.length : Int) = 1 then (if 0 < (t306.length : Int) then ((decimal_pieces_small.f k t303 (rd t306 0)).bind fun bt311 => ((decimal_pieces_text.f k bt311.1).bind fun t315 => ((decimal_Of.f bt311.2).bind fun t316 => (some (t315, t316, 0))))) else (none)) else ((decimal_pieces_divide.f k t303 t306).bind fun bt317 => ((decimal_pieces_text.f k bt317.1).bind fun t323 => ((decimal_pieces_text.f k bt317.2).bind fun t324 => (some (t323, t324, 0))))))))))))
theorem decimal_DivMod.mono : ∀ a0 a1 k, LeO (decimal_DivMod.f k a0 a1) (decimal_DivMod.f (k + 1) a0 a1) := by
  intro a0 a1 k
  unfold decimal_DivMod.f
  repeat' first
      | (with_reducible exact decimal_both.mono _ _ _)
      | (with_reducible exact decimal_cut.mono _ _)
      | (with_reducible exact decimal_pieces_compare.mono _ _ _)
      | (with_reducible exact decimal_pieces_divide.mono _ _ _)
      | (with_reducible exact decimal_pieces_small.mono _ _ _)
      | (with_reducible exact decimal_pieces_text.mono _ _)
      | (with_reducible exact LeO.refl _)
      | (with_reducible exact LeO.none _)
      | (with_reducible refine LeO.ite ?_ ?_)
      | (with_reducible refine LeO.bind ?_ (fun _ => ?_))
      | exact decimal_both.mono _ _ _
      | exact decimal_cut.mono _ _
      | exact decimal_pieces_compare.mono _ _ _
      | exact decimal_pieces_divide.mono _ _ _
      | exact decimal_pieces_small.mono _ _ _
      | exact decimal_pieces_text.mono _ _
      | exact LeO.none _
      | refine LeO.ite ?_ ?_
      | refine LeO.bind ?_ (fun _ => ?_)
def decimal_DivMod.T5 : Bool × List (List Nat × List Nat) := (true, [([], []), ([], []), ([0, 1], [0, 1]), ([2], [2]), ([], []), ([], []), ([4, 5], [4, 5]), ([6, 3], [6]), ([3, 7, 0, 1, 2, 3], [3]), ([7, 8, 0, 1, 2, 3, 4, 5, 6, 7, 8], [7]), ([9, 0, 1, 2, 3, 4, 5, 6, 7, 8, 9], [])])
def decimal_DivMod.B5 : List Nat := [0, 0, 3, 7, 0, 0, 48, 127, 255, 511, 1023]
theorem decimal_DivMod.tab5 : rtab .any (opsOf Tryz.f47 5) = decimal_DivMod.T5 := by kernel_rfl
theorem decimal_DivMod.bits5 : waitsOk decimal_DivMod.T5.2 decimal_DivMod.B5 = true := by kernel_rfl
set_option maxHeartbeats 8000000 in
set_option maxRecDepth 100000 in
theorem decimal_DivMod.calls (k : Nat) (a0 : ByteArray) (a1 : ByteArray) (r1 : ByteArray) (r2 : ByteArray) (r3 : Int) (w : World) (hT : Tab w) (h : decimal_DivMod.f k a0 a1 = some (r1, r2, r3)) :
    Calls Tryz.prog 47 #[.string a0, .string a1] w fun e w' => e = .returned (.tuple #[.string r1, .string r2, .int .i64 r3]) ∧ Below w.heap.size w w' := by
  have HT := Aside0.mk hT
  clear hT
  have HB := Aside0.mk (Below.refl w.heap.size w)
  have H : (if a1.toList = ([48] : List UInt8) then (some ((⟨#[]⟩ : ByteArray), (⟨#[]⟩ : ByteArray), 17)) else ((decimal_both.f k a0 a1).bind fun bt298 => (if bt298.2.2 = true then (if bt298.2.1 = 0 then (none) else ((decimal_Of.f (IntKind.u64.wrap (Int.tdiv bt298.1 bt298.2.1))).bind fun t301 => ((decimal_Of.f (Int.tmod bt298.1 bt298.2.1)).bind fun t302 => (some (t301, t302, 0))))) else ((decimal_cut.f k a0).bind fun t303 => ((decimal_cut.f k a1).bind fun t306 => ((decimal_pieces_compare.f k t303 t306).bind fun t309 => (if t309 < 0 then (some ((⟨#[48]⟩ : ByteArray), a0, 0)) else (if (t306.length : Int) = 1 then (if 0 < (t306.length : Int) then ((decimal_pieces_small.f k t303 (rd t306 0)).bind fun bt311 => ((decimal_pieces_text.f k bt311.1).bind fun t315 => ((decimal_Of.f bt311.2).bind fun t316 => (some (t315, t316, 0))))) else (none)) else ((decimal_pieces_divide.f k t303 t306).bind fun bt317 => ((decimal_pieces_text.f k bt317.1).bind fun t323 => ((decimal_pieces_text.f k bt317.2).bind fun t324 => (some (t323, t324, 0))))))))))))) = some (r1, r2, r3) := h
  clear h
  by_cases c3 : a1.toList = ([48] : List UInt8)
  · rw [if_pos c3] at H
    have c3b0 : (a1.toList == ([48] : List UInt8)) = true := beq_iff_eq.mpr c3
    have c3b1 : (a1.toList != ([48] : List UInt8)) = false := bne_eq_false_iff_eq.mpr c3
    clear c3
    simp only [Option.some.injEq, Prod.mk.injEq] at H
    obtain ⟨rfl, rfl, rfl⟩ := H
    go_enter Tryz.func47, Tryz.ntmps47
    go_wp2
    go_ret3
    exact ⟨eq_, bq⟩
  · rw [if_neg c3] at H
    have c3b0 : (a1.toList == ([48] : List UInt8)) = false := beq_eq_false_iff_ne.mpr c3
    have c3b1 : (a1.toList != ([48] : List UInt8)) = true := bne_iff_ne.mpr c3
    replace H := Option.bind_eq_some_iff.mp H
    obtain ⟨⟨t298, t299, t300⟩, A40, H⟩ := H
    replace H : (if t300 = true then (if t299 = 0 then (none) else ((decimal_Of.f (IntKind.u64.wrap (Int.tdiv t298 t299))).bind fun t301 => ((decimal_Of.f (Int.tmod t298 t299)).bind fun t302 => (some (t301, t302, 0))))) else ((decimal_cut.f k a0).bind fun t303 => ((decimal_cut.f k a1).bind fun t306 => ((decimal_pieces_compare.f k t303 t306).bind fun t309 => (if t309 < 0 then (some ((⟨#[48]⟩ : ByteArray), a0, 0)) else (if (t306.length : Int) = 1 then (if 0 < (t306.length : Int) then ((decimal_pieces_small.f k t303 (rd t306 0)).bind fun bt311 => ((decimal_pieces_text.f k bt311.1).bind fun t315 => ((decimal_Of.f bt311.2).bind fun t316 => (some (t315, t316, 0))))) else (none)) else ((decimal_pieces_divide.f k t303 t306).bind fun bt317 => ((decimal_pieces_text.f k bt317.1).bind fun t323 => ((decimal_pieces_text.f k bt317.2).bind fun t324 => (some (t323, t324, 0))))))))))) = some (r1, r2, r3) := H
    have A4 := Aside0.mk A40
    clear A40
    by_cases c5 : t300 = true
    · subst c5
      have H1 : (if t299 = 0 then (none) else ((decimal_Of.f (IntKind.u64.wrap (Int.tdiv t298 t299))).bind fun t301 => ((decimal_Of.f (Int.tmod t298 t299)).bind fun t302 => (some (t301, t302, 0))))) = some (r1, r2, r3) := by rw [if_pos rfl] at H; exact H
      clear H
      have H := H1
      clear H1
      by_cases c6 : t299 = 0
      · rw [if_pos c6] at H
        exact absurd H (by simp)
      · rw [if_neg c6] at H
        have c6b0 : (t299 == 0) = false := beq_eq_false_iff_ne.mpr c6
        have c6b1 : (t299 != 0) = true := bne_iff_ne.mpr c6
        replace H := Option.bind_eq_some_iff.mp H
        obtain ⟨t301, A70, H⟩ := H
        replace H : ((decimal_Of.f (Int.tmod t298 t299)).bind fun t302 => (some (t301, t302, 0))) = some (r1, r2, r3) := H
        have A7 := Aside0.mk A70
        clear A70
        replace H := Option.bind_eq_some_iff.mp H
        obtain ⟨t302, A80, H⟩ := H
        replace H : (some (t301, t302, 0)) = some (r1, r2, r3) := H
        have A8 := Aside0.mk A80
        clear A80
        simp only [Option.some.injEq, Prod.mk.injEq] at H
        obtain ⟨rfl, rfl, rfl⟩ := H
        go_enter Tryz.func47, Tryz.ntmps47
        try go_wp2_with (first | ((with_reducible refine gate_callee (f := 68) rfl ?_); refine goesL_ (some 21) rfl rfl Tryz.func68 (by kernel_rfl) rfl #[.string a0, .string a1] rfl mq ?_; (with_reducible refine (decimal_both.calls (hT := HT.out.below bq) k a0 a1 t298 t299 true _ A4.out).mono ?_); rintro e w9 ⟨rfl, hb⟩; refine ⟨_, rfl, ?_⟩; replace HB := Aside0.mk (below_step bq hb); (try clear hb); (try clear hb2); (try clear hk); (try clear hi)))
        have n0_ := Aside0.mk (below_drew1 HB.out)
        clear HB
        have HB := n0_
        clear n0_
        refine start_ (n := 11) (S := fun w' => True) (ds := []) #[false, false, false, false, false, false, false, false, false, false, false] (by kernel_rfl) rfl rfl trivial (fun hHeld => ?_); refine with_tabW decimal_DivMod.tab5 decimal_DivMod.bits5 (fun HT_ HW_ => ?_)
        generalize w9.drew = w10 at HB hHeld ⊢
        refine pure_ (i := 0) (N := some 26) (v := ?_) (a' := ?_) #[true, false, false, false, false, false, false, false, false, false, false] rfl rfl (any_of HT_.out (by kernel_rfl)) (fun _ _ _ h => h) (Or.inl ⟨by rfl, ?_⟩) ?_ ?_
        rotate_left
        · intro w'
          go_simp
          with_reducible rfl
        rotate_left
        · simp only [Act.put, List.setIfInBounds_toArray, List.set_cons_zero, List.set_cons_succ, i64_w, i32_w]
          rfl
        refine pure_ (i := 1) (N := some 27) (v := ?_) (a' := ?_) #[true, true, false, false, false, false, false, false, false, false, false] rfl rfl (any_of HT_.out (by kernel_rfl)) (fun _ _ _ h => h) (Or.inl ⟨by rfl, ?_⟩) ?_ ?_
        rotate_left
        · intro w'
          go_simp
          with_reducible rfl
        rotate_left
        · simp only [Act.put, List.setIfInBounds_toArray, List.set_cons_zero, List.set_cons_succ, i64_w, i32_w]
          rfl
        refine pure_ (i := 2) (N := some 28) (v := ?_) (a' := ?_) #[true, true, true, false, false, false, false, false, false, false, false] rfl rfl (any_of HT_.out (by kernel_rfl)) (fun _ _ _ h => h) (Or.inl ⟨by rfl, ?_⟩) ?_ ?_
        rotate_left
        · intro w'
          go_simp
          with_reducible rfl
        rotate_left
        · simp only [Act.put, List.setIfInBounds_toArray, List.set_cons_zero, List.set_cons_succ, i64_w, i32_w]
          rfl
        refine pure_ (i := 4) (N := some 30) (v := ?_) (a' := ?_) #[true, true, true, false, true, false, false, false, false, false, false] rfl rfl (any_of HT_.out (by kernel_rfl)) (fun _ _ _ h => h) (Or.inl ⟨by rfl, ?_⟩) ?_ ?_
        rotate_left
        · intro w'
          go_simp
          with_reducible rfl
        rotate_left
        · simp only [Act.put, List.setIfInBounds_toArray, List.set_cons_zero, List.set_cons_succ, i64_w, i32_w]
          rfl
        refine pure_ (i := 5) (N := some 31) (v := ?_) (a' := ?_) #[true, true, true, false, true, true, false, false, false, false, false] rfl rfl (any_of HT_.out (by kernel_rfl)) (fun _ _ _ h => h) (Or.inl ⟨by rfl, ?_⟩) ?_ ?_
        rotate_left
        · intro w'
          go_simp
          with_reducible rfl
        rotate_left
        · simp only [Act.put, List.setIfInBounds_toArray, List.set_cons_zero, List.set_cons_succ, i64_w, i32_w]
          rfl
        refine pure_ (i := 6) (N := some 32) (v := ?_) (a' := ?_) #[true, true, true, false, true, true, true, false, false, false, false] rfl rfl (any_of HT_.out (by kernel_rfl)) (fun _ _ _ h => h) (Or.inl ⟨by rfl, ?_⟩) ?_ ?_
        rotate_left
        · intro w'
          go_simp
          with_reducible rfl
        rotate_left
        · simp only [Act.put, List.setIfInBounds_toArray, List.set_cons_zero, List.set_cons_succ, i64_w, i32_w]
          rfl
        refine one_ (i := 3) (N := some 29) #[true, true, true, true, true, true, true, false, false, false, false] rfl rfl (one_of HT_.out (by kernel_rfl)) (by decide) (fun K hK => ?_)
        refine goes_ Tryz.func69 (by kernel_rfl) rfl #[.int .u64 (IntKind.u64.wrap (Int.tdiv t298 t299))] (by rfl) rfl rfl mq ?_
        with_reducible refine (decimal_Of.calls (hT := HT.out.below bq) (IntKind.u64.wrap (Int.tdiv t298 t299)) t301 _ A7.out).mono ?_
        rintro e w11 ⟨rfl, hb⟩
        refine ⟨_, rfl, ?_⟩
        have n0_ := Aside0.mk (below_step bq hb)
        clear HB
        have HB := n0_
        clear n0_
        (try clear hb)
        (try clear hb2)
        (try clear hk)
        (try clear hi)
        refine hK.out _ _ trivial (fun hHeld => ?_)
        clear hK K
        refine norm_ (a' := ?_) ?_ ?_
        rotate_left
        · show Act.put _ (some 29) _ = _
          simp only [Act.put, List.setIfInBounds_toArray, List.set_cons_zero, List.set_cons_succ, i64_w, i32_w]
          rfl
        refine one_ (i := 7) (N := some 33) #[true, true, true, true, true, true, true, true, false, false, false] rfl rfl (one_of HT_.out (by kernel_rfl)) (by decide) (fun K hK => ?_)
        refine goes_ Tryz.func69 (by kernel_rfl) rfl #[.int .u64 (Int.tmod t298 t299)] (by rfl) rfl rfl mq ?_
        with_reducible refine (decimal_Of.calls (hT := HT.out.below bq) (Int.tmod t298 t299) t302 _ A8.out).mono ?_
        rintro e w12 ⟨rfl, hb⟩
        refine ⟨_, rfl, ?_⟩
        have n0_ := Aside0.mk (below_step bq hb)
        clear HB
        have HB := n0_
        clear n0_
        (try clear hb)
        (try clear hb2)
        (try clear hk)
        (try clear hi)
        refine hK.out _ _ trivial (fun hHeld => ?_)
        clear hK K
        refine norm_ (a' := ?_) ?_ ?_
        rotate_left
        · show Act.put _ (some 33) _ = _
          simp only [Act.put, List.setIfInBounds_toArray, List.set_cons_zero, List.set_cons_succ, i64_w, i32_w]
          rfl
        refine pure_ (i := 8) (N := some 4) (v := ?_) (a' := ?_) #[true, true, true, true, true, true, true, true, true, false, false] rfl rfl (any_of HT_.out (by kernel_rfl)) (fun _ _ _ h => h) (Or.inl ⟨by rfl, ?_⟩) ?_ ?_
        rotate_left
        · intro w'
          go_simp
          with_reducible rfl
        rotate_left
        · simp only [Act.put, List.setIfInBounds_toArray, List.set_cons_zero, List.set_cons_succ, i64_w, i32_w]
          rfl
        refine pure_ (i := 9) (N := some 5) (v := ?_) (a' := ?_) #[true, true, true, true, true, true, true, true, true, true, false] rfl rfl (any_of HT_.out (by kernel_rfl)) (fun _ _ _ h => h) (Or.inl ⟨by rfl, ?_⟩) ?_ ?_
        rotate_left
        · intro w'
          go_simp
          with_reducible rfl
        rotate_left
        · simp only [Act.put, List.setIfInBounds_toArray, List.set_cons_zero, List.set_cons_succ, i64_w, i32_w]
          rfl
        refine pure_ (i := 10) (N := some 6) (v := ?_) (a' := ?_) #[true, true, true, true, true, true, true, true, true, true, true] rfl rfl (any_of HT_.out (by kernel_rfl)) (fun _ _ _ h => h) (Or.inl ⟨by rfl, ?_⟩) ?_ ?_
        rotate_left
        · intro w'
          go_simp
          with_reducible rfl
        rotate_left
        · simp only [Act.put, List.setIfInBounds_toArray, List.set_cons_zero, List.set_cons_succ, i64_w, i32_w]
          rfl
        refine done_ (done_of HT_.out (by kernel_rfl)) ?_
        try go_wp2
        go_ret3
        exact ⟨eq_, bq⟩
    · replace c5 := Bool.eq_false_iff.mpr c5
      subst c5
      have H1 : ((decimal_cut.f k a0).bind fun t303 => ((decimal_cut.f k a1).bind fun t306 => ((decimal_pieces_compare.f k t303 t306).bind fun t309 => (if t309 < 0 then (some ((⟨#[48]⟩ : ByteArray), a0, 0)) else (if (t306.length : Int) = 1 then (if 0 < (t306.length : Int) then ((decimal_pieces_small.f k t303 (rd t306 0)).bind fun bt311 => ((decimal_pieces_text.f k bt311.1).bind fun t315 => ((decimal_Of.f bt311.2).bind fun t316 => (some (t315, t316, 0))))) else (none)) else ((decimal_pieces_divide.f k t303 t306).bind fun bt317 => ((decimal_pieces_text.f k bt317.1).bind fun t323 => ((decimal_pieces_text.f k bt317.2).bind fun t324 => (some (t323, t324, 0)))))))))) = some (r1, r2, r3) := by rw [if_neg (show ¬ (false = true) by decide)] at H; exact H
      clear H
      have H := H1
      clear H1
      replace H := Option.bind_eq_some_iff.mp H
      obtain ⟨t303, A130, H⟩ := H
      replace H : ((decimal_cut.f k a1).bind fun t306 => ((decimal_pieces_compare.f k t303 t306).bind fun t309 => (if t309 < 0 then (some ((⟨#[48]⟩ : ByteArray), a0, 0)) else (if (t306.length : Int) = 1 then (if 0 < (t306.length : Int) then ((decimal_pieces_small.f k t303 (rd t306 0)).bind fun bt311 => ((decimal_pieces_text.f k bt311.1).bind fun t315 => ((decimal_Of.f bt311.2).bind fun t316 => (some (t315, t316, 0))))) else (none)) else ((decimal_pieces_divide.f k t303 t306).bind fun bt317 => ((decimal_pieces_text.f k bt317.1).bind fun t323 => ((decimal_pieces_text.f k bt317.2).bind fun t324 => (some (t323, t324, 0))))))))) = some (r1, r2, r3) := H
      have A13 := Aside0.mk A130
      clear A130
      replace H := Option.bind_eq_some_iff.mp H
      obtain ⟨t306, A140, H⟩ := H
      replace H : ((decimal_pieces_compare.f k t303 t306).bind fun t309 => (if t309 < 0 then (some ((⟨#[48]⟩ : ByteArray), a0, 0)) else (if (t306.length : Int) = 1 then (if 0 < (t306.length : Int) then ((decimal_pieces_small.f k t303 (rd t306 0)).bind fun bt311 => ((decimal_pieces_text.f k bt311.1).bind fun t315 => ((decimal_Of.f bt311.2).bind fun t316 => (some (t315, t316, 0))))) else (none)) else ((decimal_pieces_divide.f k t303 t306).bind fun bt317 => ((decimal_pieces_text.f k bt317.1).bind fun t323 => ((decimal_pieces_text.f k bt317.2).bind fun t324 => (some (t323, t324, 0)))))))) = some (r1, r2, r3) := H
      have A14 := Aside0.mk A140
      clear A140
      replace H := Option.bind_eq_some_iff.mp H
      obtain ⟨t309, A150, H⟩ := H
      replace H : (if t309 < 0 then (some ((⟨#[48]⟩ : ByteArray), a0, 0)) else (if (t306.length : Int) = 1 then (if 0 < (t306.length : Int) then ((decimal_pieces_small.f k t303 (rd t306 0)).bind fun bt311 => ((decimal_pieces_text.f k bt311.1).bind fun t315 => ((decimal_Of.f bt311.2).bind fun t316 => (some (t315, t316, 0))))) else (none)) else ((decimal_pieces_divide.f k t303 t306).bind fun bt317 => ((decimal_pieces_text.f k bt317.1).bind fun t323 => ((decimal_pieces_text.f k bt317.2).bind fun t324 => (some (t323, t324, 0))))))) = some (r1, r2, r3) := H
      have A15 := Aside0.mk A150
      clear A150
      by_cases c16 : t309 < 0
      · rw [if_pos c16] at H
        have c16b0 : decide (t309 < 0) = true := decide_eq_true c16
        clear c16
        simp only [Option.some.injEq, Prod.mk.injEq] at H
        obtain ⟨rfl, rfl, rfl⟩ := H
        go_enter Tryz.func47, Tryz.ntmps47
        go_wp2_with (first | ((with_reducible refine gate_callee (f := 68) rfl ?_); refine goesL_ (some 21) rfl rfl Tryz.func68 (by kernel_rfl) rfl #[.string a0, .string a1] rfl mq ?_; (with_reducible refine (decimal_both.calls (hT := HT.out.below bq) k a0 a1 t298 t299 false _ A4.out).mono ?_); rintro e w17 ⟨rfl, hb⟩; refine ⟨_, rfl, ?_⟩; replace HB := Aside0.mk (below_step bq hb); (try clear hb); (try clear hb2); (try clear hk); (try clear hi)) | ((with_reducible refine gate_callee (f := 60) rfl ?_); refine goesL_ (some 35) rfl rfl Tryz.func60 (by kernel_rfl) rfl #[.string a0] rfl mq ?_; (with_reducible refine (decimal_cut.calls k a0 t303 _ A13.out).mono ?_); rintro e w18 ⟨v304, rfl, ho0, hb⟩; refine ⟨_, rfl, ?_⟩; have n0_ := Aside0.mk (Kd.R_lower ho0 (below_size bq)); have n1_ := Aside0.mk (below_step bq hb); clear HB; have HO305 := n0_; have HB := n1_; clear n0_ n1_; (try clear hb); (try clear hb2); (try clear hk); (try clear hi); (try clear ho0)) | ((with_reducible refine gate_callee (f := 60) rfl ?_); refine goesL_ (some 37) rfl rfl Tryz.func60 (by kernel_rfl) rfl #[.string a1] rfl mq ?_; (with_reducible refine (decimal_cut.calls k a1 t306 _ A14.out).mono ?_); rintro e w19 ⟨v307, rfl, ho0, hb⟩; refine ⟨_, rfl, ?_⟩; have n0_ := Aside0.mk (Kd.R_elder' (by (with_reducible repeat (first | apply Kd.R_alloc | apply Kd.R_drewN | apply Kd.R_drew)); exact HO305.out) (Kd.R_base ho0) hb); have n1_ := Aside0.mk (Kd.R_lower (Kd.R_new' ho0 (Kd.R_lt (by (with_reducible repeat (first | apply Kd.R_alloc | apply Kd.R_drewN | apply Kd.R_drew)); exact HO305.out))) (below_size bq)); have n2_ := Aside0.mk (below_step bq hb); clear HO305; clear HB; have HO305 := n0_; have HO308 := n1_; have HB := n2_; clear n0_ n1_ n2_; (try clear hb); (try clear hb2); (try clear hk); (try clear hi); (try clear ho0); obtain ⟨Ao20, co20, eo20⟩ := Kd.R_slice HO305.out; subst eo20; obtain ⟨Ao21, co21, eo21⟩ := Kd.R_slice HO308.out; subst eo21) | ((with_reducible refine gate_callee (f := 73) rfl ?_); refine goesL_ (some 40) rfl rfl Tryz.func73 (by kernel_rfl) rfl #[.slice Ao20 t303.length co20, .slice Ao21 t306.length co21] rfl mq ?_; (with_reducible refine (decimal_pieces_compare.calls k _ _ t303 _ _ t306 t309 _ ?side1 ?side2 ?side3 ?side4 A15.out).mono ?_); (case side1 => repeat (first | exact (Kd.R_reads' HO305.out).2.2 | (with_reducible refine Kd.C_alloc ?_ _) | (with_reducible refine Kd.C_drewN ?_ _) | (with_reducible refine Kd.C_drew ?_))); (case side2 => exact (Kd.R_reads' HO305.out).2.1); (case side3 => repeat (first | exact (Kd.R_reads' HO308.out).2.2 | (with_reducible refine Kd.C_alloc ?_ _) | (with_reducible refine Kd.C_drewN ?_ _) | (with_reducible refine Kd.C_drew ?_))); (case side4 => exact (Kd.R_reads' HO308.out).2.1); rintro e w22 ⟨rfl, hb⟩; refine ⟨_, rfl, ?_⟩; have n0_ := Aside0.mk (Kd.R_below (by (with_reducible repeat (first | apply Kd.R_alloc | apply Kd.R_drewN | apply Kd.R_drew)); exact HO305.out) hb); have n1_ := Aside0.mk (Kd.R_below (by (with_reducible repeat (first | apply Kd.R_alloc | apply Kd.R_drewN | apply Kd.R_drew)); exact HO308.out) hb); have n2_ := Aside0.mk (below_step bq hb); clear HO305; clear HO308; clear HB; have HO305 := n0_; have HO308 := n1_; have HB := n2_; clear n0_ n1_ n2_; (try clear hb); (try clear hb2); (try clear hk); (try clear hi)))
        go_ret3
        exact ⟨eq_, bq⟩
      · rw [if_neg c16] at H
        have c16b0 : decide (t309 < 0) = false := decide_eq_false c16
        clear c16
        by_cases c23 : (t306.length : Int) = 1
        · rw [if_pos c23] at H
          have c23b0 : ((t306.length : Int) == 1) = true := beq_iff_eq.mpr c23
          have c23b1 : ((t306.length : Int) != 1) = false := bne_eq_false_iff_eq.mpr c23
          clear c23
          by_cases c24 : 0 < (t306.length : Int)
          · rw [if_pos c24] at H
            have c24b0 : decide (0 < (t306.length : Int)) = true := decide_eq_true c24
            have c24b1 : decide (0 < t306.length) = true := decide_eq_true (by omega)
            clear c24
            replace H := Option.bind_eq_some_iff.mp H
            obtain ⟨⟨t311, t312⟩, A250, H⟩ := H
            replace H : ((decimal_pieces_text.f k t311).bind fun t315 => ((decimal_Of.f t312).bind fun t316 => (some (t315, t316, 0)))) = some (r1, r2, r3) := H
            have A25 := Aside0.mk A250
            clear A250
            replace H := Option.bind_eq_some_iff.mp H
            obtain ⟨t315, A260, H⟩ := H
            replace H : ((decimal_Of.f t312).bind fun t316 => (some (t315, t316, 0))) = some (r1, r2, r3) := H
            have A26 := Aside0.mk A260
            clear A260
            replace H := Option.bind_eq_some_iff.mp H
            obtain ⟨t316, A270, H⟩ := H
            replace H : (some (t315, t316, 0)) = some (r1, r2, r3) := H
            have A27 := Aside0.mk A270
            clear A270
            simp only [Option.some.injEq, Prod.mk.injEq] at H
            obtain ⟨rfl, rfl, rfl⟩ := H
            go_enter Tryz.func47, Tryz.ntmps47
            go_wp2_with (first | ((with_reducible refine gate_callee (f := 68) rfl ?_); refine goesL_ (some 21) rfl rfl Tryz.func68 (by kernel_rfl) rfl #[.string a0, .string a1] rfl mq ?_; (with_reducible refine (decimal_both.calls (hT := HT.out.below bq) k a0 a1 t298 t299 false _ A4.out).mono ?_); rintro e w28 ⟨rfl, hb⟩; refine ⟨_, rfl, ?_⟩; replace HB := Aside0.mk (below_step bq hb); (try clear hb); (try clear hb2); (try clear hk); (try clear hi)) | ((with_reducible refine gate_callee (f := 60) rfl ?_); refine goesL_ (some 35) rfl rfl Tryz.func60 (by kernel_rfl) rfl #[.string a0] rfl mq ?_; (with_reducible refine (decimal_cut.calls k a0 t303 _ A13.out).mono ?_); rintro e w29 ⟨v304, rfl, ho0, hb⟩; refine ⟨_, rfl, ?_⟩; have n0_ := Aside0.mk (Kd.R_lower ho0 (below_size bq)); have n1_ := Aside0.mk (below_step bq hb); clear HB; have HO305 := n0_; have HB := n1_; clear n0_ n1_; (try clear hb); (try clear hb2); (try clear hk); (try clear hi); (try clear ho0)) | ((with_reducible refine gate_callee (f := 60) rfl ?_); refine goesL_ (some 37) rfl rfl Tryz.func60 (by kernel_rfl) rfl #[.string a1] rfl mq ?_; (with_reducible refine (decimal_cut.calls k a1 t306 _ A14.out).mono ?_); rintro e w30 ⟨v307, rfl, ho0, hb⟩; refine ⟨_, rfl, ?_⟩; have n0_ := Aside0.mk (Kd.R_elder' (by (with_reducible repeat (first | apply Kd.R_alloc | apply Kd.R_drewN | apply Kd.R_drew)); exact HO305.out) (Kd.R_base ho0) hb); have n1_ := Aside0.mk (Kd.R_lower (Kd.R_new' ho0 (Kd.R_lt (by (with_reducible repeat (first | apply Kd.R_alloc | apply Kd.R_drewN | apply Kd.R_drew)); exact HO305.out))) (below_size bq)); have n2_ := Aside0.mk (below_step bq hb); clear HO305; clear HB; have HO305 := n0_; have HO308 := n1_; have HB := n2_; clear n0_ n1_ n2_; (try clear hb); (try clear hb2); (try clear hk); (try clear hi); (try clear ho0); obtain ⟨Ao31, co31, eo31⟩ := Kd.R_slice HO305.out; subst eo31; obtain ⟨Ao32, co32, eo32⟩ := Kd.R_slice HO308.out; subst eo32) | ((with_reducible refine gate_callee (f := 73) rfl ?_); refine goesL_ (some 40) rfl rfl Tryz.func73 (by kernel_rfl) rfl #[.slice Ao31 t303.length co31, .slice Ao32 t306.length co32] rfl mq ?_; (with_reducible refine (decimal_pieces_compare.calls k _ _ t303 _ _ t306 t309 _ ?side1 ?side2 ?side3 ?side4 A15.out).mono ?_); (case side1 => repeat (first | exact (Kd.R_reads' HO305.out).2.2 | (with_reducible refine Kd.C_alloc ?_ _) | (with_reducible refine Kd.C_drewN ?_ _) | (with_reducible refine Kd.C_drew ?_))); (case side2 => exact (Kd.R_reads' HO305.out).2.1); (case side3 => repeat (first | exact (Kd.R_reads' HO308.out).2.2 | (with_reducible refine Kd.C_alloc ?_ _) | (with_reducible refine Kd.C_drewN ?_ _) | (with_reducible refine Kd.C_drew ?_))); (case side4 => exact (Kd.R_reads' HO308.out).2.1); rintro e w33 ⟨rfl, hb⟩; refine ⟨_, rfl, ?_⟩; have n0_ := Aside0.mk (Kd.R_below (by (with_reducible repeat (first | apply Kd.R_alloc | apply Kd.R_drewN | apply Kd.R_drew)); exact HO305.out) hb); have n1_ := Aside0.mk (Kd.R_below (by (with_reducible repeat (first | apply Kd.R_alloc | apply Kd.R_drewN | apply Kd.R_drew)); exact HO308.out) hb); have n2_ := Aside0.mk (below_step bq hb); clear HO305; clear HO308; clear HB; have HO305 := n0_; have HO308 := n1_; have HB := n2_; clear n0_ n1_ n2_; (try clear hb); (try clear hb2); (try clear hk); (try clear hi); have p310 : 0 ≤ (0 : Int) := (by omega); have q310 : 0 < (t306.length : Int) := of_decide_eq_true (by first | (with_reducible assumption) | assumption); obtain ⟨ad310, e310, hx310_0⟩ := Kd.at_int (Kd.R_reads' HO308.out).2.2 0 p310 q310; cases e310; have qi310 : (0 < t306.length) = True := eq_true (by omega); (try rw [show ((0 : Int)).toNat = 0 from rfl] at hx310_0); (try rw [Addr.add_zero'] at hx310_0); replace p310 := eq_true p310; replace q310 := eq_true q310) | ((with_reducible refine gate_callee (f := 74) rfl ?_); refine goesL_ (some 51) rfl rfl Tryz.func74 (by kernel_rfl) rfl #[.slice Ao31 t303.length co31, .int .u64 (rd t306 0)] rfl mq ?_; (with_reducible refine (decimal_pieces_small.calls k _ _ t303 (rd t306 0) t311 t312 _ ?side1 ?side2 A25.out).mono ?_); (case side1 => repeat (first | exact (Kd.R_reads' HO305.out).2.2 | (with_reducible refine Kd.C_alloc ?_ _) | (with_reducible refine Kd.C_drewN ?_ _) | (with_reducible refine Kd.C_drew ?_))); (case side2 => exact (Kd.R_reads' HO305.out).2.1); rintro e w34 ⟨v313, rfl, ho0, hb⟩; refine ⟨_, rfl, ?_⟩; have n0_ := Aside0.mk (Kd.R_elder' (by (with_reducible repeat (first | apply Kd.R_alloc | apply Kd.R_drewN | apply Kd.R_drew)); exact HO305.out) (Kd.R_base ho0) hb); have n1_ := Aside0.mk (Kd.R_elder' (by (with_reducible repeat (first | apply Kd.R_alloc | apply Kd.R_drewN | apply Kd.R_drew)); exact HO308.out) (Kd.R_base ho0) hb); have n2_ := Aside0.mk (Kd.R_lower (Kd.R_new' (Kd.R_new' ho0 (Kd.R_lt (by (with_reducible repeat (first | apply Kd.R_alloc | apply Kd.R_drewN | apply Kd.R_drew)); exact HO305.out))) (Kd.R_lt (by (with_reducible repeat (first | apply Kd.R_alloc | apply Kd.R_drewN | apply Kd.R_drew)); exact HO308.out))) (below_size bq)); have n3_ := Aside0.mk (below_step bq hb); clear HO305; clear HO308; clear HB; have HO305 := n0_; have HO308 := n1_; have HO314 := n2_; have HB := n3_; clear n0_ n1_ n2_ n3_; (try clear hb); (try clear hb2); (try clear hk); (try clear hi); (try clear ho0); obtain ⟨Ao35, co35, eo35⟩ := Kd.R_slice HO314.out; subst eo35) | ((with_reducible refine gate_callee (f := 62) rfl ?_); refine goesL_ (some 55) rfl rfl Tryz.func62 (by kernel_rfl) rfl #[.slice Ao35 t311.length co35] rfl mq ?_; (with_reducible refine (decimal_pieces_text.calls k _ _ t311 t315 _ ?side1 ?side2 A26.out).mono ?_); (case side1 => repeat (first | exact (Kd.R_reads' HO314.out).2.2 | (with_reducible refine Kd.C_alloc ?_ _) | (with_reducible refine Kd.C_drewN ?_ _) | (with_reducible refine Kd.C_drew ?_))); (case side2 => exact (Kd.R_reads' HO314.out).2.1); rintro e w36 ⟨rfl, hb⟩; refine ⟨_, rfl, ?_⟩; have n0_ := Aside0.mk (Kd.R_below (by (with_reducible repeat (first | apply Kd.R_alloc | apply Kd.R_drewN | apply Kd.R_drew)); exact HO305.out) hb); have n1_ := Aside0.mk (Kd.R_below (by (with_reducible repeat (first | apply Kd.R_alloc | apply Kd.R_drewN | apply Kd.R_drew)); exact HO308.out) hb); have n2_ := Aside0.mk (Kd.R_below (by (with_reducible repeat (first | apply Kd.R_alloc | apply Kd.R_drewN | apply Kd.R_drew)); exact HO314.out) hb); have n3_ := Aside0.mk (below_step bq hb); clear HO305; clear HO308; clear HO314; clear HB; have HO305 := n0_; have HO308 := n1_; have HO314 := n2_; have HB := n3_; clear n0_ n1_ n2_ n3_; (try clear hb); (try clear hb2); (try clear hk); (try clear hi)) | ((with_reducible refine gate_callee (f := 69) rfl ?_); refine goesL_ (some 57) rfl rfl Tryz.func69 (by kernel_rfl) rfl #[.int .u64 t312] rfl mq ?_; (with_reducible refine (decimal_Of.calls (hT := HT.out.below bq) t312 t316 _ A27.out).mono ?_); rintro e w37 ⟨rfl, hb⟩; refine ⟨_, rfl, ?_⟩; have n0_ := Aside0.mk (Kd.R_below (by (with_reducible repeat (first | apply Kd.R_alloc | apply Kd.R_drewN | apply Kd.R_drew)); exact HO305.out) hb); have n1_ := Aside0.mk (Kd.R_below (by (with_reducible repeat (first | apply Kd.R_alloc | apply Kd.R_drewN | apply Kd.R_drew)); exact HO308.out) hb); have n2_ := Aside0.mk (Kd.R_below (by (with_reducible repeat (first | apply Kd.R_alloc | apply Kd.R_drewN | apply Kd.R_drew)); exact HO314.out) hb); have n3_ := Aside0.mk (below_step bq hb); clear HO305; clear HO308; clear HO314; clear HB; have HO305 := n0_; have HO308 := n1_; have HO314 := n2_; have HB := n3_; clear n0_ n1_ n2_ n3_; (try clear hb); (try clear hb2); (try clear hk); (try clear hi)))
            go_ret3
            exact ⟨eq_, bq⟩
          · rw [if_neg c24] at H
            exact absurd H (by simp)
        · rw [if_neg c23] at H
          have c23b0 : ((t306.length : Int) == 1) = false := beq_eq_false_iff_ne.mpr c23
          have c23b1 : ((t306.length : Int) != 1) = true := bne_iff_ne.mpr c23
          replace H := Option.bind_eq_some_iff.mp H
          obtain ⟨⟨t317, t318⟩, A380, H⟩ := H
          replace H : ((decimal_pieces_text.f k t317).bind fun t323 => ((decimal_pieces_text.f k t318).bind fun t324 => (some (t323, t324, 0)))) = some (r1, r2, r3) := H
          have A38 := Aside0.mk A380
          clear A380
          replace H := Option.bind_eq_some_iff.mp H
          obtain ⟨t323, A390, H⟩ := H
          replace H : ((decimal_pieces_text.f k t318).bind fun t324 => (some (t323, t324, 0))) = some (r1, r2, r3) := H
          have A39 := Aside0.mk A390
          clear A390
          replace H := Option.bind_eq_some_iff.mp H
          obtain ⟨t324, A400, H⟩ := H
          replace H : (some (t323, t324, 0)) = some (r1, r2, r3) := H
          have A40 := Aside0.mk A400
          clear A400
          simp only [Option.some.injEq, Prod.mk.injEq] at H
          obtain ⟨rfl, rfl, rfl⟩ := H
          go_enter Tryz.func47, Tryz.ntmps47
          go_wp2_with (first | ((with_reducible refine gate_callee (f := 68) rfl ?_); refine goesL_ (some 21) rfl rfl Tryz.func68 (by kernel_rfl) rfl #[.string a0, .string a1] rfl mq ?_; (with_reducible refine (decimal_both.calls (hT := HT.out.below bq) k a0 a1 t298 t299 false _ A4.out).mono ?_); rintro e w41 ⟨rfl, hb⟩; refine ⟨_, rfl, ?_⟩; replace HB := Aside0.mk (below_step bq hb); (try clear hb); (try clear hb2); (try clear hk); (try clear hi)) | ((with_reducible refine gate_callee (f := 60) rfl ?_); refine goesL_ (some 35) rfl rfl Tryz.func60 (by kernel_rfl) rfl #[.string a0] rfl mq ?_; (with_reducible refine (decimal_cut.calls k a0 t303 _ A13.out).mono ?_); rintro e w42 ⟨v304, rfl, ho0, hb⟩; refine ⟨_, rfl, ?_⟩; have n0_ := Aside0.mk (Kd.R_lower ho0 (below_size bq)); have n1_ := Aside0.mk (below_step bq hb); clear HB; have HO305 := n0_; have HB := n1_; clear n0_ n1_; (try clear hb); (try clear hb2); (try clear hk); (try clear hi); (try clear ho0)) | ((with_reducible refine gate_callee (f := 60) rfl ?_); refine goesL_ (some 37) rfl rfl Tryz.func60 (by kernel_rfl) rfl #[.string a1] rfl mq ?_; (with_reducible refine (decimal_cut.calls k a1 t306 _ A14.out).mono ?_); rintro e w43 ⟨v307, rfl, ho0, hb⟩; refine ⟨_, rfl, ?_⟩; have n0_ := Aside0.mk (Kd.R_elder' (by (with_reducible repeat (first | apply Kd.R_alloc | apply Kd.R_drewN | apply Kd.R_drew)); exact HO305.out) (Kd.R_base ho0) hb); have n1_ := Aside0.mk (Kd.R_lower (Kd.R_new' ho0 (Kd.R_lt (by (with_reducible repeat (first | apply Kd.R_alloc | apply Kd.R_drewN | apply Kd.R_drew)); exact HO305.out))) (below_size bq)); have n2_ := Aside0.mk (below_step bq hb); clear HO305; clear HB; have HO305 := n0_; have HO308 := n1_; have HB := n2_; clear n0_ n1_ n2_; (try clear hb); (try clear hb2); (try clear hk); (try clear hi); (try clear ho0); obtain ⟨Ao44, co44, eo44⟩ := Kd.R_slice HO305.out; subst eo44; obtain ⟨Ao45, co45, eo45⟩ := Kd.R_slice HO308.out; subst eo45) | ((with_reducible refine gate_callee (f := 73) rfl ?_); refine goesL_ (some 40) rfl rfl Tryz.func73 (by kernel_rfl) rfl #[.slice Ao44 t303.length co44, .slice Ao45 t306.length co45] rfl mq ?_; (with_reducible refine (decimal_pieces_compare.calls k _ _ t303 _ _ t306 t309 _ ?side1 ?side2 ?side3 ?side4 A15.out).mono ?_); (case side1 => repeat (first | exact (Kd.R_reads' HO305.out).2.2 | (with_reducible refine Kd.C_alloc ?_ _) | (with_reducible refine Kd.C_drewN ?_ _) | (with_reducible refine Kd.C_drew ?_))); (case side2 => exact (Kd.R_reads' HO305.out).2.1); (case side3 => repeat (first | exact (Kd.R_reads' HO308.out).2.2 | (with_reducible refine Kd.C_alloc ?_ _) | (with_reducible refine Kd.C_drewN ?_ _) | (with_reducible refine Kd.C_drew ?_))); (case side4 => exact (Kd.R_reads' HO308.out).2.1); rintro e w46 ⟨rfl, hb⟩; refine ⟨_, rfl, ?_⟩; have n0_ := Aside0.mk (Kd.R_below (by (with_reducible repeat (first | apply Kd.R_alloc | apply Kd.R_drewN | apply Kd.R_drew)); exact HO305.out) hb); have n1_ := Aside0.mk (Kd.R_below (by (with_reducible repeat (first | apply Kd.R_alloc | apply Kd.R_drewN | apply Kd.R_drew)); exact HO308.out) hb); have n2_ := Aside0.mk (below_step bq hb); clear HO305; clear HO308; clear HB; have HO305 := n0_; have HO308 := n1_; have HB := n2_; clear n0_ n1_ n2_; (try clear hb); (try clear hb2); (try clear hk); (try clear hi)) | ((with_reducible refine gate_callee (f := 75) rfl ?_); refine goesL_ (some 61) rfl rfl Tryz.func75 (by kernel_rfl) rfl #[.slice Ao44 t303.length co44, .slice Ao45 t306.length co45] rfl mq ?_; (with_reducible refine (decimal_pieces_divide.calls k _ _ t303 _ _ t306 t317 t318 _ ?side1 ?side2 ?side3 ?side4 A38.out).mono ?_); (case side1 => repeat (first | exact (Kd.R_reads' HO305.out).2.2 | (with_reducible refine Kd.C_alloc ?_ _) | (with_reducible refine Kd.C_drewN ?_ _) | (with_reducible refine Kd.C_drew ?_))); (case side2 => exact (Kd.R_reads' HO305.out).2.1); (case side3 => repeat (first | exact (Kd.R_reads' HO308.out).2.2 | (with_reducible refine Kd.C_alloc ?_ _) | (with_reducible refine Kd.C_drewN ?_ _) | (with_reducible refine Kd.C_drew ?_))); (case side4 => exact (Kd.R_reads' HO308.out).2.1); rintro e w47 ⟨v319, v321, rfl, ho0, ho1, hb⟩; refine ⟨_, rfl, ?_⟩; have n0_ := Aside0.mk (Kd.R_mono (Kd.R_told (Kd.R_told (Kd.R_old (by (with_reducible repeat (first | apply Kd.R_alloc | apply Kd.R_drewN | apply Kd.R_drew)); exact HO305.out) hb) (Kd.R_base ho0)) (Kd.R_base ho1)) (fun _ h_ => h_.1)); have n1_ := Aside0.mk (Kd.R_mono (Kd.R_told (Kd.R_told (Kd.R_old (by (with_reducible repeat (first | apply Kd.R_alloc | apply Kd.R_drewN | apply Kd.R_drew)); exact HO308.out) hb) (Kd.R_base ho0)) (Kd.R_base ho1)) (fun _ h_ => h_.1)); have n2_ := Aside0.mk (Kd.R_lower (Kd.R_new' (Kd.R_new' ho0 (Kd.R_lt (by (with_reducible repeat (first | apply Kd.R_alloc | apply Kd.R_drewN | apply Kd.R_drew)); exact HO305.out))) (Kd.R_lt (by (with_reducible repeat (first | apply Kd.R_alloc | apply Kd.R_drewN | apply Kd.R_drew)); exact HO308.out))) (below_size bq)); have n3_ := Aside0.mk (Kd.R_lower (Kd.R_new' (Kd.R_new' ho1 (Kd.R_lt (by (with_reducible repeat (first | apply Kd.R_alloc | apply Kd.R_drewN | apply Kd.R_drew)); exact HO305.out))) (Kd.R_lt (by (with_reducible repeat (first | apply Kd.R_alloc | apply Kd.R_drewN | apply Kd.R_drew)); exact HO308.out))) (below_size bq)); have n4_ := Aside0.mk (below_step bq hb); clear HO305; clear HO308; clear HB; have HO305 := n0_; have HO308 := n1_; have HO320 := n2_; have HO322 := n3_; have HB := n4_; clear n0_ n1_ n2_ n3_ n4_; (try clear hb); (try clear hb2); (try clear hk); (try clear hi); (try clear ho0); (try clear ho1); obtain ⟨Ao48, co48, eo48⟩ := Kd.R_slice HO320.out; subst eo48) | ((with_reducible refine gate_callee (f := 62) rfl ?_); refine goesL_ (some 65) rfl rfl Tryz.func62 (by kernel_rfl) rfl #[.slice Ao48 t317.length co48] rfl mq ?_; (with_reducible refine (decimal_pieces_text.calls k _ _ t317 t323 _ ?side1 ?side2 A39.out).mono ?_); (case side1 => repeat (first | exact (Kd.R_reads' HO320.out).2.2 | (with_reducible refine Kd.C_alloc ?_ _) | (with_reducible refine Kd.C_drewN ?_ _) | (with_reducible refine Kd.C_drew ?_))); (case side2 => exact (Kd.R_reads' HO320.out).2.1); rintro e w49 ⟨rfl, hb⟩; refine ⟨_, rfl, ?_⟩; have n0_ := Aside0.mk (Kd.R_below (by (with_reducible repeat (first | apply Kd.R_alloc | apply Kd.R_drewN | apply Kd.R_drew)); exact HO305.out) hb); have n1_ := Aside0.mk (Kd.R_below (by (with_reducible repeat (first | apply Kd.R_alloc | apply Kd.R_drewN | apply Kd.R_drew)); exact HO308.out) hb); have n2_ := Aside0.mk (Kd.R_below (by (with_reducible repeat (first | apply Kd.R_alloc | apply Kd.R_drewN | apply Kd.R_drew)); exact HO320.out) hb); have n3_ := Aside0.mk (Kd.R_below (by (with_reducible repeat (first | apply Kd.R_alloc | apply Kd.R_drewN | apply Kd.R_drew)); exact HO322.out) hb); have n4_ := Aside0.mk (below_step bq hb); clear HO305; clear HO308; clear HO320; clear HO322; clear HB; have HO305 := n0_; have HO308 := n1_; have HO320 := n2_; have HO322 := n3_; have HB := n4_; clear n0_ n1_ n2_ n3_ n4_; (try clear hb); (try clear hb2); (try clear hk); (try clear hi); obtain ⟨Ao50, co50, eo50⟩ := Kd.R_slice HO322.out; subst eo50) | ((with_reducible refine gate_callee (f := 62) rfl ?_); refine goesL_ (some 67) rfl rfl Tryz.func62 (by kernel_rfl) rfl #[.slice Ao50 t318.length co50] rfl mq ?_; (with_reducible refine (decimal_pieces_text.calls k _ _ t318 t324 _ ?side1 ?side2 A40.out).mono ?_); (case side1 => repeat (first | exact (Kd.R_reads' HO322.out).2.2 | (with_reducible refine Kd.C_alloc ?_ _) | (with_reducible refine Kd.C_drewN ?_ _) | (with_reducible refine Kd.C_drew ?_))); (case side2 => exact (Kd.R_reads' HO322.out).2.1); rintro e w51 ⟨rfl, hb⟩; refine ⟨_, rfl, ?_⟩; have n0_ := Aside0.mk (Kd.R_below (by (with_reducible repeat (first | apply Kd.R_alloc | apply Kd.R_drewN | apply Kd.R_drew)); exact HO305.out) hb); have n1_ := Aside0.mk (Kd.R_below (by (with_reducible repeat (first | apply Kd.R_alloc | apply Kd.R_drewN | apply Kd.R_drew)); exact HO308.out) hb); have n2_ := Aside0.mk (Kd.R_below (by (with_reducible repeat (first | apply Kd.R_alloc | apply Kd.R_drewN | apply Kd.R_drew)); exact HO320.out) hb); have n3_ := Aside0.mk (Kd.R_below (by (with_reducible repeat (first | apply Kd.R_alloc | apply Kd.R_drewN | apply Kd.R_drew)); exact HO322.out) hb); have n4_ := Aside0.mk (below_step bq hb); clear HO305; clear HO308; clear HO320; clear HO322; clear HB; have HO305 := n0_; have HO308 := n1_; have HO320 := n2_; have HO322 := n3_; have HB := n4_; clear n0_ n1_ n2_ n3_ n4_; (try clear hb); (try clear hb2); (try clear hk); (try clear hi)))
          go_ret3
          exact ⟨eq_, bq⟩
mutual
def whole_DivMod.j1 : Nat → ByteArray → ByteArray → Option (ByteArray × ByteArray × Int)
  | 0, _, _ => none
  | k + 1, x0, x1 => (whole_split.f x0).bind fun bt333 => ((whole_split.f x1).bind fun bt335 => ((decimal_DivMod.f k bt333.2 bt335.2).bind fun bt337 => (if bt337.2.2 = 0 then (if (bt333.1 != bt335.1) = true then (whole_DivMod.j2 k bt333.1 bt335.1 bt335.2 bt337.1 bt337.2.1 (bt337.2.1.toList != ([48] : List UInt8))) else (whole_DivMod.j2 k bt333.1 bt335.1 bt335.2 bt337.1 bt337.2.1 false)) else (some ((⟨#[]⟩ : ByteArray), (⟨#[]⟩ : ByteArray), bt337.2.2)))))
def whole_DivMod.j2 : Nat → Bool → Bool → ByteArray → ByteArray → ByteArray → Bool → Option (ByteArray × ByteArray × Int)
  | 0, _, _, _, _, _, _ => none
  | k + 1, x13, x15, x16, x17, x18, x83 => if x83 = true then ((decimal_Add.f k x17 (⟨#[49]⟩ : ByteArray)).bind fun t340 => ((decimal_Sub.f k x16 x18).bind fun bt341 => ((whole_join.f (x13 != x15) t340).bind fun t343 => ((whole_join.f x15 bt341.1).bind fun t344 => (some (t343, t344, 0)))))) else ((whole_join.f (x13 != x15) x17).bind fun t345 => ((whole_join.f x15 x18).bind fun t346 => (some (t345, t346, 0))))
def whole_DivMod.j0 : Nat → Int → Int → Int → Bool → Option (ByteArray × ByteArray × Int)
  | 0, _, _, _, _ => none
  | k + 1, x9, x11, x12, x47 => if x47 = true then ((whole_Of.f (wrap64 (x11 - 1))).bind fun t329 => ((whole_Of.f (wrap64 (x12 + x9))).bind fun t330 => (some (t329, t330, 0)))) else ((whole_Of.f x11).bind fun t331 => ((whole_Of.f x12).bind fun t332 => (some (t331, t332, 0))))
end
def whole_DivMod.f (k : Nat) (a0 : ByteArray) (a1 : ByteArray) : Option (ByteArray × ByteArray × Int) := if a1.toList = ([48] : List UInt8) then (some ((⟨#[]⟩ : ByteArray), (⟨#[]⟩ : ByteArray), 17)) else ((whole_little.f a0 18).bind fun bt325 => (if bt325.2 = true then ((whole_little.f a1 18).bind fun bt327 => (if bt327.2 = true then (if bt327.1 = 0 then (none) else (if (Int.tmod bt325.1 bt327.1) = 0 then (whole_DivMod.j0 k bt327.1 (wrap64 (Int.tdiv bt325.1 bt327.1)) (Int.tmod bt325.1 bt327.1) false) else (whole_DivMod.j0 k bt327.1 (wrap64 (Int.tdiv bt325.1 bt327.1)) (Int.tmod bt325.1 bt327.1) ((decide ((Int.tmod bt325.1 bt327.1) < 0)) != (decide (bt327.1 < 0)))))) else (whole_DivMod.j1 k a0 a1))) else (whole_DivMod.j1 k a0 a1)))
theorem whole_DivMod.mono_l : ∀ k, (∀ y0 y1, LeO (whole_DivMod.j1 k y0 y1) (whole_DivMod.j1 (k + 1) y0 y1)) ∧ (∀ y0 y1 y2 y3 y4 y5, LeO (whole_DivMod.j2 k y0 y1 y2 y3 y4 y5) (whole_DivMod.j2 (k + 1) y0 y1 y2 y3 y4 y5)) ∧ (∀ y0 y1 y2 y3, LeO (whole_DivMod.j0 k y0 y1 y2 y3) (whole_DivMod.j0 (k + 1) y0 y1 y2 y3))
  | 0 => ⟨fun _ _ r h => by simp [whole_DivMod.j1] at h, fun _ _ _ _ _ _ r h => by simp [whole_DivMod.j2] at h, fun _ _ _ _ r h => by simp [whole_DivMod.j0] at h⟩
  | k + 1 => by
    obtain ⟨ih0, ih1, ih2⟩ := whole_DivMod.mono_l k
    refine ⟨?_, ?_, ?_⟩
    · intro y0 y1
      unfold whole_DivMod.j1
      repeat' first
      | (with_reducible exact ih0 _ _)
      | (with_reducible exact ih1 _ _ _ _ _ _)
      | (with_reducible exact ih2 _ _ _ _)
      | (with_reducible exact decimal_Add.mono _ _ _)
      | (with_reducible exact decimal_DivMod.mono _ _ _)
      | (with_reducible exact decimal_Sub.mono _ _ _)
      | (with_reducible exact LeO.refl _)
      | (with_reducible exact LeO.none _)
      | (with_reducible refine LeO.ite ?_ ?_)
      | (with_reducible refine LeO.bind ?_ (fun _ => ?_))
      | exact ih0 _ _
      | exact ih1 _ _ _ _ _ _
      | exact ih2 _ _ _ _
      | exact decimal_Add.mono _ _ _
      | exact decimal_DivMod.mono _ _ _
      | exact decimal_Sub.mono _ _ _
      | exact LeO.none _
      | refine LeO.ite ?_ ?_
      | refine LeO.bind ?_ (fun _ => ?_)
    · intro y0 y1 y2 y3 y4 y5
      unfold whole_DivMod.j2
      repeat' first
      | (with_reducible exact ih0 _ _)
      | (with_reducible exact ih1 _ _ _ _ _ _)
      | (with_reducible exact ih2 _ _ _ _)
      | (with_reducible exact decimal_Add.mono _ _ _)
      | (with_reducible exact decimal_DivMod.mono _ _ _)
      | (with_reducible exact decimal_Sub.mono _ _ _)
      | (with_reducible exact LeO.refl _)
      | (with_reducible exact LeO.none _)
      | (with_reducible refine LeO.ite ?_ ?_)
      | (with_reducible refine LeO.bind ?_ (fun _ => ?_))
      | exact ih0 _ _
      | exact ih1 _ _ _ _ _ _
      | exact ih2 _ _ _ _
      | exact decimal_Add.mono _ _ _
      | exact decimal_DivMod.mono _ _ _
      | exact decimal_Sub.mono _ _ _
      | exact LeO.none _
      | refine LeO.ite ?_ ?_
      | refine LeO.bind ?_ (fun _ => ?_)
    · intro y0 y1 y2 y3
      unfold whole_DivMod.j0
      repeat' first
      | (with_reducible exact ih0 _ _)
      | (with_reducible exact ih1 _ _ _ _ _ _)
      | (with_reducible exact ih2 _ _ _ _)
      | (with_reducible exact decimal_Add.mono _ _ _)
      | (with_reducible exact decimal_DivMod.mono _ _ _)
      | (with_reducible exact decimal_Sub.mono _ _ _)
      | (with_reducible exact LeO.refl _)
      | (with_reducible exact LeO.none _)
      | (with_reducible refine LeO.ite ?_ ?_)
      | (with_reducible refine LeO.bind ?_ (fun _ => ?_))
      | exact ih0 _ _
      | exact ih1 _ _ _ _ _ _
      | exact ih2 _ _ _ _
      | exact decimal_Add.mono _ _ _
      | exact decimal_DivMod.mono _ _ _
      | exact decimal_Sub.mono _ _ _
      | exact LeO.none _
      | refine LeO.ite ?_ ?_
      | refine LeO.bind ?_ (fun _ => ?_)
theorem whole_DivMod.mono : ∀ a0 a1 k, LeO (whole_DivMod.f k a0 a1) (whole_DivMod.f (k + 1) a0 a1) := by
  intro a0 a1 k
  obtain ⟨ih0, ih1, ih2⟩ := whole_DivMod.mono_l k
  unfold whole_DivMod.f
  repeat' first
      | (with_reducible exact ih0 _ _)
      | (with_reducible exact ih1 _ _ _ _ _ _)
      | (with_reducible exact ih2 _ _ _ _)
      | (with_reducible exact decimal_Add.mono _ _ _)
      | (with_reducible exact decimal_DivMod.mono _ _ _)
      | (with_reducible exact decimal_Sub.mono _ _ _)
      | (with_reducible exact LeO.refl _)
      | (with_reducible exact LeO.none _)
      | (with_reducible refine LeO.ite ?_ ?_)
      | (with_reducible refine LeO.bind ?_ (fun _ => ?_))
      | exact ih0 _ _
      | exact ih1 _ _ _ _ _ _
      | exact ih2 _ _ _ _
      | exact decimal_Add.mono _ _ _
      | exact decimal_DivMod.mono _ _ _
      | exact decimal_Sub.mono _ _ _
      | exact LeO.none _
      | refine LeO.ite ?_ ?_
      | refine LeO.bind ?_ (fun _ => ?_)
set_option maxHeartbeats 8000000 in
set_option maxRecDepth 100000 in
theorem whole_DivMod.calls (k : Nat) (a0 : ByteArray) (a1 : ByteArray) (r1 : ByteArray) (r2 : ByteArray) (r3 : Int) (w : World) (hT : Tab w) (h : whole_DivMod.f k a0 a1 = some (r1, r2, r3)) :
    Calls Tryz.prog 17 #[.string a0, .string a1] w fun e w' => e = .returned (.tuple #[.string r1, .string r2, .int .i64 r3]) ∧ Below w.heap.size w w' := by
  have HT := Aside0.mk hT
  clear hT
  have HB := Aside0.mk (Below.refl w.heap.size w)
  have H : (if a1.toList = ([48] : List UInt8) then (some ((⟨#[]⟩ : ByteArray), (⟨#[]⟩ : ByteArray), 17)) else ((whole_little.f a0 18).bind fun bt325 => (if bt325.2 = true then ((whole_little.f a1 18).bind fun bt327 => (if bt327.2 = true then (if bt327.1 = 0 then (none) else (if (Int.tmod bt325.1 bt327.1) = 0 then (whole_DivMod.j0 k bt327.1 (wrap64 (Int.tdiv bt325.1 bt327.1)) (Int.tmod bt325.1 bt327.1) false) else (whole_DivMod.j0 k bt327.1 (wrap64 (Int.tdiv bt325.1 bt327.1)) (Int.tmod bt325.1 bt327.1) ((decide ((Int.tmod bt325.1 bt327.1) < 0)) != (decide (bt327.1 < 0)))))) else (whole_DivMod.j1 k a0 a1))) else (whole_DivMod.j1 k a0 a1)))) = some (r1, r2, r3) := h
  clear h
  by_cases c3 : a1.toList = ([48] : List UInt8)
  · rw [if_pos c3] at H
    have c3b0 : (a1.toList == ([48] : List UInt8)) = true := beq_iff_eq.mpr c3
    have c3b1 : (a1.toList != ([48] : List UInt8)) = false := bne_eq_false_iff_eq.mpr c3
    clear c3
    simp only [Option.some.injEq, Prod.mk.injEq] at H
    obtain ⟨rfl, rfl, rfl⟩ := H
    go_enter Tryz.func17, Tryz.ntmps17
    go_wp2
    repeat (go_quiet (fail); try go_wp2)
    go_ret3
    exact ⟨eq_, bq⟩
  · rw [if_neg c3] at H
    have c3b0 : (a1.toList == ([48] : List UInt8)) = false := beq_eq_false_iff_ne.mpr c3
    have c3b1 : (a1.toList != ([48] : List UInt8)) = true := bne_iff_ne.mpr c3
    replace H := Option.bind_eq_some_iff.mp H
    obtain ⟨⟨t325, t326⟩, A40, H⟩ := H
    replace H : (if t326 = true then ((whole_little.f a1 18).bind fun bt327 => (if bt327.2 = true then (if bt327.1 = 0 then (none) else (if (Int.tmod t325 bt327.1) = 0 then (whole_DivMod.j0 k bt327.1 (wrap64 (Int.tdiv t325 bt327.1)) (Int.tmod t325 bt327.1) false) else (whole_DivMod.j0 k bt327.1 (wrap64 (Int.tdiv t325 bt327.1)) (Int.tmod t325 bt327.1) ((decide ((Int.tmod t325 bt327.1) < 0)) != (decide (bt327.1 < 0)))))) else (whole_DivMod.j1 k a0 a1))) else (whole_DivMod.j1 k a0 a1)) = some (r1, r2, r3) := H
    have A4 := Aside0.mk A40
    clear A40
    have HC5 := Aside0.mk H
    clear H
    go_enter Tryz.func17, Tryz.ntmps17
    go_upto_if 26 with (first | (go_at_call 40; (with_reducible refine (whole_little.calls a0 18 t325 t326 _ A4.out).mono ?_); rintro e w6 ⟨rfl, hb⟩; replace HB := Aside0.mk (below_step bq hb); (try clear hb); (try clear hb2); (try clear hk); (try clear hi)))
    repeat (go_quiet (first | (go_at_call 40; (with_reducible refine (whole_little.calls a0 18 t325 t326 _ A4.out).mono ?_); rintro e w6 ⟨rfl, hb⟩; replace HB := Aside0.mk (below_step bq hb); (try clear hb); (try clear hb2); (try clear hk); (try clear hi))); go_upto_if 26 with (first | (go_at_call 40; (with_reducible refine (whole_little.calls a0 18 t325 t326 _ A4.out).mono ?_); rintro e w6 ⟨rfl, hb⟩; replace HB := Aside0.mk (below_step bq hb); (try clear hb); (try clear hb2); (try clear hk); (try clear hi))))
    (try simp only [Act.put, List.setIfInBounds_toArray, List.set_cons_zero, List.set_cons_succ])
    go_cut [] (fun wc => ∃ (kq : Nat), Aside0 (whole_DivMod.j1 kq a0 a1 = some (r1, r2, r3)) ∧ Aside0 (kq ≤ k) ∧ Aside0 (Below w.heap.size w wc))
    case first =>
      have H := HC5.out
      clear HC5
      by_cases c7 : t326 = true
      · subst c7
        have H1 : ((whole_little.f a1 18).bind fun bt327 => (if bt327.2 = true then (if bt327.1 = 0 then (none) else (if (Int.tmod t325 bt327.1) = 0 then (whole_DivMod.j0 k bt327.1 (wrap64 (Int.tdiv t325 bt327.1)) (Int.tmod t325 bt327.1) false) else (whole_DivMod.j0 k bt327.1 (wrap64 (Int.tdiv t325 bt327.1)) (Int.tmod t325 bt327.1) ((decide ((Int.tmod t325 bt327.1) < 0)) != (decide (bt327.1 < 0)))))) else (whole_DivMod.j1 k a0 a1))) = some (r1, r2, r3) := by rw [if_pos rfl] at H; exact H
        clear H
        have H := H1
        clear H1
        replace H := Option.bind_eq_some_iff.mp H
        obtain ⟨⟨t327, t328⟩, A80, H⟩ := H
        replace H : (if t328 = true then (if t327 = 0 then (none) else (if (Int.tmod t325 t327) = 0 then (whole_DivMod.j0 k t327 (wrap64 (Int.tdiv t325 t327)) (Int.tmod t325 t327) false) else (whole_DivMod.j0 k t327 (wrap64 (Int.tdiv t325 t327)) (Int.tmod t325 t327) ((decide ((Int.tmod t325 t327) < 0)) != (decide (t327 < 0)))))) else (whole_DivMod.j1 k a0 a1)) = some (r1, r2, r3) := H
        have A8 := Aside0.mk A80
        clear A80
        by_cases c9 : t328 = true
        · subst c9
          have H1 : (if t327 = 0 then (none) else (if (Int.tmod t325 t327) = 0 then (whole_DivMod.j0 k t327 (wrap64 (Int.tdiv t325 t327)) (Int.tmod t325 t327) false) else (whole_DivMod.j0 k t327 (wrap64 (Int.tdiv t325 t327)) (Int.tmod t325 t327) ((decide ((Int.tmod t325 t327) < 0)) != (decide (t327 < 0)))))) = some (r1, r2, r3) := by rw [if_pos rfl] at H; exact H
          clear H
          have H := H1
          clear H1
          by_cases c10 : t327 = 0
          · rw [if_pos c10] at H
            exact absurd H (by simp)
          · rw [if_neg c10] at H
            have c10b0 : (t327 == 0) = false := beq_eq_false_iff_ne.mpr c10
            have c10b1 : (t327 != 0) = true := bne_iff_ne.mpr c10
            (first | rw [c10b0] | (simp only [i64_w, i32_w]; rw [c10b0]) | skip)
            have HC11 := Aside0.mk H
            clear H
            go_upto_region 8 with (first | (go_at_call 40; (with_reducible refine (whole_little.calls a1 18 t327 true _ A8.out).mono ?_); rintro e w12 ⟨rfl, hb⟩; replace HB := Aside0.mk (below_step bq hb); (try clear hb); (try clear hb2); (try clear hk); (try clear hi)))
            repeat (go_quiet (first | (go_at_call 40; (with_reducible refine (whole_little.calls a1 18 t327 true _ A8.out).mono ?_); rintro e w12 ⟨rfl, hb⟩; replace HB := Aside0.mk (below_step bq hb); (try clear hb); (try clear hb2); (try clear hk); (try clear hi))); go_upto_region 8 with (first | (go_at_call 40; (with_reducible refine (whole_little.calls a1 18 t327 true _ A8.out).mono ?_); rintro e w12 ⟨rfl, hb⟩; replace HB := Aside0.mk (below_step bq hb); (try clear hb); (try clear hb2); (try clear hk); (try clear hi))))
            (try simp only [Act.put, List.setIfInBounds_toArray, List.set_cons_zero, List.set_cons_succ])
            go_cut [47] (fun v47 wc => ∃ (kq : Nat) (x47_10 : Bool), v47 = .bool x47_10 ∧ Aside0 (whole_DivMod.j0 kq t327 (wrap64 (Int.tdiv t325 t327)) (Int.tmod t325 t327) x47_10 = some (r1, r2, r3)) ∧ Aside0 (kq ≤ k) ∧ Aside0 (Below w.heap.size w wc))
            case first =>
              have H := HC11.out
              clear HC11
              by_cases c13 : (Int.tmod t325 t327) = 0
              · rw [if_pos c13] at H
                have c13b0 : ((Int.tmod t325 t327) == 0) = true := beq_iff_eq.mpr c13
                have c13b1 : ((Int.tmod t325 t327) != 0) = false := bne_eq_false_iff_eq.mpr c13
                clear c13
                (first | rw [c13b0] | (simp only [i64_w, i32_w]; rw [c13b0]) | skip)
                have H' := Aside0.mk H
                clear H
                go_wp2
                repeat (go_quiet (fail); try go_wp2)
                go_meet
                case rel => exact ⟨_, (false), (by first | rfl | (simp; done) | (simp [*]; done)), H', ⟨by first | omega | exact Nat.le_refl _⟩, ⟨bq⟩⟩
              · rw [if_neg c13] at H
                have c13b0 : ((Int.tmod t325 t327) == 0) = false := beq_eq_false_iff_ne.mpr c13
                have c13b1 : ((Int.tmod t325 t327) != 0) = true := bne_iff_ne.mpr c13
                (first | rw [c13b0] | (simp only [i64_w, i32_w]; rw [c13b0]) | skip)
                have H' := Aside0.mk H
                clear H
                go_wp2
                repeat (go_quiet (fail); try go_wp2)
                go_meet
                case rel => exact ⟨_, (((decide ((Int.tmod t325 t327) < 0)) != (decide (t327 < 0)))), (by first | rfl | (simp; done) | (simp [*]; done)), H', ⟨by first | omega | exact Nat.le_refl _⟩, ⟨bq⟩⟩
            case rest =>
              clear HC11
              try clear c1
              try clear p2
              try clear c3
              try clear c3b0
              try clear c3b1
              try clear p6
              try clear c7
              try clear c9
              try clear c10
              try clear c10b0
              try clear c10b1
              try clear c13
              try clear c13b0
              try clear c13b1
              obtain ⟨kq, x47_10, rfl, HA, HJ10, HB⟩ := hcut
              cases kq with
              | zero => exact absurd HA.out (by simp [whole_DivMod.j0])
              | succ kj10 =>
                have H := HA.out
                clear HA
                simp only [whole_DivMod.j0] at H
                by_cases c14 : x47_10 = true
                · subst c14
                  have H1 : ((whole_Of.f (wrap64 ((wrap64 (Int.tdiv t325 t327)) - 1))).bind fun t329 => ((whole_Of.f (wrap64 ((Int.tmod t325 t327) + t327))).bind fun t330 => (some (t329, t330, 0)))) = some (r1, r2, r3) := by rw [if_pos rfl] at H; exact H
                  clear H
                  have H := H1
                  clear H1
                  replace H := Option.bind_eq_some_iff.mp H
                  obtain ⟨t329, A150, H⟩ := H
                  replace H : ((whole_Of.f (wrap64 ((Int.tmod t325 t327) + t327))).bind fun t330 => (some (t329, t330, 0))) = some (r1, r2, r3) := H
                  have A15 := Aside0.mk A150
                  clear A150
                  replace H := Option.bind_eq_some_iff.mp H
                  obtain ⟨t330, A160, H⟩ := H
                  replace H : (some (t329, t330, 0)) = some (r1, r2, r3) := H
                  have A16 := Aside0.mk A160
                  clear A160
                  simp only [Option.some.injEq, Prod.mk.injEq] at H
                  obtain ⟨rfl, rfl, rfl⟩ := H
                  go_wp2_with (first | (go_at_call 41; (with_reducible refine (whole_Of.calls (hT := HT.out.below bq) (wrap64 ((wrap64 (Int.tdiv t325 t327)) - 1)) t329 _ A15.out).mono ?_); rintro e w17 ⟨rfl, hb⟩; replace HB := Aside0.mk (below_step bq hb); (try clear hb); (try clear hb2); (try clear hk); (try clear hi)) | (go_at_call 41; (with_reducible refine (whole_Of.calls (hT := HT.out.below bq) (wrap64 ((Int.tmod t325 t327) + t327)) t330 _ A16.out).mono ?_); rintro e w18 ⟨rfl, hb⟩; replace HB := Aside0.mk (below_step bq hb); (try clear hb); (try clear hb2); (try clear hk); (try clear hi)))
                  repeat (go_quiet (first | (go_at_call 41; (with_reducible refine (whole_Of.calls (hT := HT.out.below bq) (wrap64 ((wrap64 (Int.tdiv t325 t327)) - 1)) t329 _ A15.out).mono ?_); rintro e w17 ⟨rfl, hb⟩; replace HB := Aside0.mk (below_step bq hb); (try clear hb); (try clear hb2); (try clear hk); (try clear hi)) | (go_at_call 41; (with_reducible refine (whole_Of.calls (hT := HT.out.below bq) (wrap64 ((Int.tmod t325 t327) + t327)) t330 _ A16.out).mono ?_); rintro e w18 ⟨rfl, hb⟩; replace HB := Aside0.mk (below_step bq hb); (try clear hb); (try clear hb2); (try clear hk); (try clear hi))); try go_wp2_with (first | (go_at_call 41; (with_reducible refine (whole_Of.calls (hT := HT.out.below bq) (wrap64 ((wrap64 (Int.tdiv t325 t327)) - 1)) t329 _ A15.out).mono ?_); rintro e w17 ⟨rfl, hb⟩; replace HB := Aside0.mk (below_step bq hb); (try clear hb); (try clear hb2); (try clear hk); (try clear hi)) | (go_at_call 41; (with_reducible refine (whole_Of.calls (hT := HT.out.below bq) (wrap64 ((Int.tmod t325 t327) + t327)) t330 _ A16.out).mono ?_); rintro e w18 ⟨rfl, hb⟩; replace HB := Aside0.mk (below_step bq hb); (try clear hb); (try clear hb2); (try clear hk); (try clear hi))))
                  go_ret3
                  exact ⟨eq_, bq⟩
                · replace c14 := Bool.eq_false_iff.mpr c14
                  subst c14
                  have H1 : ((whole_Of.f (wrap64 (Int.tdiv t325 t327))).bind fun t331 => ((whole_Of.f (Int.tmod t325 t327)).bind fun t332 => (some (t331, t332, 0)))) = some (r1, r2, r3) := by rw [if_neg (show ¬ (false = true) by decide)] at H; exact H
                  clear H
                  have H := H1
                  clear H1
                  replace H := Option.bind_eq_some_iff.mp H
                  obtain ⟨t331, A190, H⟩ := H
                  replace H : ((whole_Of.f (Int.tmod t325 t327)).bind fun t332 => (some (t331, t332, 0))) = some (r1, r2, r3) := H
                  have A19 := Aside0.mk A190
                  clear A190
                  replace H := Option.bind_eq_some_iff.mp H
                  obtain ⟨t332, A200, H⟩ := H
                  replace H : (some (t331, t332, 0)) = some (r1, r2, r3) := H
                  have A20 := Aside0.mk A200
                  clear A200
                  simp only [Option.some.injEq, Prod.mk.injEq] at H
                  obtain ⟨rfl, rfl, rfl⟩ := H
                  go_wp2_with (first | (go_at_call 41; (with_reducible refine (whole_Of.calls (hT := HT.out.below bq) (wrap64 (Int.tdiv t325 t327)) t331 _ A19.out).mono ?_); rintro e w21 ⟨rfl, hb⟩; replace HB := Aside0.mk (below_step bq hb); (try clear hb); (try clear hb2); (try clear hk); (try clear hi)) | (go_at_call 41; (with_reducible refine (whole_Of.calls (hT := HT.out.below bq) (Int.tmod t325 t327) t332 _ A20.out).mono ?_); rintro e w22 ⟨rfl, hb⟩; replace HB := Aside0.mk (below_step bq hb); (try clear hb); (try clear hb2); (try clear hk); (try clear hi)))
                  repeat (go_quiet (first | (go_at_call 41; (with_reducible refine (whole_Of.calls (hT := HT.out.below bq) (wrap64 (Int.tdiv t325 t327)) t331 _ A19.out).mono ?_); rintro e w21 ⟨rfl, hb⟩; replace HB := Aside0.mk (below_step bq hb); (try clear hb); (try clear hb2); (try clear hk); (try clear hi)) | (go_at_call 41; (with_reducible refine (whole_Of.calls (hT := HT.out.below bq) (Int.tmod t325 t327) t332 _ A20.out).mono ?_); rintro e w22 ⟨rfl, hb⟩; replace HB := Aside0.mk (below_step bq hb); (try clear hb); (try clear hb2); (try clear hk); (try clear hi))); try go_wp2_with (first | (go_at_call 41; (with_reducible refine (whole_Of.calls (hT := HT.out.below bq) (wrap64 (Int.tdiv t325 t327)) t331 _ A19.out).mono ?_); rintro e w21 ⟨rfl, hb⟩; replace HB := Aside0.mk (below_step bq hb); (try clear hb); (try clear hb2); (try clear hk); (try clear hi)) | (go_at_call 41; (with_reducible refine (whole_Of.calls (hT := HT.out.below bq) (Int.tmod t325 t327) t332 _ A20.out).mono ?_); rintro e w22 ⟨rfl, hb⟩; replace HB := Aside0.mk (below_step bq hb); (try clear hb); (try clear hb2); (try clear hk); (try clear hi))))
                  go_ret3
                  exact ⟨eq_, bq⟩
        · replace c9 := Bool.eq_false_iff.mpr c9
          subst c9
          have H1 : (whole_DivMod.j1 k a0 a1) = some (r1, r2, r3) := by rw [if_neg (show ¬ (false = true) by decide)] at H; exact H
          clear H
          have H := H1
          clear H1
          have H' := Aside0.mk H
          clear H
          go_wp2_with (first | (go_at_call 40; (with_reducible refine (whole_little.calls a1 18 t327 false _ A8.out).mono ?_); rintro e w23 ⟨rfl, hb⟩; replace HB := Aside0.mk (below_step bq hb); (try clear hb); (try clear hb2); (try clear hk); (try clear hi)))
          repeat (go_quiet (first | (go_at_call 40; (with_reducible refine (whole_little.calls a1 18 t327 false _ A8.out).mono ?_); rintro e w23 ⟨rfl, hb⟩; replace HB := Aside0.mk (below_step bq hb); (try clear hb); (try clear hb2); (try clear hk); (try clear hi))); try go_wp2_with (first | (go_at_call 40; (with_reducible refine (whole_little.calls a1 18 t327 false _ A8.out).mono ?_); rintro e w23 ⟨rfl, hb⟩; replace HB := Aside0.mk (below_step bq hb); (try clear hb); (try clear hb2); (try clear hk); (try clear hi))))
          go_meet
          case rel => exact ⟨_, H', ⟨by first | omega | exact Nat.le_refl _⟩, ⟨bq⟩⟩
      · replace c7 := Bool.eq_false_iff.mpr c7
        subst c7
        have H1 : (whole_DivMod.j1 k a0 a1) = some (r1, r2, r3) := by rw [if_neg (show ¬ (false = true) by decide)] at H; exact H
        clear H
        have H := H1
        clear H1
        have H' := Aside0.mk H
        clear H
        go_wp2
        repeat (go_quiet (fail); try go_wp2)
        go_meet
        case rel => exact ⟨_, H', ⟨by first | omega | exact Nat.le_refl _⟩, ⟨bq⟩⟩
    case rest =>
      clear HC5
      try clear c1
      try clear p2
      try clear c3
      try clear c3b0
      try clear c3b1
      try clear p6
      try clear c7
      try clear c9
      try clear c10
      try clear c10b0
      try clear c10b1
      try clear c13
      try clear c13b0
      try clear c13b1
      try clear c14
      try clear c17
      try clear p2
      try clear p6
      obtain ⟨kq, HA, HJ4, HB⟩ := hcut
      cases kq with
      | zero => exact absurd HA.out (by simp [whole_DivMod.j1])
      | succ kj4 =>
        have H := HA.out
        clear HA
        simp only [whole_DivMod.j1] at H
        replace H := Option.bind_eq_some_iff.mp H
        obtain ⟨⟨t333, t334⟩, A240, H⟩ := H
        replace H : ((whole_split.f a1).bind fun bt335 => ((decimal_DivMod.f kj4 t334 bt335.2).bind fun bt337 => (if bt337.2.2 = 0 then (if (t333 != bt335.1) = true then (whole_DivMod.j2 kj4 t333 bt335.1 bt335.2 bt337.1 bt337.2.1 (bt337.2.1.toList != ([48] : List UInt8))) else (whole_DivMod.j2 kj4 t333 bt335.1 bt335.2 bt337.1 bt337.2.1 false)) else (some ((⟨#[]⟩ : ByteArray), (⟨#[]⟩ : ByteArray), bt337.2.2))))) = some (r1, r2, r3) := H
        have A24 := Aside0.mk A240
        clear A240
        replace H := Option.bind_eq_some_iff.mp H
        obtain ⟨⟨t335, t336⟩, A250, H⟩ := H
        replace H : ((decimal_DivMod.f kj4 t334 t336).bind fun bt337 => (if bt337.2.2 = 0 then (if (t333 != t335) = true then (whole_DivMod.j2 kj4 t333 t335 t336 bt337.1 bt337.2.1 (bt337.2.1.toList != ([48] : List UInt8))) else (whole_DivMod.j2 kj4 t333 t335 t336 bt337.1 bt337.2.1 false)) else (some ((⟨#[]⟩ : ByteArray), (⟨#[]⟩ : ByteArray), bt337.2.2)))) = some (r1, r2, r3) := H
        have A25 := Aside0.mk A250
        clear A250
        replace H := Option.bind_eq_some_iff.mp H
        obtain ⟨⟨t337, t338, t339⟩, A260, H⟩ := H
        replace H : (if t339 = 0 then (if (t333 != t335) = true then (whole_DivMod.j2 kj4 t333 t335 t336 t337 t338 (t338.toList != ([48] : List UInt8))) else (whole_DivMod.j2 kj4 t333 t335 t336 t337 t338 false)) else (some ((⟨#[]⟩ : ByteArray), (⟨#[]⟩ : ByteArray), t339))) = some (r1, r2, r3) := H
        have A26 := Aside0.mk A260
        clear A260
        by_cases c27 : t339 = 0
        · rw [if_pos c27] at H
          have c27b0 : (t339 == 0) = true := beq_iff_eq.mpr c27
          have c27b1 : (t339 != 0) = false := bne_eq_false_iff_eq.mpr c27
          clear c27
          have HC28 := Aside0.mk H
          clear H
          go_upto_region 16 with (first | (go_at_call 28; (with_reducible refine (whole_split.calls a0 t333 t334 _ A24.out).mono ?_); rintro e w' ⟨rfl, ⟨nd, rfl⟩⟩; (try first | exact ⟨rfl, _, World.drewN_drewN _ _ _⟩ | exact ⟨rfl, _, Eq.trans (World.drewN_drewN _ _ _) (congrArg (World.drewN _) (Nat.add_assoc _ _ _))⟩)) | (go_at_call 28; (with_reducible refine (whole_split.calls a1 t335 t336 _ A25.out).mono ?_); rintro e w' ⟨rfl, ⟨nd, rfl⟩⟩; (try first | exact ⟨rfl, _, World.drewN_drewN _ _ _⟩ | exact ⟨rfl, _, Eq.trans (World.drewN_drewN _ _ _) (congrArg (World.drewN _) (Nat.add_assoc _ _ _))⟩)) | (go_at_call 47; (with_reducible refine (decimal_DivMod.calls (hT := HT.out.below bq) kj4 t334 t336 t337 t338 t339 _ A26.out).mono ?_); rintro e w29 ⟨rfl, hb⟩; replace HB := Aside0.mk (below_step bq hb); (try clear hb); (try clear hb2); (try clear hk); (try clear hi)))
          repeat (go_quiet (first | (go_at_call 28; (with_reducible refine (whole_split.calls a0 t333 t334 _ A24.out).mono ?_); rintro e w' ⟨rfl, ⟨nd, rfl⟩⟩; (try first | exact ⟨rfl, _, World.drewN_drewN _ _ _⟩ | exact ⟨rfl, _, Eq.trans (World.drewN_drewN _ _ _) (congrArg (World.drewN _) (Nat.add_assoc _ _ _))⟩)) | (go_at_call 28; (with_reducible refine (whole_split.calls a1 t335 t336 _ A25.out).mono ?_); rintro e w' ⟨rfl, ⟨nd, rfl⟩⟩; (try first | exact ⟨rfl, _, World.drewN_drewN _ _ _⟩ | exact ⟨rfl, _, Eq.trans (World.drewN_drewN _ _ _) (congrArg (World.drewN _) (Nat.add_assoc _ _ _))⟩)) | (go_at_call 47; (with_reducible refine (decimal_DivMod.calls (hT := HT.out.below bq) kj4 t334 t336 t337 t338 t339 _ A26.out).mono ?_); rintro e w29 ⟨rfl, hb⟩; replace HB := Aside0.mk (below_step bq hb); (try clear hb); (try clear hb2); (try clear hk); (try clear hi))); go_upto_region 16 with (first | (go_at_call 28; (with_reducible refine (whole_split.calls a0 t333 t334 _ A24.out).mono ?_); rintro e w' ⟨rfl, ⟨nd, rfl⟩⟩; (try first | exact ⟨rfl, _, World.drewN_drewN _ _ _⟩ | exact ⟨rfl, _, Eq.trans (World.drewN_drewN _ _ _) (congrArg (World.drewN _) (Nat.add_assoc _ _ _))⟩)) | (go_at_call 28; (with_reducible refine (whole_split.calls a1 t335 t336 _ A25.out).mono ?_); rintro e w' ⟨rfl, ⟨nd, rfl⟩⟩; (try first | exact ⟨rfl, _, World.drewN_drewN _ _ _⟩ | exact ⟨rfl, _, Eq.trans (World.drewN_drewN _ _ _) (congrArg (World.drewN _) (Nat.add_assoc _ _ _))⟩)) | (go_at_call 47; (with_reducible refine (decimal_DivMod.calls (hT := HT.out.below bq) kj4 t334 t336 t337 t338 t339 _ A26.out).mono ?_); rintro e w29 ⟨rfl, hb⟩; replace HB := Aside0.mk (below_step bq hb); (try clear hb); (try clear hb2); (try clear hk); (try clear hi))))
          (try simp only [Act.put, List.setIfInBounds_toArray, List.set_cons_zero, List.set_cons_succ])
          go_cut [83] (fun v83 wc => ∃ (kq : Nat) (x83_27 : Bool), v83 = .bool x83_27 ∧ Aside0 (whole_DivMod.j2 kq t333 t335 t336 t337 t338 x83_27 = some (r1, r2, r3)) ∧ Aside0 (kq ≤ kj4) ∧ Aside0 (Below w.heap.size w wc))
          case first =>
            have H := HC28.out
            clear HC28
            by_cases c30 : (t333 != t335) = true
            · rw [if_pos c30] at H
              have c30b0 : (t333 != t335) = true := c30
              (try (have c30b1 : decide (t333 = t335) = false := by simpa using c30))
              (try (have c30b2 : (t333 == t335) = false := by simpa using c30))
              (try (have c30b3 : ¬ (t333 = t335) := by simpa using c30))
              clear c30
              (first | rw [c30b0] | (simp only [i64_w, i32_w]; rw [c30b0]) | skip)
              have H' := Aside0.mk H
              clear H
              go_wp2
              repeat (go_quiet (fail); try go_wp2)
              go_meet
              case rel => exact ⟨_, ((t338.toList != ([48] : List UInt8))), (by first | rfl | (simp; done) | (simp [*]; done)), H', ⟨by have := HJ4.out; first | omega | exact Nat.le_refl _⟩, ⟨bq⟩⟩
            · rw [if_neg c30] at H
              have c30b0 : (t333 != t335) = false := by simpa using c30
              (try (have c30b1 : decide (t333 = t335) = true := by simpa using c30))
              (try (have c30b2 : (t333 == t335) = true := by simpa using c30))
              clear c30
              (first | rw [c30b0] | (simp only [i64_w, i32_w]; rw [c30b0]) | skip)
              have H' := Aside0.mk H
              clear H
              go_wp2
              repeat (go_quiet (fail); try go_wp2)
              go_meet
              case rel => exact ⟨_, (false), (by first | rfl | (simp; done) | (simp [*]; done)), H', ⟨by have := HJ4.out; first | omega | exact Nat.le_refl _⟩, ⟨bq⟩⟩
          case rest =>
            clear HC28
            try clear c1
            try clear c2
            try clear p2
            try clear c3
            try clear c3b0
            try clear c3b1
            try clear p6
            try clear c7
            try clear c9
            try clear c10
            try clear c10b0
            try clear c10b1
            try clear c13
            try clear c13b0
            try clear c13b1
            try clear c14
            try clear c17
            try clear c27
            try clear c27b0
            try clear c27b1
            try clear c30
            try clear c30b0
            try clear c30b1
            try clear c30b2
            try clear p2
            try clear p6
            obtain ⟨kq, x83_27, rfl, HA, HJ27, HB⟩ := hcut
            cases kq with
            | zero => exact absurd HA.out (by simp [whole_DivMod.j2])
            | succ kj27 =>
              have H := HA.out
              clear HA
              simp only [whole_DivMod.j2] at H
              by_cases c31 : x83_27 = true
              · subst c31
                have H1 : ((decimal_Add.f kj27 t337 (⟨#[49]⟩ : ByteArray)).bind fun t340 => ((decimal_Sub.f kj27 t336 t338).bind fun bt341 => ((whole_join.f (t333 != t335) t340).bind fun t343 => ((whole_join.f t335 bt341.1).bind fun t344 => (some (t343, t344, 0)))))) = some (r1, r2, r3) := by rw [if_pos rfl] at H; exact H
                clear H
                have H := H1
                clear H1
                replace H := Option.bind_eq_some_iff.mp H
                obtain ⟨t340, A320, H⟩ := H
                replace H : ((decimal_Sub.f kj27 t336 t338).bind fun bt341 => ((whole_join.f (t333 != t335) t340).bind fun t343 => ((whole_join.f t335 bt341.1).bind fun t344 => (some (t343, t344, 0))))) = some (r1, r2, r3) := H
                have A32 := Aside0.mk A320
                clear A320
                replace H := Option.bind_eq_some_iff.mp H
                obtain ⟨⟨t341, t342⟩, A330, H⟩ := H
                replace H : ((whole_join.f (t333 != t335) t340).bind fun t343 => ((whole_join.f t335 t341).bind fun t344 => (some (t343, t344, 0)))) = some (r1, r2, r3) := H
                have A33 := Aside0.mk A330
                clear A330
                replace H := Option.bind_eq_some_iff.mp H
                obtain ⟨t343, A340, H⟩ := H
                replace H : ((whole_join.f t335 t341).bind fun t344 => (some (t343, t344, 0))) = some (r1, r2, r3) := H
                have A34 := Aside0.mk A340
                clear A340
                replace H := Option.bind_eq_some_iff.mp H
                obtain ⟨t344, A350, H⟩ := H
                replace H : (some (t343, t344, 0)) = some (r1, r2, r3) := H
                have A35 := Aside0.mk A350
                clear A350
                simp only [Option.some.injEq, Prod.mk.injEq] at H
                obtain ⟨rfl, rfl, rfl⟩ := H
                have A34n := A34
                try rw [neq_bools] at A34n
                go_wp2_with (first | (go_at_call 42; (with_reducible refine (decimal_Add.calls (hT := HT.out.below bq) kj27 t337 (⟨#[49]⟩ : ByteArray) t340 _ A32.out).mono ?_); rintro e w36 ⟨rfl, hb⟩; replace HB := Aside0.mk (below_step bq hb); (try clear hb); (try clear hb2); (try clear hk); (try clear hi)) | (go_at_call 44; (with_reducible refine (decimal_Sub.calls (hT := HT.out.below bq) kj27 t336 t338 t341 t342 _ A33.out).mono ?_); rintro e w37 ⟨rfl, hb⟩; replace HB := Aside0.mk (below_step bq hb); (try clear hb); (try clear hb2); (try clear hk); (try clear hi)) | (go_at_call 30; (first | with_reducible refine (whole_join.calls (t333 != t335) t340 t343 _ A34.out).mono ?_ | with_reducible refine (whole_join.calls (!(t333 == t335)) t340 t343 _ A34n.out).mono ?_); rintro e w' ⟨rfl, ⟨nd, rfl⟩⟩; (try first | exact ⟨rfl, _, World.drewN_drewN _ _ _⟩ | exact ⟨rfl, _, Eq.trans (World.drewN_drewN _ _ _) (congrArg (World.drewN _) (Nat.add_assoc _ _ _))⟩)) | (go_at_call 30; (with_reducible refine (whole_join.calls t335 t341 t344 _ A35.out).mono ?_); rintro e w' ⟨rfl, ⟨nd, rfl⟩⟩; (try first | exact ⟨rfl, _, World.drewN_drewN _ _ _⟩ | exact ⟨rfl, _, Eq.trans (World.drewN_drewN _ _ _) (congrArg (World.drewN _) (Nat.add_assoc _ _ _))⟩)))
                have A34n := A34
                try rw [neq_bools] at A34n
                repeat (go_quiet (first | (go_at_call 42; (with_reducible refine (decimal_Add.calls (hT := HT.out.below bq) kj27 t337 (⟨#[49]⟩ : ByteArray) t340 _ A32.out).mono ?_); rintro e w36 ⟨rfl, hb⟩; replace HB := Aside0.mk (below_step bq hb); (try clear hb); (try clear hb2); (try clear hk); (try clear hi)) | (go_at_call 44; (with_reducible refine (decimal_Sub.calls (hT := HT.out.below bq) kj27 t336 t338 t341 t342 _ A33.out).mono ?_); rintro e w37 ⟨rfl, hb⟩; replace HB := Aside0.mk (below_step bq hb); (try clear hb); (try clear hb2); (try clear hk); (try clear hi)) | (go_at_call 30; (first | with_reducible refine (whole_join.calls (t333 != t335) t340 t343 _ A34.out).mono ?_ | with_reducible refine (whole_join.calls (!(t333 == t335)) t340 t343 _ A34n.out).mono ?_); rintro e w' ⟨rfl, ⟨nd, rfl⟩⟩; (try first | exact ⟨rfl, _, World.drewN_drewN _ _ _⟩ | exact ⟨rfl, _, Eq.trans (World.drewN_drewN _ _ _) (congrArg (World.drewN _) (Nat.add_assoc _ _ _))⟩)) | (go_at_call 30; (with_reducible refine (whole_join.calls t335 t341 t344 _ A35.out).mono ?_); rintro e w' ⟨rfl, ⟨nd, rfl⟩⟩; (try first | exact ⟨rfl, _, World.drewN_drewN _ _ _⟩ | exact ⟨rfl, _, Eq.trans (World.drewN_drewN _ _ _) (congrArg (World.drewN _) (Nat.add_assoc _ _ _))⟩))); try go_wp2_with (first | (go_at_call 42; (with_reducible refine (decimal_Add.calls (hT := HT.out.below bq) kj27 t337 (⟨#[49]⟩ : ByteArray) t340 _ A32.out).mono ?_); rintro e w36 ⟨rfl, hb⟩; replace HB := Aside0.mk (below_step bq hb); (try clear hb); (try clear hb2); (try clear hk); (try clear hi)) | (go_at_call 44; (with_reducible refine (decimal_Sub.calls (hT := HT.out.below bq) kj27 t336 t338 t341 t342 _ A33.out).mono ?_); rintro e w37 ⟨rfl, hb⟩; replace HB := Aside0.mk (below_step bq hb); (try clear hb); (try clear hb2); (try clear hk); (try clear hi)) | (go_at_call 30; (first | with_reducible refine (whole_join.calls (t333 != t335) t340 t343 _ A34.out).mono ?_ | with_reducible refine (whole_join.calls (!(t333 == t335)) t340 t343 _ A34n.out).mono ?_); rintro e w' ⟨rfl, ⟨nd, rfl⟩⟩; (try first | exact ⟨rfl, _, World.drewN_drewN _ _ _⟩ | exact ⟨rfl, _, Eq.trans (World.drewN_drewN _ _ _) (congrArg (World.drewN _) (Nat.add_assoc _ _ _))⟩)) | (go_at_call 30; (with_reducible refine (whole_join.calls t335 t341 t344 _ A35.out).mono ?_); rintro e w' ⟨rfl, ⟨nd, rfl⟩⟩; (try first | exact ⟨rfl, _, World.drewN_drewN _ _ _⟩ | exact ⟨rfl, _, Eq.trans (World.drewN_drewN _ _ _) (congrArg (World.drewN _) (Nat.add_assoc _ _ _))⟩))))
                go_ret3
                exact ⟨eq_, bq⟩
              · replace c31 := Bool.eq_false_iff.mpr c31
                subst c31
                have H1 : ((whole_join.f (t333 != t335) t337).bind fun t345 => ((whole_join.f t335 t338).bind fun t346 => (some (t345, t346, 0)))) = some (r1, r2, r3) := by rw [if_neg (show ¬ (false = true) by decide)] at H; exact H
                clear H
                have H := H1
                clear H1
                replace H := Option.bind_eq_some_iff.mp H
                obtain ⟨t345, A380, H⟩ := H
                replace H : ((whole_join.f t335 t338).bind fun t346 => (some (t345, t346, 0))) = some (r1, r2, r3) := H
                have A38 := Aside0.mk A380
                clear A380
                replace H := Option.bind_eq_some_iff.mp H
                obtain ⟨t346, A390, H⟩ := H
                replace H : (some (t345, t346, 0)) = some (r1, r2, r3) := H
                have A39 := Aside0.mk A390
                clear A390
                simp only [Option.some.injEq, Prod.mk.injEq] at H
                obtain ⟨rfl, rfl, rfl⟩ := H
                have A38n := A38
                try rw [neq_bools] at A38n
                go_wp2_with (first | (go_at_call 30; (first | with_reducible refine (whole_join.calls (t333 != t335) t337 t345 _ A38.out).mono ?_ | with_reducible refine (whole_join.calls (!(t333 == t335)) t337 t345 _ A38n.out).mono ?_); rintro e w' ⟨rfl, ⟨nd, rfl⟩⟩; (try first | exact ⟨rfl, _, World.drewN_drewN _ _ _⟩ | exact ⟨rfl, _, Eq.trans (World.drewN_drewN _ _ _) (congrArg (World.drewN _) (Nat.add_assoc _ _ _))⟩)) | (go_at_call 30; (with_reducible refine (whole_join.calls t335 t338 t346 _ A39.out).mono ?_); rintro e w' ⟨rfl, ⟨nd, rfl⟩⟩; (try first | exact ⟨rfl, _, World.drewN_drewN _ _ _⟩ | exact ⟨rfl, _, Eq.trans (World.drewN_drewN _ _ _) (congrArg (World.drewN _) (Nat.add_assoc _ _ _))⟩)))
                have A38n := A38
                try rw [neq_bools] at A38n
                repeat (go_quiet (first | (go_at_call 30; (first | with_reducible refine (whole_join.calls (t333 != t335) t337 t345 _ A38.out).mono ?_ | with_reducible refine (whole_join.calls (!(t333 == t335)) t337 t345 _ A38n.out).mono ?_); rintro e w' ⟨rfl, ⟨nd, rfl⟩⟩; (try first | exact ⟨rfl, _, World.drewN_drewN _ _ _⟩ | exact ⟨rfl, _, Eq.trans (World.drewN_drewN _ _ _) (congrArg (World.drewN _) (Nat.add_assoc _ _ _))⟩)) | (go_at_call 30; (with_reducible refine (whole_join.calls t335 t338 t346 _ A39.out).mono ?_); rintro e w' ⟨rfl, ⟨nd, rfl⟩⟩; (try first | exact ⟨rfl, _, World.drewN_drewN _ _ _⟩ | exact ⟨rfl, _, Eq.trans (World.drewN_drewN _ _ _) (congrArg (World.drewN _) (Nat.add_assoc _ _ _))⟩))); try go_wp2_with (first | (go_at_call 30; (first | with_reducible refine (whole_join.calls (t333 != t335) t337 t345 _ A38.out).mono ?_ | with_reducible refine (whole_join.calls (!(t333 == t335)) t337 t345 _ A38n.out).mono ?_); rintro e w' ⟨rfl, ⟨nd, rfl⟩⟩; (try first | exact ⟨rfl, _, World.drewN_drewN _ _ _⟩ | exact ⟨rfl, _, Eq.trans (World.drewN_drewN _ _ _) (congrArg (World.drewN _) (Nat.add_assoc _ _ _))⟩)) | (go_at_call 30; (with_reducible refine (whole_join.calls t335 t338 t346 _ A39.out).mono ?_); rintro e w' ⟨rfl, ⟨nd, rfl⟩⟩; (try first | exact ⟨rfl, _, World.drewN_drewN _ _ _⟩ | exact ⟨rfl, _, Eq.trans (World.drewN_drewN _ _ _) (congrArg (World.drewN _) (Nat.add_assoc _ _ _))⟩))))
                go_ret3
                exact ⟨eq_, bq⟩
        · rw [if_neg c27] at H
          have c27b0 : (t339 == 0) = false := beq_eq_false_iff_ne.mpr c27
          have c27b1 : (t339 != 0) = true := bne_iff_ne.mpr c27
          simp only [Option.some.injEq, Prod.mk.injEq] at H
          obtain ⟨rfl, rfl, rfl⟩ := H
          go_wp2_with (first | (go_at_call 28; (with_reducible refine (whole_split.calls a0 t333 t334 _ A24.out).mono ?_); rintro e w' ⟨rfl, ⟨nd, rfl⟩⟩; (try first | exact ⟨rfl, _, World.drewN_drewN _ _ _⟩ | exact ⟨rfl, _, Eq.trans (World.drewN_drewN _ _ _) (congrArg (World.drewN _) (Nat.add_assoc _ _ _))⟩)) | (go_at_call 28; (with_reducible refine (whole_split.calls a1 t335 t336 _ A25.out).mono ?_); rintro e w' ⟨rfl, ⟨nd, rfl⟩⟩; (try first | exact ⟨rfl, _, World.drewN_drewN _ _ _⟩ | exact ⟨rfl, _, Eq.trans (World.drewN_drewN _ _ _) (congrArg (World.drewN _) (Nat.add_assoc _ _ _))⟩)) | (go_at_call 47; (with_reducible refine (decimal_DivMod.calls (hT := HT.out.below bq) kj4 t334 t336 t337 t338 t339 _ A26.out).mono ?_); rintro e w40 ⟨rfl, hb⟩; replace HB := Aside0.mk (below_step bq hb); (try clear hb); (try clear hb2); (try clear hk); (try clear hi)))
          repeat (go_quiet (first | (go_at_call 28; (with_reducible refine (whole_split.calls a0 t333 t334 _ A24.out).mono ?_); rintro e w' ⟨rfl, ⟨nd, rfl⟩⟩; (try first | exact ⟨rfl, _, World.drewN_drewN _ _ _⟩ | exact ⟨rfl, _, Eq.trans (World.drewN_drewN _ _ _) (congrArg (World.drewN _) (Nat.add_assoc _ _ _))⟩)) | (go_at_call 28; (with_reducible refine (whole_split.calls a1 t335 t336 _ A25.out).mono ?_); rintro e w' ⟨rfl, ⟨nd, rfl⟩⟩; (try first | exact ⟨rfl, _, World.drewN_drewN _ _ _⟩ | exact ⟨rfl, _, Eq.trans (World.drewN_drewN _ _ _) (congrArg (World.drewN _) (Nat.add_assoc _ _ _))⟩)) | (go_at_call 47; (with_reducible refine (decimal_DivMod.calls (hT := HT.out.below bq) kj4 t334 t336 t337 t338 t339 _ A26.out).mono ?_); rintro e w40 ⟨rfl, hb⟩; replace HB := Aside0.mk (below_step bq hb); (try clear hb); (try clear hb2); (try clear hk); (try clear hi))); try go_wp2_with (first | (go_at_call 28; (with_reducible refine (whole_split.calls a0 t333 t334 _ A24.out).mono ?_); rintro e w' ⟨rfl, ⟨nd, rfl⟩⟩; (try first | exact ⟨rfl, _, World.drewN_drewN _ _ _⟩ | exact ⟨rfl, _, Eq.trans (World.drewN_drewN _ _ _) (congrArg (World.drewN _) (Nat.add_assoc _ _ _))⟩)) | (go_at_call 28; (with_reducible refine (whole_split.calls a1 t335 t336 _ A25.out).mono ?_); rintro e w' ⟨rfl, ⟨nd, rfl⟩⟩; (try first | exact ⟨rfl, _, World.drewN_drewN _ _ _⟩ | exact ⟨rfl, _, Eq.trans (World.drewN_drewN _ _ _) (congrArg (World.drewN _) (Nat.add_assoc _ _ _))⟩)) | (go_at_call 47; (with_reducible refine (decimal_DivMod.calls (hT := HT.out.below bq) kj4 t334 t336 t337 t338 t339 _ A26.out).mono ?_); rintro e w40 ⟨rfl, hb⟩; replace HB := Aside0.mk (below_step bq hb); (try clear hb); (try clear hb2); (try clear hk); (try clear hi))))
          go_ret3
          exact ⟨eq_, bq⟩
def whole_Neg.f (a0 : ByteArray) : Option (ByteArray) := (whole_split.f a0).bind fun bt347 => ((whole_join.f (!bt347.1) bt347.2).bind fun t349 => (some t349))
set_option maxHeartbeats 8000000 in
set_option maxRecDepth 100000 in
theorem whole_Neg.calls (a0 : ByteArray) (r : ByteArray) (w : World) (h : whole_Neg.f a0 = some r) :
    Calls Tryz.prog 45 #[.string a0] w fun e w' => e = .returned (.string r) ∧ Drawn0 w w' := by
  have H : ((whole_split.f a0).bind fun bt347 => ((whole_join.f (!bt347.1) bt347.2).bind fun t349 => (some t349))) = some r := h
  clear h
  replace H := Option.bind_eq_some_iff.mp H
  obtain ⟨⟨t347, t348⟩, A20, H⟩ := H
  replace H : ((whole_join.f (!t347) t348).bind fun t349 => (some t349)) = some r := H
  have A2 := Aside0.mk A20
  clear A20
  replace H := Option.bind_eq_some_iff.mp H
  obtain ⟨t349, A30, H⟩ := H
  replace H : (some t349) = some r := H
  have A3 := Aside0.mk A30
  clear A30
  obtain rfl := Option.some.inj H
  go_enter Tryz.func45, Tryz.ntmps45
  go_wp2_with (first | ((with_reducible refine gate_callee (f := 28) rfl ?_); refine goesL_ (some 7) rfl rfl Tryz.func28 (by kernel_rfl) rfl #[.string a0] rfl mq ?_; (with_reducible refine (whole_split.calls a0 t347 t348 _ A2.out).mono ?_); rintro e w' ⟨rfl, ⟨nd, rfl⟩⟩; refine ⟨_, rfl, ?_⟩) | ((with_reducible refine gate_callee (f := 30) rfl ?_); refine goesL_ (some 13) rfl rfl Tryz.func30 (by kernel_rfl) rfl #[.bool (!t347), .string t348] rfl mq ?_; (with_reducible refine (whole_join.calls (!t347) t348 t349 _ A3.out).mono ?_); rintro e w' ⟨rfl, ⟨nd, rfl⟩⟩; refine ⟨_, rfl, ?_⟩))
  go_ret
  exact ⟨by first | rfl | (simp; done) | (simp [wrap64]; done) | (simp [*]; done), by repeat (first | exact Drawn0.refl _ | apply Drawn0.step)⟩
def whole_Sub.f (k : Nat) (a0 : ByteArray) (a1 : ByteArray) : Option (ByteArray) := (whole_Neg.f a1).bind fun t350 => ((whole_Add.f k a0 t350).bind fun t351 => (some t351))
theorem whole_Sub.mono : ∀ a0 a1 k, LeO (whole_Sub.f k a0 a1) (whole_Sub.f (k + 1) a0 a1) := by
  intro a0 a1 k
  unfold whole_Sub.f
  repeat' first
      | (with_reducible exact whole_Add.mono _ _ _)
      | (with_reducible exact LeO.refl _)
      | (with_reducible exact LeO.none _)
      | (with_reducible refine LeO.ite ?_ ?_)
      | (with_reducible refine LeO.bind ?_ (fun _ => ?_))
      | exact whole_Add.mono _ _ _
      | exact LeO.none _
      | refine LeO.ite ?_ ?_
      | refine LeO.bind ?_ (fun _ => ?_)
set_option maxHeartbeats 8000000 in
set_option maxRecDepth 100000 in
theorem whole_Sub.calls (k : Nat) (a0 : ByteArray) (a1 : ByteArray) (r : ByteArray) (w : World) (hT : Tab w) (h : whole_Sub.f k a0 a1 = some r) :
    Calls Tryz.prog 14 #[.string a0, .string a1] w fun e w' => e = .returned (.string r) ∧ Below w.heap.size w w' := by
  have HT := Aside0.mk hT
  clear hT
  have HB := Aside0.mk (Below.refl w.heap.size w)
  have H : ((whole_Neg.f a1).bind fun t350 => ((whole_Add.f k a0 t350).bind fun t351 => (some t351))) = some r := h
  clear h
  replace H := Option.bind_eq_some_iff.mp H
  obtain ⟨t350, A30, H⟩ := H
  replace H : ((whole_Add.f k a0 t350).bind fun t351 => (some t351)) = some r := H
  have A3 := Aside0.mk A30
  clear A30
  replace H := Option.bind_eq_some_iff.mp H
  obtain ⟨t351, A40, H⟩ := H
  replace H : (some t351) = some r := H
  have A4 := Aside0.mk A40
  clear A40
  obtain rfl := Option.some.inj H
  go_enter Tryz.func14, Tryz.ntmps14
  go_wp2_with (first | ((with_reducible refine gate_callee (f := 45) rfl ?_); refine goesL_ (some 7) rfl rfl Tryz.func45 (by kernel_rfl) rfl #[.string a1] rfl mq ?_; (with_reducible refine (whole_Neg.calls a1 t350 _ A3.out).mono ?_); rintro e w' ⟨rfl, ⟨nd, rfl⟩⟩; refine ⟨_, rfl, ?_⟩) | ((with_reducible refine gate_callee (f := 13) rfl ?_); refine goesL_ (some 8) rfl rfl Tryz.func13 (by kernel_rfl) rfl #[.string a0, .string t350] rfl mq ?_; (with_reducible refine (whole_Add.calls (hT := HT.out.below bq) k a0 t350 t351 _ A4.out).mono ?_); rintro e w5 ⟨rfl, hb⟩; refine ⟨_, rfl, ?_⟩; replace HB := Aside0.mk (below_step bq hb); (try clear hb); (try clear hb2); (try clear hk); (try clear hi)))
  go_ret
  exact ⟨eq_, bq⟩
def whole_Abs.f (a0 : ByteArray) : Option (ByteArray) := (whole_split.f a0).bind fun bt352 => (some bt352.2)
set_option maxHeartbeats 8000000 in
set_option maxRecDepth 100000 in
theorem whole_Abs.calls (a0 : ByteArray) (r : ByteArray) (w : World) (h : whole_Abs.f a0 = some r) :
    Calls Tryz.prog 50 #[.string a0] w fun e w' => e = .returned (.string r) ∧ Drawn0 w w' := by
  have H : ((whole_split.f a0).bind fun bt352 => (some bt352.2)) = some r := h
  clear h
  replace H := Option.bind_eq_some_iff.mp H
  obtain ⟨⟨t352, t353⟩, A20, H⟩ := H
  replace H : (some t353) = some r := H
  have A2 := Aside0.mk A20
  clear A20
  obtain rfl := Option.some.inj H
  go_enter Tryz.func50, Tryz.ntmps50
  go_wp2_with (first | ((with_reducible refine gate_callee (f := 28) rfl ?_); refine goesL_ (some 7) rfl rfl Tryz.func28 (by kernel_rfl) rfl #[.string a0] rfl mq ?_; (with_reducible refine (whole_split.calls a0 t352 t353 _ A2.out).mono ?_); rintro e w' ⟨rfl, ⟨nd, rfl⟩⟩; refine ⟨_, rfl, ?_⟩))
  go_ret
  exact ⟨by first | rfl | (simp; done) | (simp [wrap64]; done) | (simp [*]; done), by repeat (first | exact Drawn0.refl _ | apply Drawn0.step)⟩
def whole_Sign.f (a0 : ByteArray) : Option (Int) := if a0.toList = ([48] : List UInt8) then (some 0) else (if 0 < (a0.size : Int) then (if (bt a0 0) = 45 then (some (-1)) else (some 1)) else (none))
set_option maxHeartbeats 8000000 in
set_option maxRecDepth 100000 in
theorem whole_Sign.calls (a0 : ByteArray) (r : Int) (w : World) (h : whole_Sign.f a0 = some r) :
    Calls Tryz.prog 51 #[.string a0] w fun e w' => e = .returned (.int .i64 r) ∧ Drawn0 w w' := by
  have H : (if a0.toList = ([48] : List UInt8) then (some 0) else (if 0 < (a0.size : Int) then (if (bt a0 0) = 45 then (some (-1)) else (some 1)) else (none))) = some r := h
  clear h
  by_cases c2 : a0.toList = ([48] : List UInt8)
  · rw [if_pos c2] at H
    have c2b0 : (a0.toList == ([48] : List UInt8)) = true := beq_iff_eq.mpr c2
    have c2b1 : (a0.toList != ([48] : List UInt8)) = false := bne_eq_false_iff_eq.mpr c2
    clear c2
    obtain rfl := Option.some.inj H
    go_enter Tryz.func51, Tryz.ntmps51
    go_wp2
    go_ret
    exact ⟨by first | rfl | (simp; done) | (simp [wrap64]; done) | (simp [*]; done), by repeat (first | exact Drawn0.refl _ | apply Drawn0.step)⟩
  · rw [if_neg c2] at H
    have c2b0 : (a0.toList == ([48] : List UInt8)) = false := beq_eq_false_iff_ne.mpr c2
    have c2b1 : (a0.toList != ([48] : List UInt8)) = true := bne_iff_ne.mpr c2
    by_cases c3 : 0 < (a0.size : Int)
    · rw [if_pos c3] at H
      have c3b0 : decide (0 < (a0.size : Int)) = true := decide_eq_true c3
      have c3b1 : decide (0 < a0.size) = true := decide_eq_true (by omega)
      clear c3
      by_cases c5 : (bt a0 0) = 45
      · rw [if_pos c5] at H
        have c5b0 : ((bt a0 0) == 45) = true := beq_iff_eq.mpr c5
        have c5b1 : ((bt a0 0) != 45) = false := bne_eq_false_iff_eq.mpr c5
        clear c5
        obtain rfl := Option.some.inj H
        have p4 : 0 ≤ (0 : Int) := (by omega)
        have q4 : 0 < a0.size := (by have : (0 : Int) < (a0.size : Int) := of_decide_eq_true (by first | (with_reducible assumption) | assumption); omega)
        have hx4 : ∀ h : 0 < a0.size, ((a0[0]'h).toNat : Int) = bt a0 0 := bt_at a0 0
        clear p4
        have qi4 : (0 < (a0.size : Int)) = True := eq_true (of_decide_eq_true (by first | (with_reducible assumption) | assumption))
        replace q4 := eq_true q4
        go_enter Tryz.func51, Tryz.ntmps51
        go_wp2
        go_ret
        exact ⟨by first | rfl | (simp; done) | (simp [wrap64]; done) | (simp [*]; done), by repeat (first | exact Drawn0.refl _ | apply Drawn0.step)⟩
      · rw [if_neg c5] at H
        have c5b0 : ((bt a0 0) == 45) = false := beq_eq_false_iff_ne.mpr c5
        have c5b1 : ((bt a0 0) != 45) = true := bne_iff_ne.mpr c5
        obtain rfl := Option.some.inj H
        have p4 : 0 ≤ (0 : Int) := (by omega)
        have q4 : 0 < a0.size := (by have : (0 : Int) < (a0.size : Int) := of_decide_eq_true (by first | (with_reducible assumption) | assumption); omega)
        have hx4 : ∀ h : 0 < a0.size, ((a0[0]'h).toNat : Int) = bt a0 0 := bt_at a0 0
        clear p4
        have qi4 : (0 < (a0.size : Int)) = True := eq_true (of_decide_eq_true (by first | (with_reducible assumption) | assumption))
        replace q4 := eq_true q4
        go_enter Tryz.func51, Tryz.ntmps51
        go_wp2
        go_ret
        exact ⟨by first | rfl | (simp; done) | (simp [wrap64]; done) | (simp [*]; done), by repeat (first | exact Drawn0.refl _ | apply Drawn0.step)⟩
    · rw [if_neg c3] at H
      exact absurd H (by simp)
def decimal_Mul.f (k : Nat) (a0 : ByteArray) (a1 : ByteArray) : Option (ByteArray) := if (wrap64 ((a0.size : Int) + (a1.size : Int))) ≤ 18 then ((decimal_both.f k a0 a1).bind fun bt354 => ((decimal_Of.f (IntKind.u64.wrap (bt354.1 * bt354.2.1))).bind fun t357 => (some t357))) else ((decimal_cut.f k a0).bind fun t358 => ((decimal_cut.f k a1).bind fun t361 => ((decimal_pieces_times.f k t358 t361).bind fun t364 => ((decimal_pieces_text.f k t364).bind fun t367 => (some t367)))))
theorem decimal_Mul.mono : ∀ a0 a1 k, LeO (decimal_Mul.f k a0 a1) (decimal_Mul.f (k + 1) a0 a1) := by
  intro a0 a1 k
  unfold decimal_Mul.f
  repeat' first
      | (with_reducible exact decimal_both.mono _ _ _)
      | (with_reducible exact decimal_cut.mono _ _)
      | (with_reducible exact decimal_pieces_text.mono _ _)
      | (with_reducible exact decimal_pieces_times.mono _ _ _)
      | (with_reducible exact LeO.refl _)
      | (with_reducible exact LeO.none _)
      | (with_reducible refine LeO.ite ?_ ?_)
      | (with_reducible refine LeO.bind ?_ (fun _ => ?_))
      | exact decimal_both.mono _ _ _
      | exact decimal_cut.mono _ _
      | exact decimal_pieces_text.mono _ _
      | exact decimal_pieces_times.mono _ _ _
      | exact LeO.none _
      | refine LeO.ite ?_ ?_
      | refine LeO.bind ?_ (fun _ => ?_)
set_option maxHeartbeats 8000000 in
set_option maxRecDepth 100000 in
theorem decimal_Mul.calls (k : Nat) (a0 : ByteArray) (a1 : ByteArray) (r : ByteArray) (w : World) (hT : Tab w) (h : decimal_Mul.f k a0 a1 = some r) :
    Calls Tryz.prog 76 #[.string a0, .string a1] w fun e w' => e = .returned (.string r) ∧ Below w.heap.size w w' := by
  have HT := Aside0.mk hT
  clear hT
  have HB := Aside0.mk (Below.refl w.heap.size w)
  have H : (if (wrap64 ((a0.size : Int) + (a1.size : Int))) ≤ 18 then ((decimal_both.f k a0 a1).bind fun bt354 => ((decimal_Of.f (IntKind.u64.wrap (bt354.1 * bt354.2.1))).bind fun t357 => (some t357))) else ((decimal_cut.f k a0).bind fun t358 => ((decimal_cut.f k a1).bind fun t361 => ((decimal_pieces_times.f k t358 t361).bind fun t364 => ((decimal_pieces_text.f k t364).bind fun t367 => (some t367)))))) = some r := h
  clear h
  by_cases c3 : (wrap64 ((a0.size : Int) + (a1.size : Int))) ≤ 18
  · rw [if_pos c3] at H
    have c3b0 : decide ((wrap64 ((a0.size : Int) + (a1.size : Int))) ≤ 18) = true := decide_eq_true c3
    clear c3
    replace H := Option.bind_eq_some_iff.mp H
    obtain ⟨⟨t354, t355, t356⟩, A40, H⟩ := H
    replace H : ((decimal_Of.f (IntKind.u64.wrap (t354 * t355))).bind fun t357 => (some t357)) = some r := H
    have A4 := Aside0.mk A40
    clear A40
    replace H := Option.bind_eq_some_iff.mp H
    obtain ⟨t357, A50, H⟩ := H
    replace H : (some t357) = some r := H
    have A5 := Aside0.mk A50
    clear A50
    obtain rfl := Option.some.inj H
    go_enter Tryz.func76, Tryz.ntmps76
    go_wp2_with (first | ((with_reducible refine gate_callee (f := 68) rfl ?_); refine goesL_ (some 17) rfl rfl Tryz.func68 (by kernel_rfl) rfl #[.string a0, .string a1] rfl mq ?_; (with_reducible refine (decimal_both.calls (hT := HT.out.below bq) k a0 a1 t354 t355 t356 _ A4.out).mono ?_); rintro e w6 ⟨rfl, hb⟩; refine ⟨_, rfl, ?_⟩; replace HB := Aside0.mk (below_step bq hb); (try clear hb); (try clear hb2); (try clear hk); (try clear hi)) | ((with_reducible refine gate_callee (f := 69) rfl ?_); refine goesL_ (some 24) rfl rfl Tryz.func69 (by kernel_rfl) rfl #[.int .u64 (IntKind.u64.wrap (t354 * t355))] rfl mq ?_; (with_reducible refine (decimal_Of.calls (hT := HT.out.below bq) (IntKind.u64.wrap (t354 * t355)) t357 _ A5.out).mono ?_); rintro e w7 ⟨rfl, hb⟩; refine ⟨_, rfl, ?_⟩; replace HB := Aside0.mk (below_step bq hb); (try clear hb); (try clear hb2); (try clear hk); (try clear hi)))
    go_ret
    exact ⟨eq_, bq⟩
  · rw [if_neg c3] at H
    have c3b0 : decide ((wrap64 ((a0.size : Int) + (a1.size : Int))) ≤ 18) = false := decide_eq_false c3
    clear c3
    replace H := Option.bind_eq_some_iff.mp H
    obtain ⟨t358, A80, H⟩ := H
    replace H : ((decimal_cut.f k a1).bind fun t361 => ((decimal_pieces_times.f k t358 t361).bind fun t364 => ((decimal_pieces_text.f k t364).bind fun t367 => (some t367)))) = some r := H
    have A8 := Aside0.mk A80
    clear A80
    replace H := Option.bind_eq_some_iff.mp H
    obtain ⟨t361, A90, H⟩ := H
    replace H : ((decimal_pieces_times.f k t358 t361).bind fun t364 => ((decimal_pieces_text.f k t364).bind fun t367 => (some t367))) = some r := H
    have A9 := Aside0.mk A90
    clear A90
    replace H := Option.bind_eq_some_iff.mp H
    obtain ⟨t364, A100, H⟩ := H
    replace H : ((decimal_pieces_text.f k t364).bind fun t367 => (some t367)) = some r := H
    have A10 := Aside0.mk A100
    clear A100
    replace H := Option.bind_eq_some_iff.mp H
    obtain ⟨t367, A110, H⟩ := H
    replace H : (some t367) = some r := H
    have A11 := Aside0.mk A110
    clear A110
    obtain rfl := Option.some.inj H
    go_enter Tryz.func76, Tryz.ntmps76
    go_wp2_with (first | ((with_reducible refine gate_callee (f := 60) rfl ?_); refine goesL_ (some 26) rfl rfl Tryz.func60 (by kernel_rfl) rfl #[.string a0] rfl mq ?_; (with_reducible refine (decimal_cut.calls k a0 t358 _ A8.out).mono ?_); rintro e w12 ⟨v359, rfl, ho0, hb⟩; refine ⟨_, rfl, ?_⟩; have n0_ := Aside0.mk (Kd.R_lower ho0 (below_size bq)); have n1_ := Aside0.mk (below_step bq hb); clear HB; have HO360 := n0_; have HB := n1_; clear n0_ n1_; (try clear hb); (try clear hb2); (try clear hk); (try clear hi); (try clear ho0)) | ((with_reducible refine gate_callee (f := 60) rfl ?_); refine goesL_ (some 28) rfl rfl Tryz.func60 (by kernel_rfl) rfl #[.string a1] rfl mq ?_; (with_reducible refine (decimal_cut.calls k a1 t361 _ A9.out).mono ?_); rintro e w13 ⟨v362, rfl, ho0, hb⟩; refine ⟨_, rfl, ?_⟩; have n0_ := Aside0.mk (Kd.R_elder' (by (with_reducible repeat (first | apply Kd.R_alloc | apply Kd.R_drewN | apply Kd.R_drew)); exact HO360.out) (Kd.R_base ho0) hb); have n1_ := Aside0.mk (Kd.R_lower (Kd.R_new' ho0 (Kd.R_lt (by (with_reducible repeat (first | apply Kd.R_alloc | apply Kd.R_drewN | apply Kd.R_drew)); exact HO360.out))) (below_size bq)); have n2_ := Aside0.mk (below_step bq hb); clear HO360; clear HB; have HO360 := n0_; have HO363 := n1_; have HB := n2_; clear n0_ n1_ n2_; (try clear hb); (try clear hb2); (try clear hk); (try clear hi); (try clear ho0); obtain ⟨Ao14, co14, eo14⟩ := Kd.R_slice HO360.out; subst eo14; obtain ⟨Ao15, co15, eo15⟩ := Kd.R_slice HO363.out; subst eo15) | ((with_reducible refine gate_callee (f := 61) rfl ?_); refine goesL_ (some 29) rfl rfl Tryz.func61 (by kernel_rfl) rfl #[.slice Ao14 t358.length co14, .slice Ao15 t361.length co15] rfl mq ?_; (with_reducible refine (decimal_pieces_times.calls k _ _ t358 _ _ t361 t364 _ ?side1 ?side2 ?side3 ?side4 A10.out).mono ?_); (case side1 => repeat (first | exact (Kd.R_reads' HO360.out).2.2 | (with_reducible refine Kd.C_alloc ?_ _) | (with_reducible refine Kd.C_drewN ?_ _) | (with_reducible refine Kd.C_drew ?_))); (case side2 => exact (Kd.R_reads' HO360.out).2.1); (case side3 => repeat (first | exact (Kd.R_reads' HO363.out).2.2 | (with_reducible refine Kd.C_alloc ?_ _) | (with_reducible refine Kd.C_drewN ?_ _) | (with_reducible refine Kd.C_drew ?_))); (case side4 => exact (Kd.R_reads' HO363.out).2.1); rintro e w16 ⟨v365, rfl, ho0, hb⟩; refine ⟨_, rfl, ?_⟩; have n0_ := Aside0.mk (Kd.R_elder' (by (with_reducible repeat (first | apply Kd.R_alloc | apply Kd.R_drewN | apply Kd.R_drew)); exact HO360.out) (Kd.R_base ho0) hb); have n1_ := Aside0.mk (Kd.R_elder' (by (with_reducible repeat (first | apply Kd.R_alloc | apply Kd.R_drewN | apply Kd.R_drew)); exact HO363.out) (Kd.R_base ho0) hb); have n2_ := Aside0.mk (Kd.R_lower (Kd.R_new' (Kd.R_new' ho0 (Kd.R_lt (by (with_reducible repeat (first | apply Kd.R_alloc | apply Kd.R_drewN | apply Kd.R_drew)); exact HO360.out))) (Kd.R_lt (by (with_reducible repeat (first | apply Kd.R_alloc | apply Kd.R_drewN | apply Kd.R_drew)); exact HO363.out))) (below_size bq)); have n3_ := Aside0.mk (below_step bq hb); clear HO360; clear HO363; clear HB; have HO360 := n0_; have HO363 := n1_; have HO366 := n2_; have HB := n3_; clear n0_ n1_ n2_ n3_; (try clear hb); (try clear hb2); (try clear hk); (try clear hi); (try clear ho0); obtain ⟨Ao17, co17, eo17⟩ := Kd.R_slice HO366.out; subst eo17) | ((with_reducible refine gate_callee (f := 62) rfl ?_); refine goesL_ (some 30) rfl rfl Tryz.func62 (by kernel_rfl) rfl #[.slice Ao17 t364.length co17] rfl mq ?_; (with_reducible refine (decimal_pieces_text.calls k _ _ t364 t367 _ ?side1 ?side2 A11.out).mono ?_); (case side1 => repeat (first | exact (Kd.R_reads' HO366.out).2.2 | (with_reducible refine Kd.C_alloc ?_ _) | (with_reducible refine Kd.C_drewN ?_ _) | (with_reducible refine Kd.C_drew ?_))); (case side2 => exact (Kd.R_reads' HO366.out).2.1); rintro e w18 ⟨rfl, hb⟩; refine ⟨_, rfl, ?_⟩; have n0_ := Aside0.mk (Kd.R_below (by (with_reducible repeat (first | apply Kd.R_alloc | apply Kd.R_drewN | apply Kd.R_drew)); exact HO360.out) hb); have n1_ := Aside0.mk (Kd.R_below (by (with_reducible repeat (first | apply Kd.R_alloc | apply Kd.R_drewN | apply Kd.R_drew)); exact HO363.out) hb); have n2_ := Aside0.mk (Kd.R_below (by (with_reducible repeat (first | apply Kd.R_alloc | apply Kd.R_drewN | apply Kd.R_drew)); exact HO366.out) hb); have n3_ := Aside0.mk (below_step bq hb); clear HO360; clear HO363; clear HO366; clear HB; have HO360 := n0_; have HO363 := n1_; have HO366 := n2_; have HB := n3_; clear n0_ n1_ n2_ n3_; (try clear hb); (try clear hb2); (try clear hk); (try clear hi)))
    go_ret
    exact ⟨eq_, bq⟩
def whole_Mul.j0 : Nat → ByteArray → ByteArray → Option (ByteArray)
  | 0, _, _ => none
  | k + 1, x0, x1 => (whole_split.f x0).bind fun bt373 => ((whole_split.f x1).bind fun bt375 => ((decimal_Mul.f k bt373.2 bt375.2).bind fun t377 => ((whole_join.f (bt373.1 != bt375.1) t377).bind fun t378 => (some t378))))
def whole_Mul.f (k : Nat) (a0 : ByteArray) (a1 : ByteArray) : Option (ByteArray) := (whole_little.f a0 9).bind fun bt368 => (if bt368.2 = true then ((whole_little.f a1 9).bind fun bt370 => (if bt370.2 = true then ((whole_Of.f (wrap64 (bt368.1 * bt370.1))).bind fun t372 => (some t372)) else (whole_Mul.j0 k a0 a1))) else (whole_Mul.j0 k a0 a1))
theorem whole_Mul.mono_l : ∀ k, (∀ y0 y1, LeO (whole_Mul.j0 k y0 y1) (whole_Mul.j0 (k + 1) y0 y1))
  | 0 => fun _ _ r h => by simp [whole_Mul.j0] at h
  | k + 1 => by
    have ih0 := whole_Mul.mono_l k
    · intro y0 y1
      unfold whole_Mul.j0
      repeat' first
      | (with_reducible exact ih0 _ _)
      | (with_reducible exact decimal_Mul.mono _ _ _)
      | (with_reducible exact LeO.refl _)
      | (with_reducible exact LeO.none _)
      | (with_reducible refine LeO.ite ?_ ?_)
      | (with_reducible refine LeO.bind ?_ (fun _ => ?_))
      | exact ih0 _ _
      | exact decimal_Mul.mono _ _ _
      | exact LeO.none _
      | refine LeO.ite ?_ ?_
      | refine LeO.bind ?_ (fun _ => ?_)
theorem whole_Mul.mono : ∀ a0 a1 k, LeO (whole_Mul.f k a0 a1) (whole_Mul.f (k + 1) a0 a1) := by
  intro a0 a1 k
  have ih0 := whole_Mul.mono_l k
  unfold whole_Mul.f
  repeat' first
      | (with_reducible exact ih0 _ _)
      | (with_reducible exact decimal_Mul.mono _ _ _)
      | (with_reducible exact LeO.refl _)
      | (with_reducible exact LeO.none _)
      | (with_reducible refine LeO.ite ?_ ?_)
      | (with_reducible refine LeO.bind ?_ (fun _ => ?_))
      | exact ih0 _ _
      | exact decimal_Mul.mono _ _ _
      | exact LeO.none _
      | refine LeO.ite ?_ ?_
      | refine LeO.bind ?_ (fun _ => ?_)
set_option maxHeartbeats 8000000 in
set_option maxRecDepth 100000 in
theorem whole_Mul.calls (k : Nat) (a0 : ByteArray) (a1 : ByteArray) (r : ByteArray) (w : World) (hT : Tab w) (h : whole_Mul.f k a0 a1 = some r) :
    Calls Tryz.prog 52 #[.string a0, .string a1] w fun e w' => e = .returned (.string r) ∧ Below w.heap.size w w' := by
  have HT := Aside0.mk hT
  clear hT
  have HB := Aside0.mk (Below.refl w.heap.size w)
  have H : ((whole_little.f a0 9).bind fun bt368 => (if bt368.2 = true then ((whole_little.f a1 9).bind fun bt370 => (if bt370.2 = true then ((whole_Of.f (wrap64 (bt368.1 * bt370.1))).bind fun t372 => (some t372)) else (whole_Mul.j0 k a0 a1))) else (whole_Mul.j0 k a0 a1))) = some r := h
  clear h
  replace H := Option.bind_eq_some_iff.mp H
  obtain ⟨⟨t368, t369⟩, A30, H⟩ := H
  replace H : (if t369 = true then ((whole_little.f a1 9).bind fun bt370 => (if bt370.2 = true then ((whole_Of.f (wrap64 (t368 * bt370.1))).bind fun t372 => (some t372)) else (whole_Mul.j0 k a0 a1))) else (whole_Mul.j0 k a0 a1)) = some r := H
  have A3 := Aside0.mk A30
  clear A30
  have HC4 := Aside0.mk H
  clear H
  go_enter Tryz.func52, Tryz.ntmps52
  go_upto_if 18 with (first | ((with_reducible refine gate_callee (f := 40) rfl ?_); refine goesL_ (some 15) rfl rfl Tryz.func40 (by kernel_rfl) rfl #[.string a0, .int .i64 9] rfl mq ?_; (with_reducible refine (whole_little.calls a0 9 t368 t369 _ A3.out).mono ?_); rintro e w5 ⟨rfl, hb⟩; refine ⟨_, rfl, ?_⟩; replace HB := Aside0.mk (below_step bq hb); (try clear hb); (try clear hb2); (try clear hk); (try clear hi)))
  (try simp only [Act.put, List.setIfInBounds_toArray, List.set_cons_zero, List.set_cons_succ])
  go_cut [] (fun wc => ∃ (kq : Nat), Aside0 (whole_Mul.j0 kq a0 a1 = some r) ∧ Aside0 (kq ≤ k) ∧ Aside0 (Below w.heap.size w wc))
  case first =>
    have H := HC4.out
    clear HC4
    by_cases c6 : t369 = true
    · subst c6
      have H1 : ((whole_little.f a1 9).bind fun bt370 => (if bt370.2 = true then ((whole_Of.f (wrap64 (t368 * bt370.1))).bind fun t372 => (some t372)) else (whole_Mul.j0 k a0 a1))) = some r := by rw [if_pos rfl] at H; exact H
      clear H
      have H := H1
      clear H1
      replace H := Option.bind_eq_some_iff.mp H
      obtain ⟨⟨t370, t371⟩, A70, H⟩ := H
      replace H : (if t371 = true then ((whole_Of.f (wrap64 (t368 * t370))).bind fun t372 => (some t372)) else (whole_Mul.j0 k a0 a1)) = some r := H
      have A7 := Aside0.mk A70
      clear A70
      by_cases c8 : t371 = true
      · subst c8
        have H1 : ((whole_Of.f (wrap64 (t368 * t370))).bind fun t372 => (some t372)) = some r := by rw [if_pos rfl] at H; exact H
        clear H
        have H := H1
        clear H1
        replace H := Option.bind_eq_some_iff.mp H
        obtain ⟨t372, A90, H⟩ := H
        replace H : (some t372) = some r := H
        have A9 := Aside0.mk A90
        clear A90
        obtain rfl := Option.some.inj H
        go_wp2_with (first | ((with_reducible refine gate_callee (f := 40) rfl ?_); refine goesL_ (some 21) rfl rfl Tryz.func40 (by kernel_rfl) rfl #[.string a1, .int .i64 9] rfl mq ?_; (with_reducible refine (whole_little.calls a1 9 t370 true _ A7.out).mono ?_); rintro e w10 ⟨rfl, hb⟩; refine ⟨_, rfl, ?_⟩; replace HB := Aside0.mk (below_step bq hb); (try clear hb); (try clear hb2); (try clear hk); (try clear hi)) | ((with_reducible refine gate_callee (f := 41) rfl ?_); refine goesL_ (some 28) rfl rfl Tryz.func41 (by kernel_rfl) rfl #[.int .i64 (wrap64 (t368 * t370))] rfl mq ?_; (with_reducible refine (whole_Of.calls (hT := HT.out.below bq) (wrap64 (t368 * t370)) t372 _ A9.out).mono ?_); rintro e w11 ⟨rfl, hb⟩; refine ⟨_, rfl, ?_⟩; replace HB := Aside0.mk (below_step bq hb); (try clear hb); (try clear hb2); (try clear hk); (try clear hi)))
        go_ret
        exact ⟨eq_, bq⟩
      · replace c8 := Bool.eq_false_iff.mpr c8
        subst c8
        have H1 : (whole_Mul.j0 k a0 a1) = some r := by rw [if_neg (show ¬ (false = true) by decide)] at H; exact H
        clear H
        have H := H1
        clear H1
        have H' := Aside0.mk H
        clear H
        go_wp2_with (first | ((with_reducible refine gate_callee (f := 40) rfl ?_); refine goesL_ (some 21) rfl rfl Tryz.func40 (by kernel_rfl) rfl #[.string a1, .int .i64 9] rfl mq ?_; (with_reducible refine (whole_little.calls a1 9 t370 false _ A7.out).mono ?_); rintro e w12 ⟨rfl, hb⟩; refine ⟨_, rfl, ?_⟩; replace HB := Aside0.mk (below_step bq hb); (try clear hb); (try clear hb2); (try clear hk); (try clear hi)))
        go_meet
        case rel => exact ⟨_, H', ⟨by first | omega | exact Nat.le_refl _⟩, ⟨bq⟩⟩
    · replace c6 := Bool.eq_false_iff.mpr c6
      subst c6
      have H1 : (whole_Mul.j0 k a0 a1) = some r := by rw [if_neg (show ¬ (false = true) by decide)] at H; exact H
      clear H
      have H := H1
      clear H1
      have H' := Aside0.mk H
      clear H
      go_wp2
      go_meet
      case rel => exact ⟨_, H', ⟨by first | omega | exact Nat.le_refl _⟩, ⟨bq⟩⟩
  case rest =>
    clear HC4
    try clear p2
    try clear c4
    try clear c5
    try clear c6
    try clear p6
    try clear c8
    obtain ⟨kq, HA, HJ3, HB⟩ := hcut
    cases kq with
    | zero => exact absurd HA.out (by simp [whole_Mul.j0])
    | succ kj3 =>
      have H := HA.out
      clear HA
      simp only [whole_Mul.j0] at H
      replace H := Option.bind_eq_some_iff.mp H
      obtain ⟨⟨t373, t374⟩, A130, H⟩ := H
      replace H : ((whole_split.f a1).bind fun bt375 => ((decimal_Mul.f kj3 t374 bt375.2).bind fun t377 => ((whole_join.f (t373 != bt375.1) t377).bind fun t378 => (some t378)))) = some r := H
      have A13 := Aside0.mk A130
      clear A130
      replace H := Option.bind_eq_some_iff.mp H
      obtain ⟨⟨t375, t376⟩, A140, H⟩ := H
      replace H : ((decimal_Mul.f kj3 t374 t376).bind fun t377 => ((whole_join.f (t373 != t375) t377).bind fun t378 => (some t378))) = some r := H
      have A14 := Aside0.mk A140
      clear A140
      replace H := Option.bind_eq_some_iff.mp H
      obtain ⟨t377, A150, H⟩ := H
      replace H : ((whole_join.f (t373 != t375) t377).bind fun t378 => (some t378)) = some r := H
      have A15 := Aside0.mk A150
      clear A150
      replace H := Option.bind_eq_some_iff.mp H
      obtain ⟨t378, A160, H⟩ := H
      replace H : (some t378) = some r := H
      have A16 := Aside0.mk A160
      clear A160
      obtain rfl := Option.some.inj H
      have A16n := A16
      try rw [neq_bools] at A16n
      go_wp2_with (first | ((with_reducible refine gate_callee (f := 28) rfl ?_); refine goesL_ (some 31) rfl rfl Tryz.func28 (by kernel_rfl) rfl #[.string a0] rfl mq ?_; (with_reducible refine (whole_split.calls a0 t373 t374 _ A13.out).mono ?_); rintro e w' ⟨rfl, ⟨nd, rfl⟩⟩; refine ⟨_, rfl, ?_⟩) | ((with_reducible refine gate_callee (f := 28) rfl ?_); refine goesL_ (some 36) rfl rfl Tryz.func28 (by kernel_rfl) rfl #[.string a1] rfl mq ?_; (with_reducible refine (whole_split.calls a1 t375 t376 _ A14.out).mono ?_); rintro e w' ⟨rfl, ⟨nd, rfl⟩⟩; refine ⟨_, rfl, ?_⟩) | ((with_reducible refine gate_callee (f := 76) rfl ?_); refine goesL_ (some 44) rfl rfl Tryz.func76 (by kernel_rfl) rfl #[.string t374, .string t376] rfl mq ?_; (with_reducible refine (decimal_Mul.calls (hT := HT.out.below bq) kj3 t374 t376 t377 _ A15.out).mono ?_); rintro e w17 ⟨rfl, hb⟩; refine ⟨_, rfl, ?_⟩; replace HB := Aside0.mk (below_step bq hb); (try clear hb); (try clear hb2); (try clear hk); (try clear hi)) | ((with_reducible refine gate_callee (f := 30) rfl ?_); refine goesL_ (some 45) rfl rfl Tryz.func30 (by kernel_rfl) rfl #[.bool (t373 != t375), .string t377] rfl mq ?_; (first | with_reducible refine (whole_join.calls (t373 != t375) t377 t378 _ A16.out).mono ?_ | with_reducible refine (whole_join.calls (!(t373 == t375)) t377 t378 _ A16n.out).mono ?_); rintro e w' ⟨rfl, ⟨nd, rfl⟩⟩; refine ⟨_, rfl, ?_⟩))
      go_ret
      exact ⟨eq_, bq⟩
end Go.Proofs.YtgicckcahhlbjaaGreatDoor.P
